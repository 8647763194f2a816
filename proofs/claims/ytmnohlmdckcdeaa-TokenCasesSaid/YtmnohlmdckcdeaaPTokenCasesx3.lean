-- Laid by a program of ours (the kit's print with words and contracts of our own beside it).
import Derived.Test.YtmnohlmdckcdeaaPTokenCasesx0
import Derived.Test.YtmnohlmdckcdeaaPTokenCasesx1
import Derived.Test.YtmnohlmdckcdeaaPTokenCasesx2
namespace Go.Proofs.Ytmnohlmdckcdeaa.PTokenCases
open Go.RowKit Go.Proofs.Ytmnohlmdckcdeaa.X Go.Proofs.YtmnohlmdckcdeaaW.PrintWords Go.Proofs.YtmnohlmdckcdeaaW.PrintLast Go.Proofs.YtmnohlmdckcdeaaW.PrintMore
attribute [local go_sem] max2_int min2_int max_two min_two max_three min_three max_four min_four   -- for this text's walks alone
set_option linter.unusedVariables false
set_option linter.unusedSimpArgs false

/-! ### fold_As: function 22 -/
def fold_As.l0 : Nat → Int → List Int → Int → Int → Option (ByteArray)
 | 0, _, _, _, _ => none
 | k + 1, x0, x9, x11, x12 => if x12 < x11 then (if 0 ≤ x12 then (if x12 < (x9.length : Int) then (if x0 = 3 then ((fold_Up.f (rd x9 x12)).bind fun t182 => (fold_As.l0 k x0 (x9.set (x12 : Int).toNat t182) x11 (wrap64 (x12 + 1)))) else (if x0 = 2 then (if x12 = 0 then ((fold_Up.f (rd x9 x12)).bind fun t186 => (fold_As.l0 k x0 (x9.set (x12 : Int).toNat t186) x11 (wrap64 (x12 + 1)))) else ((fold_Down.f (rd x9 x12)).bind fun t188 => (fold_As.l0 k x0 (x9.set (x12 : Int).toNat t188) x11 (wrap64 (x12 + 1))))) else (if x0 = 1 then ((fold_Down.f (rd x9 x12)).bind fun t184 => (fold_As.l0 k x0 (x9.set (x12 : Int).toNat t184) x11 (wrap64 (x12 + 1)))) else (fold_As.l0 k x0 x9 x11 (wrap64 (x12 + 1)))))) else (none)) else (none)) else ((utf_Text.f k x9).bind fun t180 => (some t180))
def fold_As.f (k : Nat) (a0 : Int) (a1 : ByteArray) : Option (ByteArray) := (utf_Runes.f k a1).bind fun t177 => (fold_As.l0 k a0 t177 (t177.length : Int) 0)
theorem fold_As.mono_l : ∀ k, (∀ y0 y1 y2 y3, LeO (fold_As.l0 k y0 y1 y2 y3) (fold_As.l0 (k + 1) y0 y1 y2 y3))
 | 0 => fun _ _ _ _ r h => by simp [fold_As.l0] at h
 | k + 1 => by
  have ih0 := fold_As.mono_l k
  ·intro y0 y1 y2 y3
   unfold fold_As.l0
   repeat' first
   | (with_reducible exact ih0 _ _ _ _)
   | (with_reducible exact utf_Runes.mono _ _)
   | (with_reducible exact utf_Text.mono _ _)
   | (with_reducible exact LeO.refl _)
   | (with_reducible exact LeO.none _)
   | (with_reducible refine LeO.ite ?_ ?_)
   | (with_reducible refine LeO.bind ?_ (fun _ => ?_))
   | exact ih0 _ _ _ _
   | exact utf_Runes.mono _ _
   | exact utf_Text.mono _ _
   | exact LeO.none _
   | refine LeO.ite ?_ ?_
   | refine LeO.bind ?_ (fun _ => ?_)
theorem fold_As.mono : ∀ a0 a1 k, LeO (fold_As.f k a0 a1) (fold_As.f (k + 1) a0 a1) := by
 intro a0 a1 k
 have ih0 := fold_As.mono_l k
 unfold fold_As.f
 repeat' first
   | (with_reducible exact ih0 _ _ _ _)
   | (with_reducible exact utf_Runes.mono _ _)
   | (with_reducible exact utf_Text.mono _ _)
   | (with_reducible exact LeO.refl _)
   | (with_reducible exact LeO.none _)
   | (with_reducible refine LeO.ite ?_ ?_)
   | (with_reducible refine LeO.bind ?_ (fun _ => ?_))
   | exact ih0 _ _ _ _
   | exact utf_Runes.mono _ _
   | exact utf_Text.mono _ _
   | exact LeO.none _
   | refine LeO.ite ?_ ?_
   | refine LeO.bind ?_ (fun _ => ?_)
set_option maxHeartbeats 8000000 in
set_option maxRecDepth 100000 in
theorem fold_As.calls (k : Nat) (a0 : Int) (a1 : ByteArray) (r : ByteArray) (w : World) (h : fold_As.f k a0 a1 = some r) :
  Calls Try.prog 22 #[.int .u8 a0, .string a1] w fun e w' => e = .returned (.string r) ∧ Below w.heap.size w w' := by
 have HB := Aside0.mk (Below.refl w.heap.size w)
 have H : ((utf_Runes.f k a1).bind fun t177 => (fold_As.l0 k a0 t177 (t177.length : Int) 0)) = some r := h
 clear h
 replace H := Option.bind_eq_some_iff.mp H
 obtain ⟨t177, A30, H⟩ := H
 replace H : (fold_As.l0 k a0 t177 (t177.length : Int) 0) = some r := H
 have A3 := Aside0.mk A30
 clear A30
 have H' := Aside0.mk H
 clear H
 go_enter Try.func22, Try.ntmps22
 go_wp2_with (first | ((with_reducible refine gate_callee (f := 33) rfl ?_); refine goesL_ (some 9) rfl rfl Try.func33 (by kernel_rfl) rfl #[.string a1] rfl (by (try simp only [List.map_toArray, List.map_cons, List.map_nil]); first | done | rfl | (simp only [List.length_drop, List.length_take]; rfl)) ?_; (with_reducible refine (utf_Runes.calls k a1 t177 _ A3.out).mono ?_); rintro e w4 ⟨v178, rfl, ho0, hb⟩; refine ⟨_, rfl, ?_⟩; have n0_ := Aside0.mk (Kd.R_lower ho0 (below_size (by repeat (first | (with_reducible first | exact HB.out | apply below_alloc | apply pw_below_drewN | apply below_drew1) | exact HB.out)))); have n1_ := Aside0.mk (below_step (by repeat (first | (with_reducible first | exact HB.out | apply below_alloc | apply pw_below_drewN | apply below_drew1) | exact HB.out)) hb); clear HB; have HO179 := n0_; have HB := n1_; clear n0_ n1_; (try clear hb); (try clear hb2); (try clear hk); (try clear hi); (try clear ho0); obtain ⟨Ao5, co5, eo5⟩ := Kd.R_slice HO179.out; subst eo5))
 go_loopg [12] k (fun kq v12 w' => ∃ (x9_1 : List Int) (x12_1 : Int), v12 = .int .i64 x12_1 ∧ Aside0 (fold_As.l0 kq a0 x9_1 (t177.length : Int) x12_1 = some r) ∧ Aside0 (kq ≤ k) ∧ Aside0 (Kd.R (Kd.int .i32) 21 w' w.heap.size (fun _ => True) (.slice Ao5 t177.length co5) x9_1) ∧ Aside0 (Below w.heap.size w w'))
 case atStart => exact ⟨(t177), (0), (by first | rfl | (simp; done) | (simp [*]; done)), H', ⟨Nat.le_refl _⟩, ⟨by (with_reducible repeat (first | apply Kd.R_alloc | apply Kd.R_drewN | apply Kd.R_drew)); exact HO179.out⟩, ⟨by repeat (first | (with_reducible first | exact HB.out | apply below_alloc | apply pw_below_drewN | apply below_drew1) | exact HB.out)⟩⟩
 case round =>
  clear H'
  try clear c2
  try clear p2
  try clear c3
  obtain ⟨x9_1, x12_1, rfl, HA, HK1, HO_9, HB⟩ := hrel
  have hl9_1 : t177.length = x9_1.length := (Kd.R_reads' HO_9.out).1
  rw [hl9_1] at HO_9
  (try simp only [hl9_1])
  cases gk with
  | zero => exact absurd HA.out (by simp [fold_As.l0])
  | succ k1 =>
   have H := HA.out
   clear HA
   simp only [fold_As.l0] at H
   by_cases c6 : x12_1 < (t177.length : Int)
   ·rw [if_pos c6] at H
    have c6b0 : decide (x12_1 < (t177.length : Int)) = true := decide_eq_true c6
    (try simp only [hl9_1] at c6b0)
    clear c6
    by_cases c7 : 0 ≤ x12_1
    ·rw [if_pos c7] at H
     have c7b0 : decide (0 ≤ x12_1) = true := decide_eq_true c7
     clear c7
     by_cases c8 : x12_1 < (x9_1.length : Int)
     ·rw [if_pos c8] at H
      have c8b0 : decide (x12_1 < (x9_1.length : Int)) = true := decide_eq_true c8
      clear c8
      by_cases c9 : a0 = 3
      ·rw [if_pos c9] at H
       have c9b0 : (a0 == 3) = true := beq_iff_eq.mpr c9
       have c9b1 : (a0 != 3) = false := bne_eq_false_iff_eq.mpr c9
       clear c9
       replace H := Option.bind_eq_some_iff.mp H
       obtain ⟨t182, A100, H⟩ := H
       replace H : (fold_As.l0 k1 a0 (x9_1.set (x12_1 : Int).toNat t182) (t177.length : Int) (wrap64 (x12_1 + 1))) = some r := H
       have A10 := Aside0.mk A100
       clear A100
       obtain ⟨y183, hy183⟩ : ∃ y_ : List Int, y_ = (x9_1.set (x12_1 : Int).toNat t182) := ⟨_, rfl⟩
       replace H : (fold_As.l0 k1 a0 y183 (t177.length : Int) (wrap64 (x12_1 + 1))) = some r := by first | (rw [hy183]; with_reducible exact H) | (have H2_ := (Option.bind_some _ _).symm.trans H; rw [hy183]; with_reducible exact H2_) | (have H2_ := (Option.bind_some _ _).symm.trans H; with_reducible exact H2_) | with_reducible exact H | (rw [hy183]; exact H) | exact H
       have Ny183 := Aside0.mk hy183
       clear hy183
       have H' := Aside0.mk H
       clear H
       have p181 : 0 ≤ (x12_1 : Int) := of_decide_eq_true (by first | (with_reducible assumption) | assumption)
       have q181 : x12_1 < (x9_1.length : Int) := of_decide_eq_true (by first | (with_reducible assumption) | assumption)
       obtain ⟨ad181, e181, hx181_0⟩ := Kd.at_int (Kd.R_reads' HO_9.out).2.2 x12_1 p181 q181
       cases e181
       replace p181 := eq_true p181
       replace q181 := eq_true q181
       go_wp2_with (first | ((with_reducible refine gate_callee (f := 17) rfl ?_); refine goesL_ (some 27) rfl rfl Try.func17 (by kernel_rfl) rfl #[.int .i32 (rd x9_1 x12_1)] rfl (by (try simp only [List.map_toArray, List.map_cons, List.map_nil]); first | done | rfl | (simp only [List.length_drop, List.length_take]; rfl)) ?_; (with_reducible refine (fold_Up.calls (rd x9_1 x12_1) t182 _ A10.out).mono ?_); rintro e w' ⟨rfl, ⟨nd, rfl⟩⟩; refine ⟨_, rfl, ?_⟩; (try (rw [drewN_self wr]; generalize hq_ : World.drewN wr _ = wr; have n0_ : Aside0 (Kd.R (Kd.int .i32) 21 wr w.heap.size (fun _ => True) (.slice (some ad181) x9_1.length co5) x9_1) := ⟨by rw [← hq_]; exact (by (with_reducible repeat (first | apply Kd.R_alloc | apply Kd.R_drewN | apply Kd.R_drew)); exact HO_9.out)⟩; have n1_ : Aside0 (Below w.heap.size w wr) := ⟨by rw [← hq_]; exact (by repeat (first | (with_reducible first | exact HB.out | apply below_alloc | apply pw_below_drewN | apply below_drew1) | exact HB.out))⟩; clear HO_9 HB hq_; have HO_9 := n0_; have HB := n1_; clear n0_ n1_)); have p11 : 0 ≤ (x12_1 : Int) := of_decide_eq_true (by first | (with_reducible assumption) | assumption); have q11 : (x12_1 : Int) < ((x9_1.length : Int) : Int) := of_decide_eq_true (by first | (with_reducible assumption) | assumption); obtain ⟨go11, co11, eo11, gb11, gl11, cl11, HG11⟩ := Kd.R_form HO_9.out (by omega); (first | cases eo11 | (injection eo11 with ea_ en_ ec_; (first | subst ea_ | (injection ea_ with ea_; subst ea_)); subst ec_; clear en_)); have GB11 := Aside0.mk gb11; have GG11 := Aside0.mk HG11; clear gb11 gl11 HG11; (first | simp only [add_plain] at hx181_0 | skip); obtain ⟨hx11_0, hf11_0⟩ := Kd.R_celln 0 HO_9.out (x12_1 : Int) p11 q11; replace p11 := eq_true p11; replace q11 := eq_true q11; obtain ⟨hy12_, hz12_⟩ := Kd.R_celln 0 HO_9.out (x12_1 : Int) (of_decide_eq_true (by first | (with_reducible assumption) | assumption)) (of_decide_eq_true (by first | (with_reducible assumption) | assumption)); have HP12 := Kd.R_putg HO_9.out (x12_1 : Int) t182) | ((with_reducible refine gate_store (t := 21) (p := 28) rfl ?_); refine store_event (t := 21) (p := 28) (v := ?vo_w13) (w1 := (wr.setCell ⟨go11, (x12_1 : Int).toNat, none⟩ (.int .i32 t182))) ?hg ?ho ?hn ?hr ?_; (case ho => rfl); (case hg => rfl); (case hn => rfl); (case hr => first | (go_simp; done) | (go_simp; rfl)); intro w13 hw; have hg : wr.grownBy w13 (some go11) := (by rw [hw]; exact HP12.2); have hp_ : Kd.R (Kd.int .i32) 21 w13 w.heap.size (fun _ => True) (.slice (some ⟨go11, 0, none⟩) x9_1.length co5) y183 := (by rw [hw, Ny183.out]; exact HP12.1); clear HP12; have n0_ := Aside0.mk (hp_); have n1_ := Aside0.mk ((by rw [hw]; exact below_set (HB.out) GB11.out : Below w.heap.size w w13)); clear HO_9; clear HB; have HO_9 := n0_; have HB := n1_; clear n0_ n1_; clear hg hw hp_))
       (try simp only [← hl9_1])
       go_roundg k1
       case measure => have := HK1.out; omega
       case rel => exact ⟨(y183), (wrap64 (x12_1 + 1)), (by first | rfl | (simp; done) | (simp [*]; done)), H', ⟨by have := HK1.out; omega⟩, ⟨by (try simp only [hl9_1]); (with_reducible repeat (first | apply Kd.R_alloc | apply Kd.R_drewN | apply Kd.R_drew)); exact HO_9.out⟩, ⟨by repeat (first | (with_reducible first | exact HB.out | apply below_alloc | apply pw_below_drewN | apply below_drew1) | exact HB.out)⟩⟩
      ·rw [if_neg c9] at H
       have c9b0 : (a0 == 3) = false := beq_eq_false_iff_ne.mpr c9
       have c9b1 : (a0 != 3) = true := bne_iff_ne.mpr c9
       by_cases c14 : a0 = 2
       ·rw [if_pos c14] at H
        have c14b0 : (a0 == 2) = true := beq_iff_eq.mpr c14
        have c14b1 : (a0 != 2) = false := bne_eq_false_iff_eq.mpr c14
        clear c14
        by_cases c15 : x12_1 = 0
        ·rw [if_pos c15] at H
         have c15b0 : (x12_1 == 0) = true := beq_iff_eq.mpr c15
         have c15b1 : (x12_1 != 0) = false := bne_eq_false_iff_eq.mpr c15
         clear c15
         replace H := Option.bind_eq_some_iff.mp H
         obtain ⟨t186, A160, H⟩ := H
         replace H : (fold_As.l0 k1 a0 (x9_1.set (x12_1 : Int).toNat t186) (t177.length : Int) (wrap64 (x12_1 + 1))) = some r := H
         have A16 := Aside0.mk A160
         clear A160
         obtain ⟨y187, hy187⟩ : ∃ y_ : List Int, y_ = (x9_1.set (x12_1 : Int).toNat t186) := ⟨_, rfl⟩
         replace H : (fold_As.l0 k1 a0 y187 (t177.length : Int) (wrap64 (x12_1 + 1))) = some r := by first | (rw [hy187]; with_reducible exact H) | (have H2_ := (Option.bind_some _ _).symm.trans H; rw [hy187]; with_reducible exact H2_) | (have H2_ := (Option.bind_some _ _).symm.trans H; with_reducible exact H2_) | with_reducible exact H | (rw [hy187]; exact H) | exact H
         have Ny187 := Aside0.mk hy187
         clear hy187
         have H' := Aside0.mk H
         clear H
         have p181 : 0 ≤ (x12_1 : Int) := of_decide_eq_true (by first | (with_reducible assumption) | assumption)
         have q181 : x12_1 < (x9_1.length : Int) := of_decide_eq_true (by first | (with_reducible assumption) | assumption)
         obtain ⟨ad181, e181, hx181_0⟩ := Kd.at_int (Kd.R_reads' HO_9.out).2.2 x12_1 p181 q181
         cases e181
         replace p181 := eq_true p181
         replace q181 := eq_true q181
         go_wp2_with (first | ((with_reducible refine gate_callee (f := 17) rfl ?_); refine goesL_ (some 34) rfl rfl Try.func17 (by kernel_rfl) rfl #[.int .i32 (rd x9_1 x12_1)] rfl (by (try simp only [List.map_toArray, List.map_cons, List.map_nil]); first | done | rfl | (simp only [List.length_drop, List.length_take]; rfl)) ?_; (with_reducible refine (fold_Up.calls (rd x9_1 x12_1) t186 _ A16.out).mono ?_); rintro e w' ⟨rfl, ⟨nd, rfl⟩⟩; refine ⟨_, rfl, ?_⟩; (try (rw [drewN_self wr]; generalize hq_ : World.drewN wr _ = wr; have n0_ : Aside0 (Kd.R (Kd.int .i32) 21 wr w.heap.size (fun _ => True) (.slice (some ad181) x9_1.length co5) x9_1) := ⟨by rw [← hq_]; exact (by (with_reducible repeat (first | apply Kd.R_alloc | apply Kd.R_drewN | apply Kd.R_drew)); exact HO_9.out)⟩; have n1_ : Aside0 (Below w.heap.size w wr) := ⟨by rw [← hq_]; exact (by repeat (first | (with_reducible first | exact HB.out | apply below_alloc | apply pw_below_drewN | apply below_drew1) | exact HB.out))⟩; clear HO_9 HB hq_; have HO_9 := n0_; have HB := n1_; clear n0_ n1_)); have p17 : 0 ≤ (x12_1 : Int) := of_decide_eq_true (by first | (with_reducible assumption) | assumption); have q17 : (x12_1 : Int) < ((x9_1.length : Int) : Int) := of_decide_eq_true (by first | (with_reducible assumption) | assumption); obtain ⟨go17, co17, eo17, gb17, gl17, cl17, HG17⟩ := Kd.R_form HO_9.out (by omega); (first | cases eo17 | (injection eo17 with ea_ en_ ec_; (first | subst ea_ | (injection ea_ with ea_; subst ea_)); subst ec_; clear en_)); have GB17 := Aside0.mk gb17; have GG17 := Aside0.mk HG17; clear gb17 gl17 HG17; (first | simp only [add_plain] at hx181_0 | skip); obtain ⟨hx17_0, hf17_0⟩ := Kd.R_celln 0 HO_9.out (x12_1 : Int) p17 q17; replace p17 := eq_true p17; replace q17 := eq_true q17; obtain ⟨hy18_, hz18_⟩ := Kd.R_celln 0 HO_9.out (x12_1 : Int) (of_decide_eq_true (by first | (with_reducible assumption) | assumption)) (of_decide_eq_true (by first | (with_reducible assumption) | assumption)); have HP18 := Kd.R_putg HO_9.out (x12_1 : Int) t186) | ((with_reducible refine gate_store (t := 21) (p := 35) rfl ?_); refine store_event (t := 21) (p := 35) (v := ?vo_w19) (w1 := (wr.setCell ⟨go17, (x12_1 : Int).toNat, none⟩ (.int .i32 t186))) ?hg ?ho ?hn ?hr ?_; (case ho => rfl); (case hg => rfl); (case hn => rfl); (case hr => first | (go_simp; done) | (go_simp; rfl)); intro w19 hw; have hg : wr.grownBy w19 (some go17) := (by rw [hw]; exact HP18.2); have hp_ : Kd.R (Kd.int .i32) 21 w19 w.heap.size (fun _ => True) (.slice (some ⟨go17, 0, none⟩) x9_1.length co5) y187 := (by rw [hw, Ny187.out]; exact HP18.1); clear HP18; have n0_ := Aside0.mk (hp_); have n1_ := Aside0.mk ((by rw [hw]; exact below_set (HB.out) GB17.out : Below w.heap.size w w19)); clear HO_9; clear HB; have HO_9 := n0_; have HB := n1_; clear n0_ n1_; clear hg hw hp_))
         (try simp only [← hl9_1])
         go_roundg k1
         case measure => have := HK1.out; omega
         case rel => exact ⟨(y187), (wrap64 (x12_1 + 1)), (by first | rfl | (simp; done) | (simp [*]; done)), H', ⟨by have := HK1.out; omega⟩, ⟨by (try simp only [hl9_1]); (with_reducible repeat (first | apply Kd.R_alloc | apply Kd.R_drewN | apply Kd.R_drew)); exact HO_9.out⟩, ⟨by repeat (first | (with_reducible first | exact HB.out | apply below_alloc | apply pw_below_drewN | apply below_drew1) | exact HB.out)⟩⟩
        ·rw [if_neg c15] at H
         have c15b0 : (x12_1 == 0) = false := beq_eq_false_iff_ne.mpr c15
         have c15b1 : (x12_1 != 0) = true := bne_iff_ne.mpr c15
         replace H := Option.bind_eq_some_iff.mp H
         obtain ⟨t188, A200, H⟩ := H
         replace H : (fold_As.l0 k1 a0 (x9_1.set (x12_1 : Int).toNat t188) (t177.length : Int) (wrap64 (x12_1 + 1))) = some r := H
         have A20 := Aside0.mk A200
         clear A200
         obtain ⟨y189, hy189⟩ : ∃ y_ : List Int, y_ = (x9_1.set (x12_1 : Int).toNat t188) := ⟨_, rfl⟩
         replace H : (fold_As.l0 k1 a0 y189 (t177.length : Int) (wrap64 (x12_1 + 1))) = some r := by first | (rw [hy189]; with_reducible exact H) | (have H2_ := (Option.bind_some _ _).symm.trans H; rw [hy189]; with_reducible exact H2_) | (have H2_ := (Option.bind_some _ _).symm.trans H; with_reducible exact H2_) | with_reducible exact H | (rw [hy189]; exact H) | exact H
         have Ny189 := Aside0.mk hy189
         clear hy189
         have H' := Aside0.mk H
         clear H
         have p181 : 0 ≤ (x12_1 : Int) := of_decide_eq_true (by first | (with_reducible assumption) | assumption)
         have q181 : x12_1 < (x9_1.length : Int) := of_decide_eq_true (by first | (with_reducible assumption) | assumption)
         obtain ⟨ad181, e181, hx181_0⟩ := Kd.at_int (Kd.R_reads' HO_9.out).2.2 x12_1 p181 q181
         cases e181
         replace p181 := eq_true p181
         replace q181 := eq_true q181
         go_wp2_with (first | ((with_reducible refine gate_callee (f := 18) rfl ?_); refine goesL_ (some 39) rfl rfl Try.func18 (by kernel_rfl) rfl #[.int .i32 (rd x9_1 x12_1)] rfl (by (try simp only [List.map_toArray, List.map_cons, List.map_nil]); first | done | rfl | (simp only [List.length_drop, List.length_take]; rfl)) ?_; (with_reducible refine (fold_Down.calls (rd x9_1 x12_1) t188 _ A20.out).mono ?_); rintro e w' ⟨rfl, ⟨nd, rfl⟩⟩; refine ⟨_, rfl, ?_⟩; (try (rw [drewN_self wr]; generalize hq_ : World.drewN wr _ = wr; have n0_ : Aside0 (Kd.R (Kd.int .i32) 21 wr w.heap.size (fun _ => True) (.slice (some ad181) x9_1.length co5) x9_1) := ⟨by rw [← hq_]; exact (by (with_reducible repeat (first | apply Kd.R_alloc | apply Kd.R_drewN | apply Kd.R_drew)); exact HO_9.out)⟩; have n1_ : Aside0 (Below w.heap.size w wr) := ⟨by rw [← hq_]; exact (by repeat (first | (with_reducible first | exact HB.out | apply below_alloc | apply pw_below_drewN | apply below_drew1) | exact HB.out))⟩; clear HO_9 HB hq_; have HO_9 := n0_; have HB := n1_; clear n0_ n1_)); have p21 : 0 ≤ (x12_1 : Int) := of_decide_eq_true (by first | (with_reducible assumption) | assumption); have q21 : (x12_1 : Int) < ((x9_1.length : Int) : Int) := of_decide_eq_true (by first | (with_reducible assumption) | assumption); obtain ⟨go21, co21, eo21, gb21, gl21, cl21, HG21⟩ := Kd.R_form HO_9.out (by omega); (first | cases eo21 | (injection eo21 with ea_ en_ ec_; (first | subst ea_ | (injection ea_ with ea_; subst ea_)); subst ec_; clear en_)); have GB21 := Aside0.mk gb21; have GG21 := Aside0.mk HG21; clear gb21 gl21 HG21; (first | simp only [add_plain] at hx181_0 | skip); obtain ⟨hx21_0, hf21_0⟩ := Kd.R_celln 0 HO_9.out (x12_1 : Int) p21 q21; replace p21 := eq_true p21; replace q21 := eq_true q21; obtain ⟨hy22_, hz22_⟩ := Kd.R_celln 0 HO_9.out (x12_1 : Int) (of_decide_eq_true (by first | (with_reducible assumption) | assumption)) (of_decide_eq_true (by first | (with_reducible assumption) | assumption)); have HP22 := Kd.R_putg HO_9.out (x12_1 : Int) t188) | ((with_reducible refine gate_store (t := 21) (p := 40) rfl ?_); refine store_event (t := 21) (p := 40) (v := ?vo_w23) (w1 := (wr.setCell ⟨go21, (x12_1 : Int).toNat, none⟩ (.int .i32 t188))) ?hg ?ho ?hn ?hr ?_; (case ho => rfl); (case hg => rfl); (case hn => rfl); (case hr => first | (go_simp; done) | (go_simp; rfl)); intro w23 hw; have hg : wr.grownBy w23 (some go21) := (by rw [hw]; exact HP22.2); have hp_ : Kd.R (Kd.int .i32) 21 w23 w.heap.size (fun _ => True) (.slice (some ⟨go21, 0, none⟩) x9_1.length co5) y189 := (by rw [hw, Ny189.out]; exact HP22.1); clear HP22; have n0_ := Aside0.mk (hp_); have n1_ := Aside0.mk ((by rw [hw]; exact below_set (HB.out) GB21.out : Below w.heap.size w w23)); clear HO_9; clear HB; have HO_9 := n0_; have HB := n1_; clear n0_ n1_; clear hg hw hp_))
         (try simp only [← hl9_1])
         go_roundg k1
         case measure => have := HK1.out; omega
         case rel => exact ⟨(y189), (wrap64 (x12_1 + 1)), (by first | rfl | (simp; done) | (simp [*]; done)), H', ⟨by have := HK1.out; omega⟩, ⟨by (try simp only [hl9_1]); (with_reducible repeat (first | apply Kd.R_alloc | apply Kd.R_drewN | apply Kd.R_drew)); exact HO_9.out⟩, ⟨by repeat (first | (with_reducible first | exact HB.out | apply below_alloc | apply pw_below_drewN | apply below_drew1) | exact HB.out)⟩⟩
       ·rw [if_neg c14] at H
        have c14b0 : (a0 == 2) = false := beq_eq_false_iff_ne.mpr c14
        have c14b1 : (a0 != 2) = true := bne_iff_ne.mpr c14
        by_cases c24 : a0 = 1
        ·rw [if_pos c24] at H
         have c24b0 : (a0 == 1) = true := beq_iff_eq.mpr c24
         have c24b1 : (a0 != 1) = false := bne_eq_false_iff_eq.mpr c24
         clear c24
         replace H := Option.bind_eq_some_iff.mp H
         obtain ⟨t184, A250, H⟩ := H
         replace H : (fold_As.l0 k1 a0 (x9_1.set (x12_1 : Int).toNat t184) (t177.length : Int) (wrap64 (x12_1 + 1))) = some r := H
         have A25 := Aside0.mk A250
         clear A250
         obtain ⟨y185, hy185⟩ : ∃ y_ : List Int, y_ = (x9_1.set (x12_1 : Int).toNat t184) := ⟨_, rfl⟩
         replace H : (fold_As.l0 k1 a0 y185 (t177.length : Int) (wrap64 (x12_1 + 1))) = some r := by first | (rw [hy185]; with_reducible exact H) | (have H2_ := (Option.bind_some _ _).symm.trans H; rw [hy185]; with_reducible exact H2_) | (have H2_ := (Option.bind_some _ _).symm.trans H; with_reducible exact H2_) | with_reducible exact H | (rw [hy185]; exact H) | exact H
         have Ny185 := Aside0.mk hy185
         clear hy185
         have H' := Aside0.mk H
         clear H
         have p181 : 0 ≤ (x12_1 : Int) := of_decide_eq_true (by first | (with_reducible assumption) | assumption)
         have q181 : x12_1 < (x9_1.length : Int) := of_decide_eq_true (by first | (with_reducible assumption) | assumption)
         obtain ⟨ad181, e181, hx181_0⟩ := Kd.at_int (Kd.R_reads' HO_9.out).2.2 x12_1 p181 q181
         cases e181
         replace p181 := eq_true p181
         replace q181 := eq_true q181
         go_wp2_with (first | ((with_reducible refine gate_callee (f := 18) rfl ?_); refine goesL_ (some 39) rfl rfl Try.func18 (by kernel_rfl) rfl #[.int .i32 (rd x9_1 x12_1)] rfl (by (try simp only [List.map_toArray, List.map_cons, List.map_nil]); first | done | rfl | (simp only [List.length_drop, List.length_take]; rfl)) ?_; (with_reducible refine (fold_Down.calls (rd x9_1 x12_1) t184 _ A25.out).mono ?_); rintro e w' ⟨rfl, ⟨nd, rfl⟩⟩; refine ⟨_, rfl, ?_⟩; (try (rw [drewN_self wr]; generalize hq_ : World.drewN wr _ = wr; have n0_ : Aside0 (Kd.R (Kd.int .i32) 21 wr w.heap.size (fun _ => True) (.slice (some ad181) x9_1.length co5) x9_1) := ⟨by rw [← hq_]; exact (by (with_reducible repeat (first | apply Kd.R_alloc | apply Kd.R_drewN | apply Kd.R_drew)); exact HO_9.out)⟩; have n1_ : Aside0 (Below w.heap.size w wr) := ⟨by rw [← hq_]; exact (by repeat (first | (with_reducible first | exact HB.out | apply below_alloc | apply pw_below_drewN | apply below_drew1) | exact HB.out))⟩; clear HO_9 HB hq_; have HO_9 := n0_; have HB := n1_; clear n0_ n1_)); have p26 : 0 ≤ (x12_1 : Int) := of_decide_eq_true (by first | (with_reducible assumption) | assumption); have q26 : (x12_1 : Int) < ((x9_1.length : Int) : Int) := of_decide_eq_true (by first | (with_reducible assumption) | assumption); obtain ⟨go26, co26, eo26, gb26, gl26, cl26, HG26⟩ := Kd.R_form HO_9.out (by omega); (first | cases eo26 | (injection eo26 with ea_ en_ ec_; (first | subst ea_ | (injection ea_ with ea_; subst ea_)); subst ec_; clear en_)); have GB26 := Aside0.mk gb26; have GG26 := Aside0.mk HG26; clear gb26 gl26 HG26; (first | simp only [add_plain] at hx181_0 | skip); obtain ⟨hx26_0, hf26_0⟩ := Kd.R_celln 0 HO_9.out (x12_1 : Int) p26 q26; replace p26 := eq_true p26; replace q26 := eq_true q26; obtain ⟨hy27_, hz27_⟩ := Kd.R_celln 0 HO_9.out (x12_1 : Int) (of_decide_eq_true (by first | (with_reducible assumption) | assumption)) (of_decide_eq_true (by first | (with_reducible assumption) | assumption)); have HP27 := Kd.R_putg HO_9.out (x12_1 : Int) t184) | ((with_reducible refine gate_store (t := 21) (p := 40) rfl ?_); refine store_event (t := 21) (p := 40) (v := ?vo_w28) (w1 := (wr.setCell ⟨go26, (x12_1 : Int).toNat, none⟩ (.int .i32 t184))) ?hg ?ho ?hn ?hr ?_; (case ho => rfl); (case hg => rfl); (case hn => rfl); (case hr => first | (go_simp; done) | (go_simp; rfl)); intro w28 hw; have hg : wr.grownBy w28 (some go26) := (by rw [hw]; exact HP27.2); have hp_ : Kd.R (Kd.int .i32) 21 w28 w.heap.size (fun _ => True) (.slice (some ⟨go26, 0, none⟩) x9_1.length co5) y185 := (by rw [hw, Ny185.out]; exact HP27.1); clear HP27; have n0_ := Aside0.mk (hp_); have n1_ := Aside0.mk ((by rw [hw]; exact below_set (HB.out) GB26.out : Below w.heap.size w w28)); clear HO_9; clear HB; have HO_9 := n0_; have HB := n1_; clear n0_ n1_; clear hg hw hp_))
         (try simp only [← hl9_1])
         go_roundg k1
         case measure => have := HK1.out; omega
         case rel => exact ⟨(y185), (wrap64 (x12_1 + 1)), (by first | rfl | (simp; done) | (simp [*]; done)), H', ⟨by have := HK1.out; omega⟩, ⟨by (try simp only [hl9_1]); (with_reducible repeat (first | apply Kd.R_alloc | apply Kd.R_drewN | apply Kd.R_drew)); exact HO_9.out⟩, ⟨by repeat (first | (with_reducible first | exact HB.out | apply below_alloc | apply pw_below_drewN | apply below_drew1) | exact HB.out)⟩⟩
        ·rw [if_neg c24] at H
         have c24b0 : (a0 == 1) = false := beq_eq_false_iff_ne.mpr c24
         have c24b1 : (a0 != 1) = true := bne_iff_ne.mpr c24
         have H' := Aside0.mk H
         clear H
         have p181 : 0 ≤ (x12_1 : Int) := of_decide_eq_true (by first | (with_reducible assumption) | assumption)
         have q181 : x12_1 < (x9_1.length : Int) := of_decide_eq_true (by first | (with_reducible assumption) | assumption)
         obtain ⟨ad181, e181, hx181_0⟩ := Kd.at_int (Kd.R_reads' HO_9.out).2.2 x12_1 p181 q181
         cases e181
         replace p181 := eq_true p181
         replace q181 := eq_true q181
         go_wp2
         (try simp only [← hl9_1])
         go_roundg k1
         case measure => have := HK1.out; omega
         case rel => exact ⟨(x9_1), (wrap64 (x12_1 + 1)), (by first | rfl | (simp; done) | (simp [*]; done)), H', ⟨by have := HK1.out; omega⟩, ⟨by (try simp only [hl9_1]); (with_reducible repeat (first | apply Kd.R_alloc | apply Kd.R_drewN | apply Kd.R_drew)); exact HO_9.out⟩, ⟨by repeat (first | (with_reducible first | exact HB.out | apply below_alloc | apply pw_below_drewN | apply below_drew1) | exact HB.out)⟩⟩
     ·rw [if_neg c8] at H
      exact absurd H (by simp)
    ·rw [if_neg c7] at H
     exact absurd H (by simp)
   ·rw [if_neg c6] at H
    have c6b0 : decide (x12_1 < (t177.length : Int)) = false := decide_eq_false c6
    (try simp only [hl9_1] at c6b0)
    clear c6
    replace H := Option.bind_eq_some_iff.mp H
    obtain ⟨t180, A290, H⟩ := H
    replace H : (some t180) = some r := H
    have A29 := Aside0.mk A290
    clear A290
    obtain rfl := Option.some.inj H
    go_wp2_with (first | ((with_reducible refine gate_callee (f := 19) rfl ?_); refine goesL_ (some 43) rfl rfl Try.func19 (by kernel_rfl) rfl #[.slice Ao5 x9_1.length co5] rfl (by (try simp only [List.map_toArray, List.map_cons, List.map_nil]); first | done | rfl | (simp only [List.length_drop, List.length_take]; rfl)) ?_; (with_reducible refine (utf_Text.calls k1 _ _ x9_1 t180 _ ?side1 ?side2 A29.out).mono ?_); (case side1 => repeat (first | exact (Kd.R_reads' HO_9.out).2.2 | (with_reducible refine Kd.C_alloc ?_ _) | (with_reducible refine Kd.C_drewN ?_ _) | (with_reducible refine Kd.C_drew ?_))); (case side2 => exact (Kd.R_reads' HO_9.out).2.1); rintro e w30 ⟨rfl, hb⟩; refine ⟨_, rfl, ?_⟩; have n0_ := Aside0.mk (Kd.R_below (by (with_reducible repeat (first | apply Kd.R_alloc | apply Kd.R_drewN | apply Kd.R_drew)); exact HO_9.out) hb); have n1_ := Aside0.mk (below_step (by repeat (first | (with_reducible first | exact HB.out | apply below_alloc | apply pw_below_drewN | apply below_drew1) | exact HB.out)) hb); clear HO_9; clear HB; have HO_9 := n0_; have HB := n1_; clear n0_ n1_; (try clear hb); (try clear hb2); (try clear hk); (try clear hi)))
    go_ret
    exact ⟨by first | rfl | (simp [errW_none, errW_some] <;> rfl) | (simp [*, errW_none, errW_some] <;> rfl), by repeat (first | (with_reducible first | exact HB.out | apply below_alloc | apply pw_below_drewN | apply below_drew1) | exact HB.out)⟩

/-! ### fold_Letter: function 13 -/
def fold_Letter.f (a0 : Int) : Option (Bool) := (fold_great.f a0).bind fun t190 => (if t190 = true then (some true) else ((fold_small.f a0).bind fun t191 => (if t191 = true then (some true) else (if a0 = 223 then (some true) else (if a0 ≥ 255 then (if a0 ≤ 591 then (some true) else (if a0 ≥ 880 then (if a0 ≤ 1023 then (some true) else (if a0 ≥ 1024 then (some (decide (a0 ≤ 1327))) else (some false))) else (if a0 ≥ 1024 then (some (decide (a0 ≤ 1327))) else (some false)))) else (if a0 ≥ 880 then (if a0 ≤ 1023 then (some true) else (if a0 ≥ 1024 then (some (decide (a0 ≤ 1327))) else (some false))) else (if a0 ≥ 1024 then (some (decide (a0 ≤ 1327))) else (some false))))))))
set_option maxHeartbeats 8000000 in
set_option maxRecDepth 100000 in
theorem fold_Letter.calls (a0 : Int) (r : Bool) (w : World) (h : fold_Letter.f a0 = some r) :
  Calls Try.prog 13 #[.int .i32 a0] w fun e w' => e = .returned (.bool r) ∧ Drawn0 w w' := by
 have H : ((fold_great.f a0).bind fun t190 => (if t190 = true then (some true) else ((fold_small.f a0).bind fun t191 => (if t191 = true then (some true) else (if a0 = 223 then (some true) else (if a0 ≥ 255 then (if a0 ≤ 591 then (some true) else (if a0 ≥ 880 then (if a0 ≤ 1023 then (some true) else (if a0 ≥ 1024 then (some (decide (a0 ≤ 1327))) else (some false))) else (if a0 ≥ 1024 then (some (decide (a0 ≤ 1327))) else (some false)))) else (if a0 ≥ 880 then (if a0 ≤ 1023 then (some true) else (if a0 ≥ 1024 then (some (decide (a0 ≤ 1327))) else (some false))) else (if a0 ≥ 1024 then (some (decide (a0 ≤ 1327))) else (some false))))))))) = some r := h
 clear h
 replace H := Option.bind_eq_some_iff.mp H
 obtain ⟨t190, A20, H⟩ := H
 replace H : (if t190 = true then (some true) else ((fold_small.f a0).bind fun t191 => (if t191 = true then (some true) else (if a0 = 223 then (some true) else (if a0 ≥ 255 then (if a0 ≤ 591 then (some true) else (if a0 ≥ 880 then (if a0 ≤ 1023 then (some true) else (if a0 ≥ 1024 then (some (decide (a0 ≤ 1327))) else (some false))) else (if a0 ≥ 1024 then (some (decide (a0 ≤ 1327))) else (some false)))) else (if a0 ≥ 880 then (if a0 ≤ 1023 then (some true) else (if a0 ≥ 1024 then (some (decide (a0 ≤ 1327))) else (some false))) else (if a0 ≥ 1024 then (some (decide (a0 ≤ 1327))) else (some false)))))))) = some r := H
 have A2 := Aside0.mk A20
 clear A20
 by_cases c3 : t190 = true
 ·subst c3
  have H1 : (some true) = some r := by rw [if_pos rfl] at H; exact H
  clear H
  have H := H1
  clear H1
  obtain rfl := Option.some.inj H
  go_enter Try.func13, Try.ntmps13
  go_wp2_with (first | ((with_reducible refine gate_callee (f := 35) rfl ?_); refine goesL_ (some 4) rfl rfl Try.func35 (by kernel_rfl) rfl #[.int .i32 a0] rfl (by (try simp only [List.map_toArray, List.map_cons, List.map_nil]); first | done | rfl | (simp only [List.length_drop, List.length_take]; rfl)) ?_; (with_reducible refine (fold_great.calls a0 true _ A2.out).mono ?_); rintro e w' ⟨rfl, ⟨nd, rfl⟩⟩; refine ⟨_, rfl, ?_⟩))
  go_ret
  exact ⟨by first | rfl | (simp; done) | (simp [*]; done), by repeat (first | exact Drawn0.refl _ | apply Drawn0.step)⟩
 ·replace c3 := Bool.eq_false_iff.mpr c3
  subst c3
  have H1 : ((fold_small.f a0).bind fun t191 => (if t191 = true then (some true) else (if a0 = 223 then (some true) else (if a0 ≥ 255 then (if a0 ≤ 591 then (some true) else (if a0 ≥ 880 then (if a0 ≤ 1023 then (some true) else (if a0 ≥ 1024 then (some (decide (a0 ≤ 1327))) else (some false))) else (if a0 ≥ 1024 then (some (decide (a0 ≤ 1327))) else (some false)))) else (if a0 ≥ 880 then (if a0 ≤ 1023 then (some true) else (if a0 ≥ 1024 then (some (decide (a0 ≤ 1327))) else (some false))) else (if a0 ≥ 1024 then (some (decide (a0 ≤ 1327))) else (some false))))))) = some r := by rw [if_neg (show ¬ (false = true) by decide)] at H; exact H
  clear H
  have H := H1
  clear H1
  replace H := Option.bind_eq_some_iff.mp H
  obtain ⟨t191, A40, H⟩ := H
  replace H : (if t191 = true then (some true) else (if a0 = 223 then (some true) else (if a0 ≥ 255 then (if a0 ≤ 591 then (some true) else (if a0 ≥ 880 then (if a0 ≤ 1023 then (some true) else (if a0 ≥ 1024 then (some (decide (a0 ≤ 1327))) else (some false))) else (if a0 ≥ 1024 then (some (decide (a0 ≤ 1327))) else (some false)))) else (if a0 ≥ 880 then (if a0 ≤ 1023 then (some true) else (if a0 ≥ 1024 then (some (decide (a0 ≤ 1327))) else (some false))) else (if a0 ≥ 1024 then (some (decide (a0 ≤ 1327))) else (some false)))))) = some r := H
  have A4 := Aside0.mk A40
  clear A40
  by_cases c5 : t191 = true
  ·subst c5
   have H1 : (some true) = some r := by rw [if_pos rfl] at H; exact H
   clear H
   have H := H1
   clear H1
   obtain rfl := Option.some.inj H
   go_enter Try.func13, Try.ntmps13
   go_wp2_with (first | ((with_reducible refine gate_callee (f := 35) rfl ?_); refine goesL_ (some 4) rfl rfl Try.func35 (by kernel_rfl) rfl #[.int .i32 a0] rfl (by (try simp only [List.map_toArray, List.map_cons, List.map_nil]); first | done | rfl | (simp only [List.length_drop, List.length_take]; rfl)) ?_; (with_reducible refine (fold_great.calls a0 false _ A2.out).mono ?_); rintro e w' ⟨rfl, ⟨nd, rfl⟩⟩; refine ⟨_, rfl, ?_⟩) | (go_at_call 36; (with_reducible refine (fold_small.calls a0 true _ A4.out).mono ?_); rintro e w' ⟨rfl, ⟨nd, rfl⟩⟩))
   go_ret
   exact ⟨by first | rfl | (simp; done) | (simp [*]; done), by repeat (first | exact Drawn0.refl _ | apply Drawn0.step)⟩
  ·replace c5 := Bool.eq_false_iff.mpr c5
   subst c5
   have H1 : (if a0 = 223 then (some true) else (if a0 ≥ 255 then (if a0 ≤ 591 then (some true) else (if a0 ≥ 880 then (if a0 ≤ 1023 then (some true) else (if a0 ≥ 1024 then (some (decide (a0 ≤ 1327))) else (some false))) else (if a0 ≥ 1024 then (some (decide (a0 ≤ 1327))) else (some false)))) else (if a0 ≥ 880 then (if a0 ≤ 1023 then (some true) else (if a0 ≥ 1024 then (some (decide (a0 ≤ 1327))) else (some false))) else (if a0 ≥ 1024 then (some (decide (a0 ≤ 1327))) else (some false))))) = some r := by rw [if_neg (show ¬ (false = true) by decide)] at H; exact H
   clear H
   have H := H1
   clear H1
   by_cases c6 : a0 = 223
   ·rw [if_pos c6] at H
    have c6b0 : (a0 == 223) = true := beq_iff_eq.mpr c6
    have c6b1 : (a0 != 223) = false := bne_eq_false_iff_eq.mpr c6
    clear c6
    obtain rfl := Option.some.inj H
    go_enter Try.func13, Try.ntmps13
    go_wp2_with (first | ((with_reducible refine gate_callee (f := 35) rfl ?_); refine goesL_ (some 4) rfl rfl Try.func35 (by kernel_rfl) rfl #[.int .i32 a0] rfl (by (try simp only [List.map_toArray, List.map_cons, List.map_nil]); first | done | rfl | (simp only [List.length_drop, List.length_take]; rfl)) ?_; (with_reducible refine (fold_great.calls a0 false _ A2.out).mono ?_); rintro e w' ⟨rfl, ⟨nd, rfl⟩⟩; refine ⟨_, rfl, ?_⟩) | (go_at_call 36; (with_reducible refine (fold_small.calls a0 false _ A4.out).mono ?_); rintro e w' ⟨rfl, ⟨nd, rfl⟩⟩))
    go_ret
    exact ⟨by first | rfl | (simp; done) | (simp [*]; done), by repeat (first | exact Drawn0.refl _ | apply Drawn0.step)⟩
   ·rw [if_neg c6] at H
    have c6b0 : (a0 == 223) = false := beq_eq_false_iff_ne.mpr c6
    have c6b1 : (a0 != 223) = true := bne_iff_ne.mpr c6
    by_cases c7 : a0 ≥ 255
    ·rw [if_pos c7] at H
     have c7b0 : decide (255 ≤ a0) = true := decide_eq_true c7
     clear c7
     by_cases c8 : a0 ≤ 591
     ·rw [if_pos c8] at H
      have c8b0 : decide (a0 ≤ 591) = true := decide_eq_true c8
      clear c8
      obtain rfl := Option.some.inj H
      go_enter Try.func13, Try.ntmps13
      go_wp2_with (first | ((with_reducible refine gate_callee (f := 35) rfl ?_); refine goesL_ (some 4) rfl rfl Try.func35 (by kernel_rfl) rfl #[.int .i32 a0] rfl (by (try simp only [List.map_toArray, List.map_cons, List.map_nil]); first | done | rfl | (simp only [List.length_drop, List.length_take]; rfl)) ?_; (with_reducible refine (fold_great.calls a0 false _ A2.out).mono ?_); rintro e w' ⟨rfl, ⟨nd, rfl⟩⟩; refine ⟨_, rfl, ?_⟩) | (go_at_call 36; (with_reducible refine (fold_small.calls a0 false _ A4.out).mono ?_); rintro e w' ⟨rfl, ⟨nd, rfl⟩⟩))
      go_ret
      exact ⟨by first | rfl | (simp; done) | (simp [*]; done), by repeat (first | exact Drawn0.refl _ | apply Drawn0.step)⟩
     ·rw [if_neg c8] at H
      have c8b0 : decide (a0 ≤ 591) = false := decide_eq_false c8
      clear c8
      by_cases c9 : a0 ≥ 880
      ·rw [if_pos c9] at H
       have c9b0 : decide (880 ≤ a0) = true := decide_eq_true c9
       clear c9
       by_cases c10 : a0 ≤ 1023
       ·rw [if_pos c10] at H
        have c10b0 : decide (a0 ≤ 1023) = true := decide_eq_true c10
        clear c10
        obtain rfl := Option.some.inj H
        go_enter Try.func13, Try.ntmps13
        go_wp2_with (first | ((with_reducible refine gate_callee (f := 35) rfl ?_); refine goesL_ (some 4) rfl rfl Try.func35 (by kernel_rfl) rfl #[.int .i32 a0] rfl (by (try simp only [List.map_toArray, List.map_cons, List.map_nil]); first | done | rfl | (simp only [List.length_drop, List.length_take]; rfl)) ?_; (with_reducible refine (fold_great.calls a0 false _ A2.out).mono ?_); rintro e w' ⟨rfl, ⟨nd, rfl⟩⟩; refine ⟨_, rfl, ?_⟩) | (go_at_call 36; (with_reducible refine (fold_small.calls a0 false _ A4.out).mono ?_); rintro e w' ⟨rfl, ⟨nd, rfl⟩⟩))
        go_ret
        exact ⟨by first | rfl | (simp; done) | (simp [*]; done), by repeat (first | exact Drawn0.refl _ | apply Drawn0.step)⟩
       ·rw [if_neg c10] at H
        have c10b0 : decide (a0 ≤ 1023) = false := decide_eq_false c10
        clear c10
        by_cases c11 : a0 ≥ 1024
        ·rw [if_pos c11] at H
         have c11b0 : decide (1024 ≤ a0) = true := decide_eq_true c11
         clear c11
         obtain rfl := Option.some.inj H
         go_enter Try.func13, Try.ntmps13
         go_wp2_with (first | ((with_reducible refine gate_callee (f := 35) rfl ?_); refine goesL_ (some 4) rfl rfl Try.func35 (by kernel_rfl) rfl #[.int .i32 a0] rfl (by (try simp only [List.map_toArray, List.map_cons, List.map_nil]); first | done | rfl | (simp only [List.length_drop, List.length_take]; rfl)) ?_; (with_reducible refine (fold_great.calls a0 false _ A2.out).mono ?_); rintro e w' ⟨rfl, ⟨nd, rfl⟩⟩; refine ⟨_, rfl, ?_⟩) | (go_at_call 36; (with_reducible refine (fold_small.calls a0 false _ A4.out).mono ?_); rintro e w' ⟨rfl, ⟨nd, rfl⟩⟩))
         go_ret
         exact ⟨by first | rfl | (simp; done) | (simp [*]; done), by repeat (first | exact Drawn0.refl _ | apply Drawn0.step)⟩
        ·rw [if_neg c11] at H
         have c11b0 : decide (1024 ≤ a0) = false := decide_eq_false c11
         clear c11
         obtain rfl := Option.some.inj H
         go_enter Try.func13, Try.ntmps13
         go_wp2_with (first | ((with_reducible refine gate_callee (f := 35) rfl ?_); refine goesL_ (some 4) rfl rfl Try.func35 (by kernel_rfl) rfl #[.int .i32 a0] rfl (by (try simp only [List.map_toArray, List.map_cons, List.map_nil]); first | done | rfl | (simp only [List.length_drop, List.length_take]; rfl)) ?_; (with_reducible refine (fold_great.calls a0 false _ A2.out).mono ?_); rintro e w' ⟨rfl, ⟨nd, rfl⟩⟩; refine ⟨_, rfl, ?_⟩) | (go_at_call 36; (with_reducible refine (fold_small.calls a0 false _ A4.out).mono ?_); rintro e w' ⟨rfl, ⟨nd, rfl⟩⟩))
         go_ret
         exact ⟨by first | rfl | (simp; done) | (simp [*]; done), by repeat (first | exact Drawn0.refl _ | apply Drawn0.step)⟩
      ·rw [if_neg c9] at H
       have c9b0 : decide (880 ≤ a0) = false := decide_eq_false c9
       clear c9
       by_cases c12 : a0 ≥ 1024
       ·rw [if_pos c12] at H
        have c12b0 : decide (1024 ≤ a0) = true := decide_eq_true c12
        clear c12
        obtain rfl := Option.some.inj H
        go_enter Try.func13, Try.ntmps13
        go_wp2_with (first | ((with_reducible refine gate_callee (f := 35) rfl ?_); refine goesL_ (some 4) rfl rfl Try.func35 (by kernel_rfl) rfl #[.int .i32 a0] rfl (by (try simp only [List.map_toArray, List.map_cons, List.map_nil]); first | done | rfl | (simp only [List.length_drop, List.length_take]; rfl)) ?_; (with_reducible refine (fold_great.calls a0 false _ A2.out).mono ?_); rintro e w' ⟨rfl, ⟨nd, rfl⟩⟩; refine ⟨_, rfl, ?_⟩) | (go_at_call 36; (with_reducible refine (fold_small.calls a0 false _ A4.out).mono ?_); rintro e w' ⟨rfl, ⟨nd, rfl⟩⟩))
        go_ret
        exact ⟨by first | rfl | (simp; done) | (simp [*]; done), by repeat (first | exact Drawn0.refl _ | apply Drawn0.step)⟩
       ·rw [if_neg c12] at H
        have c12b0 : decide (1024 ≤ a0) = false := decide_eq_false c12
        clear c12
        obtain rfl := Option.some.inj H
        go_enter Try.func13, Try.ntmps13
        go_wp2_with (first | ((with_reducible refine gate_callee (f := 35) rfl ?_); refine goesL_ (some 4) rfl rfl Try.func35 (by kernel_rfl) rfl #[.int .i32 a0] rfl (by (try simp only [List.map_toArray, List.map_cons, List.map_nil]); first | done | rfl | (simp only [List.length_drop, List.length_take]; rfl)) ?_; (with_reducible refine (fold_great.calls a0 false _ A2.out).mono ?_); rintro e w' ⟨rfl, ⟨nd, rfl⟩⟩; refine ⟨_, rfl, ?_⟩) | (go_at_call 36; (with_reducible refine (fold_small.calls a0 false _ A4.out).mono ?_); rintro e w' ⟨rfl, ⟨nd, rfl⟩⟩))
        go_ret
        exact ⟨by first | rfl | (simp; done) | (simp [*]; done), by repeat (first | exact Drawn0.refl _ | apply Drawn0.step)⟩
    ·rw [if_neg c7] at H
     have c7b0 : decide (255 ≤ a0) = false := decide_eq_false c7
     clear c7
     by_cases c13 : a0 ≥ 880
     ·rw [if_pos c13] at H
      have c13b0 : decide (880 ≤ a0) = true := decide_eq_true c13
      clear c13
      by_cases c14 : a0 ≤ 1023
      ·rw [if_pos c14] at H
       have c14b0 : decide (a0 ≤ 1023) = true := decide_eq_true c14
       clear c14
       obtain rfl := Option.some.inj H
       go_enter Try.func13, Try.ntmps13
       go_wp2_with (first | ((with_reducible refine gate_callee (f := 35) rfl ?_); refine goesL_ (some 4) rfl rfl Try.func35 (by kernel_rfl) rfl #[.int .i32 a0] rfl (by (try simp only [List.map_toArray, List.map_cons, List.map_nil]); first | done | rfl | (simp only [List.length_drop, List.length_take]; rfl)) ?_; (with_reducible refine (fold_great.calls a0 false _ A2.out).mono ?_); rintro e w' ⟨rfl, ⟨nd, rfl⟩⟩; refine ⟨_, rfl, ?_⟩) | (go_at_call 36; (with_reducible refine (fold_small.calls a0 false _ A4.out).mono ?_); rintro e w' ⟨rfl, ⟨nd, rfl⟩⟩))
       go_ret
       exact ⟨by first | rfl | (simp; done) | (simp [*]; done), by repeat (first | exact Drawn0.refl _ | apply Drawn0.step)⟩
      ·rw [if_neg c14] at H
       have c14b0 : decide (a0 ≤ 1023) = false := decide_eq_false c14
       clear c14
       by_cases c15 : a0 ≥ 1024
       ·rw [if_pos c15] at H
        have c15b0 : decide (1024 ≤ a0) = true := decide_eq_true c15
        clear c15
        obtain rfl := Option.some.inj H
        go_enter Try.func13, Try.ntmps13
        go_wp2_with (first | ((with_reducible refine gate_callee (f := 35) rfl ?_); refine goesL_ (some 4) rfl rfl Try.func35 (by kernel_rfl) rfl #[.int .i32 a0] rfl (by (try simp only [List.map_toArray, List.map_cons, List.map_nil]); first | done | rfl | (simp only [List.length_drop, List.length_take]; rfl)) ?_; (with_reducible refine (fold_great.calls a0 false _ A2.out).mono ?_); rintro e w' ⟨rfl, ⟨nd, rfl⟩⟩; refine ⟨_, rfl, ?_⟩) | (go_at_call 36; (with_reducible refine (fold_small.calls a0 false _ A4.out).mono ?_); rintro e w' ⟨rfl, ⟨nd, rfl⟩⟩))
        go_ret
        exact ⟨by first | rfl | (simp; done) | (simp [*]; done), by repeat (first | exact Drawn0.refl _ | apply Drawn0.step)⟩
       ·rw [if_neg c15] at H
        have c15b0 : decide (1024 ≤ a0) = false := decide_eq_false c15
        clear c15
        obtain rfl := Option.some.inj H
        go_enter Try.func13, Try.ntmps13
        go_wp2_with (first | ((with_reducible refine gate_callee (f := 35) rfl ?_); refine goesL_ (some 4) rfl rfl Try.func35 (by kernel_rfl) rfl #[.int .i32 a0] rfl (by (try simp only [List.map_toArray, List.map_cons, List.map_nil]); first | done | rfl | (simp only [List.length_drop, List.length_take]; rfl)) ?_; (with_reducible refine (fold_great.calls a0 false _ A2.out).mono ?_); rintro e w' ⟨rfl, ⟨nd, rfl⟩⟩; refine ⟨_, rfl, ?_⟩) | (go_at_call 36; (with_reducible refine (fold_small.calls a0 false _ A4.out).mono ?_); rintro e w' ⟨rfl, ⟨nd, rfl⟩⟩))
        go_ret
        exact ⟨by first | rfl | (simp; done) | (simp [*]; done), by repeat (first | exact Drawn0.refl _ | apply Drawn0.step)⟩
     ·rw [if_neg c13] at H
      have c13b0 : decide (880 ≤ a0) = false := decide_eq_false c13
      clear c13
      by_cases c16 : a0 ≥ 1024
      ·rw [if_pos c16] at H
       have c16b0 : decide (1024 ≤ a0) = true := decide_eq_true c16
       clear c16
       obtain rfl := Option.some.inj H
       go_enter Try.func13, Try.ntmps13
       go_wp2_with (first | ((with_reducible refine gate_callee (f := 35) rfl ?_); refine goesL_ (some 4) rfl rfl Try.func35 (by kernel_rfl) rfl #[.int .i32 a0] rfl (by (try simp only [List.map_toArray, List.map_cons, List.map_nil]); first | done | rfl | (simp only [List.length_drop, List.length_take]; rfl)) ?_; (with_reducible refine (fold_great.calls a0 false _ A2.out).mono ?_); rintro e w' ⟨rfl, ⟨nd, rfl⟩⟩; refine ⟨_, rfl, ?_⟩) | (go_at_call 36; (with_reducible refine (fold_small.calls a0 false _ A4.out).mono ?_); rintro e w' ⟨rfl, ⟨nd, rfl⟩⟩))
       go_ret
       exact ⟨by first | rfl | (simp; done) | (simp [*]; done), by repeat (first | exact Drawn0.refl _ | apply Drawn0.step)⟩
      ·rw [if_neg c16] at H
       have c16b0 : decide (1024 ≤ a0) = false := decide_eq_false c16
       clear c16
       obtain rfl := Option.some.inj H
       go_enter Try.func13, Try.ntmps13
       go_wp2_with (first | ((with_reducible refine gate_callee (f := 35) rfl ?_); refine goesL_ (some 4) rfl rfl Try.func35 (by kernel_rfl) rfl #[.int .i32 a0] rfl (by (try simp only [List.map_toArray, List.map_cons, List.map_nil]); first | done | rfl | (simp only [List.length_drop, List.length_take]; rfl)) ?_; (with_reducible refine (fold_great.calls a0 false _ A2.out).mono ?_); rintro e w' ⟨rfl, ⟨nd, rfl⟩⟩; refine ⟨_, rfl, ?_⟩) | (go_at_call 36; (with_reducible refine (fold_small.calls a0 false _ A4.out).mono ?_); rintro e w' ⟨rfl, ⟨nd, rfl⟩⟩))
       go_ret
       exact ⟨by first | rfl | (simp; done) | (simp [*]; done), by repeat (first | exact Drawn0.refl _ | apply Drawn0.step)⟩

/-! ### token_Runs_1: function 39 -/
def token_Runs_1.f (a0 : Int) (l1 : List (S53)) : Option (Bool) := if a0 ≥ 0 then (if a0 < (l1.length : Int) then (if 0 ≤ a0 then ((fold_Letter.f ((rd_T53 l1 a0).f0)).bind fun t120 => (some t120)) else (none)) else (some false)) else (some false)
set_option maxHeartbeats 8000000 in
set_option maxRecDepth 100000 in
theorem token_Runs_1.calls {gx_ : Nat} (a0 : Int) (A1 : Option Addr) (c1 : Nat) (l1 : List (S53)) (r : Bool) (w : World) (hr1 : Kd.C k53 w A1 l1.length l1) (hc1 : l1.length ≤ c1) (h : token_Runs_1.f a0 l1 = some r) (hx_ : w.cell? ⟨gx_, 0, none⟩ = some (.slice A1 l1.length c1)) :
    Calls Try.prog 39 #[.int .i64 a0, .pointer (some ⟨gx_, 0, none⟩)] w fun e w' => e = .returned (.bool r) ∧ Drawn0 w w' := by
  have HR1 := Aside0.mk hr1
  have HC1 := Aside0.mk hc1
  clear hr1 hc1
  have H : (if a0 ≥ 0 then (if a0 < (l1.length : Int) then (if 0 ≤ a0 then ((fold_Letter.f ((rd_T53 l1 a0).f0)).bind fun t120 => (some t120)) else (none)) else (some false)) else (some false)) = some r := h
  clear h
  by_cases c3 : a0 ≥ 0
  · rw [if_pos c3] at H
    have c3b0 : decide (0 ≤ a0) = true := decide_eq_true c3
    clear c3
    by_cases c4 : a0 < (l1.length : Int)
    · rw [if_pos c4] at H
      have c4b0 : decide (a0 < (l1.length : Int)) = true := decide_eq_true c4
      clear c4
      by_cases c5 : 0 ≤ a0
      · rw [if_pos c5] at H
        have c5b0 : decide (0 ≤ a0) = true := decide_eq_true c5
        clear c5
        replace H := Option.bind_eq_some_iff.mp H
        obtain ⟨t120, A60, H⟩ := H
        replace H : (some t120) = some r := H
        have A6 := Aside0.mk A60
        clear A60
        obtain rfl := Option.some.inj H
        have p119 : 0 ≤ (a0 : Int) := of_decide_eq_true (by first | (with_reducible assumption) | assumption)
        have q119 : a0 < (l1.length : Int) := of_decide_eq_true (by first | (with_reducible assumption) | assumption)
        obtain ⟨ad119, e119, hx119_0, hx119_1, hx119_2⟩ := at_T53 HR1.out a0 p119 q119
        cases e119
        replace p119 := eq_true p119
        replace q119 := eq_true q119
        go_enter Try.func39, Try.ntmps39
        go_wp2_with (first | (go_at_call 13; (with_reducible refine (fold_Letter.calls ((rd_T53 l1 a0).f0) t120 _ A6.out).mono ?_); rintro e w' ⟨rfl, ⟨nd, rfl⟩⟩))
        go_ret
        exact ⟨by first | rfl | (simp; done) | (simp [*]; done), by repeat (first | exact Drawn0.refl _ | apply Drawn0.step)⟩
      · rw [if_neg c5] at H
        exact absurd H (by simp)
    · rw [if_neg c4] at H
      have c4b0 : decide (a0 < (l1.length : Int)) = false := decide_eq_false c4
      clear c4
      obtain rfl := Option.some.inj H
      go_enter Try.func39, Try.ntmps39
      go_wp2
      go_ret
      exact ⟨by first | rfl | (simp; done) | (simp [*]; done), by repeat (first | exact Drawn0.refl _ | apply Drawn0.step)⟩
  · rw [if_neg c3] at H
    have c3b0 : decide (0 ≤ a0) = false := decide_eq_false c3
    clear c3
    obtain rfl := Option.some.inj H
    go_enter Try.func39, Try.ntmps39
    go_wp2
    go_ret
    exact ⟨by first | rfl | (simp; done) | (simp [*]; done), by repeat (first | exact Drawn0.refl _ | apply Drawn0.step)⟩

/-! ### token_Runs: function 27 -/
mutual
def token_Runs.l0 : Nat → List (S53) → List (S33) → Int → Option ((List (S33)))
  | 0, _, _, _ => none
  | k + 1, x1, x3, x5 => if x5 < (x1.length : Int) then ((token_Runs_1.f x5 x1).bind fun t121 => (if t121 = true then (token_Runs.l1 k x1 x3 x5 x5) else (token_Runs.l0 k x1 x3 (wrap64 (x5 + 1))))) else (some x3)
def token_Runs.l1 : Nat → List (S53) → List (S33) → Int → Int → Option ((List (S33)))
  | 0, _, _, _, _ => none
  | k + 1, x1, x3, x5, x6 => (token_Runs_1.f (wrap64 (x5 + 1)) x1).bind fun t122 => (if t122 = true then (token_Runs.l1 k x1 x3 (wrap64 (x5 + 1)) x6) else (if (wrap64 (x5 + 1)) < (x1.length : Int) then (if 0 ≤ (wrap64 (x5 + 1)) then (if ((rd_T53 x1 (wrap64 (x5 + 1))).f0) = 39 then ((token_Runs_1.f (wrap64 (x5 + 2)) x1).bind fun t124 => (if t124 = true then (token_Runs.l1 k x1 x3 (wrap64 (x5 + 1)) x6) else (if x3.length < 8796093022208 then (token_Runs.l0 k x1 (x3 ++ [(⟨x6, wrap64 (x5 + 1)⟩ : S33)]) (wrap64 (x5 + 1))) else (none)))) else (if x3.length < 8796093022208 then (token_Runs.l0 k x1 (x3 ++ [(⟨x6, wrap64 (x5 + 1)⟩ : S33)]) (wrap64 (x5 + 1))) else (none))) else (none)) else (if x3.length < 8796093022208 then (token_Runs.l0 k x1 (x3 ++ [(⟨x6, wrap64 (x5 + 1)⟩ : S33)]) (wrap64 (x5 + 1))) else (none))))
end
def token_Runs.f (k : Nat) (l0 : List (S53)) : Option ((List (S33))) := token_Runs.l0 k l0 ([] : List (S33)) 0
theorem token_Runs.mono_l : ∀ k, (∀ y0 y1 y2, LeO (token_Runs.l0 k y0 y1 y2) (token_Runs.l0 (k + 1) y0 y1 y2)) ∧ (∀ y0 y1 y2 y3, LeO (token_Runs.l1 k y0 y1 y2 y3) (token_Runs.l1 (k + 1) y0 y1 y2 y3))
  | 0 => ⟨fun _ _ _ r h => by simp [token_Runs.l0] at h, fun _ _ _ _ r h => by simp [token_Runs.l1] at h⟩
  | k + 1 => by
    obtain ⟨ih0, ih1⟩ := token_Runs.mono_l k
    refine ⟨?_, ?_⟩
    · intro y0 y1 y2
      unfold token_Runs.l0
      repeat' first
      | (with_reducible exact ih0 _ _ _)
      | (with_reducible exact ih1 _ _ _ _)
      | (with_reducible exact LeO.refl _)
      | (with_reducible exact LeO.none _)
      | (with_reducible refine LeO.ite ?_ ?_)
      | (with_reducible refine LeO.bind ?_ (fun _ => ?_))
      | exact ih0 _ _ _
      | exact ih1 _ _ _ _
      | exact LeO.none _
      | refine LeO.ite ?_ ?_
      | refine LeO.bind ?_ (fun _ => ?_)
    · intro y0 y1 y2 y3
      unfold token_Runs.l1
      repeat' first
      | (with_reducible exact ih0 _ _ _)
      | (with_reducible exact ih1 _ _ _ _)
      | (with_reducible exact LeO.refl _)
      | (with_reducible exact LeO.none _)
      | (with_reducible refine LeO.ite ?_ ?_)
      | (with_reducible refine LeO.bind ?_ (fun _ => ?_))
      | exact ih0 _ _ _
      | exact ih1 _ _ _ _
      | exact LeO.none _
      | refine LeO.ite ?_ ?_
      | refine LeO.bind ?_ (fun _ => ?_)
theorem token_Runs.mono : ∀ a0 k, LeO (token_Runs.f k a0) (token_Runs.f (k + 1) a0) := by
  intro a0 k
  obtain ⟨ih0, ih1⟩ := token_Runs.mono_l k
  unfold token_Runs.f
  repeat' first
      | (with_reducible exact ih0 _ _ _)
      | (with_reducible exact ih1 _ _ _ _)
      | (with_reducible exact LeO.refl _)
      | (with_reducible exact LeO.none _)
      | (with_reducible refine LeO.ite ?_ ?_)
      | (with_reducible refine LeO.bind ?_ (fun _ => ?_))
      | exact ih0 _ _ _
      | exact ih1 _ _ _ _
      | exact LeO.none _
      | refine LeO.ite ?_ ?_
      | refine LeO.bind ?_ (fun _ => ?_)
set_option maxHeartbeats 8000000 in
set_option maxRecDepth 100000 in
theorem token_Runs.calls (k : Nat) (A0 : Option Addr) (c0 : Nat) (l0 : List (S53)) (r : List (S33)) (w : World) (hr0 : Kd.C k53 w A0 l0.length l0) (hc0 : l0.length ≤ c0) (h : token_Runs.f k l0 = some r) :
    Calls Try.prog 27 #[.slice A0 l0.length c0] w fun e w' => ∃ v0_ : Value, e = .returned (v0_) ∧ Kd.R k33 33 w' w.heap.size (fun _ => True) v0_ r ∧ Below w.heap.size w w' := by
  have hBW : Below w.heap.size w (w.alloc (.cells #[.slice A0 l0.length c0] 34)) := below_alloc (Below.refl _ _) _
  have HBW := Aside0.mk hBW
  replace hr0 := Kd.C_below hr0 hBW
  have hx0 : (w.alloc (.cells #[.slice A0 l0.length c0] 34)).cell? ⟨w.heap.size, 0, none⟩ = some (.slice A0 l0.length c0) := (blk_cell (blk_new w _) 0).trans rfl
  have HX := Aside0.mk hx0
  clear hBW hx0
  have hu33 := Try.underlying33
  have HR0 := Aside0.mk hr0
  have HC0 := Aside0.mk hc0
  clear hr0 hc0
  have H : (token_Runs.l0 k l0 ([] : List (S33)) 0) = some r := h
  clear h
  have H' := Aside0.mk H
  clear H
  go_enter Try.func27, Try.ntmps27
  go_upto_region 1 with (fail)
  generalize w.heap.size = gb_ at HX ⊢
  generalize w.alloc (.cells #[.slice A0 l0.length c0] 34) = w1_ at HX HBW HR0 ⊢
  have HB := Aside0.mk (Below.refl w1_.heap.size w1_)
  have hx_ := pw_cell_below HB.out HX.out
  go_wp2
  go_loopg [3, 5] k (fun kq v3 v5 w' => ∃ (x3_1 : List (S33)) (x5_1 : Int), v5 = .int .i64 x5_1 ∧ Aside0 (token_Runs.l0 kq l0 x3_1 x5_1 = some r) ∧ Aside0 (kq ≤ k) ∧ Aside0 (Kd.R k33 33 w' w1_.heap.size (fun _ => True) v3 x3_1) ∧ Aside0 (Below w1_.heap.size w1_ w'))
  case atStart => exact ⟨(([] : List (S33))), (0), (by first | rfl | (simp; done) | (simp [*]; done)), H', ⟨Nat.le_refl _⟩, ⟨by first | exact Kd.R_nil _ _ _ _ _ | exact Kd.N_nil _ _ _ _ _ | exact Kd.V_nil _ _ _ _ _ | exact Kd.Q_nil _ _ _ _ _ | exact Kd.S_nil _ _ _ _ _⟩, ⟨by repeat (first | (with_reducible first | exact HB.out | apply below_alloc | apply pw_below_drewN | apply below_drew1) | exact HB.out)⟩⟩
  case round =>
    clear H'
    obtain ⟨x3_1, x5_1, rfl, HA, HK1, HO_3, HB⟩ := hrel
    cases gk with
    | zero => exact absurd HA.out (by simp [token_Runs.l0])
    | succ k1 =>
      have H := HA.out
      clear HA
      simp only [token_Runs.l0] at H
      by_cases c2 : x5_1 < (l0.length : Int)
      · rw [if_pos c2] at H
        have c2b0 : decide (x5_1 < (l0.length : Int)) = true := decide_eq_true c2
        clear c2
        replace H := Option.bind_eq_some_iff.mp H
        obtain ⟨t121, A30, H⟩ := H
        replace H : (if t121 = true then (token_Runs.l1 k1 l0 x3_1 x5_1 x5_1) else (token_Runs.l0 k1 l0 x3_1 (wrap64 (x5_1 + 1)))) = some r := H
        have A3 := Aside0.mk A30
        clear A30
        by_cases c4 : t121 = true
        · subst c4
          have H1 : (token_Runs.l1 k1 l0 x3_1 x5_1 x5_1) = some r := by rw [if_pos rfl] at H; exact H
          clear H
          have H := H1
          clear H1
          have H' := Aside0.mk H
          clear H
          have hx_ := pw_cell_below HB.out HX.out
          go_wp2_with (first | (go_at_call 39; (with_reducible refine (token_Runs_1.calls x5_1 _ _ l0 true _ ?side1 ?side2 A3.out (pw_cell_below (by repeat (first | (with_reducible first | exact HB.out | apply below_alloc | apply pw_below_drewN | apply below_drew1) | exact HB.out)) HX.out)).mono ?_); (case side1 => repeat (first | exact (Kd.C_below HR0.out HB.out) | (with_reducible refine Kd.C_alloc ?_ _) | (with_reducible refine Kd.C_drewN ?_ _) | (with_reducible refine Kd.C_drew ?_))); (case side2 => exact HC0.out); rintro e w' ⟨rfl, ⟨nd, rfl⟩⟩))
          go_loopg [5] k1 (fun kq v5 w' => ∃ (x5_2 : Int), v5 = .int .i64 x5_2 ∧ Aside0 (token_Runs.l1 kq l0 x3_1 x5_2 x5_1 = some r) ∧ Aside0 (kq ≤ k1) ∧ Aside0 (Kd.R k33 33 w' w1_.heap.size (fun _ => True) u3 x3_1) ∧ Aside0 (Below w1_.heap.size w1_ w'))
          case atStart => exact ⟨(x5_1), (by first | rfl | (simp; done) | (simp [*]; done)), H', ⟨Nat.le_refl _⟩, ⟨by (with_reducible repeat (first | apply Kd.R_alloc | apply Kd.R_drewN | apply Kd.R_drew)); exact HO_3.out⟩, ⟨by repeat (first | (with_reducible first | exact HB.out | apply below_alloc | apply pw_below_drewN | apply below_drew1) | exact HB.out)⟩⟩
          case round =>
            clear H'
            try clear c2
            try clear c2b0
            try clear p2
            try clear c3
            try clear c4
            obtain ⟨x5_2, rfl, HA, HK2, HO_3, HB⟩ := hrel
            cases gk with
            | zero => exact absurd HA.out (by simp [token_Runs.l1])
            | succ k2 =>
              have H := HA.out
              clear HA
              simp only [token_Runs.l1] at H
              replace H := Option.bind_eq_some_iff.mp H
              obtain ⟨t122, A50, H⟩ := H
              replace H : (if t122 = true then (token_Runs.l1 k2 l0 x3_1 (wrap64 (x5_2 + 1)) x5_1) else (if (wrap64 (x5_2 + 1)) < (l0.length : Int) then (if 0 ≤ (wrap64 (x5_2 + 1)) then (if ((rd_T53 l0 (wrap64 (x5_2 + 1))).f0) = 39 then ((token_Runs_1.f (wrap64 (x5_2 + 2)) l0).bind fun t124 => (if t124 = true then (token_Runs.l1 k2 l0 x3_1 (wrap64 (x5_2 + 1)) x5_1) else (if x3_1.length < 8796093022208 then (token_Runs.l0 k2 l0 (x3_1 ++ [(⟨x5_1, wrap64 (x5_2 + 1)⟩ : S33)]) (wrap64 (x5_2 + 1))) else (none)))) else (if x3_1.length < 8796093022208 then (token_Runs.l0 k2 l0 (x3_1 ++ [(⟨x5_1, wrap64 (x5_2 + 1)⟩ : S33)]) (wrap64 (x5_2 + 1))) else (none))) else (none)) else (if x3_1.length < 8796093022208 then (token_Runs.l0 k2 l0 (x3_1 ++ [(⟨x5_1, wrap64 (x5_2 + 1)⟩ : S33)]) (wrap64 (x5_2 + 1))) else (none)))) = some r := H
              have A5 := Aside0.mk A50
              clear A50
              by_cases c6 : t122 = true
              · subst c6
                have H1 : (token_Runs.l1 k2 l0 x3_1 (wrap64 (x5_2 + 1)) x5_1) = some r := by rw [if_pos rfl] at H; exact H
                clear H
                have H := H1
                clear H1
                have H' := Aside0.mk H
                clear H
                have hx_ := pw_cell_below HB.out HX.out
                go_wp2_with (first | (go_at_call 39; (with_reducible refine (token_Runs_1.calls (wrap64 (x5_2 + 1)) _ _ l0 true _ ?side1 ?side2 A5.out (pw_cell_below (by repeat (first | (with_reducible first | exact HB.out | apply below_alloc | apply pw_below_drewN | apply below_drew1) | exact HB.out)) HX.out)).mono ?_); (case side1 => repeat (first | exact (Kd.C_below HR0.out HB.out) | (with_reducible refine Kd.C_alloc ?_ _) | (with_reducible refine Kd.C_drewN ?_ _) | (with_reducible refine Kd.C_drew ?_))); (case side2 => exact HC0.out); rintro e w' ⟨rfl, ⟨nd, rfl⟩⟩))
                go_roundg k2
                case measure => have := HK1.out; have := HK2.out; omega
                case rel => exact ⟨(wrap64 (x5_2 + 1)), (by first | rfl | (simp; done) | (simp [*]; done)), H', ⟨by have := HK1.out; have := HK2.out; omega⟩, ⟨by (with_reducible repeat (first | apply Kd.R_alloc | apply Kd.R_drewN | apply Kd.R_drew)); exact HO_3.out⟩, ⟨by repeat (first | (with_reducible first | exact HB.out | apply below_alloc | apply pw_below_drewN | apply below_drew1) | exact HB.out)⟩⟩
              · replace c6 := Bool.eq_false_iff.mpr c6
                subst c6
                have H1 : (if (wrap64 (x5_2 + 1)) < (l0.length : Int) then (if 0 ≤ (wrap64 (x5_2 + 1)) then (if ((rd_T53 l0 (wrap64 (x5_2 + 1))).f0) = 39 then ((token_Runs_1.f (wrap64 (x5_2 + 2)) l0).bind fun t124 => (if t124 = true then (token_Runs.l1 k2 l0 x3_1 (wrap64 (x5_2 + 1)) x5_1) else (if x3_1.length < 8796093022208 then (token_Runs.l0 k2 l0 (x3_1 ++ [(⟨x5_1, wrap64 (x5_2 + 1)⟩ : S33)]) (wrap64 (x5_2 + 1))) else (none)))) else (if x3_1.length < 8796093022208 then (token_Runs.l0 k2 l0 (x3_1 ++ [(⟨x5_1, wrap64 (x5_2 + 1)⟩ : S33)]) (wrap64 (x5_2 + 1))) else (none))) else (none)) else (if x3_1.length < 8796093022208 then (token_Runs.l0 k2 l0 (x3_1 ++ [(⟨x5_1, wrap64 (x5_2 + 1)⟩ : S33)]) (wrap64 (x5_2 + 1))) else (none))) = some r := by rw [if_neg (show ¬ (false = true) by decide)] at H; exact H
                clear H
                have H := H1
                clear H1
                by_cases c7 : (wrap64 (x5_2 + 1)) < (l0.length : Int)
                · rw [if_pos c7] at H
                  have c7b0 : decide ((wrap64 (x5_2 + 1)) < (l0.length : Int)) = true := decide_eq_true c7
                  clear c7
                  obtain ⟨ji8, hji8⟩ : ∃ j_ : Int, (wrap64 (x5_2 + 1)) = j_ := ⟨_, rfl⟩
                  replace H : (if 0 ≤ (ji8) then (if ((rd_T53 l0 (ji8)).f0) = 39 then ((token_Runs_1.f (wrap64 (x5_2 + 2)) l0).bind fun t124 => (if t124 = true then (token_Runs.l1 k2 l0 x3_1 ji8 x5_1) else (if x3_1.length < 8796093022208 then (token_Runs.l0 k2 l0 (x3_1 ++ [(⟨x5_1, ji8⟩ : S33)]) ji8) else (none)))) else (if x3_1.length < 8796093022208 then (token_Runs.l0 k2 l0 (x3_1 ++ [(⟨x5_1, ji8⟩ : S33)]) ji8) else (none))) else (none)) = some r := by first | (rw [hji8] at H; exact H) | (simp only [hji8] at H ⊢; exact H)
                  (try rw [hji8] at c7b0)
                  (try rw [hji8] at A5)
                  have hji8w : (IntKind.i64.wrap (x5_2 + 1)) = ji8 := (i64_w _).trans hji8
                  by_cases c9 : 0 ≤ (ji8)
                  · rw [if_pos c9] at H
                    have c9b0 : decide (0 ≤ (ji8)) = true := decide_eq_true c9
                    clear c9
                    by_cases c10 : ((rd_T53 l0 (ji8)).f0) = 39
                    · rw [if_pos c10] at H
                      have c10b0 : (((rd_T53 l0 (ji8)).f0) == 39) = true := beq_iff_eq.mpr c10
                      have c10b1 : (((rd_T53 l0 (ji8)).f0) != 39) = false := bne_eq_false_iff_eq.mpr c10
                      clear c10
                      replace H := Option.bind_eq_some_iff.mp H
                      obtain ⟨t124, A110, H⟩ := H
                      replace H : (if t124 = true then (token_Runs.l1 k2 l0 x3_1 ji8 x5_1) else (if x3_1.length < 8796093022208 then (token_Runs.l0 k2 l0 (x3_1 ++ [(⟨x5_1, ji8⟩ : S33)]) ji8) else (none))) = some r := H
                      have A11 := Aside0.mk A110
                      clear A110
                      by_cases c12 : t124 = true
                      · subst c12
                        have H1 : (token_Runs.l1 k2 l0 x3_1 ji8 x5_1) = some r := by rw [if_pos rfl] at H; exact H
                        clear H
                        have H := H1
                        clear H1
                        have H' := Aside0.mk H
                        clear H
                        have hx_ := pw_cell_below HB.out HX.out
                        go_wp2_with (first | (go_at_call 39; (with_reducible refine (token_Runs_1.calls ji8 _ _ l0 false _ ?side1 ?side2 A5.out (pw_cell_below (by repeat (first | (with_reducible first | exact HB.out | apply below_alloc | apply pw_below_drewN | apply below_drew1) | exact HB.out)) HX.out)).mono ?_); (case side1 => repeat (first | exact (Kd.C_below HR0.out HB.out) | (with_reducible refine Kd.C_alloc ?_ _) | (with_reducible refine Kd.C_drewN ?_ _) | (with_reducible refine Kd.C_drew ?_))); (case side2 => exact HC0.out); rintro e w' ⟨rfl, ⟨nd, rfl⟩⟩; have p123 : 0 ≤ ((ji8) : Int) := of_decide_eq_true (by first | (with_reducible assumption) | assumption); have q123 : (ji8) < (l0.length : Int) := of_decide_eq_true (by first | (with_reducible assumption) | assumption); obtain ⟨ad123, e123, hx123_0, hx123_1, hx123_2⟩ := at_T53 HR0.out (ji8) p123 q123; cases e123; replace hx123_0 := (HB.out.cell (World.block_lt_of_cell? w1_ _ hx123_0)).trans hx123_0; replace hx123_1 := (HB.out.cell (World.block_lt_of_cell? w1_ _ hx123_1)).trans hx123_1; replace hx123_2 := (HB.out.cell (World.block_lt_of_cell? w1_ _ hx123_2)).trans hx123_2; replace p123 := eq_true p123; replace q123 := eq_true q123) | (go_at_call 39; (with_reducible refine (token_Runs_1.calls (wrap64 (x5_2 + 2)) _ _ l0 true _ ?side1 ?side2 A11.out (pw_cell_below (by repeat (first | (with_reducible first | exact HB.out | apply below_alloc | apply pw_below_drewN | apply below_drew1) | exact HB.out)) HX.out)).mono ?_); (case side1 => repeat (first | exact (Kd.C_below HR0.out (by repeat (first | (with_reducible first | exact HB.out | apply below_alloc | apply pw_below_drewN | apply below_drew1) | exact HB.out))) | (with_reducible refine Kd.C_alloc ?_ _) | (with_reducible refine Kd.C_drewN ?_ _) | (with_reducible refine Kd.C_drew ?_))); (case side2 => exact HC0.out); rintro e w' ⟨rfl, ⟨nd, rfl⟩⟩))
                        go_roundg k2
                        case measure => have := HK1.out; have := HK2.out; omega
                        case rel => exact ⟨(ji8), (by first | rfl | (simp; done) | (simp only [← hji8] <;> (first | rfl | simp)) | (simp [*]; done)), (by first | exact H' | (rw [hji8]; exact H') | (simp only [hji8]; exact H')), ⟨by have := HK1.out; have := HK2.out; omega⟩, ⟨by (with_reducible repeat (first | apply Kd.R_alloc | apply Kd.R_drewN | apply Kd.R_drew)); exact HO_3.out⟩, ⟨by repeat (first | (with_reducible first | exact HB.out | apply below_alloc | apply pw_below_drewN | apply below_drew1) | exact HB.out)⟩⟩
                      · replace c12 := Bool.eq_false_iff.mpr c12
                        subst c12
                        have H1 : (if x3_1.length < 8796093022208 then (token_Runs.l0 k2 l0 (x3_1 ++ [(⟨x5_1, ji8⟩ : S33)]) ji8) else (none)) = some r := by rw [if_neg (show ¬ (false = true) by decide)] at H; exact H
                        clear H
                        have H := H1
                        clear H1
                        by_cases c13 : x3_1.length < 8796093022208
                        · rw [if_pos c13] at H
                          have LMc13 := Aside0.mk c13
                          clear c13
                          obtain ⟨y125, hy125⟩ : ∃ y_ : List (S33), y_ = (x3_1 ++ [(⟨x5_1, ji8⟩ : S33)]) := ⟨_, rfl⟩
                          replace H : (token_Runs.l0 k2 l0 y125 ji8) = some r := by first | (rw [hy125]; with_reducible exact H) | (have H2_ := (Option.bind_some _ _).symm.trans H; rw [hy125]; with_reducible exact H2_) | (have H2_ := (Option.bind_some _ _).symm.trans H; with_reducible exact H2_) | with_reducible exact H | (rw [hy125]; exact H) | exact H
                          have Ny125 := Aside0.mk hy125
                          clear hy125
                          have H' := Aside0.mk H
                          clear H
                          have hx_ := pw_cell_below HB.out HX.out
                          go_wp2_with (first | (go_at_call 39; (with_reducible refine (token_Runs_1.calls ji8 _ _ l0 false _ ?side1 ?side2 A5.out (pw_cell_below (by repeat (first | (with_reducible first | exact HB.out | apply below_alloc | apply pw_below_drewN | apply below_drew1) | exact HB.out)) HX.out)).mono ?_); (case side1 => repeat (first | exact (Kd.C_below HR0.out HB.out) | (with_reducible refine Kd.C_alloc ?_ _) | (with_reducible refine Kd.C_drewN ?_ _) | (with_reducible refine Kd.C_drew ?_))); (case side2 => exact HC0.out); rintro e w' ⟨rfl, ⟨nd, rfl⟩⟩; have p123 : 0 ≤ ((ji8) : Int) := of_decide_eq_true (by first | (with_reducible assumption) | assumption); have q123 : (ji8) < (l0.length : Int) := of_decide_eq_true (by first | (with_reducible assumption) | assumption); obtain ⟨ad123, e123, hx123_0, hx123_1, hx123_2⟩ := at_T53 HR0.out (ji8) p123 q123; cases e123; replace hx123_0 := (HB.out.cell (World.block_lt_of_cell? w1_ _ hx123_0)).trans hx123_0; replace hx123_1 := (HB.out.cell (World.block_lt_of_cell? w1_ _ hx123_1)).trans hx123_1; replace hx123_2 := (HB.out.cell (World.block_lt_of_cell? w1_ _ hx123_2)).trans hx123_2; replace p123 := eq_true p123; replace q123 := eq_true q123) | (go_at_call 39; (with_reducible refine (token_Runs_1.calls (wrap64 (x5_2 + 2)) _ _ l0 false _ ?side1 ?side2 A11.out (pw_cell_below (by repeat (first | (with_reducible first | exact HB.out | apply below_alloc | apply pw_below_drewN | apply below_drew1) | exact HB.out)) HX.out)).mono ?_); (case side1 => repeat (first | exact (Kd.C_below HR0.out (by repeat (first | (with_reducible first | exact HB.out | apply below_alloc | apply pw_below_drewN | apply below_drew1) | exact HB.out))) | (with_reducible refine Kd.C_alloc ?_ _) | (with_reducible refine Kd.C_drewN ?_ _) | (with_reducible refine Kd.C_drew ?_))); (case side2 => exact HC0.out); rintro e w' ⟨rfl, ⟨nd, rfl⟩⟩) | ((with_reducible refine gate_builtin (b := .append) (xs := #[.tmp 47, .tmp 52]) rfl ?_); (try (refine gate_guard (by rfl) ?_; dsimp only)); at_builtin; refine Kd.R_append k33 (w0 := w1_) w1_.heap.size rfl (.tmp 47) (.tmp 52) 39 33 (.agg #[(.int .i64 0), (.int .i64 0)]) 16 rfl Try.underlying39 info33 rfl (by decide) (by omega) u3 x3_1 (⟨x5_1, ji8⟩ : S33) [.int .i64 x5_1, .int .i64 ji8] (fun _ => True) (fun _ => False) rfl rfl ?aP (fun _ hk => hk.elim) ?aF ?aO ?aB ?aS ?aL ?_; (case aP => exact k33_mkM _ _ _ (⟨x5_1, ji8⟩ : S33)); (case aB => exact (by repeat (first | (with_reducible first | exact HB.out | apply below_alloc | apply pw_below_drewN | apply below_drew1) | exact HB.out))); (case aF => exact (fun _ _ => trivial)); (case aO => exact (by (with_reducible repeat (first | apply Kd.R_alloc | apply Kd.R_drewN | apply Kd.R_drew)); exact HO_3.out)); (case aS => exact (below_size (by repeat (first | (with_reducible first | exact HB.out | apply below_alloc | apply pw_below_drewN | apply below_drew1) | exact HB.out)))); (case aL => have := LMc13.out; omega); intro v126 w14 ho hb hg hat; rw [← Ny125.out] at ho; have n0_ := Aside0.mk (hb); have n1_ := Aside0.mk (ho); clear HB; clear HO_3; have HB := n0_; have HO127 := n1_; clear n0_ n1_; clear ho hb hg hat))
                          go_roundg k2
                          case measure => have := HK1.out; have := HK2.out; omega
                          case rel => exact ⟨(y125), (ji8), (by first | rfl | (simp; done) | (simp only [← hji8] <;> (first | rfl | simp)) | (simp [*]; done)), (by first | exact H' | (rw [hji8]; exact H') | (simp only [hji8]; exact H')), ⟨by have := HK1.out; have := HK2.out; omega⟩, ⟨by (with_reducible repeat (first | apply Kd.R_alloc | apply Kd.R_drewN | apply Kd.R_drew)); exact HO127.out⟩, ⟨by repeat (first | (with_reducible first | exact HB.out | apply below_alloc | apply pw_below_drewN | apply below_drew1) | exact HB.out)⟩⟩
                        · rw [if_neg c13] at H
                          exact absurd H (by simp)
                    · rw [if_neg c10] at H
                      have c10b0 : (((rd_T53 l0 (ji8)).f0) == 39) = false := beq_eq_false_iff_ne.mpr c10
                      have c10b1 : (((rd_T53 l0 (ji8)).f0) != 39) = true := bne_iff_ne.mpr c10
                      by_cases c15 : x3_1.length < 8796093022208
                      · rw [if_pos c15] at H
                        have LMc15 := Aside0.mk c15
                        clear c15
                        obtain ⟨y128, hy128⟩ : ∃ y_ : List (S33), y_ = (x3_1 ++ [(⟨x5_1, ji8⟩ : S33)]) := ⟨_, rfl⟩
                        replace H : (token_Runs.l0 k2 l0 y128 ji8) = some r := by first | (rw [hy128]; with_reducible exact H) | (have H2_ := (Option.bind_some _ _).symm.trans H; rw [hy128]; with_reducible exact H2_) | (have H2_ := (Option.bind_some _ _).symm.trans H; with_reducible exact H2_) | with_reducible exact H | (rw [hy128]; exact H) | exact H
                        have Ny128 := Aside0.mk hy128
                        clear hy128
                        have H' := Aside0.mk H
                        clear H
                        have hx_ := pw_cell_below HB.out HX.out
                        go_wp2_with (first | (go_at_call 39; (with_reducible refine (token_Runs_1.calls ji8 _ _ l0 false _ ?side1 ?side2 A5.out (pw_cell_below (by repeat (first | (with_reducible first | exact HB.out | apply below_alloc | apply pw_below_drewN | apply below_drew1) | exact HB.out)) HX.out)).mono ?_); (case side1 => repeat (first | exact (Kd.C_below HR0.out HB.out) | (with_reducible refine Kd.C_alloc ?_ _) | (with_reducible refine Kd.C_drewN ?_ _) | (with_reducible refine Kd.C_drew ?_))); (case side2 => exact HC0.out); rintro e w' ⟨rfl, ⟨nd, rfl⟩⟩; have p123 : 0 ≤ ((ji8) : Int) := of_decide_eq_true (by first | (with_reducible assumption) | assumption); have q123 : (ji8) < (l0.length : Int) := of_decide_eq_true (by first | (with_reducible assumption) | assumption); obtain ⟨ad123, e123, hx123_0, hx123_1, hx123_2⟩ := at_T53 HR0.out (ji8) p123 q123; cases e123; replace hx123_0 := (HB.out.cell (World.block_lt_of_cell? w1_ _ hx123_0)).trans hx123_0; replace hx123_1 := (HB.out.cell (World.block_lt_of_cell? w1_ _ hx123_1)).trans hx123_1; replace hx123_2 := (HB.out.cell (World.block_lt_of_cell? w1_ _ hx123_2)).trans hx123_2; replace p123 := eq_true p123; replace q123 := eq_true q123) | ((with_reducible refine gate_builtin (b := .append) (xs := #[.tmp 47, .tmp 52]) rfl ?_); (try (refine gate_guard (by rfl) ?_; dsimp only)); at_builtin; refine Kd.R_append k33 (w0 := w1_) w1_.heap.size rfl (.tmp 47) (.tmp 52) 39 33 (.agg #[(.int .i64 0), (.int .i64 0)]) 16 rfl Try.underlying39 info33 rfl (by decide) (by omega) u3 x3_1 (⟨x5_1, ji8⟩ : S33) [.int .i64 x5_1, .int .i64 ji8] (fun _ => True) (fun _ => False) rfl rfl ?aP (fun _ hk => hk.elim) ?aF ?aO ?aB ?aS ?aL ?_; (case aP => exact k33_mkM _ _ _ (⟨x5_1, ji8⟩ : S33)); (case aB => exact (by repeat (first | (with_reducible first | exact HB.out | apply below_alloc | apply pw_below_drewN | apply below_drew1) | exact HB.out))); (case aF => exact (fun _ _ => trivial)); (case aO => exact (by (with_reducible repeat (first | apply Kd.R_alloc | apply Kd.R_drewN | apply Kd.R_drew)); exact HO_3.out)); (case aS => exact (below_size (by repeat (first | (with_reducible first | exact HB.out | apply below_alloc | apply pw_below_drewN | apply below_drew1) | exact HB.out)))); (case aL => have := LMc15.out; omega); intro v129 w16 ho hb hg hat; rw [← Ny128.out] at ho; have n0_ := Aside0.mk (hb); have n1_ := Aside0.mk (ho); clear HB; clear HO_3; have HB := n0_; have HO130 := n1_; clear n0_ n1_; clear ho hb hg hat))
                        go_roundg k2
                        case measure => have := HK1.out; have := HK2.out; omega
                        case rel => exact ⟨(y128), (ji8), (by first | rfl | (simp; done) | (simp only [← hji8] <;> (first | rfl | simp)) | (simp [*]; done)), (by first | exact H' | (rw [hji8]; exact H') | (simp only [hji8]; exact H')), ⟨by have := HK1.out; have := HK2.out; omega⟩, ⟨by (with_reducible repeat (first | apply Kd.R_alloc | apply Kd.R_drewN | apply Kd.R_drew)); exact HO130.out⟩, ⟨by repeat (first | (with_reducible first | exact HB.out | apply below_alloc | apply pw_below_drewN | apply below_drew1) | exact HB.out)⟩⟩
                      · rw [if_neg c15] at H
                        exact absurd H (by simp)
                  · rw [if_neg c9] at H
                    exact absurd H (by simp)
                · rw [if_neg c7] at H
                  have c7b0 : decide ((wrap64 (x5_2 + 1)) < (l0.length : Int)) = false := decide_eq_false c7
                  clear c7
                  by_cases c17 : x3_1.length < 8796093022208
                  · rw [if_pos c17] at H
                    have LMc17 := Aside0.mk c17
                    clear c17
                    obtain ⟨y131, hy131⟩ : ∃ y_ : List (S33), y_ = (x3_1 ++ [(⟨x5_1, wrap64 (x5_2 + 1)⟩ : S33)]) := ⟨_, rfl⟩
                    replace H : (token_Runs.l0 k2 l0 y131 (wrap64 (x5_2 + 1))) = some r := by first | (rw [hy131]; with_reducible exact H) | (have H2_ := (Option.bind_some _ _).symm.trans H; rw [hy131]; with_reducible exact H2_) | (have H2_ := (Option.bind_some _ _).symm.trans H; with_reducible exact H2_) | with_reducible exact H | (rw [hy131]; exact H) | exact H
                    have Ny131 := Aside0.mk hy131
                    clear hy131
                    have H' := Aside0.mk H
                    clear H
                    have hx_ := pw_cell_below HB.out HX.out
                    go_wp2_with (first | (go_at_call 39; (with_reducible refine (token_Runs_1.calls (wrap64 (x5_2 + 1)) _ _ l0 false _ ?side1 ?side2 A5.out (pw_cell_below (by repeat (first | (with_reducible first | exact HB.out | apply below_alloc | apply pw_below_drewN | apply below_drew1) | exact HB.out)) HX.out)).mono ?_); (case side1 => repeat (first | exact (Kd.C_below HR0.out HB.out) | (with_reducible refine Kd.C_alloc ?_ _) | (with_reducible refine Kd.C_drewN ?_ _) | (with_reducible refine Kd.C_drew ?_))); (case side2 => exact HC0.out); rintro e w' ⟨rfl, ⟨nd, rfl⟩⟩) | ((with_reducible refine gate_builtin (b := .append) (xs := #[.tmp 47, .tmp 52]) rfl ?_); (try (refine gate_guard (by rfl) ?_; dsimp only)); at_builtin; refine Kd.R_append k33 (w0 := w1_) w1_.heap.size rfl (.tmp 47) (.tmp 52) 39 33 (.agg #[(.int .i64 0), (.int .i64 0)]) 16 rfl Try.underlying39 info33 rfl (by decide) (by omega) u3 x3_1 (⟨x5_1, wrap64 (x5_2 + 1)⟩ : S33) [.int .i64 x5_1, .int .i64 (wrap64 (x5_2 + 1))] (fun _ => True) (fun _ => False) rfl rfl ?aP (fun _ hk => hk.elim) ?aF ?aO ?aB ?aS ?aL ?_; (case aP => exact k33_mkM _ _ _ (⟨x5_1, wrap64 (x5_2 + 1)⟩ : S33)); (case aB => exact (by repeat (first | (with_reducible first | exact HB.out | apply below_alloc | apply pw_below_drewN | apply below_drew1) | exact HB.out))); (case aF => exact (fun _ _ => trivial)); (case aO => exact (by (with_reducible repeat (first | apply Kd.R_alloc | apply Kd.R_drewN | apply Kd.R_drew)); exact HO_3.out)); (case aS => exact (below_size (by repeat (first | (with_reducible first | exact HB.out | apply below_alloc | apply pw_below_drewN | apply below_drew1) | exact HB.out)))); (case aL => have := LMc17.out; omega); intro v132 w18 ho hb hg hat; rw [← Ny131.out] at ho; have n0_ := Aside0.mk (hb); have n1_ := Aside0.mk (ho); clear HB; clear HO_3; have HB := n0_; have HO133 := n1_; clear n0_ n1_; clear ho hb hg hat))
                    go_roundg k2
                    case measure => have := HK1.out; have := HK2.out; omega
                    case rel => exact ⟨(y131), (wrap64 (x5_2 + 1)), (by first | rfl | (simp; done) | (simp [*]; done)), H', ⟨by have := HK1.out; have := HK2.out; omega⟩, ⟨by (with_reducible repeat (first | apply Kd.R_alloc | apply Kd.R_drewN | apply Kd.R_drew)); exact HO133.out⟩, ⟨by repeat (first | (with_reducible first | exact HB.out | apply below_alloc | apply pw_below_drewN | apply below_drew1) | exact HB.out)⟩⟩
                  · rw [if_neg c17] at H
                    exact absurd H (by simp)
        · replace c4 := Bool.eq_false_iff.mpr c4
          subst c4
          have H1 : (token_Runs.l0 k1 l0 x3_1 (wrap64 (x5_1 + 1))) = some r := by rw [if_neg (show ¬ (false = true) by decide)] at H; exact H
          clear H
          have H := H1
          clear H1
          have H' := Aside0.mk H
          clear H
          have hx_ := pw_cell_below HB.out HX.out
          go_wp2_with (first | (go_at_call 39; (with_reducible refine (token_Runs_1.calls x5_1 _ _ l0 false _ ?side1 ?side2 A3.out (pw_cell_below (by repeat (first | (with_reducible first | exact HB.out | apply below_alloc | apply pw_below_drewN | apply below_drew1) | exact HB.out)) HX.out)).mono ?_); (case side1 => repeat (first | exact (Kd.C_below HR0.out HB.out) | (with_reducible refine Kd.C_alloc ?_ _) | (with_reducible refine Kd.C_drewN ?_ _) | (with_reducible refine Kd.C_drew ?_))); (case side2 => exact HC0.out); rintro e w' ⟨rfl, ⟨nd, rfl⟩⟩))
          go_roundg k1
          case measure => have := HK1.out; omega
          case rel => exact ⟨(x3_1), (wrap64 (x5_1 + 1)), (by first | rfl | (simp; done) | (simp [*]; done)), H', ⟨by have := HK1.out; omega⟩, ⟨by (with_reducible repeat (first | apply Kd.R_alloc | apply Kd.R_drewN | apply Kd.R_drew)); exact HO_3.out⟩, ⟨by repeat (first | (with_reducible first | exact HB.out | apply below_alloc | apply pw_below_drewN | apply below_drew1) | exact HB.out)⟩⟩
      · rw [if_neg c2] at H
        have c2b0 : decide (x5_1 < (l0.length : Int)) = false := decide_eq_false c2
        clear c2
        obtain rfl := Option.some.inj H
        have hx_ := pw_cell_below HB.out HX.out
        go_wp2
        go_ret
        exact ⟨_, by first | rfl | (simp [errW_none, errW_some] <;> rfl) | (simp [*, errW_none, errW_some] <;> rfl), by (with_reducible repeat (first | apply Kd.R_alloc | apply Kd.R_drewN | apply Kd.R_drew)); exact Kd.R_lower HO_3.out HBW.out.size, below_step HBW.out (by repeat (first | (with_reducible first | exact HB.out | apply below_alloc | apply pw_below_drewN | apply below_drew1) | exact HB.out))⟩


/-! ### fold_Great: function 15 -/
def fold_Great.f (a0 : Int) : Option (Bool) := (fold_great.f a0).bind fun t192 => (some t192)
set_option maxHeartbeats 8000000 in
set_option maxRecDepth 100000 in
theorem fold_Great.calls (a0 : Int) (r : Bool) (w : World) (h : fold_Great.f a0 = some r) :
  Calls Try.prog 15 #[.int .i32 a0] w fun e w' => e = .returned (.bool r) ∧ Drawn0 w w' := by
 have H : ((fold_great.f a0).bind fun t192 => (some t192)) = some r := h
 clear h
 replace H := Option.bind_eq_some_iff.mp H
 obtain ⟨t192, A20, H⟩ := H
 replace H : (some t192) = some r := H
 have A2 := Aside0.mk A20
 clear A20
 obtain rfl := Option.some.inj H
 go_enter Try.func15, Try.ntmps15
 go_wp2_with (first | ((with_reducible refine gate_callee (f := 35) rfl ?_); refine goesL_ (some 4) rfl rfl Try.func35 (by kernel_rfl) rfl #[.int .i32 a0] rfl (by (try simp only [List.map_toArray, List.map_cons, List.map_nil]); first | done | rfl | (simp only [List.length_drop, List.length_take]; rfl)) ?_; (with_reducible refine (fold_great.calls a0 t192 _ A2.out).mono ?_); rintro e w' ⟨rfl, ⟨nd, rfl⟩⟩; refine ⟨_, rfl, ?_⟩))
 go_ret
 exact ⟨by first | rfl | (simp; done) | (simp [*]; done), by repeat (first | exact Drawn0.refl _ | apply Drawn0.step)⟩

/-! ### fold_Small: function 16 -/
def fold_Small.f (a0 : Int) : Option (Bool) := (fold_small.f a0).bind fun t193 => (some t193)
set_option maxHeartbeats 8000000 in
set_option maxRecDepth 100000 in
theorem fold_Small.calls (a0 : Int) (r : Bool) (w : World) (h : fold_Small.f a0 = some r) :
  Calls Try.prog 16 #[.int .i32 a0] w fun e w' => e = .returned (.bool r) ∧ Drawn0 w w' := by
 have H : ((fold_small.f a0).bind fun t193 => (some t193)) = some r := h
 clear h
 replace H := Option.bind_eq_some_iff.mp H
 obtain ⟨t193, A20, H⟩ := H
 replace H : (some t193) = some r := H
 have A2 := Aside0.mk A20
 clear A20
 obtain rfl := Option.some.inj H
 go_enter Try.func16, Try.ntmps16
 go_wp2_with (first | ((with_reducible refine gate_callee (f := 36) rfl ?_); refine goesL_ (some 4) rfl rfl Try.func36 (by kernel_rfl) rfl #[.int .i32 a0] rfl (by (try simp only [List.map_toArray, List.map_cons, List.map_nil]); first | done | rfl | (simp only [List.length_drop, List.length_take]; rfl)) ?_; (with_reducible refine (fold_small.calls a0 t193 _ A2.out).mono ?_); rintro e w' ⟨rfl, ⟨nd, rfl⟩⟩; refine ⟨_, rfl, ?_⟩))
 go_ret
 exact ⟨by first | rfl | (simp; done) | (simp [*]; done), by repeat (first | exact Drawn0.refl _ | apply Drawn0.step)⟩

end Go.Proofs.Ytmnohlmdckcdeaa.PTokenCases
