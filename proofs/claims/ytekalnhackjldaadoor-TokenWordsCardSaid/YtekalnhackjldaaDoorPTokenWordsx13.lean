-- Laid by a program of ours (the kit's print with words and contracts of our own beside it).
import Derived.Test.YtekalnhackjldaaDoorPTokenWordsx0
import Derived.Test.YtekalnhackjldaaDoorXSq
import Derived.Test.YtekalnhackjldaaDoorPTokenWordsx12
namespace Go.Proofs.YtekalnhackjldaaDoor.PTokenWords
open Go.RowKit Go.Proofs.YtekalnhackjldaaDoor.X Go.Proofs.YtekalnhackjldaaDoorW.PrintWords Go.Proofs.YtekalnhackjldaaDoorW.PrintLast Go.Proofs.YtekalnhackjldaaDoorW.PrintMore
attribute [local go_sem] max2_int min2_int max_two min_two max_three min_three max_four min_four   -- for this text's walks alone
set_option linter.unusedVariables false
set_option linter.unusedSimpArgs false

/-! ### redpenref15_Literal: function 24 -/
def redpenref15_Literal.f (k : Nat) (l0 : List Int) (l1 : List (S45)) : Option (Bool) := if (l1.length : Int) = 0 then (some true) else (if 0 < (l1.length : Int) then (if 0 ≤ (wrap64 ((l1.length : Int) - 1)) then (if (wrap64 ((l1.length : Int) - 1)) < (l1.length : Int) then (if ((rd_T45 l1 0).f1.f0) ≥ 0 then (if ((rd_T45 l1 0).f1.f0) ≤ (wrap64 (((rd_T45 l1 (wrap64 ((l1.length : Int) - 1))).f1.f0) + ((rd_T45 l1 (wrap64 ((l1.length : Int) - 1))).f1.f1))) then (if (wrap64 (((rd_T45 l1 (wrap64 ((l1.length : Int) - 1))).f1.f0) + ((rd_T45 l1 (wrap64 ((l1.length : Int) - 1))).f1.f1))) ≤ (l0.length : Int) then (if 0 ≤ ((rd_T45 l1 0).f1.f0) then ((redpenref15_Text.f k l1).bind fun t316 => (some ((strOfNums ((l0.take ((wrap64 (((rd_T45 l1 (wrap64 ((l1.length : Int) - 1))).f1.f0) + ((rd_T45 l1 (wrap64 ((l1.length : Int) - 1))).f1.f1))) : Int).toNat).drop (((rd_T45 l1 0).f1.f0) : Int).toNat)).toList == t316.toList))) else (none)) else (some false)) else (some false)) else (some false)) else (none)) else (none)) else (none))
theorem redpenref15_Literal.mono : ∀ a0 a1 k, LeO (redpenref15_Literal.f k a0 a1) (redpenref15_Literal.f (k + 1) a0 a1) := by
 intro a0 a1 k
 unfold redpenref15_Literal.f
 repeat' first
   | (with_reducible exact redpenref15_Text.mono _ _)
   | (with_reducible exact LeO.refl _)
   | (with_reducible exact LeO.none _)
   | (with_reducible refine LeO.ite ?_ ?_)
   | (with_reducible refine LeO.bind ?_ (fun _ => ?_))
def redpenref15_Literal.T4 : Bool × List (List Nat × List Nat) := (true, [([], []), ([], []), ([1], [1]), ([2], [2]), ([0, 3], [0, 3]), ([4], [4]), ([5], [5]), ([6], [6]), ([], []), ([], []), ([9], [9]), ([10], [10]), ([8, 11], [8, 11]), ([12], [12]), ([13], [13]), ([14], [14]), ([7, 15], [7, 15]), ([16, 0, 1, 2, 3, 4, 5, 6, 7, 8, 9, 10, 11, 12, 13, 14, 15, 16], [16])])
def redpenref15_Literal.B4 : List Nat := [0, 0, 2, 6, 15, 31, 63, 127, 0, 0, 512, 1536, 3840, 7936, 16128, 32512, 65535, 131071]
theorem redpenref15_Literal.tab4 : rtab .any (opsOf Tryd.f24 4) = redpenref15_Literal.T4 := by kernel_rfl
theorem redpenref15_Literal.bits4 : waitsOk redpenref15_Literal.T4.2 redpenref15_Literal.B4 = true := by kernel_rfl
def redpenref15_Literal.T5 : Bool × List (List Nat × List Nat) := (true, [([], []), ([0], [0]), ([1], [1]), ([2], [2]), ([2], [2]), ([3, 4, 2], [2, 3, 4]), ([2, 5], [2, 5]), ([6, 2], [6]), ([7], [7]), ([7], [7]), ([9, 7], [7, 9]), ([8, 10, 7], [7, 8, 10]), ([7, 11], [7, 11]), ([12, 7], [12]), ([13], [13]), ([13], [13]), ([13], [13]), ([14, 15, 16, 13], [13, 14, 15, 16]), ([17, 13], [13, 17]), ([13], [13]), ([19, 13, 13], [13, 19]), ([18, 20, 13], [13, 18, 20]), ([13, 21], [13, 21]), ([22, 20, 0, 1, 2, 3, 4, 5, 6, 7, 8, 9, 10, 11, 12, 13, 14, 15, 16, 17, 18, 19, 20, 21, 22], [22])])
def redpenref15_Literal.B5 : List Nat := [0, 1, 3, 7, 7, 31, 63, 127, 255, 255, 767, 2047, 4095, 8191, 16383, 16383, 16383, 131071, 262143, 16383, 540671, 2097151, 4194303, 8388607]
theorem redpenref15_Literal.tab5 : rtab .any (opsOf Tryd.f24 5) = redpenref15_Literal.T5 := by kernel_rfl
theorem redpenref15_Literal.bits5 : waitsOk redpenref15_Literal.T5.2 redpenref15_Literal.B5 = true := by kernel_rfl
set_option maxHeartbeats 8000000 in
set_option maxRecDepth 100000 in
theorem redpenref15_Literal.calls (k : Nat) (A0 : Option Addr) (c0 : Nat) (l0 : List Int) (A1 : Option Addr) (c1 : Nat) (l1 : List (S45)) (r : Bool) (w : World) (hr0 : Kd.C (Kd.int .u8) w A0 l0.length l0) (hc0 : l0.length ≤ c0) (hr1 : Kd.C k45 w A1 l1.length l1) (hc1 : l1.length ≤ c1) (h : redpenref15_Literal.f k l0 l1 = some r) :
  Calls Tryd.prog 24 #[.slice A0 l0.length c0, .slice A1 l1.length c1] w fun e w' => e = .returned (.bool r) ∧ Below w.heap.size w w' := by
 have HR0 := Aside0.mk hr0
 have HC0 := Aside0.mk hc0
 clear hr0 hc0
 have HR1 := Aside0.mk hr1
 have HC1 := Aside0.mk hc1
 clear hr1 hc1
 have HB := Aside0.mk (Below.refl w.heap.size w)
 have H : (if (l1.length : Int) = 0 then (some true) else (if 0 < (l1.length : Int) then (if 0 ≤ (wrap64 ((l1.length : Int) - 1)) then (if (wrap64 ((l1.length : Int) - 1)) < (l1.length : Int) then (if ((rd_T45 l1 0).f1.f0) ≥ 0 then (if ((rd_T45 l1 0).f1.f0) ≤ (wrap64 (((rd_T45 l1 (wrap64 ((l1.length : Int) - 1))).f1.f0) + ((rd_T45 l1 (wrap64 ((l1.length : Int) - 1))).f1.f1))) then (if (wrap64 (((rd_T45 l1 (wrap64 ((l1.length : Int) - 1))).f1.f0) + ((rd_T45 l1 (wrap64 ((l1.length : Int) - 1))).f1.f1))) ≤ (l0.length : Int) then (if 0 ≤ ((rd_T45 l1 0).f1.f0) then ((redpenref15_Text.f k l1).bind fun t316 => (some ((strOfNums ((l0.take ((wrap64 (((rd_T45 l1 (wrap64 ((l1.length : Int) - 1))).f1.f0) + ((rd_T45 l1 (wrap64 ((l1.length : Int) - 1))).f1.f1))) : Int).toNat).drop (((rd_T45 l1 0).f1.f0) : Int).toNat)).toList == t316.toList))) else (none)) else (some false)) else (some false)) else (some false)) else (none)) else (none)) else (none))) = some r := h
 clear h
 by_cases c3 : (l1.length : Int) = 0
 ·rw [if_pos c3] at H
  have c3b0 : ((l1.length : Int) == 0) = true := beq_iff_eq.mpr c3
  have c3b1 : ((l1.length : Int) != 0) = false := bne_eq_false_iff_eq.mpr c3
  clear c3
  obtain rfl := Option.some.inj H
  go_enter Tryd.func24, Tryd.ntmps24
  go_wp2
  go_ret
  exact ⟨by first | rfl | (simp [errW_none, errW_some] <;> rfl) | (simp [*, errW_none, errW_some] <;> rfl), by repeat (first | (with_reducible first | exact HB.out | apply below_alloc | apply pw_below_drewN | apply below_drew1) | exact HB.out)⟩
 ·rw [if_neg c3] at H
  have c3b0 : ((l1.length : Int) == 0) = false := beq_eq_false_iff_ne.mpr c3
  have c3b1 : ((l1.length : Int) != 0) = true := bne_iff_ne.mpr c3
  have c3b2 : ¬ (l1 = []) := fun h_ => c3 (by rw [h_]; rfl)
  by_cases c4 : 0 < (l1.length : Int)
  ·rw [if_pos c4] at H
   have c4b0 : decide (0 < (l1.length : Int)) = true := decide_eq_true c4
   have c4b1 : decide (0 < l1.length) = true := decide_eq_true (by omega)
   clear c4
   obtain ⟨ji5, hji5⟩ : ∃ j_ : Int, (wrap64 ((l1.length : Int) - 1)) = j_ := ⟨_, rfl⟩
   replace H : (if 0 ≤ (ji5) then (if (ji5) < (l1.length : Int) then (if ((rd_T45 l1 0).f1.f0) ≥ 0 then (if ((rd_T45 l1 0).f1.f0) ≤ (wrap64 (((rd_T45 l1 (ji5)).f1.f0) + ((rd_T45 l1 (ji5)).f1.f1))) then (if (wrap64 (((rd_T45 l1 (ji5)).f1.f0) + ((rd_T45 l1 (ji5)).f1.f1))) ≤ (l0.length : Int) then (if 0 ≤ ((rd_T45 l1 0).f1.f0) then ((redpenref15_Text.f k l1).bind fun t316 => (some ((strOfNums ((l0.take ((wrap64 (((rd_T45 l1 (ji5)).f1.f0) + ((rd_T45 l1 (ji5)).f1.f1))) : Int).toNat).drop (((rd_T45 l1 0).f1.f0) : Int).toNat)).toList == t316.toList))) else (none)) else (some false)) else (some false)) else (some false)) else (none)) else (none)) = some r := by first | (rw [hji5] at H; exact H) | (simp only [hji5] at H ⊢; exact H)
   have hji5w : (IntKind.i64.wrap ((l1.length : Int) - 1)) = ji5 := (i64_w _).trans hji5
   by_cases c6 : 0 ≤ (ji5)
   ·rw [if_pos c6] at H
    have c6b0 : decide (0 ≤ (ji5)) = true := decide_eq_true c6
    clear c6
    by_cases c7 : (ji5) < (l1.length : Int)
    ·rw [if_pos c7] at H
     have c7b0 : decide ((ji5) < (l1.length : Int)) = true := decide_eq_true c7
     clear c7
     by_cases c8 : ((rd_T45 l1 0).f1.f0) ≥ 0
     ·rw [if_pos c8] at H
      have c8b0 : decide (0 ≤ ((rd_T45 l1 0).f1.f0)) = true := decide_eq_true c8
      clear c8
      by_cases c9 : ((rd_T45 l1 0).f1.f0) ≤ (wrap64 (((rd_T45 l1 (ji5)).f1.f0) + ((rd_T45 l1 (ji5)).f1.f1)))
      ·rw [if_pos c9] at H
       have c9b0 : decide (((rd_T45 l1 0).f1.f0) ≤ (wrap64 (((rd_T45 l1 (ji5)).f1.f0) + ((rd_T45 l1 (ji5)).f1.f1)))) = true := decide_eq_true c9
       clear c9
       by_cases c10 : (wrap64 (((rd_T45 l1 (ji5)).f1.f0) + ((rd_T45 l1 (ji5)).f1.f1))) ≤ (l0.length : Int)
       ·rw [if_pos c10] at H
        have c10b0 : decide ((wrap64 (((rd_T45 l1 (ji5)).f1.f0) + ((rd_T45 l1 (ji5)).f1.f1))) ≤ (l0.length : Int)) = true := decide_eq_true c10
        clear c10
        by_cases c11 : 0 ≤ ((rd_T45 l1 0).f1.f0)
        ·rw [if_pos c11] at H
         have c11b0 := eq_true c11
         have c11b1 : decide (0 ≤ ((rd_T45 l1 0).f1.f0)) = true := decide_eq_true c11
         clear c11
         have c12b0 := eq_true (of_decide_eq_true (by first | (with_reducible assumption) | assumption) : ((rd_T45 l1 0).f1.f0) ≤ (wrap64 (((rd_T45 l1 (ji5)).f1.f0) + ((rd_T45 l1 (ji5)).f1.f1))))
         have c13b0 := eq_true (of_decide_eq_true (by first | (with_reducible assumption) | assumption) : (wrap64 (((rd_T45 l1 (ji5)).f1.f0) + ((rd_T45 l1 (ji5)).f1.f1))) ≤ (l0.length : Int))
         obtain ⟨y312, hy312⟩ : ∃ y_ : List Int, y_ = ((l0.take ((wrap64 (((rd_T45 l1 (ji5)).f1.f0) + ((rd_T45 l1 (ji5)).f1.f1))) : Int).toNat).drop (((rd_T45 l1 0).f1.f0) : Int).toNat) := ⟨_, rfl⟩
         replace H : ((redpenref15_Text.f k l1).bind fun t316 => (some ((strOfNums y312).toList == t316.toList))) = some r := by first | (rw [hy312]; with_reducible exact H) | (have H2_ := (Option.bind_some _ _).symm.trans H; rw [hy312]; with_reducible exact H2_) | (have H2_ := (Option.bind_some _ _).symm.trans H; with_reducible exact H2_) | with_reducible exact H | (rw [hy312]; exact H) | exact H
         have Ny312 := Aside0.mk hy312
         clear hy312
         replace H := Option.bind_eq_some_iff.mp H
         obtain ⟨t316, A140, H⟩ := H
         replace H : (some ((strOfNums y312).toList == t316.toList)) = some r := H
         have A14 := Aside0.mk A140
         clear A140
         obtain rfl := Option.some.inj H
         have p309 : 0 ≤ (0 : Int) := (by omega)
         have q309 : 0 < (l1.length : Int) := of_decide_eq_true (by first | (with_reducible assumption) | assumption)
         obtain ⟨ad309, e309, hx309_0, hx309_1, hx309_2⟩ := at_T45 HR1.out 0 p309 q309
         cases e309
         have qi309 : (0 < l1.length) = True := eq_true (by omega)
         (try rw [show ((0 : Int)).toNat = 0 from rfl] at hx309_0)
         (try rw [show 0 * 3 = 0 from rfl] at hx309_0)
         (try rw [Addr.add_zero'] at hx309_0)
         (try rw [show ((0 : Int)).toNat = 0 from rfl] at hx309_1)
         (try rw [show 0 * 3 = 0 from rfl] at hx309_1)
         (try rw [Addr.add_zero'] at hx309_1)
         (try rw [show ((0 : Int)).toNat = 0 from rfl] at hx309_2)
         (try rw [show 0 * 3 = 0 from rfl] at hx309_2)
         (try rw [Addr.add_zero'] at hx309_2)
         replace p309 := eq_true p309
         replace q309 := eq_true q309
         go_enter Tryd.func24, Tryd.ntmps24
         try go_wp2
         have n0_ := Aside0.mk (below_drew1 HB.out)
         clear HB
         have HB := n0_
         clear n0_
         have p310 : 0 ≤ ((ji5) : Int) := of_decide_eq_true (by first | (with_reducible assumption) | assumption)
         have q310 : (ji5) < (l1.length : Int) := of_decide_eq_true (by first | (with_reducible assumption) | assumption)
         obtain ⟨ad310, e310, hx310_0, hx310_1, hx310_2⟩ := at_T45 HR1.out (ji5) p310 q310
         have hw310_2 := hx310_2
         have hw310_1 := hx310_1
         have hw310_0 := hx310_0
         obtain rfl : ad309 = ad310 := (by injection e310)
         replace hx310_0 := (HB.out.cell (World.block_lt_of_cell? w _ hx310_0)).trans hx310_0
         replace hx310_1 := (HB.out.cell (World.block_lt_of_cell? w _ hx310_1)).trans hx310_1
         replace hx310_2 := (HB.out.cell (World.block_lt_of_cell? w _ hx310_2)).trans hx310_2
         replace p310 := eq_true p310
         replace q310 := eq_true q310
         have p311 : 0 ≤ ((ji5) : Int) := of_decide_eq_true (by first | (with_reducible assumption) | assumption)
         have q311 : (ji5) < (l1.length : Int) := of_decide_eq_true (by first | (with_reducible assumption) | assumption)
         obtain ⟨ad311, e311, hx311_0, hx311_1, hx311_2⟩ := at_T45 HR1.out (ji5) p311 q311
         have hw311_2 := hx311_2
         have hw311_1 := hx311_1
         have hw311_0 := hx311_0
         obtain rfl : ad309 = ad311 := (by injection e311)
         replace hx311_0 := (HB.out.cell (World.block_lt_of_cell? w _ hx311_0)).trans hx311_0
         replace hx311_1 := (HB.out.cell (World.block_lt_of_cell? w _ hx311_1)).trans hx311_1
         replace hx311_2 := (HB.out.cell (World.block_lt_of_cell? w _ hx311_2)).trans hx311_2
         replace p311 := eq_true p311
         replace q311 := eq_true q311
         refine start_ (n := 18) (S := fun w' => w'.cell? (ad309.add (((ji5)).toNat * 3)) = some (.int .i32 ((rd_T45 l1 (ji5)).f0)) ∧ w'.cell? ⟨(ad309.add (((ji5)).toNat * 3)).block, (ad309.add (((ji5)).toNat * 3)).off + 1, none⟩ = some (.int .i64 ((rd_T45 l1 (ji5)).f1.f0)) ∧ w'.cell? ⟨(ad309.add (((ji5)).toNat * 3)).block, (ad309.add (((ji5)).toNat * 3)).off + 2, none⟩ = some (.int .i64 ((rd_T45 l1 (ji5)).f1.f1)) ∧ w'.cell? (ad309.add (((ji5)).toNat * 3)) = some (.int .i32 ((rd_T45 l1 (ji5)).f0)) ∧ w'.cell? ⟨(ad309.add (((ji5)).toNat * 3)).block, (ad309.add (((ji5)).toNat * 3)).off + 1, none⟩ = some (.int .i64 ((rd_T45 l1 (ji5)).f1.f0)) ∧ w'.cell? ⟨(ad309.add (((ji5)).toNat * 3)).block, (ad309.add (((ji5)).toNat * 3)).off + 2, none⟩ = some (.int .i64 ((rd_T45 l1 (ji5)).f1.f1))) (ds := []) (bs 18 0) (by kernel_rfl) rfl rfl ⟨((HB.out.cell (World.block_lt_of_cell? w _ hw310_0)).trans hw310_0), ((HB.out.cell (World.block_lt_of_cell? w _ hw310_1)).trans hw310_1), ((HB.out.cell (World.block_lt_of_cell? w _ hw310_2)).trans hw310_2), ((HB.out.cell (World.block_lt_of_cell? w _ hw311_0)).trans hw311_0), ((HB.out.cell (World.block_lt_of_cell? w _ hw311_1)).trans hw311_1), ((HB.out.cell (World.block_lt_of_cell? w _ hw311_2)).trans hw311_2)⟩ (fun hHeld => ?_); refine with_tabW redpenref15_Literal.tab4 redpenref15_Literal.bits4 (fun HT_ HW_ => ?_)
         generalize w.drew = w15 at HB hx310_0 hx310_1 hx310_2 hx311_0 hx311_1 hx311_2 hHeld ⊢
         refine pu_ 0 (some 15) ?_ (bs 18 1) HT_.out (by kernel_rfl) rfl rfl (fun _ _ _ h => h) (Or.inl ⟨by rfl, ?_⟩) ?_ ?_ ?_; rotate_left; (· intro w'; go_simp; with_reducible rfl); rotate_left; (· simp only [Act.put, sit, scz, scs, i64_w, i32_w]; rfl)
         refine pu_ 1 (some 16) ?_ (bs 18 3) HT_.out (by kernel_rfl) rfl rfl (fun _ _ _ h => h) (Or.inl ⟨by rfl, ?_⟩) ?_ ?_ ?_; rotate_left; (· intro w'; go_simp; with_reducible rfl); rotate_left; (· simp only [Act.put, sit, scz, scs, i64_w, i32_w]; rfl)
         refine pu_ 2 (some 17) ?_ (bs 18 7) HT_.out (by kernel_rfl) rfl rfl (fun _ _ _ h => h) (Or.inl ⟨by rfl, ?_⟩) ?_ ?_ ?_; rotate_left; (· intro w'; go_simp; with_reducible rfl); rotate_left; (· simp only [Act.put, sit, scz, scs, i64_w, i32_w]; rfl)
         refine pu_ 3 (some 18) ?_ (bs 18 15) HT_.out (by kernel_rfl) rfl rfl (fun _ _ _ h => h) (Or.inl ⟨by rfl, ?_⟩) ?_ ?_ ?_; rotate_left; (· intro w'; go_simp; with_reducible rfl); rotate_left; (· simp only [Act.put, sit, scz, scs, i64_w, i32_w]; rfl)
         refine pu_ 4 (some 19) ?_ (bs 18 31) HT_.out (by kernel_rfl) rfl rfl (fun _ _ _ h => h) (Or.inl ⟨by rfl, ?_⟩) ?_ ?_ ?_; rotate_left; (· intro w'; go_simp; with_reducible rfl); rotate_left; (· simp only [Act.put, sit, scz, scs, i64_w, i32_w]; rfl)
         refine pu_ 5 (some 20) ?_ (bs 18 63) HT_.out (by kernel_rfl) rfl rfl (fun _ _ _ h => h) (Or.inl ⟨by rfl, ?_⟩) ?_ ?_ ?_; rotate_left; (· intro w'; go_simp; with_reducible rfl); rotate_left; (· simp only [Act.put, sit, scz, scs, i64_w, i32_w]; rfl)
         refine pu_ 6 (some 21) ?_ (bs 18 127) HT_.out (by kernel_rfl) rfl rfl (fun _ _ _ h => h) (Or.inl ⟨by rfl, ?_⟩) ?_ ?_ ?_; rotate_left; (· intro w'; go_simp; with_reducible rfl); rotate_left; (· simp only [Act.put, sit, scz, scs, i64_w, i32_w]; rfl)
         refine pu_ 8 (some 23) ?_ (bs 18 383) HT_.out (by kernel_rfl) rfl rfl (fun _ _ _ h => h) (Or.inl ⟨by rfl, ?_⟩) ?_ ?_ ?_; rotate_left; (· intro w'; go_simp; with_reducible rfl); rotate_left; (· simp only [Act.put, sit, scz, scs, i64_w, i32_w]; rfl)
         refine pu_ 9 (some 24) ?_ (bs 18 895) HT_.out (by kernel_rfl) rfl rfl (fun _ _ _ h => h) (Or.inl ⟨by rfl, ?_⟩) ?_ ?_ ?_; rotate_left; (· intro w'; go_simp; with_reducible rfl); rotate_left; (· simp only [Act.put, sit, scz, scs, i64_w, i32_w]; rfl)
         refine pu_ 10 (some 25) ?_ (bs 18 1919) HT_.out (by kernel_rfl) rfl rfl (fun _ _ _ h => h) (Or.inl ⟨by rfl, ?_⟩) ?_ ?_ ?_; rotate_left; (· intro w'; go_simp; with_reducible rfl); rotate_left; (· simp only [Act.put, sit, scz, scs, i64_w, i32_w]; rfl)
         refine pu_ 11 (some 26) ?_ (bs 18 3967) HT_.out (by kernel_rfl) rfl rfl (fun _ _ _ h => h) (Or.inl ⟨by rfl, ?_⟩) ?_ ?_ ?_; rotate_left; (· intro w'; go_simp; with_reducible rfl); rotate_left; (· simp only [Act.put, sit, scz, scs, i64_w, i32_w]; rfl)
         refine pu_ 12 (some 27) ?_ (bs 18 8063) HT_.out (by kernel_rfl) rfl rfl (fun _ _ _ h => h) (Or.inl ⟨by rfl, ?_⟩) ?_ ?_ ?_; rotate_left; (· intro w'; go_simp; with_reducible rfl); rotate_left; (· simp only [Act.put, sit, scz, scs, i64_w, i32_w]; rfl)
         refine pu_ 13 (some 28) ?_ (bs 18 16255) HT_.out (by kernel_rfl) rfl rfl (fun _ _ _ h => h) (Or.inl ⟨by rfl, ?_⟩) ?_ ?_ ?_; rotate_left; (· intro w'; go_simp; with_reducible rfl); rotate_left; (· simp only [Act.put, sit, scz, scs, i64_w, i32_w]; rfl)
         refine pu_ 14 (some 29) ?_ (bs 18 32639) HT_.out (by kernel_rfl) rfl rfl (fun _ _ _ h => h) (Or.inl ⟨by rfl, ?_⟩) ?_ ?_ ?_; rotate_left; (· intro w'; go_simp; with_reducible rfl); rotate_left; (· simp only [Act.put, sit, scz, scs, i64_w, i32_w]; rfl)
         refine take_ (i := 7) (N := some 22) (v := ?_) (a' := ?_) (bs 18 32767) rfl rfl (take_ofW HT_.out HW_.out (by kernel_rfl)) (fun _ _ _ h => h) (Or.inl ⟨by rfl, ?_⟩) hHeld ?_ ?_; rotate_left; (· rintro w' ⟨s0, s1, s2, s3, s4, s5⟩; go_simp; with_reducible rfl); rotate_left; (· simp only [Act.put, sit, scz, scs, i64_w, i32_w]; rfl)
         refine take_ (i := 15) (N := some 30) (v := ?_) (a' := ?_) (bs 18 65535) rfl rfl (take_ofW HT_.out HW_.out (by kernel_rfl)) (fun _ _ _ h => h) (Or.inl ⟨by rfl, ?_⟩) hHeld ?_ ?_; rotate_left; (· rintro w' ⟨s0, s1, s2, s3, s4, s5⟩; go_simp; with_reducible rfl); rotate_left; (· simp only [Act.put, sit, scz, scs, i64_w, i32_w]; rfl)
         refine pu_ 16 (some 31) ?_ (bs 18 131071) HT_.out (by kernel_rfl) rfl rfl (fun _ _ _ h => h) (Or.inl ⟨by rfl, ?_⟩) ?_ ?_ ?_; rotate_left; (· intro w'; go_simp; with_reducible rfl); rotate_left; (· simp only [Act.put, sit, scz, scs, i64_w, i32_w]; rfl)
         refine pu_ 17 (some 6) ?_ (bs 18 262143) HT_.out (by kernel_rfl) rfl rfl (fun _ _ _ h => h) (Or.inl ⟨by rfl, ?_⟩) ?_ ?_ ?_; rotate_left; (· intro w'; go_simp; with_reducible rfl); rotate_left; (· simp only [Act.put, sit, scz, scs, i64_w, i32_w]; rfl)
         refine done_ (done_of HT_.out (by kernel_rfl)) ?_
         try go_wp2
         have n0_ := Aside0.mk (below_drew1 HB.out)
         clear HB
         have HB := n0_
         clear n0_
         have q17 : ((wrap64 (((rd_T45 l1 (ji5)).f1.f0) + ((rd_T45 l1 (ji5)).f1.f1))) : Int) ≤ ((l0.length : Int) : Int) := of_decide_eq_true (by first | (with_reducible assumption) | assumption)
         obtain ⟨i017, hi017, _, hsz17, _⟩ := info_parts info5
         have hroom17 : l0.length ≤ c0 := HC0.out
         have hC17 : Kd.C (Kd.int .u8) _ A0 l0.length l0 := HR0.out
         have ql17 : (((rd_T45 l1 0).f1.f0) : Int) ≤ ((wrap64 (((rd_T45 l1 (ji5)).f1.f0) + ((rd_T45 l1 (ji5)).f1.f1))) : Int) := of_decide_eq_true (by first | (with_reducible assumption) | assumption)
         have q017 : (0 : Int) ≤ (((rd_T45 l1 0).f1.f0) : Int) := of_decide_eq_true (by first | (with_reducible assumption) | assumption)
         have hcut17 := cut_mid (P := Tryd.prog) 22 5 .i64 .i64 Tryd.underlying22 hi017 1 hsz17 A0 l0.length c0 ((rd_T45 l1 0).f1.f0) (wrap64 (((rd_T45 l1 (ji5)).f1.f0) + ((rd_T45 l1 (ji5)).f1.f1))) q017 ql17 q17 hroom17
         have hr17 := Kd.C_mid (lo := (((rd_T45 l1 0).f1.f0) : Int).toNat) (hi := ((wrap64 (((rd_T45 l1 (ji5)).f1.f0) + ((rd_T45 l1 (ji5)).f1.f1))) : Int).toNat) (c := c0) hC17 (by omega) (by omega) hroom17
         obtain ⟨A17, hA17⟩ : ∃ A1z_, A1z_ = (if c0 = (((rd_T45 l1 0).f1.f0) : Int).toNat then A0 else (A0 : Option Addr).map (·.add ((((rd_T45 l1 0).f1.f0) : Int).toNat * 1))) := ⟨_, rfl⟩
         obtain ⟨c17, hc17⟩ : ∃ c1z_, c1z_ = c0 - (((rd_T45 l1 0).f1.f0) : Int).toNat := ⟨_, rfl⟩
         have hy17 : y312.length = ((wrap64 (((rd_T45 l1 (ji5)).f1.f0) + ((rd_T45 l1 (ji5)).f1.f1))) : Int).toNat - (((rd_T45 l1 0).f1.f0) : Int).toNat := (by rw [Ny312.out, List.length_drop, List.length_take] <;> omega)
         rw [show ((l0).take ((wrap64 (((rd_T45 l1 (ji5)).f1.f0) + ((rd_T45 l1 (ji5)).f1.f1))) : Int).toNat).drop (((rd_T45 l1 0).f1.f0) : Int).toNat = y312 from Ny312.out.symm] at hr17
         replace hr17 : Kd.C (Kd.int .u8) _ A17 y312.length y312 := (by rw [hA17]; exact hr17)
         rw [← hy17, ← hA17, ← hc17] at hcut17
         have HR315 := Aside0.mk hr17
         have HC315 := Aside0.mk (show y312.length ≤ c17 from by rw [hy17, hc17]; exact Nat.sub_le_sub_right (Nat.le_trans (by omega) hroom17) _)
         clear hr17 hC17 hroom17 hi017 hsz17 hc17
         have KY17 := Aside0.mk hy17
         have KA17 := Aside0.mk hA17
         clear hy17 hA17
         replace q17 := eq_true q17
         refine start_ (n := 24) (S := fun w' => True) (ds := []) (bs 24 0) (by kernel_rfl) rfl rfl trivial (fun hHeld => ?_); refine with_tabW redpenref15_Literal.tab5 redpenref15_Literal.bits5 (fun HT_ HW_ => ?_)
         generalize w15.drew = w16 at HB HR315 hHeld ⊢
         refine pu_ 0 (some 32) ?_ (bs 24 1) HT_.out (by kernel_rfl) rfl rfl (fun _ _ _ h => h) (Or.inl ⟨by rfl, ?_⟩) ?_ ?_ ?_; rotate_left; (· intro w'; go_simp; with_reducible rfl); rotate_left; (· simp only [Act.put, sit, scz, scs, i64_w, i32_w]; rfl)
         refine pu_ 1 (some 33) ?_ (bs 24 3) HT_.out (by kernel_rfl) rfl rfl (fun _ _ _ h => h) (Or.inl ⟨by rfl, ?_⟩) ?_ ?_ ?_; rotate_left; (· intro w'; go_simp; with_reducible rfl); rotate_left; (· simp only [Act.put, sit, scz, scs, i64_w, i32_w]; rfl)
         refine pu_ 2 (some 34) ?_ (bs 24 7) HT_.out (by kernel_rfl) rfl rfl (fun _ _ _ h => h) (Or.inl ⟨by rfl, ?_⟩) ?_ ?_ ?_; rotate_left; (· intro w'; go_simp; with_reducible rfl); rotate_left; (· simp only [Act.put, sit, scz, scs, i64_w, i32_w]; rfl)
         refine pu_ 3 (some 35) ?_ (bs 24 15) HT_.out (by kernel_rfl) rfl rfl (fun _ _ _ h => h) (Or.inl ⟨by rfl, ?_⟩) ?_ ?_ ?_; rotate_left; (· intro w'; go_simp; with_reducible rfl); rotate_left; (· simp only [Act.put, sit, scz, scs, i64_w, i32_w]; rfl)
         refine pu_ 4 (some 36) ?_ (bs 24 31) HT_.out (by kernel_rfl) rfl rfl (fun _ _ _ h => h) (Or.inl ⟨by rfl, ?_⟩) ?_ ?_ ?_; rotate_left; (· intro w'; go_simp; with_reducible rfl); rotate_left; (· simp only [Act.put, sit, scz, scs, i64_w, i32_w]; rfl)
         refine pu_ 5 (some 37) ?_ (bs 24 63) HT_.out (by kernel_rfl) rfl rfl (fun _ _ _ h => h) (Or.inl ⟨by rfl, ?_⟩) ?_ ?_ ?_; rotate_left; (· intro w'; go_simp; with_reducible rfl); rotate_left; (· simp only [Act.put, sit, scz, scs, i64_w, i32_w]; rfl)
         refine pu_ 6 (some 38) ?_ (bs 24 127) HT_.out (by kernel_rfl) rfl rfl (fun _ _ _ h => h) (Or.inl ⟨by rfl, ?_⟩) ?_ ?_ ?_; rotate_left; (· intro w'; go_simp; with_reducible rfl); rotate_left; (· simp only [Act.put, sit, scz, scs, i64_w, i32_w]; rfl)
         refine pu_ 7 (some 39) ?_ (bs 24 255) HT_.out (by kernel_rfl) rfl rfl (fun _ _ _ h => h) (Or.inl ⟨by rfl, ?_⟩) ?_ ?_ ?_; rotate_left; (· intro w'; go_simp; with_reducible rfl); rotate_left; (· simp only [Act.put, sit, scz, scs, i64_w, i32_w]; rfl)
         refine pu_ 8 (some 40) ?_ (bs 24 511) HT_.out (by kernel_rfl) rfl rfl (fun _ _ _ h => h) (Or.inl ⟨by rfl, ?_⟩) ?_ ?_ ?_; rotate_left; (· intro w'; go_simp; with_reducible rfl); rotate_left; (· simp only [Act.put, sit, scz, scs, i64_w, i32_w]; rfl)
         refine pu_ 9 (some 41) ?_ (bs 24 1023) HT_.out (by kernel_rfl) rfl rfl (fun _ _ _ h => h) (Or.inl ⟨by rfl, ?_⟩) ?_ ?_ ?_; rotate_left; (· intro w'; go_simp; with_reducible rfl); rotate_left; (· simp only [Act.put, sit, scz, scs, i64_w, i32_w]; rfl)
         refine pu_ 10 (some 42) ?_ (bs 24 2047) HT_.out (by kernel_rfl) rfl rfl (fun _ _ _ h => h) (Or.inl ⟨by rfl, ?_⟩) ?_ ?_ ?_; rotate_left; (· intro w'; go_simp; with_reducible rfl); rotate_left; (· simp only [Act.put, sit, scz, scs, i64_w, i32_w]; rfl)
         refine pu_ 11 (some 43) ?_ (bs 24 4095) HT_.out (by kernel_rfl) rfl rfl (fun _ _ _ h => h) (Or.inl ⟨by rfl, ?_⟩) ?_ ?_ ?_; rotate_left; (· intro w'; go_simp; with_reducible rfl); rotate_left; (· simp only [Act.put, sit, scz, scs, i64_w, i32_w]; rfl)
         refine pu_ 12 (some 44) ?_ (bs 24 8191) HT_.out (by kernel_rfl) rfl rfl (fun _ _ _ h => h) (Or.inl ⟨by rfl, ?_⟩) ?_ ?_ ?_; rotate_left; (· intro w'; go_simp; with_reducible rfl); rotate_left; (· simp only [Act.put, sit, scz, scs, i64_w, i32_w]; rfl)
         refine pu_ 13 (some 45) ?_ (bs 24 16383) HT_.out (by kernel_rfl) rfl rfl (fun _ _ _ h => h) (Or.inl ⟨by rfl, ?_⟩) ?_ ?_ ?_; rotate_left; (· intro w'; go_simp; with_reducible rfl); rotate_left; (· simp only [Act.put, sit, scz, scs, i64_w, i32_w]; rfl)
         refine pu_ 14 (some 46) ?_ (bs 24 32767) HT_.out (by kernel_rfl) rfl rfl (fun _ _ _ h => h) (Or.inl ⟨by rfl, ?_⟩) ?_ ?_ ?_; rotate_left; (· intro w'; go_simp; with_reducible rfl); rotate_left; (· simp only [Act.put, sit, scz, scs, i64_w, i32_w]; rfl)
         refine pu_ 15 (some 47) ?_ (bs 24 65535) HT_.out (by kernel_rfl) rfl rfl (fun _ _ _ h => h) (Or.inl ⟨by rfl, ?_⟩) ?_ ?_ ?_; rotate_left; (· intro w'; go_simp; with_reducible rfl); rotate_left; (· simp only [Act.put, sit, scz, scs, i64_w, i32_w]; rfl)
         refine pu_ 16 (some 48) ?_ (bs 24 131071) HT_.out (by kernel_rfl) rfl rfl (fun _ _ _ h => h) (Or.inl ⟨by rfl, ?_⟩) ?_ ?_ ?_; rotate_left; (· intro w'; go_simp; with_reducible rfl); rotate_left; (· simp only [Act.put, sit, scz, scs, i64_w, i32_w]; rfl)
         refine pu_ 17 (some 49) ?_ (bs 24 262143) HT_.out (by kernel_rfl) rfl rfl (fun _ _ _ h => h) (Or.inl ⟨by rfl, ?_⟩) ?_ ?_ ?_; rotate_left; (· intro w'; go_simp; with_reducible rfl); rotate_left; (· simp only [Act.put, sit, scz, scs, i64_w, i32_w]; rfl)
         refine pu_ 19 (some 51) ?_ (bs 24 786431) HT_.out (by kernel_rfl) rfl rfl (fun _ _ _ h => h) (Or.inl ⟨by rfl, ?_⟩) ?_ ?_ ?_; rotate_left; (· intro w'; go_simp; with_reducible rfl); rotate_left; (· simp only [Act.put, sit, scz, scs, i64_w, i32_w]; rfl)
         refine join_ (σ := Unit) 3 (bs 24 2097151) (fun s_ => [(50, .string (strOfNums y312)), (52, .string t316)]) (fun s_ w' => (Below w.heap.size w w')) ?_ ?_
         rotate_left
         ·intro hCont
          refine two_ (i := 18) (j := 20) (Ni := some 50) (Nj := some 52) (bs 24 1048575) (bs 24 1835007) rfl rfl rfl rfl (two_of HT_.out (by kernel_rfl)) (by decide) (by decide) (fun K hK => ?_) (fun K hK => ?_)
          ·skip
           have hcv18 := Kd.C_string (P := Tryd.prog) (A := A17) (c := c17) Tryd.underlying22 Tryd.underlying5 Tryd.underlying9 (Kd.C_below HR315.out HB.out); have hcv18n := fun (n_ : Nat) => Kd.C_string (P := Tryd.prog) (A := A17) (c := c17) Tryd.underlying22 Tryd.underlying5 Tryd.underlying9 (Kd.C_below HR315.out (pw_below_drewN HB.out n_))
           (try simp only [List.length_drop] at hcv18)
           refine value_ (w1 := ?_) (v := ?_) (by rfl) rfl ?_ ?_
           rotate_left 2
           ·go_simp
            constructor
            ·rfl
            ·rfl
           clear hcv18 hcv18n
           refine hK.out _ _ trivial (fun hHeld => ?_)
           clear hK K
           refine norm_ (a' := ?_) ?_ ?_
           rotate_left
           ·show Act.put _ (some 50) _ = _
            simp only [Act.put, List.setIfInBounds_toArray, List.set_cons_zero, List.set_cons_succ, i64_w, i32_w]
            rfl
           refine one_ (i := 20) (N := some 52) (bs 24 2097151) rfl rfl (one_of HT_.out (by kernel_rfl)) (by decide) (fun K hK => ?_)
           refine goes_ Tryd.func22 (by kernel_rfl) rfl #[.slice (some ad309) l1.length c1] (by rfl) rfl rfl (by (try simp only [List.map_toArray, List.map_cons, List.map_nil]); first | done | rfl | (simp only [List.length_drop, List.length_take]; rfl)) ?_
           with_reducible refine (redpenref15_Text.calls k _ _ l1 t316 _ ?side1 ?side2 A14.out).mono ?_
           (case side1 => repeat (first | exact (Kd.C_below HR1.out HB.out) | (with_reducible refine Kd.C_alloc ?_ _) | (with_reducible refine Kd.C_drewN ?_ _) | (with_reducible refine Kd.C_drew ?_)))
           (case side2 => exact HC1.out)
           rintro e w19 ⟨rfl, hb⟩
           refine ⟨_, rfl, ?_⟩
           have n0_ := Aside0.mk (below_step (by repeat (first | (with_reducible first | exact HB.out | apply below_alloc | apply pw_below_drewN | apply below_drew1) | exact HB.out)) hb)
           clear HB
           have HB := n0_
           clear n0_
           (try clear hb)
           (try clear hb2)
           (try clear hk)
           (try clear hi)
           refine hK.out _ _ trivial (fun hHeld => ?_)
           clear hK K
           refine norm_ (a' := ?_) ?_ ?_
           rotate_left
           ·show Act.put _ (some 52) _ = _
            simp only [Act.put, List.setIfInBounds_toArray, List.set_cons_zero, List.set_cons_succ, i64_w, i32_w]
            rfl
           exact norm_ (by simp only [putAll, Act.put, List.setIfInBounds_toArray, List.set_cons_zero, List.set_cons_succ]) (hCont () _ (by repeat (first | (with_reducible first | exact HB.out | apply below_alloc | apply pw_below_drewN | apply below_drew1) | exact HB.out)))
          ·skip
           refine goes_ Tryd.func22 (by kernel_rfl) rfl #[.slice (some ad309) l1.length c1] (by rfl) rfl rfl (by (try simp only [List.map_toArray, List.map_cons, List.map_nil]); first | done | rfl | (simp only [List.length_drop, List.length_take]; rfl)) ?_
           with_reducible refine (redpenref15_Text.calls k _ _ l1 t316 _ ?side1 ?side2 A14.out).mono ?_
           (case side1 => repeat (first | exact (Kd.C_below HR1.out HB.out) | (with_reducible refine Kd.C_alloc ?_ _) | (with_reducible refine Kd.C_drewN ?_ _) | (with_reducible refine Kd.C_drew ?_)))
           (case side2 => exact HC1.out)
           rintro e w18 ⟨rfl, hb⟩
           refine ⟨_, rfl, ?_⟩
           have n0_ := Aside0.mk (below_step (by repeat (first | (with_reducible first | exact HB.out | apply below_alloc | apply pw_below_drewN | apply below_drew1) | exact HB.out)) hb)
           clear HB
           have HB := n0_
           clear n0_
           (try clear hb)
           (try clear hb2)
           (try clear hk)
           (try clear hi)
           refine hK.out _ _ trivial (fun hHeld => ?_)
           clear hK K
           refine norm_ (a' := ?_) ?_ ?_
           rotate_left
           ·show Act.put _ (some 52) _ = _
            simp only [Act.put, List.setIfInBounds_toArray, List.set_cons_zero, List.set_cons_succ, i64_w, i32_w]
            rfl
           refine one_ (i := 18) (N := some 50) (bs 24 2097151) rfl rfl (one_of HT_.out (by kernel_rfl)) (by decide) (fun K hK => ?_)
           have hcv19 := Kd.C_string (P := Tryd.prog) (A := A17) (c := c17) Tryd.underlying22 Tryd.underlying5 Tryd.underlying9 (Kd.C_below HR315.out HB.out); have hcv19n := fun (n_ : Nat) => Kd.C_string (P := Tryd.prog) (A := A17) (c := c17) Tryd.underlying22 Tryd.underlying5 Tryd.underlying9 (Kd.C_below HR315.out (pw_below_drewN HB.out n_))
           (try simp only [List.length_drop] at hcv19)
           refine value_ (w1 := ?_) (v := ?_) (by rfl) rfl ?_ ?_
           rotate_left 2
           ·go_simp
            constructor
            ·rfl
            ·rfl
           clear hcv19 hcv19n
           refine hK.out _ _ trivial (fun hHeld => ?_)
           clear hK K
           refine norm_ (a' := ?_) ?_ ?_
           rotate_left
           ·show Act.put _ (some 50) _ = _
            simp only [Act.put, List.setIfInBounds_toArray, List.set_cons_zero, List.set_cons_succ, i64_w, i32_w]
            rfl
           exact norm_ (by simp only [putAll, Act.put, List.setIfInBounds_toArray, List.set_cons_zero, List.set_cons_succ]) (hCont () _ (by repeat (first | (with_reducible first | exact HB.out | apply below_alloc | apply pw_below_drewN | apply below_drew1) | exact HB.out)))
         rintro _ w20 h0_
         have n0_ : Aside0 (Below w.heap.size w w20) := ⟨h0_⟩
         clear HB
         clear h0_
         have HB := n0_
         clear n0_
         have hHeld := trivial
         refine norm_ (a' := ?_) ?_ ?_
         rotate_left
         ·simp only [putAll, Act.put, List.setIfInBounds_toArray, List.set_cons_zero, List.set_cons_succ]
          rfl
         refine pu_ 21 (some 53) ?_ (bs 24 4194303) HT_.out (by kernel_rfl) rfl rfl (fun _ _ _ h => h) (Or.inl ⟨by rfl, ?_⟩) ?_ ?_ ?_; rotate_left; (· intro w'; go_simp; with_reducible rfl); rotate_left; (· simp only [Act.put, sit, scz, scs, i64_w, i32_w]; rfl)
         refine pu_ 22 (some 54) ?_ (bs 24 8388607) HT_.out (by kernel_rfl) rfl rfl (fun _ _ _ h => h) (Or.inl ⟨by rfl, ?_⟩) ?_ ?_ ?_; rotate_left; (· intro w'; go_simp; with_reducible rfl); rotate_left; (· simp only [Act.put, sit, scz, scs, i64_w, i32_w]; rfl)
         refine pu_ 23 (some 4) ?_ (bs 24 16777215) HT_.out (by kernel_rfl) rfl rfl (fun _ _ _ h => h) (Or.inl ⟨by rfl, ?_⟩) ?_ ?_ ?_; rotate_left; (· intro w'; go_simp; with_reducible rfl); rotate_left; (· simp only [Act.put, sit, scz, scs, i64_w, i32_w]; rfl)
         refine done_ (done_of HT_.out (by kernel_rfl)) ?_
         try go_wp2
         go_ret
         exact ⟨by first | rfl | (simp [errW_none, errW_some] <;> rfl) | (simp only [← hji5]; first | rfl | (simp [errW_none, errW_some] <;> rfl)) | (simp [*, errW_none, errW_some] <;> rfl), by repeat (first | (with_reducible first | exact HB.out | apply below_alloc | apply pw_below_drewN | apply below_drew1) | exact HB.out)⟩
        ·rw [if_neg c11] at H
         exact absurd H (by simp)
       ·rw [if_neg c10] at H
        have c10b0 : decide ((wrap64 (((rd_T45 l1 (ji5)).f1.f0) + ((rd_T45 l1 (ji5)).f1.f1))) ≤ (l0.length : Int)) = false := decide_eq_false c10
        clear c10
        obtain rfl := Option.some.inj H
        have p309 : 0 ≤ (0 : Int) := (by omega)
        have q309 : 0 < (l1.length : Int) := of_decide_eq_true (by first | (with_reducible assumption) | assumption)
        obtain ⟨ad309, e309, hx309_0, hx309_1, hx309_2⟩ := at_T45 HR1.out 0 p309 q309
        cases e309
        have qi309 : (0 < l1.length) = True := eq_true (by omega)
        (try rw [show ((0 : Int)).toNat = 0 from rfl] at hx309_0)
        (try rw [show 0 * 3 = 0 from rfl] at hx309_0)
        (try rw [Addr.add_zero'] at hx309_0)
        (try rw [show ((0 : Int)).toNat = 0 from rfl] at hx309_1)
        (try rw [show 0 * 3 = 0 from rfl] at hx309_1)
        (try rw [Addr.add_zero'] at hx309_1)
        (try rw [show ((0 : Int)).toNat = 0 from rfl] at hx309_2)
        (try rw [show 0 * 3 = 0 from rfl] at hx309_2)
        (try rw [Addr.add_zero'] at hx309_2)
        replace p309 := eq_true p309
        replace q309 := eq_true q309
        go_enter Tryd.func24, Tryd.ntmps24
        try go_wp2
        have n0_ := Aside0.mk (below_drew1 HB.out)
        clear HB
        have HB := n0_
        clear n0_
        have p310 : 0 ≤ ((ji5) : Int) := of_decide_eq_true (by first | (with_reducible assumption) | assumption)
        have q310 : (ji5) < (l1.length : Int) := of_decide_eq_true (by first | (with_reducible assumption) | assumption)
        obtain ⟨ad310, e310, hx310_0, hx310_1, hx310_2⟩ := at_T45 HR1.out (ji5) p310 q310
        have hw310_2 := hx310_2
        have hw310_1 := hx310_1
        have hw310_0 := hx310_0
        obtain rfl : ad309 = ad310 := (by injection e310)
        replace hx310_0 := (HB.out.cell (World.block_lt_of_cell? w _ hx310_0)).trans hx310_0
        replace hx310_1 := (HB.out.cell (World.block_lt_of_cell? w _ hx310_1)).trans hx310_1
        replace hx310_2 := (HB.out.cell (World.block_lt_of_cell? w _ hx310_2)).trans hx310_2
        replace p310 := eq_true p310
        replace q310 := eq_true q310
        have p311 : 0 ≤ ((ji5) : Int) := of_decide_eq_true (by first | (with_reducible assumption) | assumption)
        have q311 : (ji5) < (l1.length : Int) := of_decide_eq_true (by first | (with_reducible assumption) | assumption)
        obtain ⟨ad311, e311, hx311_0, hx311_1, hx311_2⟩ := at_T45 HR1.out (ji5) p311 q311
        have hw311_2 := hx311_2
        have hw311_1 := hx311_1
        have hw311_0 := hx311_0
        obtain rfl : ad309 = ad311 := (by injection e311)
        replace hx311_0 := (HB.out.cell (World.block_lt_of_cell? w _ hx311_0)).trans hx311_0
        replace hx311_1 := (HB.out.cell (World.block_lt_of_cell? w _ hx311_1)).trans hx311_1
        replace hx311_2 := (HB.out.cell (World.block_lt_of_cell? w _ hx311_2)).trans hx311_2
        replace p311 := eq_true p311
        replace q311 := eq_true q311
        refine start_ (n := 18) (S := fun w' => w'.cell? (ad309.add (((ji5)).toNat * 3)) = some (.int .i32 ((rd_T45 l1 (ji5)).f0)) ∧ w'.cell? ⟨(ad309.add (((ji5)).toNat * 3)).block, (ad309.add (((ji5)).toNat * 3)).off + 1, none⟩ = some (.int .i64 ((rd_T45 l1 (ji5)).f1.f0)) ∧ w'.cell? ⟨(ad309.add (((ji5)).toNat * 3)).block, (ad309.add (((ji5)).toNat * 3)).off + 2, none⟩ = some (.int .i64 ((rd_T45 l1 (ji5)).f1.f1)) ∧ w'.cell? (ad309.add (((ji5)).toNat * 3)) = some (.int .i32 ((rd_T45 l1 (ji5)).f0)) ∧ w'.cell? ⟨(ad309.add (((ji5)).toNat * 3)).block, (ad309.add (((ji5)).toNat * 3)).off + 1, none⟩ = some (.int .i64 ((rd_T45 l1 (ji5)).f1.f0)) ∧ w'.cell? ⟨(ad309.add (((ji5)).toNat * 3)).block, (ad309.add (((ji5)).toNat * 3)).off + 2, none⟩ = some (.int .i64 ((rd_T45 l1 (ji5)).f1.f1))) (ds := []) (bs 18 0) (by kernel_rfl) rfl rfl ⟨((HB.out.cell (World.block_lt_of_cell? w _ hw310_0)).trans hw310_0), ((HB.out.cell (World.block_lt_of_cell? w _ hw310_1)).trans hw310_1), ((HB.out.cell (World.block_lt_of_cell? w _ hw310_2)).trans hw310_2), ((HB.out.cell (World.block_lt_of_cell? w _ hw311_0)).trans hw311_0), ((HB.out.cell (World.block_lt_of_cell? w _ hw311_1)).trans hw311_1), ((HB.out.cell (World.block_lt_of_cell? w _ hw311_2)).trans hw311_2)⟩ (fun hHeld => ?_); refine with_tabW redpenref15_Literal.tab4 redpenref15_Literal.bits4 (fun HT_ HW_ => ?_)
        generalize w.drew = w21 at HB hx310_0 hx310_1 hx310_2 hx311_0 hx311_1 hx311_2 hHeld ⊢
        refine pu_ 0 (some 15) ?_ (bs 18 1) HT_.out (by kernel_rfl) rfl rfl (fun _ _ _ h => h) (Or.inl ⟨by rfl, ?_⟩) ?_ ?_ ?_; rotate_left; (· intro w'; go_simp; with_reducible rfl); rotate_left; (· simp only [Act.put, sit, scz, scs, i64_w, i32_w]; rfl)
        refine pu_ 1 (some 16) ?_ (bs 18 3) HT_.out (by kernel_rfl) rfl rfl (fun _ _ _ h => h) (Or.inl ⟨by rfl, ?_⟩) ?_ ?_ ?_; rotate_left; (· intro w'; go_simp; with_reducible rfl); rotate_left; (· simp only [Act.put, sit, scz, scs, i64_w, i32_w]; rfl)
        refine pu_ 2 (some 17) ?_ (bs 18 7) HT_.out (by kernel_rfl) rfl rfl (fun _ _ _ h => h) (Or.inl ⟨by rfl, ?_⟩) ?_ ?_ ?_; rotate_left; (· intro w'; go_simp; with_reducible rfl); rotate_left; (· simp only [Act.put, sit, scz, scs, i64_w, i32_w]; rfl)
        refine pu_ 3 (some 18) ?_ (bs 18 15) HT_.out (by kernel_rfl) rfl rfl (fun _ _ _ h => h) (Or.inl ⟨by rfl, ?_⟩) ?_ ?_ ?_; rotate_left; (· intro w'; go_simp; with_reducible rfl); rotate_left; (· simp only [Act.put, sit, scz, scs, i64_w, i32_w]; rfl)
        refine pu_ 4 (some 19) ?_ (bs 18 31) HT_.out (by kernel_rfl) rfl rfl (fun _ _ _ h => h) (Or.inl ⟨by rfl, ?_⟩) ?_ ?_ ?_; rotate_left; (· intro w'; go_simp; with_reducible rfl); rotate_left; (· simp only [Act.put, sit, scz, scs, i64_w, i32_w]; rfl)
        refine pu_ 5 (some 20) ?_ (bs 18 63) HT_.out (by kernel_rfl) rfl rfl (fun _ _ _ h => h) (Or.inl ⟨by rfl, ?_⟩) ?_ ?_ ?_; rotate_left; (· intro w'; go_simp; with_reducible rfl); rotate_left; (· simp only [Act.put, sit, scz, scs, i64_w, i32_w]; rfl)
        refine pu_ 6 (some 21) ?_ (bs 18 127) HT_.out (by kernel_rfl) rfl rfl (fun _ _ _ h => h) (Or.inl ⟨by rfl, ?_⟩) ?_ ?_ ?_; rotate_left; (· intro w'; go_simp; with_reducible rfl); rotate_left; (· simp only [Act.put, sit, scz, scs, i64_w, i32_w]; rfl)
        refine pu_ 8 (some 23) ?_ (bs 18 383) HT_.out (by kernel_rfl) rfl rfl (fun _ _ _ h => h) (Or.inl ⟨by rfl, ?_⟩) ?_ ?_ ?_; rotate_left; (· intro w'; go_simp; with_reducible rfl); rotate_left; (· simp only [Act.put, sit, scz, scs, i64_w, i32_w]; rfl)
        refine pu_ 9 (some 24) ?_ (bs 18 895) HT_.out (by kernel_rfl) rfl rfl (fun _ _ _ h => h) (Or.inl ⟨by rfl, ?_⟩) ?_ ?_ ?_; rotate_left; (· intro w'; go_simp; with_reducible rfl); rotate_left; (· simp only [Act.put, sit, scz, scs, i64_w, i32_w]; rfl)
        refine pu_ 10 (some 25) ?_ (bs 18 1919) HT_.out (by kernel_rfl) rfl rfl (fun _ _ _ h => h) (Or.inl ⟨by rfl, ?_⟩) ?_ ?_ ?_; rotate_left; (· intro w'; go_simp; with_reducible rfl); rotate_left; (· simp only [Act.put, sit, scz, scs, i64_w, i32_w]; rfl)
        refine pu_ 11 (some 26) ?_ (bs 18 3967) HT_.out (by kernel_rfl) rfl rfl (fun _ _ _ h => h) (Or.inl ⟨by rfl, ?_⟩) ?_ ?_ ?_; rotate_left; (· intro w'; go_simp; with_reducible rfl); rotate_left; (· simp only [Act.put, sit, scz, scs, i64_w, i32_w]; rfl)
        refine pu_ 12 (some 27) ?_ (bs 18 8063) HT_.out (by kernel_rfl) rfl rfl (fun _ _ _ h => h) (Or.inl ⟨by rfl, ?_⟩) ?_ ?_ ?_; rotate_left; (· intro w'; go_simp; with_reducible rfl); rotate_left; (· simp only [Act.put, sit, scz, scs, i64_w, i32_w]; rfl)
        refine pu_ 13 (some 28) ?_ (bs 18 16255) HT_.out (by kernel_rfl) rfl rfl (fun _ _ _ h => h) (Or.inl ⟨by rfl, ?_⟩) ?_ ?_ ?_; rotate_left; (· intro w'; go_simp; with_reducible rfl); rotate_left; (· simp only [Act.put, sit, scz, scs, i64_w, i32_w]; rfl)
        refine pu_ 14 (some 29) ?_ (bs 18 32639) HT_.out (by kernel_rfl) rfl rfl (fun _ _ _ h => h) (Or.inl ⟨by rfl, ?_⟩) ?_ ?_ ?_; rotate_left; (· intro w'; go_simp; with_reducible rfl); rotate_left; (· simp only [Act.put, sit, scz, scs, i64_w, i32_w]; rfl)
        refine take_ (i := 7) (N := some 22) (v := ?_) (a' := ?_) (bs 18 32767) rfl rfl (take_ofW HT_.out HW_.out (by kernel_rfl)) (fun _ _ _ h => h) (Or.inl ⟨by rfl, ?_⟩) hHeld ?_ ?_; rotate_left; (· rintro w' ⟨s0, s1, s2, s3, s4, s5⟩; go_simp; with_reducible rfl); rotate_left; (· simp only [Act.put, sit, scz, scs, i64_w, i32_w]; rfl)
        refine take_ (i := 15) (N := some 30) (v := ?_) (a' := ?_) (bs 18 65535) rfl rfl (take_ofW HT_.out HW_.out (by kernel_rfl)) (fun _ _ _ h => h) (Or.inl ⟨by rfl, ?_⟩) hHeld ?_ ?_; rotate_left; (· rintro w' ⟨s0, s1, s2, s3, s4, s5⟩; go_simp; with_reducible rfl); rotate_left; (· simp only [Act.put, sit, scz, scs, i64_w, i32_w]; rfl)
        refine pu_ 16 (some 31) ?_ (bs 18 131071) HT_.out (by kernel_rfl) rfl rfl (fun _ _ _ h => h) (Or.inl ⟨by rfl, ?_⟩) ?_ ?_ ?_; rotate_left; (· intro w'; go_simp; with_reducible rfl); rotate_left; (· simp only [Act.put, sit, scz, scs, i64_w, i32_w]; rfl)
        refine pu_ 17 (some 6) ?_ (bs 18 262143) HT_.out (by kernel_rfl) rfl rfl (fun _ _ _ h => h) (Or.inl ⟨by rfl, ?_⟩) ?_ ?_ ?_; rotate_left; (· intro w'; go_simp; with_reducible rfl); rotate_left; (· simp only [Act.put, sit, scz, scs, i64_w, i32_w]; rfl)
        refine done_ (done_of HT_.out (by kernel_rfl)) ?_
        try go_wp2
        have n0_ := Aside0.mk (below_drew1 HB.out)
        clear HB
        have HB := n0_
        clear n0_
        refine start_ (n := 24) (S := fun w' => True) (ds := []) (bs 24 0) (by kernel_rfl) rfl rfl trivial (fun hHeld => ?_); refine with_tabW redpenref15_Literal.tab5 redpenref15_Literal.bits5 (fun HT_ HW_ => ?_)
        generalize w21.drew = w22 at HB hHeld ⊢
        refine pu_ 0 (some 32) ?_ (bs 24 1) HT_.out (by kernel_rfl) rfl rfl (fun _ _ _ h => h) (Or.inl ⟨by rfl, ?_⟩) ?_ ?_ ?_; rotate_left; (· intro w'; go_simp; with_reducible rfl); rotate_left; (· simp only [Act.put, sit, scz, scs, i64_w, i32_w]; rfl)
        refine pu_ 1 (some 33) ?_ (bs 24 3) HT_.out (by kernel_rfl) rfl rfl (fun _ _ _ h => h) (Or.inl ⟨by rfl, ?_⟩) ?_ ?_ ?_; rotate_left; (· intro w'; go_simp; with_reducible rfl); rotate_left; (· simp only [Act.put, sit, scz, scs, i64_w, i32_w]; rfl)
        refine pu_ 2 (some 34) ?_ (bs 24 7) HT_.out (by kernel_rfl) rfl rfl (fun _ _ _ h => h) (Or.inl ⟨by rfl, ?_⟩) ?_ ?_ ?_; rotate_left; (· intro w'; go_simp; with_reducible rfl); rotate_left; (· simp only [Act.put, sit, scz, scs, i64_w, i32_w]; rfl)
        refine pu_ 3 (some 35) ?_ (bs 24 15) HT_.out (by kernel_rfl) rfl rfl (fun _ _ _ h => h) (Or.inl ⟨by rfl, ?_⟩) ?_ ?_ ?_; rotate_left; (· intro w'; go_simp; with_reducible rfl); rotate_left; (· simp only [Act.put, sit, scz, scs, i64_w, i32_w]; rfl)
        refine pu_ 4 (some 36) ?_ (bs 24 31) HT_.out (by kernel_rfl) rfl rfl (fun _ _ _ h => h) (Or.inl ⟨by rfl, ?_⟩) ?_ ?_ ?_; rotate_left; (· intro w'; go_simp; with_reducible rfl); rotate_left; (· simp only [Act.put, sit, scz, scs, i64_w, i32_w]; rfl)
        refine pu_ 5 (some 37) ?_ (bs 24 63) HT_.out (by kernel_rfl) rfl rfl (fun _ _ _ h => h) (Or.inl ⟨by rfl, ?_⟩) ?_ ?_ ?_; rotate_left; (· intro w'; go_simp; with_reducible rfl); rotate_left; (· simp only [Act.put, sit, scz, scs, i64_w, i32_w]; rfl)
        refine pu_ 6 (some 38) ?_ (bs 24 127) HT_.out (by kernel_rfl) rfl rfl (fun _ _ _ h => h) (Or.inl ⟨by rfl, ?_⟩) ?_ ?_ ?_; rotate_left; (· intro w'; go_simp; with_reducible rfl); rotate_left; (· simp only [Act.put, sit, scz, scs, i64_w, i32_w]; rfl)
        refine pu_ 7 (some 39) ?_ (bs 24 255) HT_.out (by kernel_rfl) rfl rfl (fun _ _ _ h => h) (Or.inl ⟨by rfl, ?_⟩) ?_ ?_ ?_; rotate_left; (· intro w'; go_simp; with_reducible rfl); rotate_left; (· simp only [Act.put, sit, scz, scs, i64_w, i32_w]; rfl)
        refine pu_ 8 (some 40) ?_ (bs 24 511) HT_.out (by kernel_rfl) rfl rfl (fun _ _ _ h => h) (Or.inl ⟨by rfl, ?_⟩) ?_ ?_ ?_; rotate_left; (· intro w'; go_simp; with_reducible rfl); rotate_left; (· simp only [Act.put, sit, scz, scs, i64_w, i32_w]; rfl)
        refine pu_ 9 (some 41) ?_ (bs 24 1023) HT_.out (by kernel_rfl) rfl rfl (fun _ _ _ h => h) (Or.inl ⟨by rfl, ?_⟩) ?_ ?_ ?_; rotate_left; (· intro w'; go_simp; with_reducible rfl); rotate_left; (· simp only [Act.put, sit, scz, scs, i64_w, i32_w]; rfl)
        refine pu_ 10 (some 42) ?_ (bs 24 2047) HT_.out (by kernel_rfl) rfl rfl (fun _ _ _ h => h) (Or.inl ⟨by rfl, ?_⟩) ?_ ?_ ?_; rotate_left; (· intro w'; go_simp; with_reducible rfl); rotate_left; (· simp only [Act.put, sit, scz, scs, i64_w, i32_w]; rfl)
        refine pu_ 11 (some 43) ?_ (bs 24 4095) HT_.out (by kernel_rfl) rfl rfl (fun _ _ _ h => h) (Or.inl ⟨by rfl, ?_⟩) ?_ ?_ ?_; rotate_left; (· intro w'; go_simp; with_reducible rfl); rotate_left; (· simp only [Act.put, sit, scz, scs, i64_w, i32_w]; rfl)
        refine pu_ 12 (some 44) ?_ (bs 24 8191) HT_.out (by kernel_rfl) rfl rfl (fun _ _ _ h => h) (Or.inl ⟨by rfl, ?_⟩) ?_ ?_ ?_; rotate_left; (· intro w'; go_simp; with_reducible rfl); rotate_left; (· simp only [Act.put, sit, scz, scs, i64_w, i32_w]; rfl)
        refine pu_ 13 (some 45) ?_ (bs 24 16383) HT_.out (by kernel_rfl) rfl rfl (fun _ _ _ h => h) (Or.inl ⟨by rfl, ?_⟩) ?_ ?_ ?_; rotate_left; (· intro w'; go_simp; with_reducible rfl); rotate_left; (· simp only [Act.put, sit, scz, scs, i64_w, i32_w]; rfl)
        refine pu_ 14 (some 46) undef (bs 24 32767) HT_.out (by kernel_rfl) rfl rfl (fun _ _ _ h => h) (Or.inr ⟨by rfl, rfl⟩) ?_ ?_ ?_; rotate_left; (· simp only [Act.put, sit, scz, scs, i64_w, i32_w]; rfl)
        refine pu_ 15 (some 47) undef (bs 24 65535) HT_.out (by kernel_rfl) rfl rfl (fun _ _ _ h => h) (Or.inr ⟨by rfl, rfl⟩) ?_ ?_ ?_; rotate_left; (· simp only [Act.put, sit, scz, scs, i64_w, i32_w]; rfl)
        refine pu_ 16 (some 48) undef (bs 24 131071) HT_.out (by kernel_rfl) rfl rfl (fun _ _ _ h => h) (Or.inr ⟨by rfl, rfl⟩) ?_ ?_ ?_; rotate_left; (· simp only [Act.put, sit, scz, scs, i64_w, i32_w]; rfl)
        refine pu_ 17 (some 49) undef (bs 24 262143) HT_.out (by kernel_rfl) rfl rfl (fun _ _ _ h => h) (Or.inr ⟨by rfl, rfl⟩) ?_ ?_ ?_; rotate_left; (· simp only [Act.put, sit, scz, scs, i64_w, i32_w]; rfl)
        refine pu_ 18 (some 50) undef (bs 24 524287) HT_.out (by kernel_rfl) rfl rfl (fun _ _ _ h => h) (Or.inr ⟨by rfl, rfl⟩) ?_ ?_ ?_; rotate_left; (· simp only [Act.put, sit, scz, scs, i64_w, i32_w]; rfl)
        refine pu_ 19 (some 51) undef (bs 24 1048575) HT_.out (by kernel_rfl) rfl rfl (fun _ _ _ h => h) (Or.inr ⟨by rfl, rfl⟩) ?_ ?_ ?_; rotate_left; (· simp only [Act.put, sit, scz, scs, i64_w, i32_w]; rfl)
        refine pu_ 20 (some 52) undef (bs 24 2097151) HT_.out (by kernel_rfl) rfl rfl (fun _ _ _ h => h) (Or.inr ⟨by rfl, rfl⟩) ?_ ?_ ?_; rotate_left; (· simp only [Act.put, sit, scz, scs, i64_w, i32_w]; rfl)
        refine pu_ 21 (some 53) undef (bs 24 4194303) HT_.out (by kernel_rfl) rfl rfl (fun _ _ _ h => h) (Or.inr ⟨by rfl, rfl⟩) ?_ ?_ ?_; rotate_left; (· simp only [Act.put, sit, scz, scs, i64_w, i32_w]; rfl)
        refine pu_ 22 (some 54) ?_ (bs 24 8388607) HT_.out (by kernel_rfl) rfl rfl (fun _ _ _ h => h) (Or.inl ⟨by rfl, ?_⟩) ?_ ?_ ?_; rotate_left; (· intro w'; go_simp; with_reducible rfl); rotate_left; (· simp only [Act.put, sit, scz, scs, i64_w, i32_w]; rfl)
        refine pu_ 23 (some 4) ?_ (bs 24 16777215) HT_.out (by kernel_rfl) rfl rfl (fun _ _ _ h => h) (Or.inl ⟨by rfl, ?_⟩) ?_ ?_ ?_; rotate_left; (· intro w'; go_simp; with_reducible rfl); rotate_left; (· simp only [Act.put, sit, scz, scs, i64_w, i32_w]; rfl)
        refine done_ (done_of HT_.out (by kernel_rfl)) ?_
        try go_wp2
        go_ret
        exact ⟨by first | rfl | (simp [errW_none, errW_some] <;> rfl) | (simp only [← hji5]; first | rfl | (simp [errW_none, errW_some] <;> rfl)) | (simp [*, errW_none, errW_some] <;> rfl), by repeat (first | (with_reducible first | exact HB.out | apply below_alloc | apply pw_below_drewN | apply below_drew1) | exact HB.out)⟩
      ·rw [if_neg c9] at H
       have c9b0 : decide (((rd_T45 l1 0).f1.f0) ≤ (wrap64 (((rd_T45 l1 (ji5)).f1.f0) + ((rd_T45 l1 (ji5)).f1.f1)))) = false := decide_eq_false c9
       clear c9
       obtain rfl := Option.some.inj H
       have p309 : 0 ≤ (0 : Int) := (by omega)
       have q309 : 0 < (l1.length : Int) := of_decide_eq_true (by first | (with_reducible assumption) | assumption)
       obtain ⟨ad309, e309, hx309_0, hx309_1, hx309_2⟩ := at_T45 HR1.out 0 p309 q309
       cases e309
       have qi309 : (0 < l1.length) = True := eq_true (by omega)
       (try rw [show ((0 : Int)).toNat = 0 from rfl] at hx309_0)
       (try rw [show 0 * 3 = 0 from rfl] at hx309_0)
       (try rw [Addr.add_zero'] at hx309_0)
       (try rw [show ((0 : Int)).toNat = 0 from rfl] at hx309_1)
       (try rw [show 0 * 3 = 0 from rfl] at hx309_1)
       (try rw [Addr.add_zero'] at hx309_1)
       (try rw [show ((0 : Int)).toNat = 0 from rfl] at hx309_2)
       (try rw [show 0 * 3 = 0 from rfl] at hx309_2)
       (try rw [Addr.add_zero'] at hx309_2)
       replace p309 := eq_true p309
       replace q309 := eq_true q309
       go_enter Tryd.func24, Tryd.ntmps24
       try go_wp2
       have n0_ := Aside0.mk (below_drew1 HB.out)
       clear HB
       have HB := n0_
       clear n0_
       have p310 : 0 ≤ ((ji5) : Int) := of_decide_eq_true (by first | (with_reducible assumption) | assumption)
       have q310 : (ji5) < (l1.length : Int) := of_decide_eq_true (by first | (with_reducible assumption) | assumption)
       obtain ⟨ad310, e310, hx310_0, hx310_1, hx310_2⟩ := at_T45 HR1.out (ji5) p310 q310
       have hw310_2 := hx310_2
       have hw310_1 := hx310_1
       have hw310_0 := hx310_0
       obtain rfl : ad309 = ad310 := (by injection e310)
       replace hx310_0 := (HB.out.cell (World.block_lt_of_cell? w _ hx310_0)).trans hx310_0
       replace hx310_1 := (HB.out.cell (World.block_lt_of_cell? w _ hx310_1)).trans hx310_1
       replace hx310_2 := (HB.out.cell (World.block_lt_of_cell? w _ hx310_2)).trans hx310_2
       replace p310 := eq_true p310
       replace q310 := eq_true q310
       have p311 : 0 ≤ ((ji5) : Int) := of_decide_eq_true (by first | (with_reducible assumption) | assumption)
       have q311 : (ji5) < (l1.length : Int) := of_decide_eq_true (by first | (with_reducible assumption) | assumption)
       obtain ⟨ad311, e311, hx311_0, hx311_1, hx311_2⟩ := at_T45 HR1.out (ji5) p311 q311
       have hw311_2 := hx311_2
       have hw311_1 := hx311_1
       have hw311_0 := hx311_0
       obtain rfl : ad309 = ad311 := (by injection e311)
       replace hx311_0 := (HB.out.cell (World.block_lt_of_cell? w _ hx311_0)).trans hx311_0
       replace hx311_1 := (HB.out.cell (World.block_lt_of_cell? w _ hx311_1)).trans hx311_1
       replace hx311_2 := (HB.out.cell (World.block_lt_of_cell? w _ hx311_2)).trans hx311_2
       replace p311 := eq_true p311
       replace q311 := eq_true q311
       refine start_ (n := 18) (S := fun w' => w'.cell? (ad309.add (((ji5)).toNat * 3)) = some (.int .i32 ((rd_T45 l1 (ji5)).f0)) ∧ w'.cell? ⟨(ad309.add (((ji5)).toNat * 3)).block, (ad309.add (((ji5)).toNat * 3)).off + 1, none⟩ = some (.int .i64 ((rd_T45 l1 (ji5)).f1.f0)) ∧ w'.cell? ⟨(ad309.add (((ji5)).toNat * 3)).block, (ad309.add (((ji5)).toNat * 3)).off + 2, none⟩ = some (.int .i64 ((rd_T45 l1 (ji5)).f1.f1)) ∧ w'.cell? (ad309.add (((ji5)).toNat * 3)) = some (.int .i32 ((rd_T45 l1 (ji5)).f0)) ∧ w'.cell? ⟨(ad309.add (((ji5)).toNat * 3)).block, (ad309.add (((ji5)).toNat * 3)).off + 1, none⟩ = some (.int .i64 ((rd_T45 l1 (ji5)).f1.f0)) ∧ w'.cell? ⟨(ad309.add (((ji5)).toNat * 3)).block, (ad309.add (((ji5)).toNat * 3)).off + 2, none⟩ = some (.int .i64 ((rd_T45 l1 (ji5)).f1.f1))) (ds := []) (bs 18 0) (by kernel_rfl) rfl rfl ⟨((HB.out.cell (World.block_lt_of_cell? w _ hw310_0)).trans hw310_0), ((HB.out.cell (World.block_lt_of_cell? w _ hw310_1)).trans hw310_1), ((HB.out.cell (World.block_lt_of_cell? w _ hw310_2)).trans hw310_2), ((HB.out.cell (World.block_lt_of_cell? w _ hw311_0)).trans hw311_0), ((HB.out.cell (World.block_lt_of_cell? w _ hw311_1)).trans hw311_1), ((HB.out.cell (World.block_lt_of_cell? w _ hw311_2)).trans hw311_2)⟩ (fun hHeld => ?_); refine with_tabW redpenref15_Literal.tab4 redpenref15_Literal.bits4 (fun HT_ HW_ => ?_)
       generalize w.drew = w23 at HB hx310_0 hx310_1 hx310_2 hx311_0 hx311_1 hx311_2 hHeld ⊢
       refine pu_ 0 (some 15) ?_ (bs 18 1) HT_.out (by kernel_rfl) rfl rfl (fun _ _ _ h => h) (Or.inl ⟨by rfl, ?_⟩) ?_ ?_ ?_; rotate_left; (· intro w'; go_simp; with_reducible rfl); rotate_left; (· simp only [Act.put, sit, scz, scs, i64_w, i32_w]; rfl)
       refine pu_ 1 (some 16) ?_ (bs 18 3) HT_.out (by kernel_rfl) rfl rfl (fun _ _ _ h => h) (Or.inl ⟨by rfl, ?_⟩) ?_ ?_ ?_; rotate_left; (· intro w'; go_simp; with_reducible rfl); rotate_left; (· simp only [Act.put, sit, scz, scs, i64_w, i32_w]; rfl)
       refine pu_ 2 (some 17) ?_ (bs 18 7) HT_.out (by kernel_rfl) rfl rfl (fun _ _ _ h => h) (Or.inl ⟨by rfl, ?_⟩) ?_ ?_ ?_; rotate_left; (· intro w'; go_simp; with_reducible rfl); rotate_left; (· simp only [Act.put, sit, scz, scs, i64_w, i32_w]; rfl)
       refine pu_ 3 (some 18) ?_ (bs 18 15) HT_.out (by kernel_rfl) rfl rfl (fun _ _ _ h => h) (Or.inl ⟨by rfl, ?_⟩) ?_ ?_ ?_; rotate_left; (· intro w'; go_simp; with_reducible rfl); rotate_left; (· simp only [Act.put, sit, scz, scs, i64_w, i32_w]; rfl)
       refine pu_ 4 (some 19) ?_ (bs 18 31) HT_.out (by kernel_rfl) rfl rfl (fun _ _ _ h => h) (Or.inl ⟨by rfl, ?_⟩) ?_ ?_ ?_; rotate_left; (· intro w'; go_simp; with_reducible rfl); rotate_left; (· simp only [Act.put, sit, scz, scs, i64_w, i32_w]; rfl)
       refine pu_ 5 (some 20) ?_ (bs 18 63) HT_.out (by kernel_rfl) rfl rfl (fun _ _ _ h => h) (Or.inl ⟨by rfl, ?_⟩) ?_ ?_ ?_; rotate_left; (· intro w'; go_simp; with_reducible rfl); rotate_left; (· simp only [Act.put, sit, scz, scs, i64_w, i32_w]; rfl)
       refine pu_ 6 (some 21) ?_ (bs 18 127) HT_.out (by kernel_rfl) rfl rfl (fun _ _ _ h => h) (Or.inl ⟨by rfl, ?_⟩) ?_ ?_ ?_; rotate_left; (· intro w'; go_simp; with_reducible rfl); rotate_left; (· simp only [Act.put, sit, scz, scs, i64_w, i32_w]; rfl)
       refine pu_ 8 (some 23) ?_ (bs 18 383) HT_.out (by kernel_rfl) rfl rfl (fun _ _ _ h => h) (Or.inl ⟨by rfl, ?_⟩) ?_ ?_ ?_; rotate_left; (· intro w'; go_simp; with_reducible rfl); rotate_left; (· simp only [Act.put, sit, scz, scs, i64_w, i32_w]; rfl)
       refine pu_ 9 (some 24) ?_ (bs 18 895) HT_.out (by kernel_rfl) rfl rfl (fun _ _ _ h => h) (Or.inl ⟨by rfl, ?_⟩) ?_ ?_ ?_; rotate_left; (· intro w'; go_simp; with_reducible rfl); rotate_left; (· simp only [Act.put, sit, scz, scs, i64_w, i32_w]; rfl)
       refine pu_ 10 (some 25) ?_ (bs 18 1919) HT_.out (by kernel_rfl) rfl rfl (fun _ _ _ h => h) (Or.inl ⟨by rfl, ?_⟩) ?_ ?_ ?_; rotate_left; (· intro w'; go_simp; with_reducible rfl); rotate_left; (· simp only [Act.put, sit, scz, scs, i64_w, i32_w]; rfl)
       refine pu_ 11 (some 26) ?_ (bs 18 3967) HT_.out (by kernel_rfl) rfl rfl (fun _ _ _ h => h) (Or.inl ⟨by rfl, ?_⟩) ?_ ?_ ?_; rotate_left; (· intro w'; go_simp; with_reducible rfl); rotate_left; (· simp only [Act.put, sit, scz, scs, i64_w, i32_w]; rfl)
       refine pu_ 12 (some 27) ?_ (bs 18 8063) HT_.out (by kernel_rfl) rfl rfl (fun _ _ _ h => h) (Or.inl ⟨by rfl, ?_⟩) ?_ ?_ ?_; rotate_left; (· intro w'; go_simp; with_reducible rfl); rotate_left; (· simp only [Act.put, sit, scz, scs, i64_w, i32_w]; rfl)
       refine pu_ 13 (some 28) ?_ (bs 18 16255) HT_.out (by kernel_rfl) rfl rfl (fun _ _ _ h => h) (Or.inl ⟨by rfl, ?_⟩) ?_ ?_ ?_; rotate_left; (· intro w'; go_simp; with_reducible rfl); rotate_left; (· simp only [Act.put, sit, scz, scs, i64_w, i32_w]; rfl)
       refine pu_ 14 (some 29) ?_ (bs 18 32639) HT_.out (by kernel_rfl) rfl rfl (fun _ _ _ h => h) (Or.inl ⟨by rfl, ?_⟩) ?_ ?_ ?_; rotate_left; (· intro w'; go_simp; with_reducible rfl); rotate_left; (· simp only [Act.put, sit, scz, scs, i64_w, i32_w]; rfl)
       refine take_ (i := 7) (N := some 22) (v := ?_) (a' := ?_) (bs 18 32767) rfl rfl (take_ofW HT_.out HW_.out (by kernel_rfl)) (fun _ _ _ h => h) (Or.inl ⟨by rfl, ?_⟩) hHeld ?_ ?_; rotate_left; (· rintro w' ⟨s0, s1, s2, s3, s4, s5⟩; go_simp; with_reducible rfl); rotate_left; (· simp only [Act.put, sit, scz, scs, i64_w, i32_w]; rfl)
       refine take_ (i := 15) (N := some 30) (v := ?_) (a' := ?_) (bs 18 65535) rfl rfl (take_ofW HT_.out HW_.out (by kernel_rfl)) (fun _ _ _ h => h) (Or.inl ⟨by rfl, ?_⟩) hHeld ?_ ?_; rotate_left; (· rintro w' ⟨s0, s1, s2, s3, s4, s5⟩; go_simp; with_reducible rfl); rotate_left; (· simp only [Act.put, sit, scz, scs, i64_w, i32_w]; rfl)
       refine pu_ 16 (some 31) ?_ (bs 18 131071) HT_.out (by kernel_rfl) rfl rfl (fun _ _ _ h => h) (Or.inl ⟨by rfl, ?_⟩) ?_ ?_ ?_; rotate_left; (· intro w'; go_simp; with_reducible rfl); rotate_left; (· simp only [Act.put, sit, scz, scs, i64_w, i32_w]; rfl)
       refine pu_ 17 (some 6) ?_ (bs 18 262143) HT_.out (by kernel_rfl) rfl rfl (fun _ _ _ h => h) (Or.inl ⟨by rfl, ?_⟩) ?_ ?_ ?_; rotate_left; (· intro w'; go_simp; with_reducible rfl); rotate_left; (· simp only [Act.put, sit, scz, scs, i64_w, i32_w]; rfl)
       refine done_ (done_of HT_.out (by kernel_rfl)) ?_
       try go_wp2
       have n0_ := Aside0.mk (below_drew1 HB.out)
       clear HB
       have HB := n0_
       clear n0_
       refine start_ (n := 24) (S := fun w' => True) (ds := []) (bs 24 0) (by kernel_rfl) rfl rfl trivial (fun hHeld => ?_); refine with_tabW redpenref15_Literal.tab5 redpenref15_Literal.bits5 (fun HT_ HW_ => ?_)
       generalize w23.drew = w24 at HB hHeld ⊢
       refine pu_ 0 (some 32) ?_ (bs 24 1) HT_.out (by kernel_rfl) rfl rfl (fun _ _ _ h => h) (Or.inl ⟨by rfl, ?_⟩) ?_ ?_ ?_; rotate_left; (· intro w'; go_simp; with_reducible rfl); rotate_left; (· simp only [Act.put, sit, scz, scs, i64_w, i32_w]; rfl)
       refine pu_ 1 (some 33) ?_ (bs 24 3) HT_.out (by kernel_rfl) rfl rfl (fun _ _ _ h => h) (Or.inl ⟨by rfl, ?_⟩) ?_ ?_ ?_; rotate_left; (· intro w'; go_simp; with_reducible rfl); rotate_left; (· simp only [Act.put, sit, scz, scs, i64_w, i32_w]; rfl)
       refine pu_ 2 (some 34) ?_ (bs 24 7) HT_.out (by kernel_rfl) rfl rfl (fun _ _ _ h => h) (Or.inl ⟨by rfl, ?_⟩) ?_ ?_ ?_; rotate_left; (· intro w'; go_simp; with_reducible rfl); rotate_left; (· simp only [Act.put, sit, scz, scs, i64_w, i32_w]; rfl)
       refine pu_ 3 (some 35) ?_ (bs 24 15) HT_.out (by kernel_rfl) rfl rfl (fun _ _ _ h => h) (Or.inl ⟨by rfl, ?_⟩) ?_ ?_ ?_; rotate_left; (· intro w'; go_simp; with_reducible rfl); rotate_left; (· simp only [Act.put, sit, scz, scs, i64_w, i32_w]; rfl)
       refine pu_ 4 (some 36) ?_ (bs 24 31) HT_.out (by kernel_rfl) rfl rfl (fun _ _ _ h => h) (Or.inl ⟨by rfl, ?_⟩) ?_ ?_ ?_; rotate_left; (· intro w'; go_simp; with_reducible rfl); rotate_left; (· simp only [Act.put, sit, scz, scs, i64_w, i32_w]; rfl)
       refine pu_ 5 (some 37) ?_ (bs 24 63) HT_.out (by kernel_rfl) rfl rfl (fun _ _ _ h => h) (Or.inl ⟨by rfl, ?_⟩) ?_ ?_ ?_; rotate_left; (· intro w'; go_simp; with_reducible rfl); rotate_left; (· simp only [Act.put, sit, scz, scs, i64_w, i32_w]; rfl)
       refine pu_ 6 (some 38) ?_ (bs 24 127) HT_.out (by kernel_rfl) rfl rfl (fun _ _ _ h => h) (Or.inl ⟨by rfl, ?_⟩) ?_ ?_ ?_; rotate_left; (· intro w'; go_simp; with_reducible rfl); rotate_left; (· simp only [Act.put, sit, scz, scs, i64_w, i32_w]; rfl)
       refine pu_ 7 (some 39) ?_ (bs 24 255) HT_.out (by kernel_rfl) rfl rfl (fun _ _ _ h => h) (Or.inl ⟨by rfl, ?_⟩) ?_ ?_ ?_; rotate_left; (· intro w'; go_simp; with_reducible rfl); rotate_left; (· simp only [Act.put, sit, scz, scs, i64_w, i32_w]; rfl)
       refine pu_ 8 (some 40) undef (bs 24 511) HT_.out (by kernel_rfl) rfl rfl (fun _ _ _ h => h) (Or.inr ⟨by rfl, rfl⟩) ?_ ?_ ?_; rotate_left; (· simp only [Act.put, sit, scz, scs, i64_w, i32_w]; rfl)
       refine pu_ 9 (some 41) undef (bs 24 1023) HT_.out (by kernel_rfl) rfl rfl (fun _ _ _ h => h) (Or.inr ⟨by rfl, rfl⟩) ?_ ?_ ?_; rotate_left; (· simp only [Act.put, sit, scz, scs, i64_w, i32_w]; rfl)
       refine pu_ 10 (some 42) undef (bs 24 2047) HT_.out (by kernel_rfl) rfl rfl (fun _ _ _ h => h) (Or.inr ⟨by rfl, rfl⟩) ?_ ?_ ?_; rotate_left; (· simp only [Act.put, sit, scz, scs, i64_w, i32_w]; rfl)
       refine pu_ 11 (some 43) undef (bs 24 4095) HT_.out (by kernel_rfl) rfl rfl (fun _ _ _ h => h) (Or.inr ⟨by rfl, rfl⟩) ?_ ?_ ?_; rotate_left; (· simp only [Act.put, sit, scz, scs, i64_w, i32_w]; rfl)
       refine pu_ 12 (some 44) ?_ (bs 24 8191) HT_.out (by kernel_rfl) rfl rfl (fun _ _ _ h => h) (Or.inl ⟨by rfl, ?_⟩) ?_ ?_ ?_; rotate_left; (· intro w'; go_simp; with_reducible rfl); rotate_left; (· simp only [Act.put, sit, scz, scs, i64_w, i32_w]; rfl)
       refine pu_ 13 (some 45) ?_ (bs 24 16383) HT_.out (by kernel_rfl) rfl rfl (fun _ _ _ h => h) (Or.inl ⟨by rfl, ?_⟩) ?_ ?_ ?_; rotate_left; (· intro w'; go_simp; with_reducible rfl); rotate_left; (· simp only [Act.put, sit, scz, scs, i64_w, i32_w]; rfl)
       refine pu_ 14 (some 46) undef (bs 24 32767) HT_.out (by kernel_rfl) rfl rfl (fun _ _ _ h => h) (Or.inr ⟨by rfl, rfl⟩) ?_ ?_ ?_; rotate_left; (· simp only [Act.put, sit, scz, scs, i64_w, i32_w]; rfl)
       refine pu_ 15 (some 47) undef (bs 24 65535) HT_.out (by kernel_rfl) rfl rfl (fun _ _ _ h => h) (Or.inr ⟨by rfl, rfl⟩) ?_ ?_ ?_; rotate_left; (· simp only [Act.put, sit, scz, scs, i64_w, i32_w]; rfl)
       refine pu_ 16 (some 48) undef (bs 24 131071) HT_.out (by kernel_rfl) rfl rfl (fun _ _ _ h => h) (Or.inr ⟨by rfl, rfl⟩) ?_ ?_ ?_; rotate_left; (· simp only [Act.put, sit, scz, scs, i64_w, i32_w]; rfl)
       refine pu_ 17 (some 49) undef (bs 24 262143) HT_.out (by kernel_rfl) rfl rfl (fun _ _ _ h => h) (Or.inr ⟨by rfl, rfl⟩) ?_ ?_ ?_; rotate_left; (· simp only [Act.put, sit, scz, scs, i64_w, i32_w]; rfl)
       refine pu_ 18 (some 50) undef (bs 24 524287) HT_.out (by kernel_rfl) rfl rfl (fun _ _ _ h => h) (Or.inr ⟨by rfl, rfl⟩) ?_ ?_ ?_; rotate_left; (· simp only [Act.put, sit, scz, scs, i64_w, i32_w]; rfl)
       refine pu_ 19 (some 51) undef (bs 24 1048575) HT_.out (by kernel_rfl) rfl rfl (fun _ _ _ h => h) (Or.inr ⟨by rfl, rfl⟩) ?_ ?_ ?_; rotate_left; (· simp only [Act.put, sit, scz, scs, i64_w, i32_w]; rfl)
       refine pu_ 20 (some 52) undef (bs 24 2097151) HT_.out (by kernel_rfl) rfl rfl (fun _ _ _ h => h) (Or.inr ⟨by rfl, rfl⟩) ?_ ?_ ?_; rotate_left; (· simp only [Act.put, sit, scz, scs, i64_w, i32_w]; rfl)
       refine pu_ 21 (some 53) undef (bs 24 4194303) HT_.out (by kernel_rfl) rfl rfl (fun _ _ _ h => h) (Or.inr ⟨by rfl, rfl⟩) ?_ ?_ ?_; rotate_left; (· simp only [Act.put, sit, scz, scs, i64_w, i32_w]; rfl)
       refine pu_ 22 (some 54) ?_ (bs 24 8388607) HT_.out (by kernel_rfl) rfl rfl (fun _ _ _ h => h) (Or.inl ⟨by rfl, ?_⟩) ?_ ?_ ?_; rotate_left; (· intro w'; go_simp; with_reducible rfl); rotate_left; (· simp only [Act.put, sit, scz, scs, i64_w, i32_w]; rfl)
       refine pu_ 23 (some 4) ?_ (bs 24 16777215) HT_.out (by kernel_rfl) rfl rfl (fun _ _ _ h => h) (Or.inl ⟨by rfl, ?_⟩) ?_ ?_ ?_; rotate_left; (· intro w'; go_simp; with_reducible rfl); rotate_left; (· simp only [Act.put, sit, scz, scs, i64_w, i32_w]; rfl)
       refine done_ (done_of HT_.out (by kernel_rfl)) ?_
       try go_wp2
       go_ret
       exact ⟨by first | rfl | (simp [errW_none, errW_some] <;> rfl) | (simp only [← hji5]; first | rfl | (simp [errW_none, errW_some] <;> rfl)) | (simp [*, errW_none, errW_some] <;> rfl), by repeat (first | (with_reducible first | exact HB.out | apply below_alloc | apply pw_below_drewN | apply below_drew1) | exact HB.out)⟩
     ·rw [if_neg c8] at H
      have c8b0 : decide (0 ≤ ((rd_T45 l1 0).f1.f0)) = false := decide_eq_false c8
      clear c8
      obtain rfl := Option.some.inj H
      have p309 : 0 ≤ (0 : Int) := (by omega)
      have q309 : 0 < (l1.length : Int) := of_decide_eq_true (by first | (with_reducible assumption) | assumption)
      obtain ⟨ad309, e309, hx309_0, hx309_1, hx309_2⟩ := at_T45 HR1.out 0 p309 q309
      cases e309
      have qi309 : (0 < l1.length) = True := eq_true (by omega)
      (try rw [show ((0 : Int)).toNat = 0 from rfl] at hx309_0)
      (try rw [show 0 * 3 = 0 from rfl] at hx309_0)
      (try rw [Addr.add_zero'] at hx309_0)
      (try rw [show ((0 : Int)).toNat = 0 from rfl] at hx309_1)
      (try rw [show 0 * 3 = 0 from rfl] at hx309_1)
      (try rw [Addr.add_zero'] at hx309_1)
      (try rw [show ((0 : Int)).toNat = 0 from rfl] at hx309_2)
      (try rw [show 0 * 3 = 0 from rfl] at hx309_2)
      (try rw [Addr.add_zero'] at hx309_2)
      replace p309 := eq_true p309
      replace q309 := eq_true q309
      go_enter Tryd.func24, Tryd.ntmps24
      try go_wp2
      have n0_ := Aside0.mk (below_drew1 HB.out)
      clear HB
      have HB := n0_
      clear n0_
      have p310 : 0 ≤ ((ji5) : Int) := of_decide_eq_true (by first | (with_reducible assumption) | assumption)
      have q310 : (ji5) < (l1.length : Int) := of_decide_eq_true (by first | (with_reducible assumption) | assumption)
      obtain ⟨ad310, e310, hx310_0, hx310_1, hx310_2⟩ := at_T45 HR1.out (ji5) p310 q310
      have hw310_2 := hx310_2
      have hw310_1 := hx310_1
      have hw310_0 := hx310_0
      obtain rfl : ad309 = ad310 := (by injection e310)
      replace hx310_0 := (HB.out.cell (World.block_lt_of_cell? w _ hx310_0)).trans hx310_0
      replace hx310_1 := (HB.out.cell (World.block_lt_of_cell? w _ hx310_1)).trans hx310_1
      replace hx310_2 := (HB.out.cell (World.block_lt_of_cell? w _ hx310_2)).trans hx310_2
      replace p310 := eq_true p310
      replace q310 := eq_true q310
      have p311 : 0 ≤ ((ji5) : Int) := of_decide_eq_true (by first | (with_reducible assumption) | assumption)
      have q311 : (ji5) < (l1.length : Int) := of_decide_eq_true (by first | (with_reducible assumption) | assumption)
      obtain ⟨ad311, e311, hx311_0, hx311_1, hx311_2⟩ := at_T45 HR1.out (ji5) p311 q311
      have hw311_2 := hx311_2
      have hw311_1 := hx311_1
      have hw311_0 := hx311_0
      obtain rfl : ad309 = ad311 := (by injection e311)
      replace hx311_0 := (HB.out.cell (World.block_lt_of_cell? w _ hx311_0)).trans hx311_0
      replace hx311_1 := (HB.out.cell (World.block_lt_of_cell? w _ hx311_1)).trans hx311_1
      replace hx311_2 := (HB.out.cell (World.block_lt_of_cell? w _ hx311_2)).trans hx311_2
      replace p311 := eq_true p311
      replace q311 := eq_true q311
      refine start_ (n := 18) (S := fun w' => w'.cell? (ad309.add (((ji5)).toNat * 3)) = some (.int .i32 ((rd_T45 l1 (ji5)).f0)) ∧ w'.cell? ⟨(ad309.add (((ji5)).toNat * 3)).block, (ad309.add (((ji5)).toNat * 3)).off + 1, none⟩ = some (.int .i64 ((rd_T45 l1 (ji5)).f1.f0)) ∧ w'.cell? ⟨(ad309.add (((ji5)).toNat * 3)).block, (ad309.add (((ji5)).toNat * 3)).off + 2, none⟩ = some (.int .i64 ((rd_T45 l1 (ji5)).f1.f1)) ∧ w'.cell? (ad309.add (((ji5)).toNat * 3)) = some (.int .i32 ((rd_T45 l1 (ji5)).f0)) ∧ w'.cell? ⟨(ad309.add (((ji5)).toNat * 3)).block, (ad309.add (((ji5)).toNat * 3)).off + 1, none⟩ = some (.int .i64 ((rd_T45 l1 (ji5)).f1.f0)) ∧ w'.cell? ⟨(ad309.add (((ji5)).toNat * 3)).block, (ad309.add (((ji5)).toNat * 3)).off + 2, none⟩ = some (.int .i64 ((rd_T45 l1 (ji5)).f1.f1))) (ds := []) (bs 18 0) (by kernel_rfl) rfl rfl ⟨((HB.out.cell (World.block_lt_of_cell? w _ hw310_0)).trans hw310_0), ((HB.out.cell (World.block_lt_of_cell? w _ hw310_1)).trans hw310_1), ((HB.out.cell (World.block_lt_of_cell? w _ hw310_2)).trans hw310_2), ((HB.out.cell (World.block_lt_of_cell? w _ hw311_0)).trans hw311_0), ((HB.out.cell (World.block_lt_of_cell? w _ hw311_1)).trans hw311_1), ((HB.out.cell (World.block_lt_of_cell? w _ hw311_2)).trans hw311_2)⟩ (fun hHeld => ?_); refine with_tabW redpenref15_Literal.tab4 redpenref15_Literal.bits4 (fun HT_ HW_ => ?_)
      generalize w.drew = w25 at HB hx310_0 hx310_1 hx310_2 hx311_0 hx311_1 hx311_2 hHeld ⊢
      refine pu_ 0 (some 15) ?_ (bs 18 1) HT_.out (by kernel_rfl) rfl rfl (fun _ _ _ h => h) (Or.inl ⟨by rfl, ?_⟩) ?_ ?_ ?_; rotate_left; (· intro w'; go_simp; with_reducible rfl); rotate_left; (· simp only [Act.put, sit, scz, scs, i64_w, i32_w]; rfl)
      refine pu_ 1 (some 16) ?_ (bs 18 3) HT_.out (by kernel_rfl) rfl rfl (fun _ _ _ h => h) (Or.inl ⟨by rfl, ?_⟩) ?_ ?_ ?_; rotate_left; (· intro w'; go_simp; with_reducible rfl); rotate_left; (· simp only [Act.put, sit, scz, scs, i64_w, i32_w]; rfl)
      refine pu_ 2 (some 17) ?_ (bs 18 7) HT_.out (by kernel_rfl) rfl rfl (fun _ _ _ h => h) (Or.inl ⟨by rfl, ?_⟩) ?_ ?_ ?_; rotate_left; (· intro w'; go_simp; with_reducible rfl); rotate_left; (· simp only [Act.put, sit, scz, scs, i64_w, i32_w]; rfl)
      refine pu_ 3 (some 18) ?_ (bs 18 15) HT_.out (by kernel_rfl) rfl rfl (fun _ _ _ h => h) (Or.inl ⟨by rfl, ?_⟩) ?_ ?_ ?_; rotate_left; (· intro w'; go_simp; with_reducible rfl); rotate_left; (· simp only [Act.put, sit, scz, scs, i64_w, i32_w]; rfl)
      refine pu_ 4 (some 19) ?_ (bs 18 31) HT_.out (by kernel_rfl) rfl rfl (fun _ _ _ h => h) (Or.inl ⟨by rfl, ?_⟩) ?_ ?_ ?_; rotate_left; (· intro w'; go_simp; with_reducible rfl); rotate_left; (· simp only [Act.put, sit, scz, scs, i64_w, i32_w]; rfl)
      refine pu_ 5 (some 20) ?_ (bs 18 63) HT_.out (by kernel_rfl) rfl rfl (fun _ _ _ h => h) (Or.inl ⟨by rfl, ?_⟩) ?_ ?_ ?_; rotate_left; (· intro w'; go_simp; with_reducible rfl); rotate_left; (· simp only [Act.put, sit, scz, scs, i64_w, i32_w]; rfl)
      refine pu_ 6 (some 21) ?_ (bs 18 127) HT_.out (by kernel_rfl) rfl rfl (fun _ _ _ h => h) (Or.inl ⟨by rfl, ?_⟩) ?_ ?_ ?_; rotate_left; (· intro w'; go_simp; with_reducible rfl); rotate_left; (· simp only [Act.put, sit, scz, scs, i64_w, i32_w]; rfl)
      refine pu_ 8 (some 23) ?_ (bs 18 383) HT_.out (by kernel_rfl) rfl rfl (fun _ _ _ h => h) (Or.inl ⟨by rfl, ?_⟩) ?_ ?_ ?_; rotate_left; (· intro w'; go_simp; with_reducible rfl); rotate_left; (· simp only [Act.put, sit, scz, scs, i64_w, i32_w]; rfl)
      refine pu_ 9 (some 24) ?_ (bs 18 895) HT_.out (by kernel_rfl) rfl rfl (fun _ _ _ h => h) (Or.inl ⟨by rfl, ?_⟩) ?_ ?_ ?_; rotate_left; (· intro w'; go_simp; with_reducible rfl); rotate_left; (· simp only [Act.put, sit, scz, scs, i64_w, i32_w]; rfl)
      refine pu_ 10 (some 25) ?_ (bs 18 1919) HT_.out (by kernel_rfl) rfl rfl (fun _ _ _ h => h) (Or.inl ⟨by rfl, ?_⟩) ?_ ?_ ?_; rotate_left; (· intro w'; go_simp; with_reducible rfl); rotate_left; (· simp only [Act.put, sit, scz, scs, i64_w, i32_w]; rfl)
      refine pu_ 11 (some 26) ?_ (bs 18 3967) HT_.out (by kernel_rfl) rfl rfl (fun _ _ _ h => h) (Or.inl ⟨by rfl, ?_⟩) ?_ ?_ ?_; rotate_left; (· intro w'; go_simp; with_reducible rfl); rotate_left; (· simp only [Act.put, sit, scz, scs, i64_w, i32_w]; rfl)
      refine pu_ 12 (some 27) ?_ (bs 18 8063) HT_.out (by kernel_rfl) rfl rfl (fun _ _ _ h => h) (Or.inl ⟨by rfl, ?_⟩) ?_ ?_ ?_; rotate_left; (· intro w'; go_simp; with_reducible rfl); rotate_left; (· simp only [Act.put, sit, scz, scs, i64_w, i32_w]; rfl)
      refine pu_ 13 (some 28) ?_ (bs 18 16255) HT_.out (by kernel_rfl) rfl rfl (fun _ _ _ h => h) (Or.inl ⟨by rfl, ?_⟩) ?_ ?_ ?_; rotate_left; (· intro w'; go_simp; with_reducible rfl); rotate_left; (· simp only [Act.put, sit, scz, scs, i64_w, i32_w]; rfl)
      refine pu_ 14 (some 29) ?_ (bs 18 32639) HT_.out (by kernel_rfl) rfl rfl (fun _ _ _ h => h) (Or.inl ⟨by rfl, ?_⟩) ?_ ?_ ?_; rotate_left; (· intro w'; go_simp; with_reducible rfl); rotate_left; (· simp only [Act.put, sit, scz, scs, i64_w, i32_w]; rfl)
      refine take_ (i := 7) (N := some 22) (v := ?_) (a' := ?_) (bs 18 32767) rfl rfl (take_ofW HT_.out HW_.out (by kernel_rfl)) (fun _ _ _ h => h) (Or.inl ⟨by rfl, ?_⟩) hHeld ?_ ?_; rotate_left; (· rintro w' ⟨s0, s1, s2, s3, s4, s5⟩; go_simp; with_reducible rfl); rotate_left; (· simp only [Act.put, sit, scz, scs, i64_w, i32_w]; rfl)
      refine take_ (i := 15) (N := some 30) (v := ?_) (a' := ?_) (bs 18 65535) rfl rfl (take_ofW HT_.out HW_.out (by kernel_rfl)) (fun _ _ _ h => h) (Or.inl ⟨by rfl, ?_⟩) hHeld ?_ ?_; rotate_left; (· rintro w' ⟨s0, s1, s2, s3, s4, s5⟩; go_simp; with_reducible rfl); rotate_left; (· simp only [Act.put, sit, scz, scs, i64_w, i32_w]; rfl)
      refine pu_ 16 (some 31) ?_ (bs 18 131071) HT_.out (by kernel_rfl) rfl rfl (fun _ _ _ h => h) (Or.inl ⟨by rfl, ?_⟩) ?_ ?_ ?_; rotate_left; (· intro w'; go_simp; with_reducible rfl); rotate_left; (· simp only [Act.put, sit, scz, scs, i64_w, i32_w]; rfl)
      refine pu_ 17 (some 6) ?_ (bs 18 262143) HT_.out (by kernel_rfl) rfl rfl (fun _ _ _ h => h) (Or.inl ⟨by rfl, ?_⟩) ?_ ?_ ?_; rotate_left; (· intro w'; go_simp; with_reducible rfl); rotate_left; (· simp only [Act.put, sit, scz, scs, i64_w, i32_w]; rfl)
      refine done_ (done_of HT_.out (by kernel_rfl)) ?_
      try go_wp2
      have n0_ := Aside0.mk (below_drew1 HB.out)
      clear HB
      have HB := n0_
      clear n0_
      refine start_ (n := 24) (S := fun w' => True) (ds := []) (bs 24 0) (by kernel_rfl) rfl rfl trivial (fun hHeld => ?_); refine with_tabW redpenref15_Literal.tab5 redpenref15_Literal.bits5 (fun HT_ HW_ => ?_)
      generalize w25.drew = w26 at HB hHeld ⊢
      refine pu_ 0 (some 32) ?_ (bs 24 1) HT_.out (by kernel_rfl) rfl rfl (fun _ _ _ h => h) (Or.inl ⟨by rfl, ?_⟩) ?_ ?_ ?_; rotate_left; (· intro w'; go_simp; with_reducible rfl); rotate_left; (· simp only [Act.put, sit, scz, scs, i64_w, i32_w]; rfl)
      refine pu_ 1 (some 33) ?_ (bs 24 3) HT_.out (by kernel_rfl) rfl rfl (fun _ _ _ h => h) (Or.inl ⟨by rfl, ?_⟩) ?_ ?_ ?_; rotate_left; (· intro w'; go_simp; with_reducible rfl); rotate_left; (· simp only [Act.put, sit, scz, scs, i64_w, i32_w]; rfl)
      refine pu_ 2 (some 34) ?_ (bs 24 7) HT_.out (by kernel_rfl) rfl rfl (fun _ _ _ h => h) (Or.inl ⟨by rfl, ?_⟩) ?_ ?_ ?_; rotate_left; (· intro w'; go_simp; with_reducible rfl); rotate_left; (· simp only [Act.put, sit, scz, scs, i64_w, i32_w]; rfl)
      refine pu_ 3 (some 35) undef (bs 24 15) HT_.out (by kernel_rfl) rfl rfl (fun _ _ _ h => h) (Or.inr ⟨by rfl, rfl⟩) ?_ ?_ ?_; rotate_left; (· simp only [Act.put, sit, scz, scs, i64_w, i32_w]; rfl)
      refine pu_ 4 (some 36) undef (bs 24 31) HT_.out (by kernel_rfl) rfl rfl (fun _ _ _ h => h) (Or.inr ⟨by rfl, rfl⟩) ?_ ?_ ?_; rotate_left; (· simp only [Act.put, sit, scz, scs, i64_w, i32_w]; rfl)
      refine pu_ 5 (some 37) undef (bs 24 63) HT_.out (by kernel_rfl) rfl rfl (fun _ _ _ h => h) (Or.inr ⟨by rfl, rfl⟩) ?_ ?_ ?_; rotate_left; (· simp only [Act.put, sit, scz, scs, i64_w, i32_w]; rfl)
      refine pu_ 6 (some 38) ?_ (bs 24 127) HT_.out (by kernel_rfl) rfl rfl (fun _ _ _ h => h) (Or.inl ⟨by rfl, ?_⟩) ?_ ?_ ?_; rotate_left; (· intro w'; go_simp; with_reducible rfl); rotate_left; (· simp only [Act.put, sit, scz, scs, i64_w, i32_w]; rfl)
      refine pu_ 7 (some 39) ?_ (bs 24 255) HT_.out (by kernel_rfl) rfl rfl (fun _ _ _ h => h) (Or.inl ⟨by rfl, ?_⟩) ?_ ?_ ?_; rotate_left; (· intro w'; go_simp; with_reducible rfl); rotate_left; (· simp only [Act.put, sit, scz, scs, i64_w, i32_w]; rfl)
      refine pu_ 8 (some 40) undef (bs 24 511) HT_.out (by kernel_rfl) rfl rfl (fun _ _ _ h => h) (Or.inr ⟨by rfl, rfl⟩) ?_ ?_ ?_; rotate_left; (· simp only [Act.put, sit, scz, scs, i64_w, i32_w]; rfl)
      refine pu_ 9 (some 41) undef (bs 24 1023) HT_.out (by kernel_rfl) rfl rfl (fun _ _ _ h => h) (Or.inr ⟨by rfl, rfl⟩) ?_ ?_ ?_; rotate_left; (· simp only [Act.put, sit, scz, scs, i64_w, i32_w]; rfl)
      refine pu_ 10 (some 42) undef (bs 24 2047) HT_.out (by kernel_rfl) rfl rfl (fun _ _ _ h => h) (Or.inr ⟨by rfl, rfl⟩) ?_ ?_ ?_; rotate_left; (· simp only [Act.put, sit, scz, scs, i64_w, i32_w]; rfl)
      refine pu_ 11 (some 43) undef (bs 24 4095) HT_.out (by kernel_rfl) rfl rfl (fun _ _ _ h => h) (Or.inr ⟨by rfl, rfl⟩) ?_ ?_ ?_; rotate_left; (· simp only [Act.put, sit, scz, scs, i64_w, i32_w]; rfl)
      refine pu_ 12 (some 44) ?_ (bs 24 8191) HT_.out (by kernel_rfl) rfl rfl (fun _ _ _ h => h) (Or.inl ⟨by rfl, ?_⟩) ?_ ?_ ?_; rotate_left; (· intro w'; go_simp; with_reducible rfl); rotate_left; (· simp only [Act.put, sit, scz, scs, i64_w, i32_w]; rfl)
      refine pu_ 13 (some 45) ?_ (bs 24 16383) HT_.out (by kernel_rfl) rfl rfl (fun _ _ _ h => h) (Or.inl ⟨by rfl, ?_⟩) ?_ ?_ ?_; rotate_left; (· intro w'; go_simp; with_reducible rfl); rotate_left; (· simp only [Act.put, sit, scz, scs, i64_w, i32_w]; rfl)
      refine pu_ 14 (some 46) undef (bs 24 32767) HT_.out (by kernel_rfl) rfl rfl (fun _ _ _ h => h) (Or.inr ⟨by rfl, rfl⟩) ?_ ?_ ?_; rotate_left; (· simp only [Act.put, sit, scz, scs, i64_w, i32_w]; rfl)
      refine pu_ 15 (some 47) undef (bs 24 65535) HT_.out (by kernel_rfl) rfl rfl (fun _ _ _ h => h) (Or.inr ⟨by rfl, rfl⟩) ?_ ?_ ?_; rotate_left; (· simp only [Act.put, sit, scz, scs, i64_w, i32_w]; rfl)
      refine pu_ 16 (some 48) undef (bs 24 131071) HT_.out (by kernel_rfl) rfl rfl (fun _ _ _ h => h) (Or.inr ⟨by rfl, rfl⟩) ?_ ?_ ?_; rotate_left; (· simp only [Act.put, sit, scz, scs, i64_w, i32_w]; rfl)
      refine pu_ 17 (some 49) undef (bs 24 262143) HT_.out (by kernel_rfl) rfl rfl (fun _ _ _ h => h) (Or.inr ⟨by rfl, rfl⟩) ?_ ?_ ?_; rotate_left; (· simp only [Act.put, sit, scz, scs, i64_w, i32_w]; rfl)
      refine pu_ 18 (some 50) undef (bs 24 524287) HT_.out (by kernel_rfl) rfl rfl (fun _ _ _ h => h) (Or.inr ⟨by rfl, rfl⟩) ?_ ?_ ?_; rotate_left; (· simp only [Act.put, sit, scz, scs, i64_w, i32_w]; rfl)
      refine pu_ 19 (some 51) undef (bs 24 1048575) HT_.out (by kernel_rfl) rfl rfl (fun _ _ _ h => h) (Or.inr ⟨by rfl, rfl⟩) ?_ ?_ ?_; rotate_left; (· simp only [Act.put, sit, scz, scs, i64_w, i32_w]; rfl)
      refine pu_ 20 (some 52) undef (bs 24 2097151) HT_.out (by kernel_rfl) rfl rfl (fun _ _ _ h => h) (Or.inr ⟨by rfl, rfl⟩) ?_ ?_ ?_; rotate_left; (· simp only [Act.put, sit, scz, scs, i64_w, i32_w]; rfl)
      refine pu_ 21 (some 53) undef (bs 24 4194303) HT_.out (by kernel_rfl) rfl rfl (fun _ _ _ h => h) (Or.inr ⟨by rfl, rfl⟩) ?_ ?_ ?_; rotate_left; (· simp only [Act.put, sit, scz, scs, i64_w, i32_w]; rfl)
      refine pu_ 22 (some 54) ?_ (bs 24 8388607) HT_.out (by kernel_rfl) rfl rfl (fun _ _ _ h => h) (Or.inl ⟨by rfl, ?_⟩) ?_ ?_ ?_; rotate_left; (· intro w'; go_simp; with_reducible rfl); rotate_left; (· simp only [Act.put, sit, scz, scs, i64_w, i32_w]; rfl)
      refine pu_ 23 (some 4) ?_ (bs 24 16777215) HT_.out (by kernel_rfl) rfl rfl (fun _ _ _ h => h) (Or.inl ⟨by rfl, ?_⟩) ?_ ?_ ?_; rotate_left; (· intro w'; go_simp; with_reducible rfl); rotate_left; (· simp only [Act.put, sit, scz, scs, i64_w, i32_w]; rfl)
      refine done_ (done_of HT_.out (by kernel_rfl)) ?_
      try go_wp2
      go_ret
      exact ⟨by first | rfl | (simp [errW_none, errW_some] <;> rfl) | (simp only [← hji5]; first | rfl | (simp [errW_none, errW_some] <;> rfl)) | (simp [*, errW_none, errW_some] <;> rfl), by repeat (first | (with_reducible first | exact HB.out | apply below_alloc | apply pw_below_drewN | apply below_drew1) | exact HB.out)⟩
    ·rw [if_neg c7] at H
     exact absurd H (by simp)
   ·rw [if_neg c6] at H
    exact absurd H (by simp)
  ·rw [if_neg c4] at H
   exact absurd H (by simp)

end Go.Proofs.YtekalnhackjldaaDoor.PTokenWords
