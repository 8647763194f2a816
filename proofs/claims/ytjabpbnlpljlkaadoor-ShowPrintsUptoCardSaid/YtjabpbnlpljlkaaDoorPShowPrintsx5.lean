-- Laid by a program of ours (the kit's print with words and contracts of our own beside it).
import Derived.Test.YtjabpbnlpljlkaaDoorPShowPrintsx0
import Derived.Test.YtjabpbnlpljlkaaDoorPShowPrintsx1
import Derived.Test.YtjabpbnlpljlkaaDoorPShowPrintsx3
import Derived.Test.YtjabpbnlpljlkaaDoorPShowPrintsx4
namespace Go.Proofs.YtjabpbnlpljlkaaDoor.PShowPrints
open Go.RowKit Go.Proofs.YtjabpbnlpljlkaaDoor.X Go.Proofs.YtjabpbnlpljlkaaDoorW.PrintWords Go.Proofs.YtjabpbnlpljlkaaDoorW.PrintLast Go.Proofs.YtjabpbnlpljlkaaDoorW.PrintMore
attribute [local go_sem] max2_int min2_int max_two min_two max_three min_three max_four min_four   -- for this text's walks alone
set_option linter.unusedVariables false
set_option linter.unusedSimpArgs false

-- NOT PRINTED: function 78 (abi_NoEscape)

-- NOT PRINTED: function 56 (strings_Builder_copyCheck)

-- NOT PRINTED: function 33 (strings_Builder_WriteString)

-- NOT PRINTED: function 34 (strings_Builder_String)

/-! ### show_Print: function 18 -/
mutual
def show_Print.l0 : Nat → ByteArray → List (S26) → Int → Int → Option (ByteArray × Int)
 | 0, _, _, _, _ => none
 | k + 1, x6, x25, x26, x27 => if x27 < x26 then (if 0 ≤ x27 then (if x27 < (x25.length : Int) then ((show_Check.f k ((rd_T26 x25 x27).f0) ((rd_T26 x25 x27).f1) ((rd_T26 x25 x27).f2) ((rd_T26 x25 x27).f3) ((rd_T26 x25 x27).f4)).bind fun t126 => (if t126 = 0 then ((show_Head.f ((rd_T26 x25 x27).f0) ((rd_T26 x25 x27).f1) ((rd_T26 x25 x27).f2) ((rd_T26 x25 x27).f3) ((rd_T26 x25 x27).f4)).bind fun t127 => (if x6.size + t127.size ≤ 140737488355328 then (show_Print.l1 k (x6 ++ t127) x25 x26 x27 ((rd_T26 x25 x27).f4) (((rd_T26 x25 x27).f4).length : Int) 0) else (none))) else (some ((⟨#[]⟩ : ByteArray), t126)))) else (none)) else (none)) else (some (x6, 0))
def show_Print.l1 : Nat → ByteArray → List (S26) → Int → Int → List (S29) → Int → Int → Option (ByteArray × Int)
 | 0, _, _, _, _, _, _, _ => none
 | k + 1, x6, x25, x26, x27, x40, x41, x42 => if x42 < x41 then (if 0 ≤ x42 then (if x42 < (x40.length : Int) then ((some (([(rd_T29 x40 x42).f0] : List Int) : List Int)).bind fun y130 => (if (strOfNums y130).size + ((rd_T29 x40 x42).f1).size ≤ 9223372036854775807 then (if ((strOfNums y130) ++ ((rd_T29 x40 x42).f1)).size + 1 ≤ 9223372036854775807 then (if x6.size + (((strOfNums y130) ++ ((rd_T29 x40 x42).f1)) ++ (⟨#[10]⟩ : ByteArray)).size ≤ 140737488355328 then (if (rd_T29 x40 x42).f2 = true then (if (x6 ++ (((strOfNums y130) ++ ((rd_T29 x40 x42).f1)) ++ (⟨#[10]⟩ : ByteArray))).size + 28 ≤ 140737488355328 then (show_Print.l1 k ((x6 ++ (((strOfNums y130) ++ ((rd_T29 x40 x42).f1)) ++ (⟨#[10]⟩ : ByteArray))) ++ (⟨#[92, 32, 78, 111, 32, 110, 101, 119, 108, 105, 110, 101, 32, 97, 116, 32, 101, 110, 100, 32, 111, 102, 32, 102, 105, 108, 101, 10]⟩ : ByteArray)) x25 x26 x27 x40 x41 (wrap64 (x42 + 1))) else (none)) else (show_Print.l1 k (x6 ++ (((strOfNums y130) ++ ((rd_T29 x40 x42).f1)) ++ (⟨#[10]⟩ : ByteArray))) x25 x26 x27 x40 x41 (wrap64 (x42 + 1)))) else (none)) else (none)) else (none))) else (none)) else (none)) else (show_Print.l0 k x6 x25 x26 (wrap64 (x27 + 1)))
end
def show_Print.f (k : Nat) (a0 : ByteArray) (l1 : List (S26)) : Option (ByteArray × Int) := (show_Name.f a0).bind fun t123 => (if t123 = true then (if (l1.length : Int) = 0 then (some ((⟨#[]⟩ : ByteArray), 0)) else (if 6 + a0.size ≤ 9223372036854775807 then (if ((⟨#[45, 45, 45, 32, 97, 47]⟩ : ByteArray) ++ a0).size + 7 ≤ 9223372036854775807 then (if (((⟨#[45, 45, 45, 32, 97, 47]⟩ : ByteArray) ++ a0) ++ (⟨#[10, 43, 43, 43, 32, 98, 47]⟩ : ByteArray)).size + a0.size ≤ 9223372036854775807 then (if ((((⟨#[45, 45, 45, 32, 97, 47]⟩ : ByteArray) ++ a0) ++ (⟨#[10, 43, 43, 43, 32, 98, 47]⟩ : ByteArray)) ++ a0).size + 1 ≤ 9223372036854775807 then (if 0 + (((((⟨#[45, 45, 45, 32, 97, 47]⟩ : ByteArray) ++ a0) ++ (⟨#[10, 43, 43, 43, 32, 98, 47]⟩ : ByteArray)) ++ a0) ++ (⟨#[10]⟩ : ByteArray)).size ≤ 140737488355328 then (show_Print.l0 k ((⟨#[]⟩ : ByteArray) ++ (((((⟨#[45, 45, 45, 32, 97, 47]⟩ : ByteArray) ++ a0) ++ (⟨#[10, 43, 43, 43, 32, 98, 47]⟩ : ByteArray)) ++ a0) ++ (⟨#[10]⟩ : ByteArray))) l1 (l1.length : Int) 0) else (none)) else (none)) else (none)) else (none)) else (none))) else (some ((⟨#[]⟩ : ByteArray), 10)))
theorem show_Print.mono_l : ∀ k, (∀ y0 y1 y2 y3, LeO (show_Print.l0 k y0 y1 y2 y3) (show_Print.l0 (k + 1) y0 y1 y2 y3)) ∧ (∀ y0 y1 y2 y3 y4 y5 y6, LeO (show_Print.l1 k y0 y1 y2 y3 y4 y5 y6) (show_Print.l1 (k + 1) y0 y1 y2 y3 y4 y5 y6))
 | 0 => ⟨fun _ _ _ _ r h => by simp [show_Print.l0] at h, fun _ _ _ _ _ _ _ r h => by simp [show_Print.l1] at h⟩
 | k + 1 => by
  obtain ⟨ih0, ih1⟩ := show_Print.mono_l k
  refine ⟨?_, ?_⟩
  ·intro y0 y1 y2 y3
   unfold show_Print.l0
   repeat' first
   | (with_reducible exact ih0 _ _ _ _)
   | (with_reducible exact ih1 _ _ _ _ _ _ _)
   | (with_reducible exact show_Check.mono _ _ _ _ _ _)
   | (with_reducible exact LeO.refl _)
   | (with_reducible exact LeO.none _)
   | (with_reducible refine LeO.ite ?_ ?_)
   | (with_reducible refine LeO.bind ?_ (fun _ => ?_))
   | exact ih0 _ _ _ _
   | exact ih1 _ _ _ _ _ _ _
   | exact show_Check.mono _ _ _ _ _ _
   | exact LeO.none _
   | refine LeO.ite ?_ ?_
   | refine LeO.bind ?_ (fun _ => ?_)
  ·intro y0 y1 y2 y3 y4 y5 y6
   unfold show_Print.l1
   repeat' first
   | (with_reducible exact ih0 _ _ _ _)
   | (with_reducible exact ih1 _ _ _ _ _ _ _)
   | (with_reducible exact show_Check.mono _ _ _ _ _ _)
   | (with_reducible exact LeO.refl _)
   | (with_reducible exact LeO.none _)
   | (with_reducible refine LeO.ite ?_ ?_)
   | (with_reducible refine LeO.bind ?_ (fun _ => ?_))
   | exact ih0 _ _ _ _
   | exact ih1 _ _ _ _ _ _ _
   | exact show_Check.mono _ _ _ _ _ _
   | exact LeO.none _
   | refine LeO.ite ?_ ?_
   | refine LeO.bind ?_ (fun _ => ?_)
theorem show_Print.mono : ∀ a0 a1 k, LeO (show_Print.f k a0 a1) (show_Print.f (k + 1) a0 a1) := by
 intro a0 a1 k
 obtain ⟨ih0, ih1⟩ := show_Print.mono_l k
 unfold show_Print.f
 repeat' first
   | (with_reducible exact ih0 _ _ _ _)
   | (with_reducible exact ih1 _ _ _ _ _ _ _)
   | (with_reducible exact show_Check.mono _ _ _ _ _ _)
   | (with_reducible exact LeO.refl _)
   | (with_reducible exact LeO.none _)
   | (with_reducible refine LeO.ite ?_ ?_)
   | (with_reducible refine LeO.bind ?_ (fun _ => ?_))
   | exact ih0 _ _ _ _
   | exact ih1 _ _ _ _ _ _ _
   | exact show_Check.mono _ _ _ _ _ _
   | exact LeO.none _
   | refine LeO.ite ?_ ?_
   | refine LeO.bind ?_ (fun _ => ?_)
set_option maxHeartbeats 8000000 in
set_option maxRecDepth 100000 in
theorem show_Print.calls (k : Nat) (a0 : ByteArray) (A1 : Option Addr) (c1 : Nat) (l1 : List (S26)) (r1 : ByteArray) (r2 : Int) (w : World) (hr1 : Kd.C k26 w A1 l1.length l1) (hc1 : l1.length ≤ c1) (h : show_Print.f k a0 l1 = some (r1, r2)) (hL : Go.Proofs.YtjabpbnlpljlkaaDoor.H.Laid w) :
  Calls Tryd.prog 18 #[.string a0, .slice A1 l1.length c1] w fun e w' => e = .returned (.tuple #[.string r1, .int .i64 r2]) ∧ Below w.heap.size w w' := by
 have hu26 := Tryd.underlying26
 have hu29 := Tryd.underlying29
 have HL := Aside0.mk hL
 clear hL
 have HR1 := Aside0.mk hr1
 have HC1 := Aside0.mk hc1
 clear hr1 hc1
 have HB := Aside0.mk (Below.refl w.heap.size w)
 have H : ((show_Name.f a0).bind fun t123 => (if t123 = true then (if (l1.length : Int) = 0 then (some ((⟨#[]⟩ : ByteArray), 0)) else (if 6 + a0.size ≤ 9223372036854775807 then (if ((⟨#[45, 45, 45, 32, 97, 47]⟩ : ByteArray) ++ a0).size + 7 ≤ 9223372036854775807 then (if (((⟨#[45, 45, 45, 32, 97, 47]⟩ : ByteArray) ++ a0) ++ (⟨#[10, 43, 43, 43, 32, 98, 47]⟩ : ByteArray)).size + a0.size ≤ 9223372036854775807 then (if ((((⟨#[45, 45, 45, 32, 97, 47]⟩ : ByteArray) ++ a0) ++ (⟨#[10, 43, 43, 43, 32, 98, 47]⟩ : ByteArray)) ++ a0).size + 1 ≤ 9223372036854775807 then (if 0 + (((((⟨#[45, 45, 45, 32, 97, 47]⟩ : ByteArray) ++ a0) ++ (⟨#[10, 43, 43, 43, 32, 98, 47]⟩ : ByteArray)) ++ a0) ++ (⟨#[10]⟩ : ByteArray)).size ≤ 140737488355328 then (show_Print.l0 k ((⟨#[]⟩ : ByteArray) ++ (((((⟨#[45, 45, 45, 32, 97, 47]⟩ : ByteArray) ++ a0) ++ (⟨#[10, 43, 43, 43, 32, 98, 47]⟩ : ByteArray)) ++ a0) ++ (⟨#[10]⟩ : ByteArray))) l1 (l1.length : Int) 0) else (none)) else (none)) else (none)) else (none)) else (none))) else (some ((⟨#[]⟩ : ByteArray), 10)))) = some (r1, r2) := h
 clear h
 replace H := Option.bind_eq_some_iff.mp H
 obtain ⟨t123, A30, H⟩ := H
 replace H : (if t123 = true then (if (l1.length : Int) = 0 then (some ((⟨#[]⟩ : ByteArray), 0)) else (if 6 + a0.size ≤ 9223372036854775807 then (if ((⟨#[45, 45, 45, 32, 97, 47]⟩ : ByteArray) ++ a0).size + 7 ≤ 9223372036854775807 then (if (((⟨#[45, 45, 45, 32, 97, 47]⟩ : ByteArray) ++ a0) ++ (⟨#[10, 43, 43, 43, 32, 98, 47]⟩ : ByteArray)).size + a0.size ≤ 9223372036854775807 then (if ((((⟨#[45, 45, 45, 32, 97, 47]⟩ : ByteArray) ++ a0) ++ (⟨#[10, 43, 43, 43, 32, 98, 47]⟩ : ByteArray)) ++ a0).size + 1 ≤ 9223372036854775807 then (if 0 + (((((⟨#[45, 45, 45, 32, 97, 47]⟩ : ByteArray) ++ a0) ++ (⟨#[10, 43, 43, 43, 32, 98, 47]⟩ : ByteArray)) ++ a0) ++ (⟨#[10]⟩ : ByteArray)).size ≤ 140737488355328 then (show_Print.l0 k ((⟨#[]⟩ : ByteArray) ++ (((((⟨#[45, 45, 45, 32, 97, 47]⟩ : ByteArray) ++ a0) ++ (⟨#[10, 43, 43, 43, 32, 98, 47]⟩ : ByteArray)) ++ a0) ++ (⟨#[10]⟩ : ByteArray))) l1 (l1.length : Int) 0) else (none)) else (none)) else (none)) else (none)) else (none))) else (some ((⟨#[]⟩ : ByteArray), 10))) = some (r1, r2) := H
 have A3 := Aside0.mk A30
 clear A30
 by_cases c4 : t123 = true
 ·subst c4
  have H1 : (if (l1.length : Int) = 0 then (some ((⟨#[]⟩ : ByteArray), 0)) else (if 6 + a0.size ≤ 9223372036854775807 then (if ((⟨#[45, 45, 45, 32, 97, 47]⟩ : ByteArray) ++ a0).size + 7 ≤ 9223372036854775807 then (if (((⟨#[45, 45, 45, 32, 97, 47]⟩ : ByteArray) ++ a0) ++ (⟨#[10, 43, 43, 43, 32, 98, 47]⟩ : ByteArray)).size + a0.size ≤ 9223372036854775807 then (if ((((⟨#[45, 45, 45, 32, 97, 47]⟩ : ByteArray) ++ a0) ++ (⟨#[10, 43, 43, 43, 32, 98, 47]⟩ : ByteArray)) ++ a0).size + 1 ≤ 9223372036854775807 then (if 0 + (((((⟨#[45, 45, 45, 32, 97, 47]⟩ : ByteArray) ++ a0) ++ (⟨#[10, 43, 43, 43, 32, 98, 47]⟩ : ByteArray)) ++ a0) ++ (⟨#[10]⟩ : ByteArray)).size ≤ 140737488355328 then (show_Print.l0 k ((⟨#[]⟩ : ByteArray) ++ (((((⟨#[45, 45, 45, 32, 97, 47]⟩ : ByteArray) ++ a0) ++ (⟨#[10, 43, 43, 43, 32, 98, 47]⟩ : ByteArray)) ++ a0) ++ (⟨#[10]⟩ : ByteArray))) l1 (l1.length : Int) 0) else (none)) else (none)) else (none)) else (none)) else (none))) = some (r1, r2) := by rw [if_pos rfl] at H; exact H
  clear H
  have H := H1
  clear H1
  by_cases c5 : (l1.length : Int) = 0
  ·rw [if_pos c5] at H
   have c5b0 : ((l1.length : Int) == 0) = true := beq_iff_eq.mpr c5
   have c5b1 : ((l1.length : Int) != 0) = false := bne_eq_false_iff_eq.mpr c5
   clear c5
   simp only [Option.some.injEq, Prod.mk.injEq] at H
   obtain ⟨rfl, rfl⟩ := H
   go_enter Tryd.func18, Tryd.ntmps18
   go_wp2_with (first | ((with_reducible refine gate_callee (f := 13) rfl ?_); refine goesL_ (some 13) rfl rfl Tryd.func13 (by kernel_rfl) rfl #[.string a0] rfl (by (try simp only [List.map_toArray, List.map_cons, List.map_nil]); first | done | rfl | (simp only [List.length_drop, List.length_take]; rfl)) ?_; (with_reducible refine (show_Name.calls a0 true _ A3.out).mono ?_); rintro e w6 ⟨rfl, hb⟩; refine ⟨_, rfl, ?_⟩; have n0_ := Aside0.mk (below_step (by repeat (first | (with_reducible first | exact HB.out | apply below_alloc | apply pw_below_drewN | apply below_drew1) | exact HB.out)) hb); clear HB; have HB := n0_; clear n0_; (try clear hb); (try clear hb2); (try clear hk); (try clear hi)))
   go_ret2
   exact ⟨by first | rfl | (simp [errW_none, errW_some] <;> rfl) | (simp [*, errW_none, errW_some] <;> rfl), by repeat (first | (with_reducible first | exact HB.out | apply below_alloc | apply pw_below_drewN | apply below_drew1) | exact HB.out)⟩
  ·rw [if_neg c5] at H
   have c5b0 : ((l1.length : Int) == 0) = false := beq_eq_false_iff_ne.mpr c5
   have c5b1 : ((l1.length : Int) != 0) = true := bne_iff_ne.mpr c5
   have c5b2 : ¬ (l1 = []) := fun h_ => c5 (by rw [h_]; rfl)
   by_cases c7 : 6 + a0.size ≤ 9223372036854775807
   ·rw [if_pos c7] at H
    have c7b0 := eq_true c7
    have c7b1 : decide (6 + a0.size ≤ 9223372036854775807) = true := decide_eq_true c7
    try have c7b2 : (9223372036854775807 < 6 + a0.size) = False := eq_false (Nat.not_lt.2 c7)
    by_cases c8 : ((⟨#[45, 45, 45, 32, 97, 47]⟩ : ByteArray) ++ a0).size + 7 ≤ 9223372036854775807
    ·rw [if_pos c8] at H
     have c8b0 := eq_true c8
     have c8b1 : decide (((⟨#[45, 45, 45, 32, 97, 47]⟩ : ByteArray) ++ a0).size + 7 ≤ 9223372036854775807) = true := decide_eq_true c8
     try have c8b2 : (9223372036854775807 < ((⟨#[45, 45, 45, 32, 97, 47]⟩ : ByteArray) ++ a0).size + 7) = False := eq_false (Nat.not_lt.2 c8)
     try (have c8b4 := c8b2; simp only [ByteArray.size_append, show (⟨#[45, 45, 45, 32, 97, 47]⟩ : ByteArray).size = 6 from rfl] at c8b4)
     by_cases c9 : (((⟨#[45, 45, 45, 32, 97, 47]⟩ : ByteArray) ++ a0) ++ (⟨#[10, 43, 43, 43, 32, 98, 47]⟩ : ByteArray)).size + a0.size ≤ 9223372036854775807
     ·rw [if_pos c9] at H
      have c9b0 := eq_true c9
      have c9b1 : decide ((((⟨#[45, 45, 45, 32, 97, 47]⟩ : ByteArray) ++ a0) ++ (⟨#[10, 43, 43, 43, 32, 98, 47]⟩ : ByteArray)).size + a0.size ≤ 9223372036854775807) = true := decide_eq_true c9
      try have c9b2 : (9223372036854775807 < (((⟨#[45, 45, 45, 32, 97, 47]⟩ : ByteArray) ++ a0) ++ (⟨#[10, 43, 43, 43, 32, 98, 47]⟩ : ByteArray)).size + a0.size) = False := eq_false (Nat.not_lt.2 c9)
      try (have c9b4 := c9b2; simp only [ByteArray.size_append, show (⟨#[10, 43, 43, 43, 32, 98, 47]⟩ : ByteArray).size = 7 from rfl, show (⟨#[45, 45, 45, 32, 97, 47]⟩ : ByteArray).size = 6 from rfl] at c9b4)
      by_cases c10 : ((((⟨#[45, 45, 45, 32, 97, 47]⟩ : ByteArray) ++ a0) ++ (⟨#[10, 43, 43, 43, 32, 98, 47]⟩ : ByteArray)) ++ a0).size + 1 ≤ 9223372036854775807
      ·rw [if_pos c10] at H
       have c10b0 := eq_true c10
       have c10b1 : decide (((((⟨#[45, 45, 45, 32, 97, 47]⟩ : ByteArray) ++ a0) ++ (⟨#[10, 43, 43, 43, 32, 98, 47]⟩ : ByteArray)) ++ a0).size + 1 ≤ 9223372036854775807) = true := decide_eq_true c10
       try have c10b2 : (9223372036854775807 < ((((⟨#[45, 45, 45, 32, 97, 47]⟩ : ByteArray) ++ a0) ++ (⟨#[10, 43, 43, 43, 32, 98, 47]⟩ : ByteArray)) ++ a0).size + 1) = False := eq_false (Nat.not_lt.2 c10)
       try (have c10b4 := c10b2; simp only [ByteArray.size_append, show (⟨#[10, 43, 43, 43, 32, 98, 47]⟩ : ByteArray).size = 7 from rfl, show (⟨#[45, 45, 45, 32, 97, 47]⟩ : ByteArray).size = 6 from rfl] at c10b4)
       by_cases c11 : 0 + (((((⟨#[45, 45, 45, 32, 97, 47]⟩ : ByteArray) ++ a0) ++ (⟨#[10, 43, 43, 43, 32, 98, 47]⟩ : ByteArray)) ++ a0) ++ (⟨#[10]⟩ : ByteArray)).size ≤ 140737488355328
       ·rw [if_pos c11] at H
        have c11b0 := eq_true c11
        have c11b1 : decide (0 + (((((⟨#[45, 45, 45, 32, 97, 47]⟩ : ByteArray) ++ a0) ++ (⟨#[10, 43, 43, 43, 32, 98, 47]⟩ : ByteArray)) ++ a0) ++ (⟨#[10]⟩ : ByteArray)).size ≤ 140737488355328) = true := decide_eq_true c11
        try have c11b2 : (140737488355328 < 0 + (((((⟨#[45, 45, 45, 32, 97, 47]⟩ : ByteArray) ++ a0) ++ (⟨#[10, 43, 43, 43, 32, 98, 47]⟩ : ByteArray)) ++ a0) ++ (⟨#[10]⟩ : ByteArray)).size) = False := eq_false (Nat.not_lt.2 c11)
        try (have c11b4 := c11b2; simp only [ByteArray.size_append, show (⟨#[10, 43, 43, 43, 32, 98, 47]⟩ : ByteArray).size = 7 from rfl, show (⟨#[10]⟩ : ByteArray).size = 1 from rfl, show (⟨#[45, 45, 45, 32, 97, 47]⟩ : ByteArray).size = 6 from rfl] at c11b4)
        have H' := Aside0.mk H
        clear H
        go_enter Tryd.func18, Tryd.ntmps18
        go_wp2_with (first | ((with_reducible refine gate_callee (f := 13) rfl ?_); refine goesL_ (some 13) rfl rfl Tryd.func13 (by kernel_rfl) rfl #[.string a0] rfl (by (try simp only [List.map_toArray, List.map_cons, List.map_nil]); first | done | rfl | (simp only [List.length_drop, List.length_take]; rfl)) ?_; (with_reducible refine (show_Name.calls a0 true _ A3.out).mono ?_); rintro e w12 ⟨rfl, hb⟩; refine ⟨_, rfl, ?_⟩; have n0_ := Aside0.mk (below_step (by repeat (first | (with_reducible first | exact HB.out | apply below_alloc | apply pw_below_drewN | apply below_drew1) | exact HB.out)) hb); clear HB; have HB := n0_; clear n0_; (try clear hb); (try clear hb2); (try clear hk); (try clear hi)) | ((with_reducible refine gate_dst (N := 6) rfl ?_); refine box_event ?hg (N := 6) ?hd (cs := #[.pointer none, .slice none 0 0]) (t := 73) ?hr ?_; (case hd => rfl); (case hg => rfl); (case hr => first | (go_simp; done) | (go_simp; rfl)); intro gB hg wB hbox hb; have n0_ := Aside0.mk (below_step (by repeat (first | (with_reducible first | exact HB.out | apply below_alloc | apply pw_below_drewN | apply below_drew1) | exact HB.out)) hb); have n1_ := Aside0.mk (Go.Proofs.YtjabpbnlpljlkaaDoor.H.BOK.fresh (B := w.heap.size) (b := gB) (by rw [hg]; exact (below_size (by repeat (first | (with_reducible first | exact HB.out | apply below_alloc | apply pw_below_drewN | apply below_drew1) | exact HB.out)))) n0_.out.size hbox); clear HB; have HB := n0_; have HBd := n1_; clear n0_ n1_; clear hb hbox hg) | ((with_reducible refine gate_callee (f := 33) rfl ?_); refine goesL_ (some 24) rfl rfl Tryd.func33 (by kernel_rfl) rfl #[.pointer (some ⟨gB, 0, none⟩), .string (((((⟨#[45, 45, 45, 32, 97, 47]⟩ : ByteArray) ++ a0) ++ (⟨#[10, 43, 43, 43, 32, 98, 47]⟩ : ByteArray)) ++ a0) ++ (⟨#[10]⟩ : ByteArray))] rfl (by (try simp only [List.map_toArray, List.map_cons, List.map_nil]); first | done | rfl) ?_; (with_reducible refine (Go.Proofs.YtjabpbnlpljlkaaDoor.H.writeB w.heap.size gB (⟨#[]⟩ : ByteArray) (((((⟨#[45, 45, 45, 32, 97, 47]⟩ : ByteArray) ++ a0) ++ (⟨#[10, 43, 43, 43, 32, 98, 47]⟩ : ByteArray)) ++ a0) ++ (⟨#[10]⟩ : ByteArray)) [] _ ?side1 ?side2).mono ?_); (case side1 => exact (by repeat (first | (with_reducible first | exact HBd.out | refine Go.Proofs.YtjabpbnlpljlkaaDoor.H.BOK.set ?_ (by simp) _ _ | refine Go.Proofs.YtjabpbnlpljlkaaDoor.H.BOK.drewN ?_ _ | refine Go.Proofs.YtjabpbnlpljlkaaDoor.H.BOK.drew ?_ | refine Go.Proofs.YtjabpbnlpljlkaaDoor.H.BOK.alloc ?_ _) | exact HBd.out))); (case side2 => exact c11); rintro e w501 ⟨rfl, hd, hb, hkp⟩; refine ⟨_, rfl, ?_⟩; have nb_ := Aside0.mk (Go.RowKit.Below.trans (by repeat (first | (with_reducible first | exact HB.out | apply below_alloc | apply pw_below_drewN | apply below_drew1) | exact HB.out)) hb); have nd_ := Aside0.mk hd; clear HB; have HB := nb_; clear nb_; clear HBd; have HBd := nd_; clear nd_; clear hd hb hkp))
        go_loopg [27] k (fun kq v27 w' => ∃ (x6_1 : ByteArray) (x27_1 : Int), v27 = .int .i64 x27_1 ∧ Aside0 (show_Print.l0 kq x6_1 l1 (l1.length : Int) x27_1 = some (r1, r2)) ∧ Aside0 (kq ≤ k) ∧ Aside0 (Go.Proofs.YtjabpbnlpljlkaaDoor.H.BOK w.heap.size gB x6_1 [] w') ∧ Aside0 (Below w.heap.size w w'))
        case atStart => exact ⟨((⟨#[]⟩ : ByteArray) ++ (((((⟨#[45, 45, 45, 32, 97, 47]⟩ : ByteArray) ++ a0) ++ (⟨#[10, 43, 43, 43, 32, 98, 47]⟩ : ByteArray)) ++ a0) ++ (⟨#[10]⟩ : ByteArray))), (0), (by first | rfl | (simp; done) | (simp [*]; done) | (simp [wrap64, wrap32]; done)), H', ⟨Nat.le_refl _⟩, ⟨(by repeat (first | (with_reducible first | exact HBd.out | refine Go.Proofs.YtjabpbnlpljlkaaDoor.H.BOK.set ?_ (by simp) _ _ | refine Go.Proofs.YtjabpbnlpljlkaaDoor.H.BOK.drewN ?_ _ | refine Go.Proofs.YtjabpbnlpljlkaaDoor.H.BOK.drew ?_ | refine Go.Proofs.YtjabpbnlpljlkaaDoor.H.BOK.alloc ?_ _) | exact HBd.out))⟩, ⟨by repeat (first | (with_reducible first | exact HB.out | apply below_alloc | apply pw_below_drewN | apply below_drew1) | exact HB.out)⟩⟩
        case round =>
         clear H'
         try clear c1
         try clear p2
         try clear c4
         try clear c5
         try clear c5b0
         try clear c5b1
         try clear c5b2
         try clear c7
         try clear c7b0
         try clear c7b1
         try clear c7b2
         try clear c8
         try clear c8b0
         try clear c8b1
         try clear c8b2
         try clear c9
         try clear c9b0
         try clear c9b1
         try clear c9b2
         try clear c10
         try clear c10b0
         try clear c10b1
         try clear c10b2
         try clear c11
         try clear c11b0
         try clear c11b1
         try clear c11b2
         obtain ⟨x6_1, x27_1, rfl, HA, HK1, HBd, HB⟩ := hrel
         cases gk with
         | zero => exact absurd HA.out (by simp [show_Print.l0])
         | succ k1 =>
          have H := HA.out
          clear HA
          simp only [show_Print.l0] at H
          by_cases c13 : x27_1 < (l1.length : Int)
          ·rw [if_pos c13] at H
           have c13b0 : decide (x27_1 < (l1.length : Int)) = true := decide_eq_true c13
           clear c13
           by_cases c14 : 0 ≤ x27_1
           ·rw [if_pos c14] at H
            have c14b0 : decide (0 ≤ x27_1) = true := decide_eq_true c14
            clear c14
            by_cases c15 : x27_1 < (l1.length : Int)
            ·rw [if_pos c15] at H
             have c15b0 : decide (x27_1 < (l1.length : Int)) = true := decide_eq_true c15
             clear c15
             replace H := Option.bind_eq_some_iff.mp H
             obtain ⟨t126, A160, H⟩ := H
             replace H : (if t126 = 0 then ((show_Head.f ((rd_T26 l1 x27_1).f0) ((rd_T26 l1 x27_1).f1) ((rd_T26 l1 x27_1).f2) ((rd_T26 l1 x27_1).f3) ((rd_T26 l1 x27_1).f4)).bind fun t127 => (if x6_1.size + t127.size ≤ 140737488355328 then (show_Print.l1 k1 (x6_1 ++ t127) l1 (l1.length : Int) x27_1 ((rd_T26 l1 x27_1).f4) (((rd_T26 l1 x27_1).f4).length : Int) 0) else (none))) else (some ((⟨#[]⟩ : ByteArray), t126))) = some (r1, r2) := H
             have A16 := Aside0.mk A160
             clear A160
             by_cases c17 : t126 = 0
             ·rw [if_pos c17] at H
              have c17b0 : (t126 == 0) = true := beq_iff_eq.mpr c17
              have c17b1 : (t126 != 0) = false := bne_eq_false_iff_eq.mpr c17
              clear c17
              replace H := Option.bind_eq_some_iff.mp H
              obtain ⟨t127, A180, H⟩ := H
              replace H : (if x6_1.size + t127.size ≤ 140737488355328 then (show_Print.l1 k1 (x6_1 ++ t127) l1 (l1.length : Int) x27_1 ((rd_T26 l1 x27_1).f4) (((rd_T26 l1 x27_1).f4).length : Int) 0) else (none)) = some (r1, r2) := H
              have A18 := Aside0.mk A180
              clear A180
              by_cases c19 : x6_1.size + t127.size ≤ 140737488355328
              ·rw [if_pos c19] at H
               have c19b0 := eq_true c19
               have c19b1 : decide (x6_1.size + t127.size ≤ 140737488355328) = true := decide_eq_true c19
               try have c19b2 : (140737488355328 < x6_1.size + t127.size) = False := eq_false (Nat.not_lt.2 c19)
               have H' := Aside0.mk H
               clear H
               have p124 : 0 ≤ (x27_1 : Int) := of_decide_eq_true (by first | (with_reducible assumption) | assumption)
               have q124 : x27_1 < (l1.length : Int) := of_decide_eq_true (by first | (with_reducible assumption) | assumption)
               obtain ⟨ad124, A124_4, c124_4, e124, hx124_0, hx124_1, hx124_2, hx124_3, hx124_4, hl124_4, hi124_4⟩ := at_T26 HR1.out x27_1 p124 q124
               cases e124
               replace hx124_0 := (HB.out.cell (World.block_lt_of_cell? w _ hx124_0)).trans hx124_0
               replace hx124_1 := (HB.out.cell (World.block_lt_of_cell? w _ hx124_1)).trans hx124_1
               replace hx124_2 := (HB.out.cell (World.block_lt_of_cell? w _ hx124_2)).trans hx124_2
               replace hx124_3 := (HB.out.cell (World.block_lt_of_cell? w _ hx124_3)).trans hx124_3
               replace hx124_4 := (HB.out.cell (World.block_lt_of_cell? w _ hx124_4)).trans hx124_4
               have HR124_4 := Aside0.mk hi124_4
               have HC124_4 := Aside0.mk hl124_4
               clear hi124_4 hl124_4
               replace p124 := eq_true p124
               replace q124 := eq_true q124
               go_wp2_with (first | ((with_reducible refine gate_dst (N := 8) rfl ?_); refine box_event ?hg (N := 8) ?hd (cs := #[.int .i64 0, .int .i64 0, .int .i64 0, .int .i64 0, .slice none 0 0]) (t := 26) ?hr ?_; (case hd => rfl); (case hg => rfl); (case hr => first | (go_simp; done) | (go_simp; rfl)); intro gb125 hg w20 hbox hb; have n0_ := Aside0.mk (below_step (by repeat (first | (with_reducible first | exact HB.out | apply below_alloc | apply pw_below_drewN | apply below_drew1) | exact HB.out)) hb); have n1_ := Aside0.mk (hbox); have n2_ := Aside0.mk ((by rw [hg]; exact (below_size (by repeat (first | (with_reducible first | exact HB.out | apply below_alloc | apply pw_below_drewN | apply below_drew1) | exact HB.out))) : w.heap.size ≤ gb125)); have n3_ := Aside0.mk ((by rw [hg]; exact (below_size (by repeat (first | (with_reducible first | exact HB.out | apply below_alloc | apply pw_below_drewN | apply below_drew1) | exact HB.out))) : w.heap.size ≤ gb125)); have nd_ := Aside0.mk (Go.Proofs.YtjabpbnlpljlkaaDoor.H.BOK.box (by repeat (first | (with_reducible first | exact HBd.out | refine Go.Proofs.YtjabpbnlpljlkaaDoor.H.BOK.set ?_ (by simp) _ _ | refine Go.Proofs.YtjabpbnlpljlkaaDoor.H.BOK.drewN ?_ _ | refine Go.Proofs.YtjabpbnlpljlkaaDoor.H.BOK.drew ?_ | refine Go.Proofs.YtjabpbnlpljlkaaDoor.H.BOK.alloc ?_ _) | exact HBd.out) : Go.Proofs.YtjabpbnlpljlkaaDoor.H.BOK w.heap.size gB x6_1 [] _) hb hg hbox (by decide)); clear HBd; have HBd := nd_; clear nd_; clear HB; have HB := n0_; have BK125 := n1_; have GW125 := n2_; have GE125 := n3_; clear n0_ n1_ n2_ n3_; clear hb hbox hg; have hcz21_0 : w20.cell? ⟨gb125, 0, none⟩ = some (.int .i64 0) := (blk_cell BK125.out 0).trans rfl; have hcz21_1 : w20.cell? ⟨gb125, 1, none⟩ = some (.int .i64 0) := (blk_cell BK125.out 1).trans rfl; have hcz21_2 : w20.cell? ⟨gb125, 2, none⟩ = some (.int .i64 0) := (blk_cell BK125.out 2).trans rfl; have hcz21_3 : w20.cell? ⟨gb125, 3, none⟩ = some (.int .i64 0) := (blk_cell BK125.out 3).trans rfl; have hcz21_4 : w20.cell? ⟨gb125, 4, none⟩ = some (.slice none 0 0) := (blk_cell BK125.out 4).trans rfl; have hfz21_0 := blk_frozen BK125.out 0; have hfz21_1 := blk_frozen BK125.out 1; have hfz21_2 := blk_frozen BK125.out 2; have hfz21_3 := blk_frozen BK125.out 3; have hfz21_4 := blk_frozen BK125.out 4) | ((with_reducible refine gate_callee (f := 16) rfl ?_); refine goesL_ (some 32) rfl rfl Tryd.func16 (by kernel_rfl) rfl #[.agg #[.int .i64 ((rd_T26 l1 x27_1).f0), .int .i64 ((rd_T26 l1 x27_1).f1), .int .i64 ((rd_T26 l1 x27_1).f2), .int .i64 ((rd_T26 l1 x27_1).f3), .slice A124_4 ((rd_T26 l1 x27_1).f4).length c124_4]] rfl (by (try simp only [List.map_toArray, List.map_cons, List.map_nil]); first | done | rfl | (simp only [List.length_drop, List.length_take]; rfl)) ?_; (with_reducible refine (show_Check.calls k1 ((rd_T26 l1 x27_1).f0) ((rd_T26 l1 x27_1).f1) ((rd_T26 l1 x27_1).f2) ((rd_T26 l1 x27_1).f3) _ _ ((rd_T26 l1 x27_1).f4) t126 _ ?side1 ?side2 A16.out).mono ?_); (case side1 => exact Kd.C_below HR124_4.out (by repeat (first | (with_reducible first | exact HB.out | apply below_alloc | apply pw_below_drewN | apply below_drew1 | refine below_set ?_ GE125.out) | exact HB.out))); (case side2 => exact HC124_4.out); rintro e w22 ⟨rfl, hb⟩; refine ⟨_, rfl, ?_⟩; have n0_ := Aside0.mk (blk_below (g := gb125) (o := .cells #[.int .i64 ((rd_T26 l1 x27_1).f0), .int .i64 ((rd_T26 l1 x27_1).f1), .int .i64 ((rd_T26 l1 x27_1).f2), .int .i64 ((rd_T26 l1 x27_1).f3), .slice A124_4 ((rd_T26 l1 x27_1).f4).length c124_4] 26 (0, 0)) (by (with_reducible repeat (first | refine blk_drewN ?_ _ | refine blk_drew ?_ | refine blk_alloc ?_ _)); refine blk_put (cs := #[.int .i64 ((rd_T26 l1 x27_1).f0), .int .i64 ((rd_T26 l1 x27_1).f1), .int .i64 ((rd_T26 l1 x27_1).f2), .int .i64 ((rd_T26 l1 x27_1).f3), .slice none 0 0]) ?_ 4 _ rfl; (with_reducible repeat (first | refine blk_drewN ?_ _ | refine blk_drew ?_ | refine blk_alloc ?_ _)); refine blk_put (cs := #[.int .i64 ((rd_T26 l1 x27_1).f0), .int .i64 ((rd_T26 l1 x27_1).f1), .int .i64 ((rd_T26 l1 x27_1).f2), .int .i64 0, .slice none 0 0]) ?_ 3 _ rfl; (with_reducible repeat (first | refine blk_drewN ?_ _ | refine blk_drew ?_ | refine blk_alloc ?_ _)); refine blk_put (cs := #[.int .i64 ((rd_T26 l1 x27_1).f0), .int .i64 ((rd_T26 l1 x27_1).f1), .int .i64 0, .int .i64 0, .slice none 0 0]) ?_ 2 _ rfl; (with_reducible repeat (first | refine blk_drewN ?_ _ | refine blk_drew ?_ | refine blk_alloc ?_ _)); refine blk_put (cs := #[.int .i64 ((rd_T26 l1 x27_1).f0), .int .i64 0, .int .i64 0, .int .i64 0, .slice none 0 0]) ?_ 1 _ rfl; (with_reducible repeat (first | refine blk_drewN ?_ _ | refine blk_drew ?_ | refine blk_alloc ?_ _)); refine blk_put (cs := #[.int .i64 0, .int .i64 0, .int .i64 0, .int .i64 0, .slice none 0 0]) ?_ 0 _ rfl; (with_reducible repeat (first | refine blk_drewN ?_ _ | refine blk_drew ?_ | refine blk_alloc ?_ _)); exact BK125.out) hb); have n1_ := Aside0.mk (below_step (by repeat (first | (with_reducible first | exact HB.out | apply below_alloc | apply pw_below_drewN | apply below_drew1 | refine below_set ?_ GE125.out) | exact HB.out)) hb); have nd_ := Aside0.mk (Go.Proofs.YtjabpbnlpljlkaaDoor.H.BOK.below (by repeat (first | (with_reducible first | exact HBd.out | refine Go.Proofs.YtjabpbnlpljlkaaDoor.H.BOK.set ?_ (by simp) _ _ | refine Go.Proofs.YtjabpbnlpljlkaaDoor.H.BOK.drewN ?_ _ | refine Go.Proofs.YtjabpbnlpljlkaaDoor.H.BOK.drew ?_ | refine Go.Proofs.YtjabpbnlpljlkaaDoor.H.BOK.alloc ?_ _) | exact HBd.out) : Go.Proofs.YtjabpbnlpljlkaaDoor.H.BOK w.heap.size gB x6_1 [gb125] _) hb); clear HBd; have HBd := nd_; clear nd_; clear BK125; clear HB; have BK125 := n0_; have HB := n1_; clear n0_ n1_; (try clear hb); (try clear hb2); (try clear hk); (try clear hi); have hcz23_0 : w22.cell? ⟨gb125, 0, none⟩ = some (.int .i64 ((rd_T26 l1 x27_1).f0)) := (blk_cell BK125.out 0).trans rfl; have hcz23_1 : w22.cell? ⟨gb125, 1, none⟩ = some (.int .i64 ((rd_T26 l1 x27_1).f1)) := (blk_cell BK125.out 1).trans rfl; have hcz23_2 : w22.cell? ⟨gb125, 2, none⟩ = some (.int .i64 ((rd_T26 l1 x27_1).f2)) := (blk_cell BK125.out 2).trans rfl; have hcz23_3 : w22.cell? ⟨gb125, 3, none⟩ = some (.int .i64 ((rd_T26 l1 x27_1).f3)) := (blk_cell BK125.out 3).trans rfl; have hcz23_4 : w22.cell? ⟨gb125, 4, none⟩ = some (.slice A124_4 ((rd_T26 l1 x27_1).f4).length c124_4) := (blk_cell BK125.out 4).trans rfl; have hfz23_0 := blk_frozen BK125.out 0; have hfz23_1 := blk_frozen BK125.out 1; have hfz23_2 := blk_frozen BK125.out 2; have hfz23_3 := blk_frozen BK125.out 3; have hfz23_4 := blk_frozen BK125.out 4) | ((with_reducible refine gate_callee (f := 29) rfl ?_); refine goesL_ (some 37) rfl rfl Tryd.func29 (by kernel_rfl) rfl #[.agg #[.int .i64 ((rd_T26 l1 x27_1).f0), .int .i64 ((rd_T26 l1 x27_1).f1), .int .i64 ((rd_T26 l1 x27_1).f2), .int .i64 ((rd_T26 l1 x27_1).f3), .slice A124_4 ((rd_T26 l1 x27_1).f4).length c124_4]] rfl (by (try simp only [List.map_toArray, List.map_cons, List.map_nil]); first | done | rfl | (simp only [List.length_drop, List.length_take]; rfl)) ?_; (with_reducible refine (show_Head.calls ((rd_T26 l1 x27_1).f0) ((rd_T26 l1 x27_1).f1) ((rd_T26 l1 x27_1).f2) ((rd_T26 l1 x27_1).f3) _ _ ((rd_T26 l1 x27_1).f4) t127 _ ?side1 ?side2 A18.out ?side3).mono ?_); (case side1 => repeat (first | exact (Kd.C_below HR124_4.out HB.out) | (with_reducible refine Kd.C_alloc ?_ _) | (with_reducible refine Kd.C_drewN ?_ _) | (with_reducible refine Kd.C_drew ?_))); (case side2 => exact HC124_4.out); (case side3 => exact HL.out.below (by repeat (first | (with_reducible first | exact HB.out | apply below_alloc | apply pw_below_drewN | apply below_drew1 | refine below_set ?_ GE125.out) | exact HB.out))); rintro e w24 ⟨rfl, hb⟩; refine ⟨_, rfl, ?_⟩; have n0_ := Aside0.mk (blk_below (g := gb125) (o := .cells #[.int .i64 ((rd_T26 l1 x27_1).f0), .int .i64 ((rd_T26 l1 x27_1).f1), .int .i64 ((rd_T26 l1 x27_1).f2), .int .i64 ((rd_T26 l1 x27_1).f3), .slice A124_4 ((rd_T26 l1 x27_1).f4).length c124_4] 26 (0, 0)) (by (with_reducible repeat (first | refine blk_drewN ?_ _ | refine blk_drew ?_ | refine blk_alloc ?_ _)); exact BK125.out) hb); have n1_ := Aside0.mk (below_step (by repeat (first | (with_reducible first | exact HB.out | apply below_alloc | apply pw_below_drewN | apply below_drew1 | refine below_set ?_ GE125.out) | exact HB.out)) hb); have nd_ := Aside0.mk (Go.Proofs.YtjabpbnlpljlkaaDoor.H.BOK.below (by repeat (first | (with_reducible first | exact HBd.out | refine Go.Proofs.YtjabpbnlpljlkaaDoor.H.BOK.set ?_ (by simp) _ _ | refine Go.Proofs.YtjabpbnlpljlkaaDoor.H.BOK.drewN ?_ _ | refine Go.Proofs.YtjabpbnlpljlkaaDoor.H.BOK.drew ?_ | refine Go.Proofs.YtjabpbnlpljlkaaDoor.H.BOK.alloc ?_ _) | exact HBd.out) : Go.Proofs.YtjabpbnlpljlkaaDoor.H.BOK w.heap.size gB x6_1 [gb125] _) hb); clear HBd; have HBd := nd_; clear nd_; clear BK125; clear HB; have BK125 := n0_; have HB := n1_; clear n0_ n1_; (try clear hb); (try clear hb2); (try clear hk); (try clear hi); have hcz25_0 : w24.cell? ⟨gb125, 0, none⟩ = some (.int .i64 ((rd_T26 l1 x27_1).f0)) := (blk_cell BK125.out 0).trans rfl; have hcz25_1 : w24.cell? ⟨gb125, 1, none⟩ = some (.int .i64 ((rd_T26 l1 x27_1).f1)) := (blk_cell BK125.out 1).trans rfl; have hcz25_2 : w24.cell? ⟨gb125, 2, none⟩ = some (.int .i64 ((rd_T26 l1 x27_1).f2)) := (blk_cell BK125.out 2).trans rfl; have hcz25_3 : w24.cell? ⟨gb125, 3, none⟩ = some (.int .i64 ((rd_T26 l1 x27_1).f3)) := (blk_cell BK125.out 3).trans rfl; have hcz25_4 : w24.cell? ⟨gb125, 4, none⟩ = some (.slice A124_4 ((rd_T26 l1 x27_1).f4).length c124_4) := (blk_cell BK125.out 4).trans rfl; have hfz25_0 := blk_frozen BK125.out 0; have hfz25_1 := blk_frozen BK125.out 1; have hfz25_2 := blk_frozen BK125.out 2; have hfz25_3 := blk_frozen BK125.out 3; have hfz25_4 := blk_frozen BK125.out 4) | ((with_reducible refine gate_callee (f := 33) rfl ?_); refine goesL_ (some 38) rfl rfl Tryd.func33 (by kernel_rfl) rfl #[.pointer (some ⟨gB, 0, none⟩), .string t127] rfl (by (try simp only [List.map_toArray, List.map_cons, List.map_nil]); first | done | rfl) ?_; (with_reducible refine (Go.Proofs.YtjabpbnlpljlkaaDoor.H.writeB w.heap.size gB x6_1 t127 [gb125] _ ?side1 ?side2).mono ?_); (case side1 => exact (by repeat (first | (with_reducible first | exact HBd.out | refine Go.Proofs.YtjabpbnlpljlkaaDoor.H.BOK.set ?_ (by simp) _ _ | refine Go.Proofs.YtjabpbnlpljlkaaDoor.H.BOK.drewN ?_ _ | refine Go.Proofs.YtjabpbnlpljlkaaDoor.H.BOK.drew ?_ | refine Go.Proofs.YtjabpbnlpljlkaaDoor.H.BOK.alloc ?_ _) | exact HBd.out))); (case side2 => exact c19); rintro e w502 ⟨rfl, hd, hb, hkp⟩; refine ⟨_, rfl, ?_⟩; have nb_ := Aside0.mk (Go.RowKit.Below.trans (by repeat (first | (with_reducible first | exact HB.out | apply below_alloc | apply pw_below_drewN | apply below_drew1 | refine below_set ?_ GE125.out) | exact HB.out)) hb); have nd_ := Aside0.mk hd; have nk125_ := Aside0.mk (hkp gb125 #[.int .i64 ((rd_T26 l1 x27_1).f0), .int .i64 ((rd_T26 l1 x27_1).f1), .int .i64 ((rd_T26 l1 x27_1).f2), .int .i64 ((rd_T26 l1 x27_1).f3), .slice A124_4 ((rd_T26 l1 x27_1).f4).length c124_4] 26 (0, 0) ((HBd.out.2.2 gb125 (by simp)).1) (by decide) (by (with_reducible repeat (first | refine blk_drewN ?_ _ | refine blk_drew ?_ | refine blk_alloc ?_ _)); exact BK125.out)); clear HB; have HB := nb_; clear nb_; clear HBd; have HBd := nd_; clear nd_; clear BK125; have BK125 := nk125_; clear nk125_; clear hd hb hkp; have hcz502125_0 : w502.cell? ⟨gb125, 0, none⟩ = some (.int .i64 ((rd_T26 l1 x27_1).f0)) := (blk_cell BK125.out 0).trans rfl; have hfz502125_0 := blk_frozen BK125.out 0; have hcz502125_1 : w502.cell? ⟨gb125, 1, none⟩ = some (.int .i64 ((rd_T26 l1 x27_1).f1)) := (blk_cell BK125.out 1).trans rfl; have hfz502125_1 := blk_frozen BK125.out 1; have hcz502125_2 : w502.cell? ⟨gb125, 2, none⟩ = some (.int .i64 ((rd_T26 l1 x27_1).f2)) := (blk_cell BK125.out 2).trans rfl; have hfz502125_2 := blk_frozen BK125.out 2; have hcz502125_3 : w502.cell? ⟨gb125, 3, none⟩ = some (.int .i64 ((rd_T26 l1 x27_1).f3)) := (blk_cell BK125.out 3).trans rfl; have hfz502125_3 := blk_frozen BK125.out 3; have hcz502125_4 : w502.cell? ⟨gb125, 4, none⟩ = some (.slice A124_4 ((rd_T26 l1 x27_1).f4).length c124_4) := (blk_cell BK125.out 4).trans rfl; have hfz502125_4 := blk_frozen BK125.out 4))
               go_loopg [42] k1 (fun kq v42 w' => ∃ (x6_2 : ByteArray) (x42_2 : Int), v42 = .int .i64 x42_2 ∧ Aside0 (show_Print.l1 kq x6_2 l1 (l1.length : Int) x27_1 ((rd_T26 l1 x27_1).f4) (((rd_T26 l1 x27_1).f4).length : Int) x42_2 = some (r1, r2)) ∧ Aside0 (kq ≤ k1) ∧ Aside0 (Go.Proofs.YtjabpbnlpljlkaaDoor.H.BOK w.heap.size gB x6_2 [gb125] w') ∧ Aside0 (w'.heap[gb125]? = some (.cells #[.int .i64 ((rd_T26 l1 x27_1).f0), .int .i64 ((rd_T26 l1 x27_1).f1), .int .i64 ((rd_T26 l1 x27_1).f2), .int .i64 ((rd_T26 l1 x27_1).f3), (.slice A124_4 ((rd_T26 l1 x27_1).f4).length c124_4)] 26 (0, 0))) ∧ Aside0 (Below w.heap.size w w'))
               case atStart => exact ⟨(x6_1 ++ t127), (0), (by first | rfl | (simp; done) | (simp [*]; done) | (simp [wrap64, wrap32]; done)), H', ⟨Nat.le_refl _⟩, ⟨(by repeat (first | (with_reducible first | exact HBd.out | refine Go.Proofs.YtjabpbnlpljlkaaDoor.H.BOK.set ?_ (by simp) _ _ | refine Go.Proofs.YtjabpbnlpljlkaaDoor.H.BOK.drewN ?_ _ | refine Go.Proofs.YtjabpbnlpljlkaaDoor.H.BOK.drew ?_ | refine Go.Proofs.YtjabpbnlpljlkaaDoor.H.BOK.alloc ?_ _) | exact HBd.out))⟩, ⟨by (with_reducible repeat (first | refine blk_drewN ?_ _ | refine blk_drew ?_ | refine blk_alloc ?_ _)); exact BK125.out⟩, ⟨by repeat (first | (with_reducible first | exact HB.out | apply below_alloc | apply pw_below_drewN | apply below_drew1 | refine below_set ?_ GE125.out) | exact HB.out)⟩⟩
               case round =>
                clear H'
                try clear c1
                try clear p1
                try clear q1
                try clear hx1
                try clear c2
                try clear p2
                try clear c4
                try clear c5
                try clear c5b0
                try clear c5b1
                try clear c5b2
                try clear c7
                try clear c7b0
                try clear c7b1
                try clear c7b2
                try clear c8
                try clear c8b0
                try clear c8b1
                try clear c8b2
                try clear c9
                try clear c9b0
                try clear c9b1
                try clear c9b2
                try clear c10
                try clear c10b0
                try clear c10b1
                try clear c10b2
                try clear c11
                try clear c11b0
                try clear c11b1
                try clear c11b2
                try clear c12
                try clear p12
                try clear q12
                try clear hx12
                try clear c13
                try clear c13b0
                try clear c14
                try clear c14b0
                try clear c15
                try clear c15b0
                try clear c16
                try clear c17
                try clear c17b0
                try clear c17b1
                try clear c18
                try clear c19
                try clear c19b0
                try clear c19b1
                try clear c19b2
                try clear hcz21_0
                try clear hcz21_1
                try clear hcz21_2
                try clear hcz21_3
                try clear hcz21_4
                try clear hcz23_0
                try clear hcz23_1
                try clear hcz23_2
                try clear hcz23_3
                try clear hcz23_4
                try clear hcz25_0
                try clear hcz25_1
                try clear hcz25_2
                try clear hcz25_3
                try clear hcz25_4
                try clear hfz21_0
                try clear hfz21_1
                try clear hfz21_2
                try clear hfz21_3
                try clear hfz21_4
                try clear hfz23_0
                try clear hfz23_1
                try clear hfz23_2
                try clear hfz23_3
                try clear hfz23_4
                try clear hfz25_0
                try clear hfz25_1
                try clear hfz25_2
                try clear hfz25_3
                try clear hfz25_4
                try clear hx124_0
                try clear hx124_1
                try clear hx124_2
                try clear hx124_3
                try clear hx124_4
                try clear p124
                try clear p2
                try clear q124
                obtain ⟨x6_2, x42_2, rfl, HA, HK2, HBd, BK125, HB⟩ := hrel
                cases gk with
                | zero => exact absurd HA.out (by simp [show_Print.l1])
                | succ k2 =>
                 have H := HA.out
                 clear HA
                 simp only [show_Print.l1] at H
                 by_cases c26 : x42_2 < (((rd_T26 l1 x27_1).f4).length : Int)
                 ·rw [if_pos c26] at H
                  have c26b0 : decide (x42_2 < (((rd_T26 l1 x27_1).f4).length : Int)) = true := decide_eq_true c26
                  clear c26
                  by_cases c27 : 0 ≤ x42_2
                  ·rw [if_pos c27] at H
                   have c27b0 : decide (0 ≤ x42_2) = true := decide_eq_true c27
                   clear c27
                   by_cases c28 : x42_2 < (((rd_T26 l1 x27_1).f4).length : Int)
                   ·rw [if_pos c28] at H
                    have c28b0 : decide (x42_2 < (((rd_T26 l1 x27_1).f4).length : Int)) = true := decide_eq_true c28
                    clear c28
                    obtain ⟨y130, hy130⟩ : ∃ y_ : List Int, y_ = (([(rd_T29 ((rd_T26 l1 x27_1).f4) x42_2).f0] : List Int)) := ⟨_, rfl⟩
                    replace H : (if (strOfNums y130).size + ((rd_T29 ((rd_T26 l1 x27_1).f4) x42_2).f1).size ≤ 9223372036854775807 then (if ((strOfNums y130) ++ ((rd_T29 ((rd_T26 l1 x27_1).f4) x42_2).f1)).size + 1 ≤ 9223372036854775807 then (if x6_2.size + (((strOfNums y130) ++ ((rd_T29 ((rd_T26 l1 x27_1).f4) x42_2).f1)) ++ (⟨#[10]⟩ : ByteArray)).size ≤ 140737488355328 then (if (rd_T29 ((rd_T26 l1 x27_1).f4) x42_2).f2 = true then (if (x6_2 ++ (((strOfNums y130) ++ ((rd_T29 ((rd_T26 l1 x27_1).f4) x42_2).f1)) ++ (⟨#[10]⟩ : ByteArray))).size + 28 ≤ 140737488355328 then (show_Print.l1 k2 ((x6_2 ++ (((strOfNums y130) ++ ((rd_T29 ((rd_T26 l1 x27_1).f4) x42_2).f1)) ++ (⟨#[10]⟩ : ByteArray))) ++ (⟨#[92, 32, 78, 111, 32, 110, 101, 119, 108, 105, 110, 101, 32, 97, 116, 32, 101, 110, 100, 32, 111, 102, 32, 102, 105, 108, 101, 10]⟩ : ByteArray)) l1 (l1.length : Int) x27_1 ((rd_T26 l1 x27_1).f4) (((rd_T26 l1 x27_1).f4).length : Int) (wrap64 (x42_2 + 1))) else (none)) else (show_Print.l1 k2 (x6_2 ++ (((strOfNums y130) ++ ((rd_T29 ((rd_T26 l1 x27_1).f4) x42_2).f1)) ++ (⟨#[10]⟩ : ByteArray))) l1 (l1.length : Int) x27_1 ((rd_T26 l1 x27_1).f4) (((rd_T26 l1 x27_1).f4).length : Int) (wrap64 (x42_2 + 1)))) else (none)) else (none)) else (none)) = some (r1, r2) := by first | (rw [hy130]; with_reducible exact H) | (have H2_ := (Option.bind_some _ _).symm.trans H; rw [hy130]; with_reducible exact H2_) | (have H2_ := (Option.bind_some _ _).symm.trans H; with_reducible exact H2_) | with_reducible exact H | (rw [hy130]; exact H) | exact H
                    have Ny130 := Aside0.mk hy130
                    clear hy130
                    by_cases c29 : (strOfNums y130).size + ((rd_T29 ((rd_T26 l1 x27_1).f4) x42_2).f1).size ≤ 9223372036854775807
                    ·rw [if_pos c29] at H
                     have c29b0 := eq_true c29
                     have c29b1 : decide ((strOfNums y130).size + ((rd_T29 ((rd_T26 l1 x27_1).f4) x42_2).f1).size ≤ 9223372036854775807) = true := decide_eq_true c29
                     try have c29b2 : (9223372036854775807 < (strOfNums y130).size + ((rd_T29 ((rd_T26 l1 x27_1).f4) x42_2).f1).size) = False := eq_false (Nat.not_lt.2 c29)
                     by_cases c30 : ((strOfNums y130) ++ ((rd_T29 ((rd_T26 l1 x27_1).f4) x42_2).f1)).size + 1 ≤ 9223372036854775807
                     ·rw [if_pos c30] at H
                      have c30b0 := eq_true c30
                      have c30b1 : decide (((strOfNums y130) ++ ((rd_T29 ((rd_T26 l1 x27_1).f4) x42_2).f1)).size + 1 ≤ 9223372036854775807) = true := decide_eq_true c30
                      try have c30b2 : (9223372036854775807 < ((strOfNums y130) ++ ((rd_T29 ((rd_T26 l1 x27_1).f4) x42_2).f1)).size + 1) = False := eq_false (Nat.not_lt.2 c30)
                      try (have c30b4 := c30b2; simp only [ByteArray.size_append] at c30b4)
                      by_cases c31 : x6_2.size + (((strOfNums y130) ++ ((rd_T29 ((rd_T26 l1 x27_1).f4) x42_2).f1)) ++ (⟨#[10]⟩ : ByteArray)).size ≤ 140737488355328
                      ·rw [if_pos c31] at H
                       have c31b0 := eq_true c31
                       have c31b1 : decide (x6_2.size + (((strOfNums y130) ++ ((rd_T29 ((rd_T26 l1 x27_1).f4) x42_2).f1)) ++ (⟨#[10]⟩ : ByteArray)).size ≤ 140737488355328) = true := decide_eq_true c31
                       try have c31b2 : (140737488355328 < x6_2.size + (((strOfNums y130) ++ ((rd_T29 ((rd_T26 l1 x27_1).f4) x42_2).f1)) ++ (⟨#[10]⟩ : ByteArray)).size) = False := eq_false (Nat.not_lt.2 c31)
                       try (have c31b4 := c31b2; simp only [ByteArray.size_append, show (⟨#[10]⟩ : ByteArray).size = 1 from rfl] at c31b4)
                       obtain ⟨bq32, hbq32⟩ : ∃ b_ : Bool, b_ = ((rd_T29 ((rd_T26 l1 x27_1).f4) x42_2).f2) := ⟨_, rfl⟩
                       replace H : (if bq32 = true then (if (x6_2 ++ (((strOfNums y130) ++ ((rd_T29 ((rd_T26 l1 x27_1).f4) x42_2).f1)) ++ (⟨#[10]⟩ : ByteArray))).size + 28 ≤ 140737488355328 then (show_Print.l1 k2 ((x6_2 ++ (((strOfNums y130) ++ ((rd_T29 ((rd_T26 l1 x27_1).f4) x42_2).f1)) ++ (⟨#[10]⟩ : ByteArray))) ++ (⟨#[92, 32, 78, 111, 32, 110, 101, 119, 108, 105, 110, 101, 32, 97, 116, 32, 101, 110, 100, 32, 111, 102, 32, 102, 105, 108, 101, 10]⟩ : ByteArray)) l1 (l1.length : Int) x27_1 ((rd_T26 l1 x27_1).f4) (((rd_T26 l1 x27_1).f4).length : Int) (wrap64 (x42_2 + 1))) else (none)) else (show_Print.l1 k2 (x6_2 ++ (((strOfNums y130) ++ ((rd_T29 ((rd_T26 l1 x27_1).f4) x42_2).f1)) ++ (⟨#[10]⟩ : ByteArray))) l1 (l1.length : Int) x27_1 ((rd_T26 l1 x27_1).f4) (((rd_T26 l1 x27_1).f4).length : Int) (wrap64 (x42_2 + 1)))) = some (r1, r2) := by rw [← hbq32] at H; exact H
                       have Nbq32 := Aside0.mk hbq32
                       clear hbq32
                       by_cases c33 : bq32 = true
                       ·subst c33
                        have H1 : (if (x6_2 ++ (((strOfNums y130) ++ ((rd_T29 ((rd_T26 l1 x27_1).f4) x42_2).f1)) ++ (⟨#[10]⟩ : ByteArray))).size + 28 ≤ 140737488355328 then (show_Print.l1 k2 ((x6_2 ++ (((strOfNums y130) ++ ((rd_T29 ((rd_T26 l1 x27_1).f4) x42_2).f1)) ++ (⟨#[10]⟩ : ByteArray))) ++ (⟨#[92, 32, 78, 111, 32, 110, 101, 119, 108, 105, 110, 101, 32, 97, 116, 32, 101, 110, 100, 32, 111, 102, 32, 102, 105, 108, 101, 10]⟩ : ByteArray)) l1 (l1.length : Int) x27_1 ((rd_T26 l1 x27_1).f4) (((rd_T26 l1 x27_1).f4).length : Int) (wrap64 (x42_2 + 1))) else (none)) = some (r1, r2) := by rw [if_pos rfl] at H; exact H
                        clear H
                        have H := H1
                        clear H1
                        by_cases c34 : (x6_2 ++ (((strOfNums y130) ++ ((rd_T29 ((rd_T26 l1 x27_1).f4) x42_2).f1)) ++ (⟨#[10]⟩ : ByteArray))).size + 28 ≤ 140737488355328
                        ·rw [if_pos c34] at H
                         have c34b0 := eq_true c34
                         have c34b1 : decide ((x6_2 ++ (((strOfNums y130) ++ ((rd_T29 ((rd_T26 l1 x27_1).f4) x42_2).f1)) ++ (⟨#[10]⟩ : ByteArray))).size + 28 ≤ 140737488355328) = true := decide_eq_true c34
                         try have c34b2 : (140737488355328 < (x6_2 ++ (((strOfNums y130) ++ ((rd_T29 ((rd_T26 l1 x27_1).f4) x42_2).f1)) ++ (⟨#[10]⟩ : ByteArray))).size + 28) = False := eq_false (Nat.not_lt.2 c34)
                         try (have c34b4 := c34b2; simp only [ByteArray.size_append, show (⟨#[10]⟩ : ByteArray).size = 1 from rfl] at c34b4)
                         have H' := Aside0.mk H
                         clear H
                         have p128 : 0 ≤ (x42_2 : Int) := of_decide_eq_true (by first | (with_reducible assumption) | assumption)
                         have q128 : x42_2 < (((rd_T26 l1 x27_1).f4).length : Int) := of_decide_eq_true (by first | (with_reducible assumption) | assumption)
                         obtain ⟨ad128, e128, hx128_0, hx128_1, hx128_2⟩ := at_T29 HR124_4.out x42_2 p128 q128
                         (try rw [← Nbq32.out] at hx128_2)
                         cases e128
                         replace hx128_0 := (HB.out.cell (World.block_lt_of_cell? w _ hx128_0)).trans hx128_0
                         replace hx128_1 := (HB.out.cell (World.block_lt_of_cell? w _ hx128_1)).trans hx128_1
                         replace hx128_2 := (HB.out.cell (World.block_lt_of_cell? w _ hx128_2)).trans hx128_2
                         replace p128 := eq_true p128
                         replace q128 := eq_true q128
                         go_wp2_with (first | ((with_reducible refine gate_dst (N := 11) rfl ?_); refine box_event ?hg (N := 11) ?hd (cs := #[.int .u8 0, .string (⟨#[]⟩ : ByteArray), .bool false]) (t := 29) ?hr ?_; (case hd => rfl); (case hg => rfl); (case hr => first | (go_simp; done) | (go_simp; rfl)); intro gb129 hg w35 hbox hb; have n0_ := Aside0.mk (blk_below (g := gb125) (o := .cells #[.int .i64 ((rd_T26 l1 x27_1).f0), .int .i64 ((rd_T26 l1 x27_1).f1), .int .i64 ((rd_T26 l1 x27_1).f2), .int .i64 ((rd_T26 l1 x27_1).f3), .slice (some ad128) ((rd_T26 l1 x27_1).f4).length c124_4] 26 (0, 0)) (by (with_reducible repeat (first | refine blk_drewN ?_ _ | refine blk_drew ?_ | refine blk_alloc ?_ _)); exact BK125.out) hb); have n1_ := Aside0.mk (below_step (by repeat (first | (with_reducible first | exact HB.out | apply below_alloc | apply pw_below_drewN | apply below_drew1 | refine below_set ?_ GE125.out) | exact HB.out)) hb); have n2_ := Aside0.mk (hbox); have n3_ := Aside0.mk ((by rw [hg]; exact (below_size (by repeat (first | (with_reducible first | exact HB.out | apply below_alloc | apply pw_below_drewN | apply below_drew1 | refine below_set ?_ GE125.out) | exact HB.out))) : w.heap.size ≤ gb129)); have n4_ := Aside0.mk ((by rw [hg]; exact (below_size (by repeat (first | (with_reducible first | exact HB.out | apply below_alloc | apply pw_below_drewN | apply below_drew1 | refine below_set ?_ GE125.out) | exact HB.out))) : w.heap.size ≤ gb129)); have n5_ := Aside0.mk ((by rw [hg]; exact Nat.ne_of_lt (blk_lt (g := gb125) (o := .cells #[.int .i64 ((rd_T26 l1 x27_1).f0), .int .i64 ((rd_T26 l1 x27_1).f1), .int .i64 ((rd_T26 l1 x27_1).f2), .int .i64 ((rd_T26 l1 x27_1).f3), .slice (some ad128) ((rd_T26 l1 x27_1).f4).length c124_4] 26 (0, 0)) (by (with_reducible repeat (first | refine blk_drewN ?_ _ | refine blk_drew ?_ | refine blk_alloc ?_ _)); exact BK125.out)) : gb125 ≠ gb129)); have n6_ := Aside0.mk ((by rw [hg]; exact Nat.ne_of_gt (blk_lt (g := gb125) (o := .cells #[.int .i64 ((rd_T26 l1 x27_1).f0), .int .i64 ((rd_T26 l1 x27_1).f1), .int .i64 ((rd_T26 l1 x27_1).f2), .int .i64 ((rd_T26 l1 x27_1).f3), .slice (some ad128) ((rd_T26 l1 x27_1).f4).length c124_4] 26 (0, 0)) (by (with_reducible repeat (first | refine blk_drewN ?_ _ | refine blk_drew ?_ | refine blk_alloc ?_ _)); exact BK125.out)) : gb129 ≠ gb125)); have nd_ := Aside0.mk (Go.Proofs.YtjabpbnlpljlkaaDoor.H.BOK.box (by repeat (first | (with_reducible first | exact HBd.out | refine Go.Proofs.YtjabpbnlpljlkaaDoor.H.BOK.set ?_ (by simp) _ _ | refine Go.Proofs.YtjabpbnlpljlkaaDoor.H.BOK.drewN ?_ _ | refine Go.Proofs.YtjabpbnlpljlkaaDoor.H.BOK.drew ?_ | refine Go.Proofs.YtjabpbnlpljlkaaDoor.H.BOK.alloc ?_ _) | exact HBd.out) : Go.Proofs.YtjabpbnlpljlkaaDoor.H.BOK w.heap.size gB x6_2 [gb125] _) hb hg hbox (by decide)); clear HBd; have HBd := nd_; clear nd_; clear BK125; clear HB; have BK125 := n0_; have HB := n1_; have BK129 := n2_; have GW129 := n3_; have GE129 := n4_; have NB125_129 := n5_; have NB129_125 := n6_; clear n0_ n1_ n2_ n3_ n4_ n5_ n6_; clear hb hbox hg; have hnb36 := NB129_125.out; have hnc36 := NB125_129.out; have hcz37_0 : w35.cell? ⟨gb129, 0, none⟩ = some (.int .u8 0) := (blk_cell BK129.out 0).trans rfl; have hcz37_1 : w35.cell? ⟨gb129, 1, none⟩ = some (.string (⟨#[]⟩ : ByteArray)) := (blk_cell BK129.out 1).trans rfl; have hcz37_2 : w35.cell? ⟨gb129, 2, none⟩ = some (.bool false) := (blk_cell BK129.out 2).trans rfl; have hfz37_0 := blk_frozen BK129.out 0; have hfz37_1 := blk_frozen BK129.out 1; have hfz37_2 := blk_frozen BK129.out 2) | ((with_reducible refine gate_dst (N := 48) rfl ?_); refine Kd.R_lit (Kd.int .u8) _ 5 ?hg (N := 48) ?hd (xs := ([(rd_T29 ((rd_T26 l1 x27_1).f4) x42_2).f0] : List Int)) (inner := [.int .u8 ((rd_T29 ((rd_T26 l1 x27_1).f4) x42_2).f0)]) (ok := fun _ => True) (okp := fun _ => True) ?hr ?hp (fun _ hk => hk) trivial (Below.refl _ _) (Nat.le_refl _) (by simp) ?_; (case hd => rfl); (case hg => rfl); (case hr => first | (go_simp; done) | (go_simp; rfl)); (case hp => exact (Reps.one (show Kd.M (Kd.int .u8) _ _ _ ((rd_T29 ((rd_T26 l1 x27_1).f4) x42_2).f0) [.int .u8 ((rd_T29 ((rd_T26 l1 x27_1).f4) x42_2).f0)] from rfl) (Reps.none _ _))); intro v131 w38 ho39 hb hg_ hnew_; clear hg_ hnew_; (first | rw [← Ny130.out] at ho39 | (simp only [Int.reduceToNat] at ho39; rw [← Ny130.out] at ho39)); have n0_ := Aside0.mk (Kd.R_lower ho39 (below_size (by repeat (first | (with_reducible first | exact HB.out | apply below_alloc | apply pw_below_drewN | apply below_drew1 | refine below_set ?_ GE125.out | refine below_set ?_ GE129.out) | exact HB.out)))); have n1_ := Aside0.mk (blk_below (g := gb125) (o := .cells #[.int .i64 ((rd_T26 l1 x27_1).f0), .int .i64 ((rd_T26 l1 x27_1).f1), .int .i64 ((rd_T26 l1 x27_1).f2), .int .i64 ((rd_T26 l1 x27_1).f3), .slice (some ad128) ((rd_T26 l1 x27_1).f4).length c124_4] 26 (0, 0)) (by (with_reducible repeat (first | refine blk_drewN ?_ _ | refine blk_drew ?_ | refine blk_alloc ?_ _)); refine blk_far ?_ NB125_129.out _; (with_reducible repeat (first | refine blk_drewN ?_ _ | refine blk_drew ?_ | refine blk_alloc ?_ _)); refine blk_far ?_ NB125_129.out _; (with_reducible repeat (first | refine blk_drewN ?_ _ | refine blk_drew ?_ | refine blk_alloc ?_ _)); refine blk_far ?_ NB125_129.out _; (with_reducible repeat (first | refine blk_drewN ?_ _ | refine blk_drew ?_ | refine blk_alloc ?_ _)); exact BK125.out) hb); have n2_ := Aside0.mk (blk_below (g := gb129) (o := .cells #[.int .u8 ((rd_T29 ((rd_T26 l1 x27_1).f4) x42_2).f0), .string ((rd_T29 ((rd_T26 l1 x27_1).f4) x42_2).f1), .bool true] 29 (0, 0)) (by (with_reducible repeat (first | refine blk_drewN ?_ _ | refine blk_drew ?_ | refine blk_alloc ?_ _)); refine blk_put (cs := #[.int .u8 ((rd_T29 ((rd_T26 l1 x27_1).f4) x42_2).f0), .string ((rd_T29 ((rd_T26 l1 x27_1).f4) x42_2).f1), .bool false]) ?_ 2 _ rfl; (with_reducible repeat (first | refine blk_drewN ?_ _ | refine blk_drew ?_ | refine blk_alloc ?_ _)); refine blk_put (cs := #[.int .u8 ((rd_T29 ((rd_T26 l1 x27_1).f4) x42_2).f0), .string (⟨#[]⟩ : ByteArray), .bool false]) ?_ 1 _ rfl; (with_reducible repeat (first | refine blk_drewN ?_ _ | refine blk_drew ?_ | refine blk_alloc ?_ _)); refine blk_put (cs := #[.int .u8 0, .string (⟨#[]⟩ : ByteArray), .bool false]) ?_ 0 _ rfl; (with_reducible repeat (first | refine blk_drewN ?_ _ | refine blk_drew ?_ | refine blk_alloc ?_ _)); exact BK129.out) hb); have n3_ := Aside0.mk (below_step (by repeat (first | (with_reducible first | exact HB.out | apply below_alloc | apply pw_below_drewN | apply below_drew1 | refine below_set ?_ GE125.out | refine below_set ?_ GE129.out) | exact HB.out)) hb); have nd_ := Aside0.mk (Go.Proofs.YtjabpbnlpljlkaaDoor.H.BOK.below (by repeat (first | (with_reducible first | exact HBd.out | refine Go.Proofs.YtjabpbnlpljlkaaDoor.H.BOK.set ?_ (by simp) _ _ | refine Go.Proofs.YtjabpbnlpljlkaaDoor.H.BOK.drewN ?_ _ | refine Go.Proofs.YtjabpbnlpljlkaaDoor.H.BOK.drew ?_ | refine Go.Proofs.YtjabpbnlpljlkaaDoor.H.BOK.alloc ?_ _) | exact HBd.out) : Go.Proofs.YtjabpbnlpljlkaaDoor.H.BOK w.heap.size gB x6_2 [gb129, gb125] _) hb); clear HBd; have HBd := nd_; clear nd_; clear BK125; clear BK129; clear HB; have HO132 := n0_; have BK125 := n1_; have BK129 := n2_; have HB := n3_; clear n0_ n1_ n2_ n3_; clear hb ho39; have hcv40 := own_string (P := Tryd.prog) Tryd.underlying40 Tryd.underlying5 Tryd.underlying9 (Kd.own_of_R HO132.out); have hcv40n := fun (n_ : Nat) => own_string (P := Tryd.prog) Tryd.underlying40 Tryd.underlying5 Tryd.underlying9 (Kd.own_of_R (Kd.R_drewN HO132.out n_)); have hcz41_0 : w38.cell? ⟨gb129, 0, none⟩ = some (.int .u8 ((rd_T29 ((rd_T26 l1 x27_1).f4) x42_2).f0)) := (blk_cell BK129.out 0).trans rfl; have hcz41_1 : w38.cell? ⟨gb129, 1, none⟩ = some (.string ((rd_T29 ((rd_T26 l1 x27_1).f4) x42_2).f1)) := (blk_cell BK129.out 1).trans rfl; have hcz41_2 : w38.cell? ⟨gb129, 2, none⟩ = some (.bool true) := (blk_cell BK129.out 2).trans rfl; have hfz41_0 := blk_frozen BK129.out 0; have hfz41_1 := blk_frozen BK129.out 1; have hfz41_2 := blk_frozen BK129.out 2) | ((with_reducible refine gate_callee (f := 33) rfl ?_); refine goesL_ (some 54) rfl rfl Tryd.func33 (by kernel_rfl) rfl #[.pointer (some ⟨gB, 0, none⟩), .string (((strOfNums y130) ++ ((rd_T29 ((rd_T26 l1 x27_1).f4) x42_2).f1)) ++ (⟨#[10]⟩ : ByteArray))] rfl (by (try simp only [List.map_toArray, List.map_cons, List.map_nil]); first | done | rfl) ?_; (with_reducible refine (Go.Proofs.YtjabpbnlpljlkaaDoor.H.writeB w.heap.size gB x6_2 (((strOfNums y130) ++ ((rd_T29 ((rd_T26 l1 x27_1).f4) x42_2).f1)) ++ (⟨#[10]⟩ : ByteArray)) [gb129, gb125] _ ?side1 ?side2).mono ?_); (case side1 => exact (by repeat (first | (with_reducible first | exact HBd.out | refine Go.Proofs.YtjabpbnlpljlkaaDoor.H.BOK.set ?_ (by simp) _ _ | refine Go.Proofs.YtjabpbnlpljlkaaDoor.H.BOK.drewN ?_ _ | refine Go.Proofs.YtjabpbnlpljlkaaDoor.H.BOK.drew ?_ | refine Go.Proofs.YtjabpbnlpljlkaaDoor.H.BOK.alloc ?_ _) | exact HBd.out))); (case side2 => exact c31); rintro e w503 ⟨rfl, hd, hb, hkp⟩; refine ⟨_, rfl, ?_⟩; have nb_ := Aside0.mk (Go.RowKit.Below.trans (by repeat (first | (with_reducible first | exact HB.out | apply below_alloc | apply pw_below_drewN | apply below_drew1 | refine below_set ?_ GE129.out | refine below_set ?_ GE125.out) | exact HB.out)) hb); have nd_ := Aside0.mk hd; have nk129_ := Aside0.mk (hkp gb129 #[.int .u8 ((rd_T29 ((rd_T26 l1 x27_1).f4) x42_2).f0), .string ((rd_T29 ((rd_T26 l1 x27_1).f4) x42_2).f1), .bool true] 29 (0, 0) ((HBd.out.2.2 gb129 (by simp)).1) (by decide) (by (with_reducible repeat (first | refine blk_drewN ?_ _ | refine blk_drew ?_ | refine blk_alloc ?_ _)); exact BK129.out)); have nk125_ := Aside0.mk (hkp gb125 #[.int .i64 ((rd_T26 l1 x27_1).f0), .int .i64 ((rd_T26 l1 x27_1).f1), .int .i64 ((rd_T26 l1 x27_1).f2), .int .i64 ((rd_T26 l1 x27_1).f3), .slice (some ad128) ((rd_T26 l1 x27_1).f4).length c124_4] 26 (0, 0) ((HBd.out.2.2 gb125 (by simp)).1) (by decide) (by (with_reducible repeat (first | refine blk_drewN ?_ _ | refine blk_drew ?_ | refine blk_alloc ?_ _)); exact BK125.out)); clear HB; have HB := nb_; clear nb_; clear HBd; have HBd := nd_; clear nd_; clear BK129; have BK129 := nk129_; clear nk129_; clear BK125; have BK125 := nk125_; clear nk125_; clear hd hb hkp; have hcz503129_0 : w503.cell? ⟨gb129, 0, none⟩ = some (.int .u8 ((rd_T29 ((rd_T26 l1 x27_1).f4) x42_2).f0)) := (blk_cell BK129.out 0).trans rfl; have hfz503129_0 := blk_frozen BK129.out 0; have hcz503129_1 : w503.cell? ⟨gb129, 1, none⟩ = some (.string ((rd_T29 ((rd_T26 l1 x27_1).f4) x42_2).f1)) := (blk_cell BK129.out 1).trans rfl; have hfz503129_1 := blk_frozen BK129.out 1; have hcz503129_2 : w503.cell? ⟨gb129, 2, none⟩ = some (.bool true) := (blk_cell BK129.out 2).trans rfl; have hfz503129_2 := blk_frozen BK129.out 2; have hcz503125_0 : w503.cell? ⟨gb125, 0, none⟩ = some (.int .i64 ((rd_T26 l1 x27_1).f0)) := (blk_cell BK125.out 0).trans rfl; have hfz503125_0 := blk_frozen BK125.out 0; have hcz503125_1 : w503.cell? ⟨gb125, 1, none⟩ = some (.int .i64 ((rd_T26 l1 x27_1).f1)) := (blk_cell BK125.out 1).trans rfl; have hfz503125_1 := blk_frozen BK125.out 1; have hcz503125_2 : w503.cell? ⟨gb125, 2, none⟩ = some (.int .i64 ((rd_T26 l1 x27_1).f2)) := (blk_cell BK125.out 2).trans rfl; have hfz503125_2 := blk_frozen BK125.out 2; have hcz503125_3 : w503.cell? ⟨gb125, 3, none⟩ = some (.int .i64 ((rd_T26 l1 x27_1).f3)) := (blk_cell BK125.out 3).trans rfl; have hfz503125_3 := blk_frozen BK125.out 3; have hcz503125_4 : w503.cell? ⟨gb125, 4, none⟩ = some (.slice (some ad128) ((rd_T26 l1 x27_1).f4).length c124_4) := (blk_cell BK125.out 4).trans rfl; have hfz503125_4 := blk_frozen BK125.out 4) | ((with_reducible refine gate_callee (f := 33) rfl ?_); refine goesL_ (some 57) rfl rfl Tryd.func33 (by kernel_rfl) rfl #[.pointer (some ⟨gB, 0, none⟩), .string (⟨#[92, 32, 78, 111, 32, 110, 101, 119, 108, 105, 110, 101, 32, 97, 116, 32, 101, 110, 100, 32, 111, 102, 32, 102, 105, 108, 101, 10]⟩ : ByteArray)] rfl (by (try simp only [List.map_toArray, List.map_cons, List.map_nil]); first | done | rfl) ?_; (with_reducible refine (Go.Proofs.YtjabpbnlpljlkaaDoor.H.writeB w.heap.size gB (x6_2 ++ (((strOfNums y130) ++ ((rd_T29 ((rd_T26 l1 x27_1).f4) x42_2).f1)) ++ (⟨#[10]⟩ : ByteArray))) (⟨#[92, 32, 78, 111, 32, 110, 101, 119, 108, 105, 110, 101, 32, 97, 116, 32, 101, 110, 100, 32, 111, 102, 32, 102, 105, 108, 101, 10]⟩ : ByteArray) [gb129, gb125] _ ?side1 ?side2).mono ?_); (case side1 => exact (by repeat (first | (with_reducible first | exact HBd.out | refine Go.Proofs.YtjabpbnlpljlkaaDoor.H.BOK.set ?_ (by simp) _ _ | refine Go.Proofs.YtjabpbnlpljlkaaDoor.H.BOK.drewN ?_ _ | refine Go.Proofs.YtjabpbnlpljlkaaDoor.H.BOK.drew ?_ | refine Go.Proofs.YtjabpbnlpljlkaaDoor.H.BOK.alloc ?_ _) | exact HBd.out))); (case side2 => exact c34); rintro e w504 ⟨rfl, hd, hb, hkp⟩; refine ⟨_, rfl, ?_⟩; have nb_ := Aside0.mk (Go.RowKit.Below.trans (by repeat (first | (with_reducible first | exact HB.out | apply below_alloc | apply pw_below_drewN | apply below_drew1 | refine below_set ?_ GE129.out | refine below_set ?_ GE125.out) | exact HB.out)) hb); have nd_ := Aside0.mk hd; have nk129_ := Aside0.mk (hkp gb129 #[.int .u8 ((rd_T29 ((rd_T26 l1 x27_1).f4) x42_2).f0), .string ((rd_T29 ((rd_T26 l1 x27_1).f4) x42_2).f1), .bool true] 29 (0, 0) ((HBd.out.2.2 gb129 (by simp)).1) (by decide) (by (with_reducible repeat (first | refine blk_drewN ?_ _ | refine blk_drew ?_ | refine blk_alloc ?_ _)); exact BK129.out)); have nk125_ := Aside0.mk (hkp gb125 #[.int .i64 ((rd_T26 l1 x27_1).f0), .int .i64 ((rd_T26 l1 x27_1).f1), .int .i64 ((rd_T26 l1 x27_1).f2), .int .i64 ((rd_T26 l1 x27_1).f3), .slice (some ad128) ((rd_T26 l1 x27_1).f4).length c124_4] 26 (0, 0) ((HBd.out.2.2 gb125 (by simp)).1) (by decide) (by (with_reducible repeat (first | refine blk_drewN ?_ _ | refine blk_drew ?_ | refine blk_alloc ?_ _)); exact BK125.out)); clear HB; have HB := nb_; clear nb_; clear HBd; have HBd := nd_; clear nd_; clear BK129; have BK129 := nk129_; clear nk129_; clear BK125; have BK125 := nk125_; clear nk125_; clear hd hb hkp; have hcz504129_0 : w504.cell? ⟨gb129, 0, none⟩ = some (.int .u8 ((rd_T29 ((rd_T26 l1 x27_1).f4) x42_2).f0)) := (blk_cell BK129.out 0).trans rfl; have hfz504129_0 := blk_frozen BK129.out 0; have hcz504129_1 : w504.cell? ⟨gb129, 1, none⟩ = some (.string ((rd_T29 ((rd_T26 l1 x27_1).f4) x42_2).f1)) := (blk_cell BK129.out 1).trans rfl; have hfz504129_1 := blk_frozen BK129.out 1; have hcz504129_2 : w504.cell? ⟨gb129, 2, none⟩ = some (.bool true) := (blk_cell BK129.out 2).trans rfl; have hfz504129_2 := blk_frozen BK129.out 2; have hcz504125_0 : w504.cell? ⟨gb125, 0, none⟩ = some (.int .i64 ((rd_T26 l1 x27_1).f0)) := (blk_cell BK125.out 0).trans rfl; have hfz504125_0 := blk_frozen BK125.out 0; have hcz504125_1 : w504.cell? ⟨gb125, 1, none⟩ = some (.int .i64 ((rd_T26 l1 x27_1).f1)) := (blk_cell BK125.out 1).trans rfl; have hfz504125_1 := blk_frozen BK125.out 1; have hcz504125_2 : w504.cell? ⟨gb125, 2, none⟩ = some (.int .i64 ((rd_T26 l1 x27_1).f2)) := (blk_cell BK125.out 2).trans rfl; have hfz504125_2 := blk_frozen BK125.out 2; have hcz504125_3 : w504.cell? ⟨gb125, 3, none⟩ = some (.int .i64 ((rd_T26 l1 x27_1).f3)) := (blk_cell BK125.out 3).trans rfl; have hfz504125_3 := blk_frozen BK125.out 3; have hcz504125_4 : w504.cell? ⟨gb125, 4, none⟩ = some (.slice (some ad128) ((rd_T26 l1 x27_1).f4).length c124_4) := (blk_cell BK125.out 4).trans rfl; have hfz504125_4 := blk_frozen BK125.out 4))
                         go_roundg k2
                         case measure => have := HK1.out; have := HK2.out; omega
                         case rel => exact ⟨((x6_2 ++ (((strOfNums y130) ++ ((rd_T29 ((rd_T26 l1 x27_1).f4) x42_2).f1)) ++ (⟨#[10]⟩ : ByteArray))) ++ (⟨#[92, 32, 78, 111, 32, 110, 101, 119, 108, 105, 110, 101, 32, 97, 116, 32, 101, 110, 100, 32, 111, 102, 32, 102, 105, 108, 101, 10]⟩ : ByteArray)), (wrap64 (x42_2 + 1)), (by first | rfl | (simp; done) | (simp [*]; done) | (simp [wrap64, wrap32]; done)), H', ⟨by have := HK1.out; have := HK2.out; omega⟩, ⟨Go.Proofs.YtjabpbnlpljlkaaDoor.H.BOK.tail (g := gb129) (by repeat (first | (with_reducible first | exact HBd.out | refine Go.Proofs.YtjabpbnlpljlkaaDoor.H.BOK.set ?_ (by simp) _ _ | refine Go.Proofs.YtjabpbnlpljlkaaDoor.H.BOK.drewN ?_ _ | refine Go.Proofs.YtjabpbnlpljlkaaDoor.H.BOK.drew ?_ | refine Go.Proofs.YtjabpbnlpljlkaaDoor.H.BOK.alloc ?_ _) | exact HBd.out))⟩, ⟨by (with_reducible repeat (first | refine blk_drewN ?_ _ | refine blk_drew ?_ | refine blk_alloc ?_ _)); exact BK125.out⟩, ⟨by repeat (first | (with_reducible first | exact HB.out | apply below_alloc | apply pw_below_drewN | apply below_drew1 | refine below_set ?_ GE125.out | refine below_set ?_ GE129.out) | exact HB.out)⟩⟩
                        ·rw [if_neg c34] at H
                         exact absurd H (by simp)
                       ·replace c33 := Bool.eq_false_iff.mpr c33
                        subst c33
                        have H1 : (show_Print.l1 k2 (x6_2 ++ (((strOfNums y130) ++ ((rd_T29 ((rd_T26 l1 x27_1).f4) x42_2).f1)) ++ (⟨#[10]⟩ : ByteArray))) l1 (l1.length : Int) x27_1 ((rd_T26 l1 x27_1).f4) (((rd_T26 l1 x27_1).f4).length : Int) (wrap64 (x42_2 + 1))) = some (r1, r2) := by rw [if_neg (show ¬ (false = true) by decide)] at H; exact H
                        clear H
                        have H := H1
                        clear H1
                        have H' := Aside0.mk H
                        clear H
                        have p128 : 0 ≤ (x42_2 : Int) := of_decide_eq_true (by first | (with_reducible assumption) | assumption)
                        have q128 : x42_2 < (((rd_T26 l1 x27_1).f4).length : Int) := of_decide_eq_true (by first | (with_reducible assumption) | assumption)
                        obtain ⟨ad128, e128, hx128_0, hx128_1, hx128_2⟩ := at_T29 HR124_4.out x42_2 p128 q128
                        (try rw [← Nbq32.out] at hx128_2)
                        cases e128
                        replace hx128_0 := (HB.out.cell (World.block_lt_of_cell? w _ hx128_0)).trans hx128_0
                        replace hx128_1 := (HB.out.cell (World.block_lt_of_cell? w _ hx128_1)).trans hx128_1
                        replace hx128_2 := (HB.out.cell (World.block_lt_of_cell? w _ hx128_2)).trans hx128_2
                        replace p128 := eq_true p128
                        replace q128 := eq_true q128
                        go_wp2_with (first | ((with_reducible refine gate_dst (N := 11) rfl ?_); refine box_event ?hg (N := 11) ?hd (cs := #[.int .u8 0, .string (⟨#[]⟩ : ByteArray), .bool false]) (t := 29) ?hr ?_; (case hd => rfl); (case hg => rfl); (case hr => first | (go_simp; done) | (go_simp; rfl)); intro gb129 hg w42 hbox hb; have n0_ := Aside0.mk (blk_below (g := gb125) (o := .cells #[.int .i64 ((rd_T26 l1 x27_1).f0), .int .i64 ((rd_T26 l1 x27_1).f1), .int .i64 ((rd_T26 l1 x27_1).f2), .int .i64 ((rd_T26 l1 x27_1).f3), .slice (some ad128) ((rd_T26 l1 x27_1).f4).length c124_4] 26 (0, 0)) (by (with_reducible repeat (first | refine blk_drewN ?_ _ | refine blk_drew ?_ | refine blk_alloc ?_ _)); exact BK125.out) hb); have n1_ := Aside0.mk (below_step (by repeat (first | (with_reducible first | exact HB.out | apply below_alloc | apply pw_below_drewN | apply below_drew1 | refine below_set ?_ GE125.out) | exact HB.out)) hb); have n2_ := Aside0.mk (hbox); have n3_ := Aside0.mk ((by rw [hg]; exact (below_size (by repeat (first | (with_reducible first | exact HB.out | apply below_alloc | apply pw_below_drewN | apply below_drew1 | refine below_set ?_ GE125.out) | exact HB.out))) : w.heap.size ≤ gb129)); have n4_ := Aside0.mk ((by rw [hg]; exact (below_size (by repeat (first | (with_reducible first | exact HB.out | apply below_alloc | apply pw_below_drewN | apply below_drew1 | refine below_set ?_ GE125.out) | exact HB.out))) : w.heap.size ≤ gb129)); have n5_ := Aside0.mk ((by rw [hg]; exact Nat.ne_of_lt (blk_lt (g := gb125) (o := .cells #[.int .i64 ((rd_T26 l1 x27_1).f0), .int .i64 ((rd_T26 l1 x27_1).f1), .int .i64 ((rd_T26 l1 x27_1).f2), .int .i64 ((rd_T26 l1 x27_1).f3), .slice (some ad128) ((rd_T26 l1 x27_1).f4).length c124_4] 26 (0, 0)) (by (with_reducible repeat (first | refine blk_drewN ?_ _ | refine blk_drew ?_ | refine blk_alloc ?_ _)); exact BK125.out)) : gb125 ≠ gb129)); have n6_ := Aside0.mk ((by rw [hg]; exact Nat.ne_of_gt (blk_lt (g := gb125) (o := .cells #[.int .i64 ((rd_T26 l1 x27_1).f0), .int .i64 ((rd_T26 l1 x27_1).f1), .int .i64 ((rd_T26 l1 x27_1).f2), .int .i64 ((rd_T26 l1 x27_1).f3), .slice (some ad128) ((rd_T26 l1 x27_1).f4).length c124_4] 26 (0, 0)) (by (with_reducible repeat (first | refine blk_drewN ?_ _ | refine blk_drew ?_ | refine blk_alloc ?_ _)); exact BK125.out)) : gb129 ≠ gb125)); have nd_ := Aside0.mk (Go.Proofs.YtjabpbnlpljlkaaDoor.H.BOK.box (by repeat (first | (with_reducible first | exact HBd.out | refine Go.Proofs.YtjabpbnlpljlkaaDoor.H.BOK.set ?_ (by simp) _ _ | refine Go.Proofs.YtjabpbnlpljlkaaDoor.H.BOK.drewN ?_ _ | refine Go.Proofs.YtjabpbnlpljlkaaDoor.H.BOK.drew ?_ | refine Go.Proofs.YtjabpbnlpljlkaaDoor.H.BOK.alloc ?_ _) | exact HBd.out) : Go.Proofs.YtjabpbnlpljlkaaDoor.H.BOK w.heap.size gB x6_2 [gb125] _) hb hg hbox (by decide)); clear HBd; have HBd := nd_; clear nd_; clear BK125; clear HB; have BK125 := n0_; have HB := n1_; have BK129 := n2_; have GW129 := n3_; have GE129 := n4_; have NB125_129 := n5_; have NB129_125 := n6_; clear n0_ n1_ n2_ n3_ n4_ n5_ n6_; clear hb hbox hg; have hnb43 := NB129_125.out; have hnc43 := NB125_129.out; have hcz44_0 : w42.cell? ⟨gb129, 0, none⟩ = some (.int .u8 0) := (blk_cell BK129.out 0).trans rfl; have hcz44_1 : w42.cell? ⟨gb129, 1, none⟩ = some (.string (⟨#[]⟩ : ByteArray)) := (blk_cell BK129.out 1).trans rfl; have hcz44_2 : w42.cell? ⟨gb129, 2, none⟩ = some (.bool false) := (blk_cell BK129.out 2).trans rfl; have hfz44_0 := blk_frozen BK129.out 0; have hfz44_1 := blk_frozen BK129.out 1; have hfz44_2 := blk_frozen BK129.out 2) | ((with_reducible refine gate_dst (N := 48) rfl ?_); refine Kd.R_lit (Kd.int .u8) _ 5 ?hg (N := 48) ?hd (xs := ([(rd_T29 ((rd_T26 l1 x27_1).f4) x42_2).f0] : List Int)) (inner := [.int .u8 ((rd_T29 ((rd_T26 l1 x27_1).f4) x42_2).f0)]) (ok := fun _ => True) (okp := fun _ => True) ?hr ?hp (fun _ hk => hk) trivial (Below.refl _ _) (Nat.le_refl _) (by simp) ?_; (case hd => rfl); (case hg => rfl); (case hr => first | (go_simp; done) | (go_simp; rfl)); (case hp => exact (Reps.one (show Kd.M (Kd.int .u8) _ _ _ ((rd_T29 ((rd_T26 l1 x27_1).f4) x42_2).f0) [.int .u8 ((rd_T29 ((rd_T26 l1 x27_1).f4) x42_2).f0)] from rfl) (Reps.none _ _))); intro v131 w45 ho46 hb hg_ hnew_; clear hg_ hnew_; (first | rw [← Ny130.out] at ho46 | (simp only [Int.reduceToNat] at ho46; rw [← Ny130.out] at ho46)); have n0_ := Aside0.mk (Kd.R_lower ho46 (below_size (by repeat (first | (with_reducible first | exact HB.out | apply below_alloc | apply pw_below_drewN | apply below_drew1 | refine below_set ?_ GE125.out | refine below_set ?_ GE129.out) | exact HB.out)))); have n1_ := Aside0.mk (blk_below (g := gb125) (o := .cells #[.int .i64 ((rd_T26 l1 x27_1).f0), .int .i64 ((rd_T26 l1 x27_1).f1), .int .i64 ((rd_T26 l1 x27_1).f2), .int .i64 ((rd_T26 l1 x27_1).f3), .slice (some ad128) ((rd_T26 l1 x27_1).f4).length c124_4] 26 (0, 0)) (by (with_reducible repeat (first | refine blk_drewN ?_ _ | refine blk_drew ?_ | refine blk_alloc ?_ _)); refine blk_far ?_ NB125_129.out _; (with_reducible repeat (first | refine blk_drewN ?_ _ | refine blk_drew ?_ | refine blk_alloc ?_ _)); refine blk_far ?_ NB125_129.out _; (with_reducible repeat (first | refine blk_drewN ?_ _ | refine blk_drew ?_ | refine blk_alloc ?_ _)); refine blk_far ?_ NB125_129.out _; (with_reducible repeat (first | refine blk_drewN ?_ _ | refine blk_drew ?_ | refine blk_alloc ?_ _)); exact BK125.out) hb); have n2_ := Aside0.mk (blk_below (g := gb129) (o := .cells #[.int .u8 ((rd_T29 ((rd_T26 l1 x27_1).f4) x42_2).f0), .string ((rd_T29 ((rd_T26 l1 x27_1).f4) x42_2).f1), .bool false] 29 (0, 0)) (by (with_reducible repeat (first | refine blk_drewN ?_ _ | refine blk_drew ?_ | refine blk_alloc ?_ _)); refine blk_put (cs := #[.int .u8 ((rd_T29 ((rd_T26 l1 x27_1).f4) x42_2).f0), .string ((rd_T29 ((rd_T26 l1 x27_1).f4) x42_2).f1), .bool false]) ?_ 2 _ rfl; (with_reducible repeat (first | refine blk_drewN ?_ _ | refine blk_drew ?_ | refine blk_alloc ?_ _)); refine blk_put (cs := #[.int .u8 ((rd_T29 ((rd_T26 l1 x27_1).f4) x42_2).f0), .string (⟨#[]⟩ : ByteArray), .bool false]) ?_ 1 _ rfl; (with_reducible repeat (first | refine blk_drewN ?_ _ | refine blk_drew ?_ | refine blk_alloc ?_ _)); refine blk_put (cs := #[.int .u8 0, .string (⟨#[]⟩ : ByteArray), .bool false]) ?_ 0 _ rfl; (with_reducible repeat (first | refine blk_drewN ?_ _ | refine blk_drew ?_ | refine blk_alloc ?_ _)); exact BK129.out) hb); have n3_ := Aside0.mk (below_step (by repeat (first | (with_reducible first | exact HB.out | apply below_alloc | apply pw_below_drewN | apply below_drew1 | refine below_set ?_ GE125.out | refine below_set ?_ GE129.out) | exact HB.out)) hb); have nd_ := Aside0.mk (Go.Proofs.YtjabpbnlpljlkaaDoor.H.BOK.below (by repeat (first | (with_reducible first | exact HBd.out | refine Go.Proofs.YtjabpbnlpljlkaaDoor.H.BOK.set ?_ (by simp) _ _ | refine Go.Proofs.YtjabpbnlpljlkaaDoor.H.BOK.drewN ?_ _ | refine Go.Proofs.YtjabpbnlpljlkaaDoor.H.BOK.drew ?_ | refine Go.Proofs.YtjabpbnlpljlkaaDoor.H.BOK.alloc ?_ _) | exact HBd.out) : Go.Proofs.YtjabpbnlpljlkaaDoor.H.BOK w.heap.size gB x6_2 [gb129, gb125] _) hb); clear HBd; have HBd := nd_; clear nd_; clear BK125; clear BK129; clear HB; have HO132 := n0_; have BK125 := n1_; have BK129 := n2_; have HB := n3_; clear n0_ n1_ n2_ n3_; clear hb ho46; have hcv47 := own_string (P := Tryd.prog) Tryd.underlying40 Tryd.underlying5 Tryd.underlying9 (Kd.own_of_R HO132.out); have hcv47n := fun (n_ : Nat) => own_string (P := Tryd.prog) Tryd.underlying40 Tryd.underlying5 Tryd.underlying9 (Kd.own_of_R (Kd.R_drewN HO132.out n_)); have hcz48_0 : w45.cell? ⟨gb129, 0, none⟩ = some (.int .u8 ((rd_T29 ((rd_T26 l1 x27_1).f4) x42_2).f0)) := (blk_cell BK129.out 0).trans rfl; have hcz48_1 : w45.cell? ⟨gb129, 1, none⟩ = some (.string ((rd_T29 ((rd_T26 l1 x27_1).f4) x42_2).f1)) := (blk_cell BK129.out 1).trans rfl; have hcz48_2 : w45.cell? ⟨gb129, 2, none⟩ = some (.bool false) := (blk_cell BK129.out 2).trans rfl; have hfz48_0 := blk_frozen BK129.out 0; have hfz48_1 := blk_frozen BK129.out 1; have hfz48_2 := blk_frozen BK129.out 2) | ((with_reducible refine gate_callee (f := 33) rfl ?_); refine goesL_ (some 54) rfl rfl Tryd.func33 (by kernel_rfl) rfl #[.pointer (some ⟨gB, 0, none⟩), .string (((strOfNums y130) ++ ((rd_T29 ((rd_T26 l1 x27_1).f4) x42_2).f1)) ++ (⟨#[10]⟩ : ByteArray))] rfl (by (try simp only [List.map_toArray, List.map_cons, List.map_nil]); first | done | rfl) ?_; (with_reducible refine (Go.Proofs.YtjabpbnlpljlkaaDoor.H.writeB w.heap.size gB x6_2 (((strOfNums y130) ++ ((rd_T29 ((rd_T26 l1 x27_1).f4) x42_2).f1)) ++ (⟨#[10]⟩ : ByteArray)) [gb129, gb125] _ ?side1 ?side2).mono ?_); (case side1 => exact (by repeat (first | (with_reducible first | exact HBd.out | refine Go.Proofs.YtjabpbnlpljlkaaDoor.H.BOK.set ?_ (by simp) _ _ | refine Go.Proofs.YtjabpbnlpljlkaaDoor.H.BOK.drewN ?_ _ | refine Go.Proofs.YtjabpbnlpljlkaaDoor.H.BOK.drew ?_ | refine Go.Proofs.YtjabpbnlpljlkaaDoor.H.BOK.alloc ?_ _) | exact HBd.out))); (case side2 => exact c31); rintro e w505 ⟨rfl, hd, hb, hkp⟩; refine ⟨_, rfl, ?_⟩; have nb_ := Aside0.mk (Go.RowKit.Below.trans (by repeat (first | (with_reducible first | exact HB.out | apply below_alloc | apply pw_below_drewN | apply below_drew1 | refine below_set ?_ GE129.out | refine below_set ?_ GE125.out) | exact HB.out)) hb); have nd_ := Aside0.mk hd; have nk129_ := Aside0.mk (hkp gb129 #[.int .u8 ((rd_T29 ((rd_T26 l1 x27_1).f4) x42_2).f0), .string ((rd_T29 ((rd_T26 l1 x27_1).f4) x42_2).f1), .bool false] 29 (0, 0) ((HBd.out.2.2 gb129 (by simp)).1) (by decide) (by (with_reducible repeat (first | refine blk_drewN ?_ _ | refine blk_drew ?_ | refine blk_alloc ?_ _)); exact BK129.out)); have nk125_ := Aside0.mk (hkp gb125 #[.int .i64 ((rd_T26 l1 x27_1).f0), .int .i64 ((rd_T26 l1 x27_1).f1), .int .i64 ((rd_T26 l1 x27_1).f2), .int .i64 ((rd_T26 l1 x27_1).f3), .slice (some ad128) ((rd_T26 l1 x27_1).f4).length c124_4] 26 (0, 0) ((HBd.out.2.2 gb125 (by simp)).1) (by decide) (by (with_reducible repeat (first | refine blk_drewN ?_ _ | refine blk_drew ?_ | refine blk_alloc ?_ _)); exact BK125.out)); clear HB; have HB := nb_; clear nb_; clear HBd; have HBd := nd_; clear nd_; clear BK129; have BK129 := nk129_; clear nk129_; clear BK125; have BK125 := nk125_; clear nk125_; clear hd hb hkp; have hcz505129_0 : w505.cell? ⟨gb129, 0, none⟩ = some (.int .u8 ((rd_T29 ((rd_T26 l1 x27_1).f4) x42_2).f0)) := (blk_cell BK129.out 0).trans rfl; have hfz505129_0 := blk_frozen BK129.out 0; have hcz505129_1 : w505.cell? ⟨gb129, 1, none⟩ = some (.string ((rd_T29 ((rd_T26 l1 x27_1).f4) x42_2).f1)) := (blk_cell BK129.out 1).trans rfl; have hfz505129_1 := blk_frozen BK129.out 1; have hcz505129_2 : w505.cell? ⟨gb129, 2, none⟩ = some (.bool false) := (blk_cell BK129.out 2).trans rfl; have hfz505129_2 := blk_frozen BK129.out 2; have hcz505125_0 : w505.cell? ⟨gb125, 0, none⟩ = some (.int .i64 ((rd_T26 l1 x27_1).f0)) := (blk_cell BK125.out 0).trans rfl; have hfz505125_0 := blk_frozen BK125.out 0; have hcz505125_1 : w505.cell? ⟨gb125, 1, none⟩ = some (.int .i64 ((rd_T26 l1 x27_1).f1)) := (blk_cell BK125.out 1).trans rfl; have hfz505125_1 := blk_frozen BK125.out 1; have hcz505125_2 : w505.cell? ⟨gb125, 2, none⟩ = some (.int .i64 ((rd_T26 l1 x27_1).f2)) := (blk_cell BK125.out 2).trans rfl; have hfz505125_2 := blk_frozen BK125.out 2; have hcz505125_3 : w505.cell? ⟨gb125, 3, none⟩ = some (.int .i64 ((rd_T26 l1 x27_1).f3)) := (blk_cell BK125.out 3).trans rfl; have hfz505125_3 := blk_frozen BK125.out 3; have hcz505125_4 : w505.cell? ⟨gb125, 4, none⟩ = some (.slice (some ad128) ((rd_T26 l1 x27_1).f4).length c124_4) := (blk_cell BK125.out 4).trans rfl; have hfz505125_4 := blk_frozen BK125.out 4))
                        go_roundg k2
                        case measure => have := HK1.out; have := HK2.out; omega
                        case rel => exact ⟨(x6_2 ++ (((strOfNums y130) ++ ((rd_T29 ((rd_T26 l1 x27_1).f4) x42_2).f1)) ++ (⟨#[10]⟩ : ByteArray))), (wrap64 (x42_2 + 1)), (by first | rfl | (simp; done) | (simp [*]; done) | (simp [wrap64, wrap32]; done)), H', ⟨by have := HK1.out; have := HK2.out; omega⟩, ⟨Go.Proofs.YtjabpbnlpljlkaaDoor.H.BOK.tail (g := gb129) (by repeat (first | (with_reducible first | exact HBd.out | refine Go.Proofs.YtjabpbnlpljlkaaDoor.H.BOK.set ?_ (by simp) _ _ | refine Go.Proofs.YtjabpbnlpljlkaaDoor.H.BOK.drewN ?_ _ | refine Go.Proofs.YtjabpbnlpljlkaaDoor.H.BOK.drew ?_ | refine Go.Proofs.YtjabpbnlpljlkaaDoor.H.BOK.alloc ?_ _) | exact HBd.out))⟩, ⟨by (with_reducible repeat (first | refine blk_drewN ?_ _ | refine blk_drew ?_ | refine blk_alloc ?_ _)); exact BK125.out⟩, ⟨by repeat (first | (with_reducible first | exact HB.out | apply below_alloc | apply pw_below_drewN | apply below_drew1 | refine below_set ?_ GE125.out | refine below_set ?_ GE129.out) | exact HB.out)⟩⟩
                      ·rw [if_neg c31] at H
                       exact absurd H (by simp)
                     ·rw [if_neg c30] at H
                      exact absurd H (by simp)
                    ·rw [if_neg c29] at H
                     exact absurd H (by simp)
                   ·rw [if_neg c28] at H
                    exact absurd H (by simp)
                  ·rw [if_neg c27] at H
                   exact absurd H (by simp)
                 ·rw [if_neg c26] at H
                  have c26b0 : decide (x42_2 < (((rd_T26 l1 x27_1).f4).length : Int)) = false := decide_eq_false c26
                  clear c26
                  have H' := Aside0.mk H
                  clear H
                  go_wp2
                  go_roundg k2
                  case measure => have := HK1.out; have := HK2.out; omega
                  case rel => exact ⟨(x6_2), (wrap64 (x27_1 + 1)), (by first | rfl | (simp; done) | (simp [*]; done) | (simp [wrap64, wrap32]; done)), H', ⟨by have := HK1.out; have := HK2.out; omega⟩, ⟨Go.Proofs.YtjabpbnlpljlkaaDoor.H.BOK.tail (g := gb125) (by repeat (first | (with_reducible first | exact HBd.out | refine Go.Proofs.YtjabpbnlpljlkaaDoor.H.BOK.set ?_ (by simp) _ _ | refine Go.Proofs.YtjabpbnlpljlkaaDoor.H.BOK.drewN ?_ _ | refine Go.Proofs.YtjabpbnlpljlkaaDoor.H.BOK.drew ?_ | refine Go.Proofs.YtjabpbnlpljlkaaDoor.H.BOK.alloc ?_ _) | exact HBd.out))⟩, ⟨by repeat (first | (with_reducible first | exact HB.out | apply below_alloc | apply pw_below_drewN | apply below_drew1 | refine below_set ?_ GE125.out) | exact HB.out)⟩⟩
              ·rw [if_neg c19] at H
               exact absurd H (by simp)
             ·rw [if_neg c17] at H
              have c17b0 : (t126 == 0) = false := beq_eq_false_iff_ne.mpr c17
              have c17b1 : (t126 != 0) = true := bne_iff_ne.mpr c17
              simp only [Option.some.injEq, Prod.mk.injEq] at H
              obtain ⟨rfl, rfl⟩ := H
              have p124 : 0 ≤ (x27_1 : Int) := of_decide_eq_true (by first | (with_reducible assumption) | assumption)
              have q124 : x27_1 < (l1.length : Int) := of_decide_eq_true (by first | (with_reducible assumption) | assumption)
              obtain ⟨ad124, A124_4, c124_4, e124, hx124_0, hx124_1, hx124_2, hx124_3, hx124_4, hl124_4, hi124_4⟩ := at_T26 HR1.out x27_1 p124 q124
              cases e124
              replace hx124_0 := (HB.out.cell (World.block_lt_of_cell? w _ hx124_0)).trans hx124_0
              replace hx124_1 := (HB.out.cell (World.block_lt_of_cell? w _ hx124_1)).trans hx124_1
              replace hx124_2 := (HB.out.cell (World.block_lt_of_cell? w _ hx124_2)).trans hx124_2
              replace hx124_3 := (HB.out.cell (World.block_lt_of_cell? w _ hx124_3)).trans hx124_3
              replace hx124_4 := (HB.out.cell (World.block_lt_of_cell? w _ hx124_4)).trans hx124_4
              have HR124_4 := Aside0.mk hi124_4
              have HC124_4 := Aside0.mk hl124_4
              clear hi124_4 hl124_4
              replace p124 := eq_true p124
              replace q124 := eq_true q124
              go_wp2_with (first | ((with_reducible refine gate_dst (N := 8) rfl ?_); refine box_event ?hg (N := 8) ?hd (cs := #[.int .i64 0, .int .i64 0, .int .i64 0, .int .i64 0, .slice none 0 0]) (t := 26) ?hr ?_; (case hd => rfl); (case hg => rfl); (case hr => first | (go_simp; done) | (go_simp; rfl)); intro gb125 hg w49 hbox hb; have n0_ := Aside0.mk (below_step (by repeat (first | (with_reducible first | exact HB.out | apply below_alloc | apply pw_below_drewN | apply below_drew1) | exact HB.out)) hb); have n1_ := Aside0.mk (hbox); have n2_ := Aside0.mk ((by rw [hg]; exact (below_size (by repeat (first | (with_reducible first | exact HB.out | apply below_alloc | apply pw_below_drewN | apply below_drew1) | exact HB.out))) : w.heap.size ≤ gb125)); have n3_ := Aside0.mk ((by rw [hg]; exact (below_size (by repeat (first | (with_reducible first | exact HB.out | apply below_alloc | apply pw_below_drewN | apply below_drew1) | exact HB.out))) : w.heap.size ≤ gb125)); clear HB; have HB := n0_; have BK125 := n1_; have GW125 := n2_; have GE125 := n3_; clear n0_ n1_ n2_ n3_; clear hb hbox hg; have hcz50_0 : w49.cell? ⟨gb125, 0, none⟩ = some (.int .i64 0) := (blk_cell BK125.out 0).trans rfl; have hcz50_1 : w49.cell? ⟨gb125, 1, none⟩ = some (.int .i64 0) := (blk_cell BK125.out 1).trans rfl; have hcz50_2 : w49.cell? ⟨gb125, 2, none⟩ = some (.int .i64 0) := (blk_cell BK125.out 2).trans rfl; have hcz50_3 : w49.cell? ⟨gb125, 3, none⟩ = some (.int .i64 0) := (blk_cell BK125.out 3).trans rfl; have hcz50_4 : w49.cell? ⟨gb125, 4, none⟩ = some (.slice none 0 0) := (blk_cell BK125.out 4).trans rfl; have hfz50_0 := blk_frozen BK125.out 0; have hfz50_1 := blk_frozen BK125.out 1; have hfz50_2 := blk_frozen BK125.out 2; have hfz50_3 := blk_frozen BK125.out 3; have hfz50_4 := blk_frozen BK125.out 4) | ((with_reducible refine gate_callee (f := 16) rfl ?_); refine goesL_ (some 32) rfl rfl Tryd.func16 (by kernel_rfl) rfl #[.agg #[.int .i64 ((rd_T26 l1 x27_1).f0), .int .i64 ((rd_T26 l1 x27_1).f1), .int .i64 ((rd_T26 l1 x27_1).f2), .int .i64 ((rd_T26 l1 x27_1).f3), .slice A124_4 ((rd_T26 l1 x27_1).f4).length c124_4]] rfl (by (try simp only [List.map_toArray, List.map_cons, List.map_nil]); first | done | rfl | (simp only [List.length_drop, List.length_take]; rfl)) ?_; (with_reducible refine (show_Check.calls k1 ((rd_T26 l1 x27_1).f0) ((rd_T26 l1 x27_1).f1) ((rd_T26 l1 x27_1).f2) ((rd_T26 l1 x27_1).f3) _ _ ((rd_T26 l1 x27_1).f4) t126 _ ?side1 ?side2 A16.out).mono ?_); (case side1 => exact Kd.C_below HR124_4.out (by repeat (first | (with_reducible first | exact HB.out | apply below_alloc | apply pw_below_drewN | apply below_drew1 | refine below_set ?_ GE125.out) | exact HB.out))); (case side2 => exact HC124_4.out); rintro e w51 ⟨rfl, hb⟩; refine ⟨_, rfl, ?_⟩; have n0_ := Aside0.mk (blk_below (g := gb125) (o := .cells #[.int .i64 ((rd_T26 l1 x27_1).f0), .int .i64 ((rd_T26 l1 x27_1).f1), .int .i64 ((rd_T26 l1 x27_1).f2), .int .i64 ((rd_T26 l1 x27_1).f3), .slice A124_4 ((rd_T26 l1 x27_1).f4).length c124_4] 26 (0, 0)) (by (with_reducible repeat (first | refine blk_drewN ?_ _ | refine blk_drew ?_ | refine blk_alloc ?_ _)); refine blk_put (cs := #[.int .i64 ((rd_T26 l1 x27_1).f0), .int .i64 ((rd_T26 l1 x27_1).f1), .int .i64 ((rd_T26 l1 x27_1).f2), .int .i64 ((rd_T26 l1 x27_1).f3), .slice none 0 0]) ?_ 4 _ rfl; (with_reducible repeat (first | refine blk_drewN ?_ _ | refine blk_drew ?_ | refine blk_alloc ?_ _)); refine blk_put (cs := #[.int .i64 ((rd_T26 l1 x27_1).f0), .int .i64 ((rd_T26 l1 x27_1).f1), .int .i64 ((rd_T26 l1 x27_1).f2), .int .i64 0, .slice none 0 0]) ?_ 3 _ rfl; (with_reducible repeat (first | refine blk_drewN ?_ _ | refine blk_drew ?_ | refine blk_alloc ?_ _)); refine blk_put (cs := #[.int .i64 ((rd_T26 l1 x27_1).f0), .int .i64 ((rd_T26 l1 x27_1).f1), .int .i64 0, .int .i64 0, .slice none 0 0]) ?_ 2 _ rfl; (with_reducible repeat (first | refine blk_drewN ?_ _ | refine blk_drew ?_ | refine blk_alloc ?_ _)); refine blk_put (cs := #[.int .i64 ((rd_T26 l1 x27_1).f0), .int .i64 0, .int .i64 0, .int .i64 0, .slice none 0 0]) ?_ 1 _ rfl; (with_reducible repeat (first | refine blk_drewN ?_ _ | refine blk_drew ?_ | refine blk_alloc ?_ _)); refine blk_put (cs := #[.int .i64 0, .int .i64 0, .int .i64 0, .int .i64 0, .slice none 0 0]) ?_ 0 _ rfl; (with_reducible repeat (first | refine blk_drewN ?_ _ | refine blk_drew ?_ | refine blk_alloc ?_ _)); exact BK125.out) hb); have n1_ := Aside0.mk (below_step (by repeat (first | (with_reducible first | exact HB.out | apply below_alloc | apply pw_below_drewN | apply below_drew1 | refine below_set ?_ GE125.out) | exact HB.out)) hb); clear BK125; clear HB; have BK125 := n0_; have HB := n1_; clear n0_ n1_; (try clear hb); (try clear hb2); (try clear hk); (try clear hi)))
              go_ret2
              exact ⟨by first | rfl | (simp [errW_none, errW_some] <;> rfl) | (simp [*, errW_none, errW_some] <;> rfl), by repeat (first | (with_reducible first | exact HB.out | apply below_alloc | apply pw_below_drewN | apply below_drew1 | refine below_set ?_ GE125.out) | exact HB.out)⟩
            ·rw [if_neg c15] at H
             exact absurd H (by simp)
           ·rw [if_neg c14] at H
            exact absurd H (by simp)
          ·rw [if_neg c13] at H
           have c13b0 : decide (x27_1 < (l1.length : Int)) = false := decide_eq_false c13
           clear c13
           simp only [Option.some.injEq, Prod.mk.injEq] at H
           obtain ⟨rfl, rfl⟩ := H
           go_wp2_with (first | ((with_reducible refine gate_callee (f := 34) rfl ?_); refine goesL_ (some 60) rfl rfl Tryd.func34 (by kernel_rfl) rfl #[.pointer (some ⟨gB, 0, none⟩)] rfl (by (try simp only [List.map_toArray, List.map_cons, List.map_nil]); first | done | rfl) ?_; (with_reducible refine (Go.Proofs.YtjabpbnlpljlkaaDoor.H.stringB w.heap.size gB ?sB [] _ ?side1).mono ?_); (case side1 => exact (by repeat (first | (with_reducible first | exact HBd.out | refine Go.Proofs.YtjabpbnlpljlkaaDoor.H.BOK.set ?_ (by simp) _ _ | refine Go.Proofs.YtjabpbnlpljlkaaDoor.H.BOK.drewN ?_ _ | refine Go.Proofs.YtjabpbnlpljlkaaDoor.H.BOK.drew ?_ | refine Go.Proofs.YtjabpbnlpljlkaaDoor.H.BOK.alloc ?_ _) | exact HBd.out))); rintro e w506 ⟨rfl, hb⟩; refine ⟨_, rfl, ?_⟩; have n0_ := Aside0.mk (Go.RowKit.Below.trans (by repeat (first | (with_reducible first | exact HB.out | apply below_alloc | apply pw_below_drewN | apply below_drew1) | exact HB.out)) hb); clear HB; have HB := n0_; clear n0_; clear hb))
           go_ret2
           exact ⟨by first | rfl | (simp [errW_none, errW_some] <;> rfl) | (simp [*, errW_none, errW_some] <;> rfl), by repeat (first | (with_reducible first | exact HB.out | apply below_alloc | apply pw_below_drewN | apply below_drew1) | exact HB.out)⟩
       ·rw [if_neg c11] at H
        exact absurd H (by simp)
      ·rw [if_neg c10] at H
       exact absurd H (by simp)
     ·rw [if_neg c9] at H
      exact absurd H (by simp)
    ·rw [if_neg c8] at H
     exact absurd H (by simp)
   ·rw [if_neg c7] at H
    exact absurd H (by simp)
 ·replace c4 := Bool.eq_false_iff.mpr c4
  subst c4
  have H1 : (some ((⟨#[]⟩ : ByteArray), 10)) = some (r1, r2) := by rw [if_neg (show ¬ (false = true) by decide)] at H; exact H
  clear H
  have H := H1
  clear H1
  simp only [Option.some.injEq, Prod.mk.injEq] at H
  obtain ⟨rfl, rfl⟩ := H
  go_enter Tryd.func18, Tryd.ntmps18
  go_wp2_with (first | ((with_reducible refine gate_callee (f := 13) rfl ?_); refine goesL_ (some 13) rfl rfl Tryd.func13 (by kernel_rfl) rfl #[.string a0] rfl (by (try simp only [List.map_toArray, List.map_cons, List.map_nil]); first | done | rfl | (simp only [List.length_drop, List.length_take]; rfl)) ?_; (with_reducible refine (show_Name.calls a0 false _ A3.out).mono ?_); rintro e w52 ⟨rfl, hb⟩; refine ⟨_, rfl, ?_⟩; have n0_ := Aside0.mk (below_step (by repeat (first | (with_reducible first | exact HB.out | apply below_alloc | apply pw_below_drewN | apply below_drew1) | exact HB.out)) hb); clear HB; have HB := n0_; clear n0_; (try clear hb); (try clear hb2); (try clear hk); (try clear hi)))
  go_ret2
  exact ⟨by first | rfl | (simp [errW_none, errW_some] <;> rfl) | (simp [*, errW_none, errW_some] <;> rfl), by repeat (first | (with_reducible first | exact HB.out | apply below_alloc | apply pw_below_drewN | apply below_drew1) | exact HB.out)⟩


/-! ### redpenref18_has: function 30 -/
def redpenref18_has.l0 : Nat → ByteArray → Int → Int → Option (Bool)
 | 0, _, _, _ => none
 | k + 1, x0, x1, x5 => if x5 < (x0.size : Int) then (if 0 ≤ x5 then (if (bt x0 x5) = x1 then (some true) else (redpenref18_has.l0 k x0 x1 (wrap64 (x5 + 1)))) else (none)) else (some false)
def redpenref18_has.f (k : Nat) (a0 : ByteArray) (a1 : Int) : Option (Bool) := redpenref18_has.l0 k a0 a1 0
theorem redpenref18_has.mono_l : ∀ k, (∀ y0 y1 y2, LeO (redpenref18_has.l0 k y0 y1 y2) (redpenref18_has.l0 (k + 1) y0 y1 y2))
 | 0 => fun _ _ _ r h => by simp [redpenref18_has.l0] at h
 | k + 1 => by
  have ih0 := redpenref18_has.mono_l k
  ·intro y0 y1 y2
   unfold redpenref18_has.l0
   repeat' first
   | (with_reducible exact ih0 _ _ _)
   | (with_reducible exact LeO.refl _)
   | (with_reducible exact LeO.none _)
   | (with_reducible refine LeO.ite ?_ ?_)
   | (with_reducible refine LeO.bind ?_ (fun _ => ?_))
   | exact ih0 _ _ _
   | exact LeO.none _
   | refine LeO.ite ?_ ?_
   | refine LeO.bind ?_ (fun _ => ?_)
theorem redpenref18_has.mono : ∀ a0 a1 k, LeO (redpenref18_has.f k a0 a1) (redpenref18_has.f (k + 1) a0 a1) := by
 intro a0 a1 k
 have ih0 := redpenref18_has.mono_l k
 unfold redpenref18_has.f
 repeat' first
   | (with_reducible exact ih0 _ _ _)
   | (with_reducible exact LeO.refl _)
   | (with_reducible exact LeO.none _)
   | (with_reducible refine LeO.ite ?_ ?_)
   | (with_reducible refine LeO.bind ?_ (fun _ => ?_))
   | exact ih0 _ _ _
   | exact LeO.none _
   | refine LeO.ite ?_ ?_
   | refine LeO.bind ?_ (fun _ => ?_)
set_option maxHeartbeats 8000000 in
set_option maxRecDepth 100000 in
theorem redpenref18_has.calls (k : Nat) (a0 : ByteArray) (a1 : Int) (r : Bool) (w : World) (h : redpenref18_has.f k a0 a1 = some r) :
  Calls Tryd.prog 30 #[.string a0, .int .u8 a1] w fun e w' => e = .returned (.bool r) ∧ Drawn0 w w' := by
 have H : (redpenref18_has.l0 k a0 a1 0) = some r := h
 clear h
 have H' := Aside0.mk H
 clear H
 go_enter Tryd.func30, Tryd.ntmps30
 go_wp2
 go_loopg [5] k (fun kq v5 w' => ∃ (x5_1 : Int), v5 = .int .i64 x5_1 ∧ Aside0 (redpenref18_has.l0 kq a0 a1 x5_1 = some r) ∧ Aside0 (kq ≤ k) ∧ Drawn0 w w')
 case atStart => exact ⟨(0), (by first | rfl | (simp; done) | (simp [*]; done) | (simp [wrap64, wrap32]; done)), H', ⟨Nat.le_refl _⟩, by repeat (first | exact Drawn0.refl _ | apply Drawn0.step)⟩
 case round =>
  clear H'
  try clear p2
  obtain ⟨x5_1, rfl, HA, HK1, ⟨m1, rfl⟩⟩ := hrel
  cases gk with
  | zero => exact absurd HA.out (by simp [redpenref18_has.l0])
  | succ k1 =>
   have H := HA.out
   clear HA
   simp only [redpenref18_has.l0] at H
   by_cases c3 : x5_1 < (a0.size : Int)
   ·rw [if_pos c3] at H
    have c3b0 : decide (x5_1 < (a0.size : Int)) = true := decide_eq_true c3
    clear c3
    by_cases c4 : 0 ≤ x5_1
    ·rw [if_pos c4] at H
     have c4b0 : decide (0 ≤ x5_1) = true := decide_eq_true c4
     clear c4
     by_cases c6 : (bt a0 x5_1) = a1
     ·rw [if_pos c6] at H
      have c6b0 : ((bt a0 x5_1) == a1) = true := beq_iff_eq.mpr c6
      have c6b1 : ((bt a0 x5_1) != a1) = false := bne_eq_false_iff_eq.mpr c6
      clear c6
      obtain rfl := Option.some.inj H
      have p5 : 0 ≤ (x5_1 : Int) := of_decide_eq_true (by first | (with_reducible assumption) | assumption)
      have q5 : x5_1 < (a0.size : Int) := of_decide_eq_true (by first | (with_reducible assumption) | assumption)
      have hx5 := bt_at a0 x5_1
      replace p5 := eq_true p5
      replace q5 := eq_true q5
      go_wp2
      go_ret
      exact ⟨by first | rfl | (simp; done) | (simp [*]; done) | (simp [wrap64, wrap32]; done), by repeat (first | exact Drawn0.refl _ | apply Drawn0.step)⟩
     ·rw [if_neg c6] at H
      have c6b0 : ((bt a0 x5_1) == a1) = false := beq_eq_false_iff_ne.mpr c6
      have c6b1 : ((bt a0 x5_1) != a1) = true := bne_iff_ne.mpr c6
      have H' := Aside0.mk H
      clear H
      have p5 : 0 ≤ (x5_1 : Int) := of_decide_eq_true (by first | (with_reducible assumption) | assumption)
      have q5 : x5_1 < (a0.size : Int) := of_decide_eq_true (by first | (with_reducible assumption) | assumption)
      have hx5 := bt_at a0 x5_1
      replace p5 := eq_true p5
      replace q5 := eq_true q5
      go_wp2
      go_roundg k1
      case measure => have := HK1.out; omega
      case rel => exact ⟨(wrap64 (x5_1 + 1)), (by first | rfl | (simp; done) | (simp [*]; done) | (simp [wrap64, wrap32]; done)), H', ⟨by have := HK1.out; omega⟩, by repeat (first | exact Drawn0.refl _ | apply Drawn0.step)⟩
    ·rw [if_neg c4] at H
     exact absurd H (by simp)
   ·rw [if_neg c3] at H
    have c3b0 : decide (x5_1 < (a0.size : Int)) = false := decide_eq_false c3
    clear c3
    obtain rfl := Option.some.inj H
    go_wp2
    go_ret
    exact ⟨by first | rfl | (simp; done) | (simp [*]; done) | (simp [wrap64, wrap32]; done), by repeat (first | exact Drawn0.refl _ | apply Drawn0.step)⟩

/-! ### redpenref18_Name: function 14 -/
def redpenref18_Name.f (k : Nat) (a0 : ByteArray) : Option (Bool) := if (a0.size : Int) ≥ 1 then (if (a0.size : Int) ≤ 64 then ((redpenref18_has.f k a0 10).bind fun t123 => (if t123 = true then (some false) else ((redpenref18_has.f k a0 13).bind fun t124 => (some (!t124))))) else (some false)) else (some false)
theorem redpenref18_Name.mono : ∀ a0 k, LeO (redpenref18_Name.f k a0) (redpenref18_Name.f (k + 1) a0) := by
 intro a0 k
 unfold redpenref18_Name.f
 repeat' first
   | (with_reducible exact redpenref18_has.mono _ _ _)
   | (with_reducible exact LeO.refl _)
   | (with_reducible exact LeO.none _)
   | (with_reducible refine LeO.ite ?_ ?_)
   | (with_reducible refine LeO.bind ?_ (fun _ => ?_))
   | exact redpenref18_has.mono _ _ _
   | exact LeO.none _
   | refine LeO.ite ?_ ?_
   | refine LeO.bind ?_ (fun _ => ?_)
set_option maxHeartbeats 8000000 in
set_option maxRecDepth 100000 in
theorem redpenref18_Name.calls (k : Nat) (a0 : ByteArray) (r : Bool) (w : World) (h : redpenref18_Name.f k a0 = some r) :
  Calls Tryd.prog 14 #[.string a0] w fun e w' => e = .returned (.bool r) ∧ Drawn0 w w' := by
 have H : (if (a0.size : Int) ≥ 1 then (if (a0.size : Int) ≤ 64 then ((redpenref18_has.f k a0 10).bind fun t123 => (if t123 = true then (some false) else ((redpenref18_has.f k a0 13).bind fun t124 => (some (!t124))))) else (some false)) else (some false)) = some r := h
 clear h
 by_cases c2 : (a0.size : Int) ≥ 1
 ·rw [if_pos c2] at H
  have c2b0 : decide (1 ≤ (a0.size : Int)) = true := decide_eq_true c2
  have c2b1 : decide (1 ≤ a0.size) = true := decide_eq_true (by omega)
  clear c2
  by_cases c3 : (a0.size : Int) ≤ 64
  ·rw [if_pos c3] at H
   have c3b0 : decide ((a0.size : Int) ≤ 64) = true := decide_eq_true c3
   have c3b1 : decide (a0.size ≤ 64) = true := decide_eq_true (by omega)
   clear c3
   replace H := Option.bind_eq_some_iff.mp H
   obtain ⟨t123, A40, H⟩ := H
   replace H : (if t123 = true then (some false) else ((redpenref18_has.f k a0 13).bind fun t124 => (some (!t124)))) = some r := H
   have A4 := Aside0.mk A40
   clear A40
   by_cases c5 : t123 = true
   ·subst c5
    have H1 : (some false) = some r := by rw [if_pos rfl] at H; exact H
    clear H
    have H := H1
    clear H1
    obtain rfl := Option.some.inj H
    go_enter Tryd.func14, Tryd.ntmps14
    go_wp2_with (first | (go_at_call 30; (with_reducible refine (redpenref18_has.calls k a0 10 true _ A4.out).mono ?_); rintro e w' ⟨rfl, ⟨nd, rfl⟩⟩))
    go_ret
    exact ⟨by first | rfl | (simp; done) | (simp [*]; done) | (simp [wrap64, wrap32]; done), by repeat (first | exact Drawn0.refl _ | apply Drawn0.step)⟩
   ·replace c5 := Bool.eq_false_iff.mpr c5
    subst c5
    have H1 : ((redpenref18_has.f k a0 13).bind fun t124 => (some (!t124))) = some r := by rw [if_neg (show ¬ (false = true) by decide)] at H; exact H
    clear H
    have H := H1
    clear H1
    replace H := Option.bind_eq_some_iff.mp H
    obtain ⟨t124, A60, H⟩ := H
    replace H : (some (!t124)) = some r := H
    have A6 := Aside0.mk A60
    clear A60
    obtain rfl := Option.some.inj H
    go_enter Tryd.func14, Tryd.ntmps14
    go_wp2_with (first | (go_at_call 30; (with_reducible refine (redpenref18_has.calls k a0 10 false _ A4.out).mono ?_); rintro e w' ⟨rfl, ⟨nd, rfl⟩⟩) | (go_at_call 30; (with_reducible refine (redpenref18_has.calls k a0 13 t124 _ A6.out).mono ?_); rintro e w' ⟨rfl, ⟨nd, rfl⟩⟩))
    go_ret
    exact ⟨by first | rfl | (simp; done) | (simp [*]; done) | (simp [wrap64, wrap32]; done), by repeat (first | exact Drawn0.refl _ | apply Drawn0.step)⟩
  ·rw [if_neg c3] at H
   have c3b0 : decide ((a0.size : Int) ≤ 64) = false := decide_eq_false c3
   have c3b1 : decide (a0.size ≤ 64) = false := decide_eq_false (by omega)
   clear c3
   obtain rfl := Option.some.inj H
   go_enter Tryd.func14, Tryd.ntmps14
   go_wp2
   go_ret
   exact ⟨by first | rfl | (simp; done) | (simp [*]; done) | (simp [wrap64, wrap32]; done), by repeat (first | exact Drawn0.refl _ | apply Drawn0.step)⟩
 ·rw [if_neg c2] at H
  have c2b0 : decide (1 ≤ (a0.size : Int)) = false := decide_eq_false c2
  have c2b1 : decide (1 ≤ a0.size) = false := decide_eq_false (by omega)
  clear c2
  obtain rfl := Option.some.inj H
  go_enter Tryd.func14, Tryd.ntmps14
  go_wp2
  go_ret
  exact ⟨by first | rfl | (simp; done) | (simp [*]; done) | (simp [wrap64, wrap32]; done), by repeat (first | exact Drawn0.refl _ | apply Drawn0.step)⟩

end Go.Proofs.YtjabpbnlpljlkaaDoor.PShowPrints
