-- Laid by a program of ours (the kit's print with words and contracts of our own beside it).
import Derived.Test.YtjabpbnlpljlkaaDoorPShowPrintsx0
import Derived.Test.YtjabpbnlpljlkaaDoorPShowPrintsx1
import Derived.Test.YtjabpbnlpljlkaaDoorPShowPrintsx2
import Derived.Test.YtjabpbnlpljlkaaDoorPShowPrintsx5
import Derived.Test.YtjabpbnlpljlkaaDoorPShowPrintsx6
import Derived.Test.YtjabpbnlpljlkaaDoorPShowPrintsx7
namespace Go.Proofs.YtjabpbnlpljlkaaDoor.PShowPrints
open Go.RowKit Go.Proofs.YtjabpbnlpljlkaaDoor.X Go.Proofs.YtjabpbnlpljlkaaDoorW.PrintWords Go.Proofs.YtjabpbnlpljlkaaDoorW.PrintLast Go.Proofs.YtjabpbnlpljlkaaDoorW.PrintMore
attribute [local go_sem] max2_int min2_int max_two min_two max_three min_three max_four min_four   -- for this text's walks alone
set_option linter.unusedVariables false
set_option linter.unusedSimpArgs false

/-! ### redpenref18_Print: function 19 -/
mutual
def redpenref18_Print.l0 : Nat → List (S26) → ByteArray → Int → Option (ByteArray × Int)
 | 0, _, _, _ => none
 | k + 1, x1, x6, x7 => if x7 < (x1.length : Int) then (if 0 ≤ x7 then ((redpenref18_Check.f k ((rd_T26 x1 x7).f0) ((rd_T26 x1 x7).f1) ((rd_T26 x1 x7).f2) ((rd_T26 x1 x7).f3) ((rd_T26 x1 x7).f4)).bind fun t146 => (if t146 = 0 then ((redpenref18_Head.f k ((rd_T26 x1 x7).f0) ((rd_T26 x1 x7).f1) ((rd_T26 x1 x7).f2) ((rd_T26 x1 x7).f3) ((rd_T26 x1 x7).f4)).bind fun t148 => (if x6.size + t148.size ≤ 9223372036854775807 then (redpenref18_Print.l1 k x1 (x6 ++ t148) x7 0) else (none))) else (some ((⟨#[]⟩ : ByteArray), t146)))) else (none)) else (some (x6, 0))
def redpenref18_Print.l1 : Nat → List (S26) → ByteArray → Int → Int → Option (ByteArray × Int)
 | 0, _, _, _, _ => none
 | k + 1, x1, x6, x7, x9 => if 0 ≤ x7 then (if x7 < (x1.length : Int) then (if x9 < (((rd_T26 x1 x7).f4).length : Int) then (if 0 ≤ x9 then ((some (([(rd_T29 ((rd_T26 x1 x7).f4) x9).f0] : List Int) : List Int)).bind fun y153 => (if x6.size + (strOfNums y153).size ≤ 9223372036854775807 then (if (x6 ++ (strOfNums y153)).size + ((rd_T29 ((rd_T26 x1 x7).f4) x9).f1).size ≤ 9223372036854775807 then (if ((x6 ++ (strOfNums y153)) ++ ((rd_T29 ((rd_T26 x1 x7).f4) x9).f1)).size + 1 ≤ 9223372036854775807 then (if (rd_T29 ((rd_T26 x1 x7).f4) x9).f2 = true then (if (((x6 ++ (strOfNums y153)) ++ ((rd_T29 ((rd_T26 x1 x7).f4) x9).f1)) ++ (⟨#[10]⟩ : ByteArray)).size + 28 ≤ 9223372036854775807 then (redpenref18_Print.l1 k x1 ((((x6 ++ (strOfNums y153)) ++ ((rd_T29 ((rd_T26 x1 x7).f4) x9).f1)) ++ (⟨#[10]⟩ : ByteArray)) ++ (⟨#[92, 32, 78, 111, 32, 110, 101, 119, 108, 105, 110, 101, 32, 97, 116, 32, 101, 110, 100, 32, 111, 102, 32, 102, 105, 108, 101, 10]⟩ : ByteArray)) x7 (wrap64 (x9 + 1))) else (none)) else (redpenref18_Print.l1 k x1 (((x6 ++ (strOfNums y153)) ++ ((rd_T29 ((rd_T26 x1 x7).f4) x9).f1)) ++ (⟨#[10]⟩ : ByteArray)) x7 (wrap64 (x9 + 1)))) else (none)) else (none)) else (none))) else (none)) else (redpenref18_Print.l0 k x1 x6 (wrap64 (x7 + 1)))) else (none)) else (none)
end
def redpenref18_Print.f (k : Nat) (a0 : ByteArray) (l1 : List (S26)) : Option (ByteArray × Int) := (redpenref18_Name.f k a0).bind fun t144 => (if t144 = true then (if (l1.length : Int) = 0 then (some ((⟨#[]⟩ : ByteArray), 0)) else (if 6 + a0.size ≤ 9223372036854775807 then (if ((⟨#[45, 45, 45, 32, 97, 47]⟩ : ByteArray) ++ a0).size + 7 ≤ 9223372036854775807 then (if (((⟨#[45, 45, 45, 32, 97, 47]⟩ : ByteArray) ++ a0) ++ (⟨#[10, 43, 43, 43, 32, 98, 47]⟩ : ByteArray)).size + a0.size ≤ 9223372036854775807 then (if ((((⟨#[45, 45, 45, 32, 97, 47]⟩ : ByteArray) ++ a0) ++ (⟨#[10, 43, 43, 43, 32, 98, 47]⟩ : ByteArray)) ++ a0).size + 1 ≤ 9223372036854775807 then (redpenref18_Print.l0 k l1 (((((⟨#[45, 45, 45, 32, 97, 47]⟩ : ByteArray) ++ a0) ++ (⟨#[10, 43, 43, 43, 32, 98, 47]⟩ : ByteArray)) ++ a0) ++ (⟨#[10]⟩ : ByteArray)) 0) else (none)) else (none)) else (none)) else (none))) else (some ((⟨#[]⟩ : ByteArray), 10)))
theorem redpenref18_Print.mono_l : ∀ k, (∀ y0 y1 y2, LeO (redpenref18_Print.l0 k y0 y1 y2) (redpenref18_Print.l0 (k + 1) y0 y1 y2)) ∧ (∀ y0 y1 y2 y3, LeO (redpenref18_Print.l1 k y0 y1 y2 y3) (redpenref18_Print.l1 (k + 1) y0 y1 y2 y3))
 | 0 => ⟨fun _ _ _ r h => by simp [redpenref18_Print.l0] at h, fun _ _ _ _ r h => by simp [redpenref18_Print.l1] at h⟩
 | k + 1 => by
  obtain ⟨ih0, ih1⟩ := redpenref18_Print.mono_l k
  refine ⟨?_, ?_⟩
  ·intro y0 y1 y2
   unfold redpenref18_Print.l0
   repeat' first
   | (with_reducible exact ih0 _ _ _)
   | (with_reducible exact ih1 _ _ _ _)
   | (with_reducible exact redpenref18_Check.mono _ _ _ _ _ _)
   | (with_reducible exact redpenref18_Head.mono _ _ _ _ _ _)
   | (with_reducible exact redpenref18_Name.mono _ _)
   | (with_reducible exact LeO.refl _)
   | (with_reducible exact LeO.none _)
   | (with_reducible refine LeO.ite ?_ ?_)
   | (with_reducible refine LeO.bind ?_ (fun _ => ?_))
   | exact ih0 _ _ _
   | exact ih1 _ _ _ _
   | exact redpenref18_Check.mono _ _ _ _ _ _
   | exact redpenref18_Head.mono _ _ _ _ _ _
   | exact redpenref18_Name.mono _ _
   | exact LeO.none _
   | refine LeO.ite ?_ ?_
   | refine LeO.bind ?_ (fun _ => ?_)
  ·intro y0 y1 y2 y3
   unfold redpenref18_Print.l1
   repeat' first
   | (with_reducible exact ih0 _ _ _)
   | (with_reducible exact ih1 _ _ _ _)
   | (with_reducible exact redpenref18_Check.mono _ _ _ _ _ _)
   | (with_reducible exact redpenref18_Head.mono _ _ _ _ _ _)
   | (with_reducible exact redpenref18_Name.mono _ _)
   | (with_reducible exact LeO.refl _)
   | (with_reducible exact LeO.none _)
   | (with_reducible refine LeO.ite ?_ ?_)
   | (with_reducible refine LeO.bind ?_ (fun _ => ?_))
   | exact ih0 _ _ _
   | exact ih1 _ _ _ _
   | exact redpenref18_Check.mono _ _ _ _ _ _
   | exact redpenref18_Head.mono _ _ _ _ _ _
   | exact redpenref18_Name.mono _ _
   | exact LeO.none _
   | refine LeO.ite ?_ ?_
   | refine LeO.bind ?_ (fun _ => ?_)
theorem redpenref18_Print.mono : ∀ a0 a1 k, LeO (redpenref18_Print.f k a0 a1) (redpenref18_Print.f (k + 1) a0 a1) := by
 intro a0 a1 k
 obtain ⟨ih0, ih1⟩ := redpenref18_Print.mono_l k
 unfold redpenref18_Print.f
 repeat' first
   | (with_reducible exact ih0 _ _ _)
   | (with_reducible exact ih1 _ _ _ _)
   | (with_reducible exact redpenref18_Check.mono _ _ _ _ _ _)
   | (with_reducible exact redpenref18_Head.mono _ _ _ _ _ _)
   | (with_reducible exact redpenref18_Name.mono _ _)
   | (with_reducible exact LeO.refl _)
   | (with_reducible exact LeO.none _)
   | (with_reducible refine LeO.ite ?_ ?_)
   | (with_reducible refine LeO.bind ?_ (fun _ => ?_))
   | exact ih0 _ _ _
   | exact ih1 _ _ _ _
   | exact redpenref18_Check.mono _ _ _ _ _ _
   | exact redpenref18_Head.mono _ _ _ _ _ _
   | exact redpenref18_Name.mono _ _
   | exact LeO.none _
   | refine LeO.ite ?_ ?_
   | refine LeO.bind ?_ (fun _ => ?_)
set_option maxHeartbeats 8000000 in
set_option maxRecDepth 100000 in
theorem redpenref18_Print.calls (k : Nat) (a0 : ByteArray) (A1 : Option Addr) (c1 : Nat) (l1 : List (S26)) (r1 : ByteArray) (r2 : Int) (w : World) (hr1 : Kd.C k26 w A1 l1.length l1) (hc1 : l1.length ≤ c1) (h : redpenref18_Print.f k a0 l1 = some (r1, r2)) :
  Calls Tryd.prog 19 #[.string a0, .slice A1 l1.length c1] w fun e w' => e = .returned (.tuple #[.string r1, .int .i64 r2]) ∧ Below w.heap.size w w' := by
 have hu26 := Tryd.underlying26
 have hu29 := Tryd.underlying29
 have HR1 := Aside0.mk hr1
 have HC1 := Aside0.mk hc1
 clear hr1 hc1
 have HB := Aside0.mk (Below.refl w.heap.size w)
 have H : ((redpenref18_Name.f k a0).bind fun t144 => (if t144 = true then (if (l1.length : Int) = 0 then (some ((⟨#[]⟩ : ByteArray), 0)) else (if 6 + a0.size ≤ 9223372036854775807 then (if ((⟨#[45, 45, 45, 32, 97, 47]⟩ : ByteArray) ++ a0).size + 7 ≤ 9223372036854775807 then (if (((⟨#[45, 45, 45, 32, 97, 47]⟩ : ByteArray) ++ a0) ++ (⟨#[10, 43, 43, 43, 32, 98, 47]⟩ : ByteArray)).size + a0.size ≤ 9223372036854775807 then (if ((((⟨#[45, 45, 45, 32, 97, 47]⟩ : ByteArray) ++ a0) ++ (⟨#[10, 43, 43, 43, 32, 98, 47]⟩ : ByteArray)) ++ a0).size + 1 ≤ 9223372036854775807 then (redpenref18_Print.l0 k l1 (((((⟨#[45, 45, 45, 32, 97, 47]⟩ : ByteArray) ++ a0) ++ (⟨#[10, 43, 43, 43, 32, 98, 47]⟩ : ByteArray)) ++ a0) ++ (⟨#[10]⟩ : ByteArray)) 0) else (none)) else (none)) else (none)) else (none))) else (some ((⟨#[]⟩ : ByteArray), 10)))) = some (r1, r2) := h
 clear h
 replace H := Option.bind_eq_some_iff.mp H
 obtain ⟨t144, A30, H⟩ := H
 replace H : (if t144 = true then (if (l1.length : Int) = 0 then (some ((⟨#[]⟩ : ByteArray), 0)) else (if 6 + a0.size ≤ 9223372036854775807 then (if ((⟨#[45, 45, 45, 32, 97, 47]⟩ : ByteArray) ++ a0).size + 7 ≤ 9223372036854775807 then (if (((⟨#[45, 45, 45, 32, 97, 47]⟩ : ByteArray) ++ a0) ++ (⟨#[10, 43, 43, 43, 32, 98, 47]⟩ : ByteArray)).size + a0.size ≤ 9223372036854775807 then (if ((((⟨#[45, 45, 45, 32, 97, 47]⟩ : ByteArray) ++ a0) ++ (⟨#[10, 43, 43, 43, 32, 98, 47]⟩ : ByteArray)) ++ a0).size + 1 ≤ 9223372036854775807 then (redpenref18_Print.l0 k l1 (((((⟨#[45, 45, 45, 32, 97, 47]⟩ : ByteArray) ++ a0) ++ (⟨#[10, 43, 43, 43, 32, 98, 47]⟩ : ByteArray)) ++ a0) ++ (⟨#[10]⟩ : ByteArray)) 0) else (none)) else (none)) else (none)) else (none))) else (some ((⟨#[]⟩ : ByteArray), 10))) = some (r1, r2) := H
 have A3 := Aside0.mk A30
 clear A30
 by_cases c4 : t144 = true
 ·subst c4
  have H1 : (if (l1.length : Int) = 0 then (some ((⟨#[]⟩ : ByteArray), 0)) else (if 6 + a0.size ≤ 9223372036854775807 then (if ((⟨#[45, 45, 45, 32, 97, 47]⟩ : ByteArray) ++ a0).size + 7 ≤ 9223372036854775807 then (if (((⟨#[45, 45, 45, 32, 97, 47]⟩ : ByteArray) ++ a0) ++ (⟨#[10, 43, 43, 43, 32, 98, 47]⟩ : ByteArray)).size + a0.size ≤ 9223372036854775807 then (if ((((⟨#[45, 45, 45, 32, 97, 47]⟩ : ByteArray) ++ a0) ++ (⟨#[10, 43, 43, 43, 32, 98, 47]⟩ : ByteArray)) ++ a0).size + 1 ≤ 9223372036854775807 then (redpenref18_Print.l0 k l1 (((((⟨#[45, 45, 45, 32, 97, 47]⟩ : ByteArray) ++ a0) ++ (⟨#[10, 43, 43, 43, 32, 98, 47]⟩ : ByteArray)) ++ a0) ++ (⟨#[10]⟩ : ByteArray)) 0) else (none)) else (none)) else (none)) else (none))) = some (r1, r2) := by rw [if_pos rfl] at H; exact H
  clear H
  have H := H1
  clear H1
  by_cases c5 : (l1.length : Int) = 0
  ·rw [if_pos c5] at H
   have c5b0 : ((l1.length : Int) == 0) = true := beq_iff_eq.mpr c5
   have c5b1 : ((l1.length : Int) != 0) = false := bne_eq_false_iff_eq.mpr c5
   clear c5
   simp only [Option.some.injEq, Prod.mk.injEq] at H
   obtain ⟨rfl, rfl⟩ := H
   go_enter Tryd.func19, Tryd.ntmps19
   go_wp2_with (first | ((with_reducible refine gate_callee (f := 14) rfl ?_); refine goesL_ (some 12) rfl rfl Tryd.func14 (by kernel_rfl) rfl #[.string a0] rfl (by (try simp only [List.map_toArray, List.map_cons, List.map_nil]); first | done | rfl | (simp only [List.length_drop, List.length_take]; rfl)) ?_; (with_reducible refine (redpenref18_Name.calls k a0 true _ A3.out).mono ?_); rintro e w' ⟨rfl, ⟨nd, rfl⟩⟩; refine ⟨_, rfl, ?_⟩))
   go_ret2
   exact ⟨by first | rfl | (simp [errW_none, errW_some] <;> rfl) | (simp [*, errW_none, errW_some] <;> rfl), by repeat (first | (with_reducible first | exact HB.out | apply below_alloc | apply pw_below_drewN | apply below_drew1) | exact HB.out)⟩
  ·rw [if_neg c5] at H
   have c5b0 : ((l1.length : Int) == 0) = false := beq_eq_false_iff_ne.mpr c5
   have c5b1 : ((l1.length : Int) != 0) = true := bne_iff_ne.mpr c5
   have c5b2 : ¬ (l1 = []) := fun h_ => c5 (by rw [h_]; rfl)
   by_cases c6 : 6 + a0.size ≤ 9223372036854775807
   ·rw [if_pos c6] at H
    have c6b0 := eq_true c6
    have c6b1 : decide (6 + a0.size ≤ 9223372036854775807) = true := decide_eq_true c6
    try have c6b2 : (9223372036854775807 < 6 + a0.size) = False := eq_false (Nat.not_lt.2 c6)
    by_cases c7 : ((⟨#[45, 45, 45, 32, 97, 47]⟩ : ByteArray) ++ a0).size + 7 ≤ 9223372036854775807
    ·rw [if_pos c7] at H
     have c7b0 := eq_true c7
     have c7b1 : decide (((⟨#[45, 45, 45, 32, 97, 47]⟩ : ByteArray) ++ a0).size + 7 ≤ 9223372036854775807) = true := decide_eq_true c7
     try have c7b2 : (9223372036854775807 < ((⟨#[45, 45, 45, 32, 97, 47]⟩ : ByteArray) ++ a0).size + 7) = False := eq_false (Nat.not_lt.2 c7)
     try (have c7b4 := c7b2; simp only [ByteArray.size_append, show (⟨#[45, 45, 45, 32, 97, 47]⟩ : ByteArray).size = 6 from rfl] at c7b4)
     by_cases c8 : (((⟨#[45, 45, 45, 32, 97, 47]⟩ : ByteArray) ++ a0) ++ (⟨#[10, 43, 43, 43, 32, 98, 47]⟩ : ByteArray)).size + a0.size ≤ 9223372036854775807
     ·rw [if_pos c8] at H
      have c8b0 := eq_true c8
      have c8b1 : decide ((((⟨#[45, 45, 45, 32, 97, 47]⟩ : ByteArray) ++ a0) ++ (⟨#[10, 43, 43, 43, 32, 98, 47]⟩ : ByteArray)).size + a0.size ≤ 9223372036854775807) = true := decide_eq_true c8
      try have c8b2 : (9223372036854775807 < (((⟨#[45, 45, 45, 32, 97, 47]⟩ : ByteArray) ++ a0) ++ (⟨#[10, 43, 43, 43, 32, 98, 47]⟩ : ByteArray)).size + a0.size) = False := eq_false (Nat.not_lt.2 c8)
      try (have c8b4 := c8b2; simp only [ByteArray.size_append, show (⟨#[10, 43, 43, 43, 32, 98, 47]⟩ : ByteArray).size = 7 from rfl, show (⟨#[45, 45, 45, 32, 97, 47]⟩ : ByteArray).size = 6 from rfl] at c8b4)
      by_cases c9 : ((((⟨#[45, 45, 45, 32, 97, 47]⟩ : ByteArray) ++ a0) ++ (⟨#[10, 43, 43, 43, 32, 98, 47]⟩ : ByteArray)) ++ a0).size + 1 ≤ 9223372036854775807
      ·rw [if_pos c9] at H
       have c9b0 := eq_true c9
       have c9b1 : decide (((((⟨#[45, 45, 45, 32, 97, 47]⟩ : ByteArray) ++ a0) ++ (⟨#[10, 43, 43, 43, 32, 98, 47]⟩ : ByteArray)) ++ a0).size + 1 ≤ 9223372036854775807) = true := decide_eq_true c9
       try have c9b2 : (9223372036854775807 < ((((⟨#[45, 45, 45, 32, 97, 47]⟩ : ByteArray) ++ a0) ++ (⟨#[10, 43, 43, 43, 32, 98, 47]⟩ : ByteArray)) ++ a0).size + 1) = False := eq_false (Nat.not_lt.2 c9)
       try (have c9b4 := c9b2; simp only [ByteArray.size_append, show (⟨#[10, 43, 43, 43, 32, 98, 47]⟩ : ByteArray).size = 7 from rfl, show (⟨#[45, 45, 45, 32, 97, 47]⟩ : ByteArray).size = 6 from rfl] at c9b4)
       have H' := Aside0.mk H
       clear H
       go_enter Tryd.func19, Tryd.ntmps19
       go_wp2_with (first | ((with_reducible refine gate_callee (f := 14) rfl ?_); refine goesL_ (some 12) rfl rfl Tryd.func14 (by kernel_rfl) rfl #[.string a0] rfl (by (try simp only [List.map_toArray, List.map_cons, List.map_nil]); first | done | rfl | (simp only [List.length_drop, List.length_take]; rfl)) ?_; (with_reducible refine (redpenref18_Name.calls k a0 true _ A3.out).mono ?_); rintro e w' ⟨rfl, ⟨nd, rfl⟩⟩; refine ⟨_, rfl, ?_⟩))
       go_loopg [6, 7] k (fun kq v6 v7 w' => ∃ (x6_1 : ByteArray) (x7_1 : Int), v6 = .string x6_1 ∧ v7 = .int .i64 x7_1 ∧ Aside0 (redpenref18_Print.l0 kq l1 x6_1 x7_1 = some (r1, r2)) ∧ Aside0 (kq ≤ k) ∧ Aside0 (Below w.heap.size w w'))
       case atStart => exact ⟨(((((⟨#[45, 45, 45, 32, 97, 47]⟩ : ByteArray) ++ a0) ++ (⟨#[10, 43, 43, 43, 32, 98, 47]⟩ : ByteArray)) ++ a0) ++ (⟨#[10]⟩ : ByteArray)), (0), (by first | rfl | (simp; done) | (simp [*]; done) | (simp [wrap64, wrap32]; done)), (by first | rfl | (simp; done) | (simp [*]; done) | (simp [wrap64, wrap32]; done)), H', ⟨Nat.le_refl _⟩, ⟨by repeat (first | (with_reducible first | exact HB.out | apply below_alloc | apply pw_below_drewN | apply below_drew1) | exact HB.out)⟩⟩
       case round =>
        clear H'
        try clear c1
        try clear p2
        try clear c4
        try clear c5
        try clear c5b0
        try clear c5b1
        try clear c5b2
        try clear c6
        try clear c6b0
        try clear c6b1
        try clear c6b2
        try clear c7
        try clear c7b0
        try clear c7b1
        try clear c7b2
        try clear c8
        try clear c8b0
        try clear c8b1
        try clear c8b2
        try clear c9
        try clear c9b0
        try clear c9b1
        try clear c9b2
        obtain ⟨x6_1, x7_1, rfl, rfl, HA, HK1, HB⟩ := hrel
        cases gk with
        | zero => exact absurd HA.out (by simp [redpenref18_Print.l0])
        | succ k1 =>
         have H := HA.out
         clear HA
         simp only [redpenref18_Print.l0] at H
         by_cases c10 : x7_1 < (l1.length : Int)
         ·rw [if_pos c10] at H
          have c10b0 : decide (x7_1 < (l1.length : Int)) = true := decide_eq_true c10
          clear c10
          by_cases c11 : 0 ≤ x7_1
          ·rw [if_pos c11] at H
           have c11b0 : decide (0 ≤ x7_1) = true := decide_eq_true c11
           clear c11
           replace H := Option.bind_eq_some_iff.mp H
           obtain ⟨t146, A120, H⟩ := H
           replace H : (if t146 = 0 then ((redpenref18_Head.f k1 ((rd_T26 l1 x7_1).f0) ((rd_T26 l1 x7_1).f1) ((rd_T26 l1 x7_1).f2) ((rd_T26 l1 x7_1).f3) ((rd_T26 l1 x7_1).f4)).bind fun t148 => (if x6_1.size + t148.size ≤ 9223372036854775807 then (redpenref18_Print.l1 k1 l1 (x6_1 ++ t148) x7_1 0) else (none))) else (some ((⟨#[]⟩ : ByteArray), t146))) = some (r1, r2) := H
           have A12 := Aside0.mk A120
           clear A120
           by_cases c13 : t146 = 0
           ·rw [if_pos c13] at H
            have c13b0 : (t146 == 0) = true := beq_iff_eq.mpr c13
            have c13b1 : (t146 != 0) = false := bne_eq_false_iff_eq.mpr c13
            clear c13
            replace H := Option.bind_eq_some_iff.mp H
            obtain ⟨t148, A140, H⟩ := H
            replace H : (if x6_1.size + t148.size ≤ 9223372036854775807 then (redpenref18_Print.l1 k1 l1 (x6_1 ++ t148) x7_1 0) else (none)) = some (r1, r2) := H
            have A14 := Aside0.mk A140
            clear A140
            by_cases c15 : x6_1.size + t148.size ≤ 9223372036854775807
            ·rw [if_pos c15] at H
             have c15b0 := eq_true c15
             have c15b1 : decide (x6_1.size + t148.size ≤ 9223372036854775807) = true := decide_eq_true c15
             try have c15b2 : (9223372036854775807 < x6_1.size + t148.size) = False := eq_false (Nat.not_lt.2 c15)
             have H' := Aside0.mk H
             clear H
             have p145 : 0 ≤ (x7_1 : Int) := of_decide_eq_true (by first | (with_reducible assumption) | assumption)
             have q145 : x7_1 < (l1.length : Int) := of_decide_eq_true (by first | (with_reducible assumption) | assumption)
             obtain ⟨ad145, A145_4, c145_4, e145, hx145_0, hx145_1, hx145_2, hx145_3, hx145_4, hl145_4, hi145_4⟩ := at_T26 HR1.out x7_1 p145 q145
             cases e145
             replace hx145_0 := (HB.out.cell (World.block_lt_of_cell? w _ hx145_0)).trans hx145_0
             replace hx145_1 := (HB.out.cell (World.block_lt_of_cell? w _ hx145_1)).trans hx145_1
             replace hx145_2 := (HB.out.cell (World.block_lt_of_cell? w _ hx145_2)).trans hx145_2
             replace hx145_3 := (HB.out.cell (World.block_lt_of_cell? w _ hx145_3)).trans hx145_3
             replace hx145_4 := (HB.out.cell (World.block_lt_of_cell? w _ hx145_4)).trans hx145_4
             have HR145_4 := Aside0.mk hi145_4
             have HC145_4 := Aside0.mk hl145_4
             clear hi145_4 hl145_4
             replace p145 := eq_true p145
             replace q145 := eq_true q145
             go_wp2_with (first | ((with_reducible refine gate_callee (f := 17) rfl ?_); refine goesL_ (some 33) rfl rfl Tryd.func17 (by kernel_rfl) rfl #[.agg #[.int .i64 ((rd_T26 l1 x7_1).f0), .int .i64 ((rd_T26 l1 x7_1).f1), .int .i64 ((rd_T26 l1 x7_1).f2), .int .i64 ((rd_T26 l1 x7_1).f3), .slice A145_4 ((rd_T26 l1 x7_1).f4).length c145_4]] rfl (by (try simp only [List.map_toArray, List.map_cons, List.map_nil]); first | done | rfl | (simp only [List.length_drop, List.length_take]; rfl)) ?_; (with_reducible refine (redpenref18_Check.calls k1 ((rd_T26 l1 x7_1).f0) ((rd_T26 l1 x7_1).f1) ((rd_T26 l1 x7_1).f2) ((rd_T26 l1 x7_1).f3) _ _ ((rd_T26 l1 x7_1).f4) t146 _ ?side1 ?side2 A12.out).mono ?_); (case side1 => repeat (first | exact (Kd.C_below HR145_4.out HB.out) | (with_reducible refine Kd.C_alloc ?_ _) | (with_reducible refine Kd.C_drewN ?_ _) | (with_reducible refine Kd.C_drew ?_))); (case side2 => exact HC145_4.out); rintro e w16 ⟨rfl, hb⟩; refine ⟨_, rfl, ?_⟩; have n0_ := Aside0.mk (below_step (by repeat (first | (with_reducible first | exact HB.out | apply below_alloc | apply pw_below_drewN | apply below_drew1) | exact HB.out)) hb); clear HB; have HB := n0_; clear n0_; (try clear hb); (try clear hb2); (try clear hk); (try clear hi); have p147 : 0 ≤ (x7_1 : Int) := of_decide_eq_true (by first | (with_reducible assumption) | assumption); have q147 : x7_1 < (l1.length : Int) := of_decide_eq_true (by first | (with_reducible assumption) | assumption); obtain ⟨ad147, A147_4, c147_4, e147, hx147_0, hx147_1, hx147_2, hx147_3, hx147_4, hl147_4, hi147_4⟩ := at_T26 HR1.out x7_1 p147 q147; obtain rfl : ad145 = ad147 := (by injection e147); replace hx147_0 := (HB.out.cell (World.block_lt_of_cell? w _ hx147_0)).trans hx147_0; replace hx147_1 := (HB.out.cell (World.block_lt_of_cell? w _ hx147_1)).trans hx147_1; replace hx147_2 := (HB.out.cell (World.block_lt_of_cell? w _ hx147_2)).trans hx147_2; replace hx147_3 := (HB.out.cell (World.block_lt_of_cell? w _ hx147_3)).trans hx147_3; replace hx147_4 := (HB.out.cell (World.block_lt_of_cell? w _ hx147_4)).trans hx147_4; have HR147_4 := Aside0.mk hi147_4; have HC147_4 := Aside0.mk hl147_4; clear hi147_4 hl147_4; replace p147 := eq_true p147; replace q147 := eq_true q147) | ((with_reducible refine gate_callee (f := 35) rfl ?_); refine goesL_ (some 42) rfl rfl Tryd.func35 (by kernel_rfl) rfl #[.agg #[.int .i64 ((rd_T26 l1 x7_1).f0), .int .i64 ((rd_T26 l1 x7_1).f1), .int .i64 ((rd_T26 l1 x7_1).f2), .int .i64 ((rd_T26 l1 x7_1).f3), .slice A147_4 ((rd_T26 l1 x7_1).f4).length c147_4]] rfl (by (try simp only [List.map_toArray, List.map_cons, List.map_nil]); first | done | rfl | (simp only [List.length_drop, List.length_take]; rfl)) ?_; (with_reducible refine (redpenref18_Head.calls k1 ((rd_T26 l1 x7_1).f0) ((rd_T26 l1 x7_1).f1) ((rd_T26 l1 x7_1).f2) ((rd_T26 l1 x7_1).f3) _ _ ((rd_T26 l1 x7_1).f4) t148 _ ?side1 ?side2 A14.out).mono ?_); (case side1 => repeat (first | exact (Kd.C_below HR147_4.out HB.out) | (with_reducible refine Kd.C_alloc ?_ _) | (with_reducible refine Kd.C_drewN ?_ _) | (with_reducible refine Kd.C_drew ?_))); (case side2 => exact HC147_4.out); rintro e w17 ⟨rfl, hb⟩; refine ⟨_, rfl, ?_⟩; have n0_ := Aside0.mk (below_step (by repeat (first | (with_reducible first | exact HB.out | apply below_alloc | apply pw_below_drewN | apply below_drew1) | exact HB.out)) hb); clear HB; have HB := n0_; clear n0_; (try clear hb); (try clear hb2); (try clear hk); (try clear hi)))
             go_loopg [6, 9] k1 (fun kq v6 v9 w' => ∃ (x6_2 : ByteArray) (x9_2 : Int), v6 = .string x6_2 ∧ v9 = .int .i64 x9_2 ∧ Aside0 (redpenref18_Print.l1 kq l1 x6_2 x7_1 x9_2 = some (r1, r2)) ∧ Aside0 (kq ≤ k1) ∧ Aside0 (Below w.heap.size w w'))
             case atStart => exact ⟨(x6_1 ++ t148), (0), (by first | rfl | (simp; done) | (simp [*]; done) | (simp [wrap64, wrap32]; done)), (by first | rfl | (simp; done) | (simp [*]; done) | (simp [wrap64, wrap32]; done)), H', ⟨Nat.le_refl _⟩, ⟨by repeat (first | (with_reducible first | exact HB.out | apply below_alloc | apply pw_below_drewN | apply below_drew1) | exact HB.out)⟩⟩
             case round =>
              clear H'
              try clear c1
              try clear p1
              try clear q1
              try clear hx1
              try clear p2
              try clear c3
              try clear c4
              try clear c5
              try clear c5b0
              try clear c5b1
              try clear c5b2
              try clear c6
              try clear c6b0
              try clear c6b1
              try clear c6b2
              try clear c7
              try clear c7b0
              try clear c7b1
              try clear c7b2
              try clear c8
              try clear c8b0
              try clear c8b1
              try clear c8b2
              try clear c9
              try clear c9b0
              try clear c9b1
              try clear c9b2
              try clear c10
              try clear c10b0
              try clear c11
              try clear c11b0
              try clear c13
              try clear c13b0
              try clear c13b1
              try clear c14
              try clear p14
              try clear q14
              try clear hx14
              try clear c15
              try clear c15b0
              try clear c15b1
              try clear c15b2
              try clear c17
              try clear hx145_0
              try clear hx145_1
              try clear hx145_2
              try clear hx145_3
              try clear hx145_4
              try clear hx147_0
              try clear hx147_1
              try clear hx147_2
              try clear hx147_3
              try clear hx147_4
              try clear p145
              try clear p147
              try clear p2
              try clear q145
              try clear q147
              obtain ⟨x6_2, x9_2, rfl, rfl, HA, HK2, HB⟩ := hrel
              cases gk with
              | zero => exact absurd HA.out (by simp [redpenref18_Print.l1])
              | succ k2 =>
               have H := HA.out
               clear HA
               simp only [redpenref18_Print.l1] at H
               by_cases c18 : 0 ≤ x7_1
               ·rw [if_pos c18] at H
                have c18b0 : decide (0 ≤ x7_1) = true := decide_eq_true c18
                clear c18
                by_cases c19 : x7_1 < (l1.length : Int)
                ·rw [if_pos c19] at H
                 have c19b0 : decide (x7_1 < (l1.length : Int)) = true := decide_eq_true c19
                 clear c19
                 by_cases c20 : x9_2 < (((rd_T26 l1 x7_1).f4).length : Int)
                 ·rw [if_pos c20] at H
                  have c20b0 : decide (x9_2 < (((rd_T26 l1 x7_1).f4).length : Int)) = true := decide_eq_true c20
                  clear c20
                  by_cases c21 : 0 ≤ x9_2
                  ·rw [if_pos c21] at H
                   have c21b0 : decide (0 ≤ x9_2) = true := decide_eq_true c21
                   clear c21
                   obtain ⟨y153, hy153⟩ : ∃ y_ : List Int, y_ = (([(rd_T29 ((rd_T26 l1 x7_1).f4) x9_2).f0] : List Int)) := ⟨_, rfl⟩
                   replace H : (if x6_2.size + (strOfNums y153).size ≤ 9223372036854775807 then (if (x6_2 ++ (strOfNums y153)).size + ((rd_T29 ((rd_T26 l1 x7_1).f4) x9_2).f1).size ≤ 9223372036854775807 then (if ((x6_2 ++ (strOfNums y153)) ++ ((rd_T29 ((rd_T26 l1 x7_1).f4) x9_2).f1)).size + 1 ≤ 9223372036854775807 then (if (rd_T29 ((rd_T26 l1 x7_1).f4) x9_2).f2 = true then (if (((x6_2 ++ (strOfNums y153)) ++ ((rd_T29 ((rd_T26 l1 x7_1).f4) x9_2).f1)) ++ (⟨#[10]⟩ : ByteArray)).size + 28 ≤ 9223372036854775807 then (redpenref18_Print.l1 k2 l1 ((((x6_2 ++ (strOfNums y153)) ++ ((rd_T29 ((rd_T26 l1 x7_1).f4) x9_2).f1)) ++ (⟨#[10]⟩ : ByteArray)) ++ (⟨#[92, 32, 78, 111, 32, 110, 101, 119, 108, 105, 110, 101, 32, 97, 116, 32, 101, 110, 100, 32, 111, 102, 32, 102, 105, 108, 101, 10]⟩ : ByteArray)) x7_1 (wrap64 (x9_2 + 1))) else (none)) else (redpenref18_Print.l1 k2 l1 (((x6_2 ++ (strOfNums y153)) ++ ((rd_T29 ((rd_T26 l1 x7_1).f4) x9_2).f1)) ++ (⟨#[10]⟩ : ByteArray)) x7_1 (wrap64 (x9_2 + 1)))) else (none)) else (none)) else (none)) = some (r1, r2) := by first | (rw [hy153]; with_reducible exact H) | (have H2_ := (Option.bind_some _ _).symm.trans H; rw [hy153]; with_reducible exact H2_) | (have H2_ := (Option.bind_some _ _).symm.trans H; with_reducible exact H2_) | with_reducible exact H | (rw [hy153]; exact H) | exact H
                   have Ny153 := Aside0.mk hy153
                   clear hy153
                   by_cases c22 : x6_2.size + (strOfNums y153).size ≤ 9223372036854775807
                   ·rw [if_pos c22] at H
                    have c22b0 := eq_true c22
                    have c22b1 : decide (x6_2.size + (strOfNums y153).size ≤ 9223372036854775807) = true := decide_eq_true c22
                    try have c22b2 : (9223372036854775807 < x6_2.size + (strOfNums y153).size) = False := eq_false (Nat.not_lt.2 c22)
                    by_cases c23 : (x6_2 ++ (strOfNums y153)).size + ((rd_T29 ((rd_T26 l1 x7_1).f4) x9_2).f1).size ≤ 9223372036854775807
                    ·rw [if_pos c23] at H
                     have c23b0 := eq_true c23
                     have c23b1 : decide ((x6_2 ++ (strOfNums y153)).size + ((rd_T29 ((rd_T26 l1 x7_1).f4) x9_2).f1).size ≤ 9223372036854775807) = true := decide_eq_true c23
                     try have c23b2 : (9223372036854775807 < (x6_2 ++ (strOfNums y153)).size + ((rd_T29 ((rd_T26 l1 x7_1).f4) x9_2).f1).size) = False := eq_false (Nat.not_lt.2 c23)
                     try (have c23b4 := c23b2; simp only [ByteArray.size_append] at c23b4)
                     by_cases c24 : ((x6_2 ++ (strOfNums y153)) ++ ((rd_T29 ((rd_T26 l1 x7_1).f4) x9_2).f1)).size + 1 ≤ 9223372036854775807
                     ·rw [if_pos c24] at H
                      have c24b0 := eq_true c24
                      have c24b1 : decide (((x6_2 ++ (strOfNums y153)) ++ ((rd_T29 ((rd_T26 l1 x7_1).f4) x9_2).f1)).size + 1 ≤ 9223372036854775807) = true := decide_eq_true c24
                      try have c24b2 : (9223372036854775807 < ((x6_2 ++ (strOfNums y153)) ++ ((rd_T29 ((rd_T26 l1 x7_1).f4) x9_2).f1)).size + 1) = False := eq_false (Nat.not_lt.2 c24)
                      try (have c24b4 := c24b2; simp only [ByteArray.size_append] at c24b4)
                      obtain ⟨bq25, hbq25⟩ : ∃ b_ : Bool, b_ = ((rd_T29 ((rd_T26 l1 x7_1).f4) x9_2).f2) := ⟨_, rfl⟩
                      replace H : (if bq25 = true then (if (((x6_2 ++ (strOfNums y153)) ++ ((rd_T29 ((rd_T26 l1 x7_1).f4) x9_2).f1)) ++ (⟨#[10]⟩ : ByteArray)).size + 28 ≤ 9223372036854775807 then (redpenref18_Print.l1 k2 l1 ((((x6_2 ++ (strOfNums y153)) ++ ((rd_T29 ((rd_T26 l1 x7_1).f4) x9_2).f1)) ++ (⟨#[10]⟩ : ByteArray)) ++ (⟨#[92, 32, 78, 111, 32, 110, 101, 119, 108, 105, 110, 101, 32, 97, 116, 32, 101, 110, 100, 32, 111, 102, 32, 102, 105, 108, 101, 10]⟩ : ByteArray)) x7_1 (wrap64 (x9_2 + 1))) else (none)) else (redpenref18_Print.l1 k2 l1 (((x6_2 ++ (strOfNums y153)) ++ ((rd_T29 ((rd_T26 l1 x7_1).f4) x9_2).f1)) ++ (⟨#[10]⟩ : ByteArray)) x7_1 (wrap64 (x9_2 + 1)))) = some (r1, r2) := by rw [← hbq25] at H; exact H
                      have Nbq25 := Aside0.mk hbq25
                      clear hbq25
                      by_cases c26 : bq25 = true
                      ·subst c26
                       have H1 : (if (((x6_2 ++ (strOfNums y153)) ++ ((rd_T29 ((rd_T26 l1 x7_1).f4) x9_2).f1)) ++ (⟨#[10]⟩ : ByteArray)).size + 28 ≤ 9223372036854775807 then (redpenref18_Print.l1 k2 l1 ((((x6_2 ++ (strOfNums y153)) ++ ((rd_T29 ((rd_T26 l1 x7_1).f4) x9_2).f1)) ++ (⟨#[10]⟩ : ByteArray)) ++ (⟨#[92, 32, 78, 111, 32, 110, 101, 119, 108, 105, 110, 101, 32, 97, 116, 32, 101, 110, 100, 32, 111, 102, 32, 102, 105, 108, 101, 10]⟩ : ByteArray)) x7_1 (wrap64 (x9_2 + 1))) else (none)) = some (r1, r2) := by rw [if_pos rfl] at H; exact H
                       clear H
                       have H := H1
                       clear H1
                       by_cases c27 : (((x6_2 ++ (strOfNums y153)) ++ ((rd_T29 ((rd_T26 l1 x7_1).f4) x9_2).f1)) ++ (⟨#[10]⟩ : ByteArray)).size + 28 ≤ 9223372036854775807
                       ·rw [if_pos c27] at H
                        have c27b0 := eq_true c27
                        have c27b1 : decide ((((x6_2 ++ (strOfNums y153)) ++ ((rd_T29 ((rd_T26 l1 x7_1).f4) x9_2).f1)) ++ (⟨#[10]⟩ : ByteArray)).size + 28 ≤ 9223372036854775807) = true := decide_eq_true c27
                        try have c27b2 : (9223372036854775807 < (((x6_2 ++ (strOfNums y153)) ++ ((rd_T29 ((rd_T26 l1 x7_1).f4) x9_2).f1)) ++ (⟨#[10]⟩ : ByteArray)).size + 28) = False := eq_false (Nat.not_lt.2 c27)
                        try (have c27b4 := c27b2; simp only [ByteArray.size_append, show (⟨#[10]⟩ : ByteArray).size = 1 from rfl] at c27b4)
                        have H' := Aside0.mk H
                        clear H
                        have p149 : 0 ≤ (x7_1 : Int) := of_decide_eq_true (by first | (with_reducible assumption) | assumption)
                        have q149 : x7_1 < (l1.length : Int) := of_decide_eq_true (by first | (with_reducible assumption) | assumption)
                        obtain ⟨ad149, A149_4, c149_4, e149, hx149_0, hx149_1, hx149_2, hx149_3, hx149_4, hl149_4, hi149_4⟩ := at_T26 HR1.out x7_1 p149 q149
                        obtain rfl : ad145 = ad149 := (by injection e149)
                        replace hx149_0 := (HB.out.cell (World.block_lt_of_cell? w _ hx149_0)).trans hx149_0
                        replace hx149_1 := (HB.out.cell (World.block_lt_of_cell? w _ hx149_1)).trans hx149_1
                        replace hx149_2 := (HB.out.cell (World.block_lt_of_cell? w _ hx149_2)).trans hx149_2
                        replace hx149_3 := (HB.out.cell (World.block_lt_of_cell? w _ hx149_3)).trans hx149_3
                        replace hx149_4 := (HB.out.cell (World.block_lt_of_cell? w _ hx149_4)).trans hx149_4
                        have HR149_4 := Aside0.mk hi149_4
                        have HC149_4 := Aside0.mk hl149_4
                        clear hi149_4 hl149_4
                        replace p149 := eq_true p149
                        replace q149 := eq_true q149
                        have p150 : 0 ≤ (x7_1 : Int) := of_decide_eq_true (by first | (with_reducible assumption) | assumption)
                        have q150 : x7_1 < (l1.length : Int) := of_decide_eq_true (by first | (with_reducible assumption) | assumption)
                        obtain ⟨ad150, A150_4, c150_4, e150, hx150_0, hx150_1, hx150_2, hx150_3, hx150_4, hl150_4, hi150_4⟩ := at_T26 HR1.out x7_1 p150 q150
                        obtain rfl : ad145 = ad150 := (by injection e150)
                        replace hx150_0 := (HB.out.cell (World.block_lt_of_cell? w _ hx150_0)).trans hx150_0
                        replace hx150_1 := (HB.out.cell (World.block_lt_of_cell? w _ hx150_1)).trans hx150_1
                        replace hx150_2 := (HB.out.cell (World.block_lt_of_cell? w _ hx150_2)).trans hx150_2
                        replace hx150_3 := (HB.out.cell (World.block_lt_of_cell? w _ hx150_3)).trans hx150_3
                        replace hx150_4 := (HB.out.cell (World.block_lt_of_cell? w _ hx150_4)).trans hx150_4
                        have HR150_4 := Aside0.mk hi150_4
                        have HC150_4 := Aside0.mk hl150_4
                        clear hi150_4 hl150_4
                        replace p150 := eq_true p150
                        replace q150 := eq_true q150
                        have ea_ := Option.some.inj (hx149_4.symm.trans hx150_4)
                        injection ea_ with ea_ en_ ec_
                        subst ea_
                        subst ec_
                        clear en_
                        have p151 : 0 ≤ (x9_2 : Int) := of_decide_eq_true (by first | (with_reducible assumption) | assumption)
                        have q151 : x9_2 < (((rd_T26 l1 x7_1).f4).length : Int) := of_decide_eq_true (by first | (with_reducible assumption) | assumption)
                        obtain ⟨ad151, e151, hx151_0, hx151_1, hx151_2⟩ := at_T29 HR150_4.out x9_2 p151 q151
                        (try rw [← Nbq25.out] at hx151_2)
                        cases e151
                        replace hx151_0 := (HB.out.cell (World.block_lt_of_cell? w _ hx151_0)).trans hx151_0
                        replace hx151_1 := (HB.out.cell (World.block_lt_of_cell? w _ hx151_1)).trans hx151_1
                        replace hx151_2 := (HB.out.cell (World.block_lt_of_cell? w _ hx151_2)).trans hx151_2
                        replace p151 := eq_true p151
                        replace q151 := eq_true q151
                        go_wp2_with (first | ((with_reducible refine gate_dst (N := 10) rfl ?_); refine box_event ?hg (N := 10) ?hd (cs := #[.int .u8 0, .string (⟨#[]⟩ : ByteArray), .bool false]) (t := 29) ?hr ?_; (case hd => rfl); (case hg => rfl); (case hr => first | (go_simp; done) | (go_simp; rfl)); intro gb152 hg w28 hbox hb; have n0_ := Aside0.mk (below_step (by repeat (first | (with_reducible first | exact HB.out | apply below_alloc | apply pw_below_drewN | apply below_drew1) | exact HB.out)) hb); have n1_ := Aside0.mk (hbox); have n2_ := Aside0.mk ((by rw [hg]; exact (below_size (by repeat (first | (with_reducible first | exact HB.out | apply below_alloc | apply pw_below_drewN | apply below_drew1) | exact HB.out))) : w.heap.size ≤ gb152)); have n3_ := Aside0.mk ((by rw [hg]; exact (below_size (by repeat (first | (with_reducible first | exact HB.out | apply below_alloc | apply pw_below_drewN | apply below_drew1) | exact HB.out))) : w.heap.size ≤ gb152)); clear HB; have HB := n0_; have BK152 := n1_; have GW152 := n2_; have GE152 := n3_; clear n0_ n1_ n2_ n3_; clear hb hbox hg; have hcz29_0 : w28.cell? ⟨gb152, 0, none⟩ = some (.int .u8 0) := (blk_cell BK152.out 0).trans rfl; have hcz29_1 : w28.cell? ⟨gb152, 1, none⟩ = some (.string (⟨#[]⟩ : ByteArray)) := (blk_cell BK152.out 1).trans rfl; have hcz29_2 : w28.cell? ⟨gb152, 2, none⟩ = some (.bool false) := (blk_cell BK152.out 2).trans rfl; have hfz29_0 := blk_frozen BK152.out 0; have hfz29_1 := blk_frozen BK152.out 1; have hfz29_2 := blk_frozen BK152.out 2) | ((with_reducible refine gate_dst (N := 65) rfl ?_); refine Kd.R_lit (Kd.int .u8) _ 5 ?hg (N := 65) ?hd (xs := ([(rd_T29 ((rd_T26 l1 x7_1).f4) x9_2).f0] : List Int)) (inner := [.int .u8 ((rd_T29 ((rd_T26 l1 x7_1).f4) x9_2).f0)]) (ok := fun _ => True) (okp := fun _ => True) ?hr ?hp (fun _ hk => hk) trivial (Below.refl _ _) (Nat.le_refl _) (by simp) ?_; (case hd => rfl); (case hg => rfl); (case hr => first | (go_simp; done) | (go_simp; rfl)); (case hp => exact (Reps.one (show Kd.M (Kd.int .u8) _ _ _ ((rd_T29 ((rd_T26 l1 x7_1).f4) x9_2).f0) [.int .u8 ((rd_T29 ((rd_T26 l1 x7_1).f4) x9_2).f0)] from rfl) (Reps.none _ _))); intro v154 w30 ho31 hb hg_ hnew_; clear hg_ hnew_; (first | rw [← Ny153.out] at ho31 | (simp only [Int.reduceToNat] at ho31; rw [← Ny153.out] at ho31)); have n0_ := Aside0.mk (Kd.R_lower ho31 (below_size (by repeat (first | (with_reducible first | exact HB.out | apply below_alloc | apply pw_below_drewN | apply below_drew1 | refine below_set ?_ GE152.out) | exact HB.out)))); have n1_ := Aside0.mk (blk_below (g := gb152) (o := .cells #[.int .u8 ((rd_T29 ((rd_T26 l1 x7_1).f4) x9_2).f0), .string ((rd_T29 ((rd_T26 l1 x7_1).f4) x9_2).f1), .bool true] 29 (0, 0)) (by (with_reducible repeat (first | refine blk_drewN ?_ _ | refine blk_drew ?_ | refine blk_alloc ?_ _)); refine blk_put (cs := #[.int .u8 ((rd_T29 ((rd_T26 l1 x7_1).f4) x9_2).f0), .string ((rd_T29 ((rd_T26 l1 x7_1).f4) x9_2).f1), .bool false]) ?_ 2 _ rfl; (with_reducible repeat (first | refine blk_drewN ?_ _ | refine blk_drew ?_ | refine blk_alloc ?_ _)); refine blk_put (cs := #[.int .u8 ((rd_T29 ((rd_T26 l1 x7_1).f4) x9_2).f0), .string (⟨#[]⟩ : ByteArray), .bool false]) ?_ 1 _ rfl; (with_reducible repeat (first | refine blk_drewN ?_ _ | refine blk_drew ?_ | refine blk_alloc ?_ _)); refine blk_put (cs := #[.int .u8 0, .string (⟨#[]⟩ : ByteArray), .bool false]) ?_ 0 _ rfl; (with_reducible repeat (first | refine blk_drewN ?_ _ | refine blk_drew ?_ | refine blk_alloc ?_ _)); exact BK152.out) hb); have n2_ := Aside0.mk (below_step (by repeat (first | (with_reducible first | exact HB.out | apply below_alloc | apply pw_below_drewN | apply below_drew1 | refine below_set ?_ GE152.out) | exact HB.out)) hb); clear BK152; clear HB; have HO155 := n0_; have BK152 := n1_; have HB := n2_; clear n0_ n1_ n2_; clear hb ho31; have hcv32 := own_string (P := Tryd.prog) Tryd.underlying40 Tryd.underlying5 Tryd.underlying9 (Kd.own_of_R HO155.out); have hcv32n := fun (n_ : Nat) => own_string (P := Tryd.prog) Tryd.underlying40 Tryd.underlying5 Tryd.underlying9 (Kd.own_of_R (Kd.R_drewN HO155.out n_)); have hcz33_0 : w30.cell? ⟨gb152, 0, none⟩ = some (.int .u8 ((rd_T29 ((rd_T26 l1 x7_1).f4) x9_2).f0)) := (blk_cell BK152.out 0).trans rfl; have hcz33_1 : w30.cell? ⟨gb152, 1, none⟩ = some (.string ((rd_T29 ((rd_T26 l1 x7_1).f4) x9_2).f1)) := (blk_cell BK152.out 1).trans rfl; have hcz33_2 : w30.cell? ⟨gb152, 2, none⟩ = some (.bool true) := (blk_cell BK152.out 2).trans rfl; have hfz33_0 := blk_frozen BK152.out 0; have hfz33_1 := blk_frozen BK152.out 1; have hfz33_2 := blk_frozen BK152.out 2))
                        go_roundg k2
                        case measure => have := HK1.out; have := HK2.out; omega
                        case rel => exact ⟨((((x6_2 ++ (strOfNums y153)) ++ ((rd_T29 ((rd_T26 l1 x7_1).f4) x9_2).f1)) ++ (⟨#[10]⟩ : ByteArray)) ++ (⟨#[92, 32, 78, 111, 32, 110, 101, 119, 108, 105, 110, 101, 32, 97, 116, 32, 101, 110, 100, 32, 111, 102, 32, 102, 105, 108, 101, 10]⟩ : ByteArray)), (wrap64 (x9_2 + 1)), (by first | rfl | (simp; done) | (simp [*]; done) | (simp [wrap64, wrap32]; done)), (by first | rfl | (simp; done) | (simp [*]; done) | (simp [wrap64, wrap32]; done)), H', ⟨by have := HK1.out; have := HK2.out; omega⟩, ⟨by repeat (first | (with_reducible first | exact HB.out | apply below_alloc | apply pw_below_drewN | apply below_drew1 | refine below_set ?_ GE152.out) | exact HB.out)⟩⟩
                       ·rw [if_neg c27] at H
                        exact absurd H (by simp)
                      ·replace c26 := Bool.eq_false_iff.mpr c26
                       subst c26
                       have H1 : (redpenref18_Print.l1 k2 l1 (((x6_2 ++ (strOfNums y153)) ++ ((rd_T29 ((rd_T26 l1 x7_1).f4) x9_2).f1)) ++ (⟨#[10]⟩ : ByteArray)) x7_1 (wrap64 (x9_2 + 1))) = some (r1, r2) := by rw [if_neg (show ¬ (false = true) by decide)] at H; exact H
                       clear H
                       have H := H1
                       clear H1
                       have H' := Aside0.mk H
                       clear H
                       have p149 : 0 ≤ (x7_1 : Int) := of_decide_eq_true (by first | (with_reducible assumption) | assumption)
                       have q149 : x7_1 < (l1.length : Int) := of_decide_eq_true (by first | (with_reducible assumption) | assumption)
                       obtain ⟨ad149, A149_4, c149_4, e149, hx149_0, hx149_1, hx149_2, hx149_3, hx149_4, hl149_4, hi149_4⟩ := at_T26 HR1.out x7_1 p149 q149
                       obtain rfl : ad145 = ad149 := (by injection e149)
                       replace hx149_0 := (HB.out.cell (World.block_lt_of_cell? w _ hx149_0)).trans hx149_0
                       replace hx149_1 := (HB.out.cell (World.block_lt_of_cell? w _ hx149_1)).trans hx149_1
                       replace hx149_2 := (HB.out.cell (World.block_lt_of_cell? w _ hx149_2)).trans hx149_2
                       replace hx149_3 := (HB.out.cell (World.block_lt_of_cell? w _ hx149_3)).trans hx149_3
                       replace hx149_4 := (HB.out.cell (World.block_lt_of_cell? w _ hx149_4)).trans hx149_4
                       have HR149_4 := Aside0.mk hi149_4
                       have HC149_4 := Aside0.mk hl149_4
                       clear hi149_4 hl149_4
                       replace p149 := eq_true p149
                       replace q149 := eq_true q149
                       have p150 : 0 ≤ (x7_1 : Int) := of_decide_eq_true (by first | (with_reducible assumption) | assumption)
                       have q150 : x7_1 < (l1.length : Int) := of_decide_eq_true (by first | (with_reducible assumption) | assumption)
                       obtain ⟨ad150, A150_4, c150_4, e150, hx150_0, hx150_1, hx150_2, hx150_3, hx150_4, hl150_4, hi150_4⟩ := at_T26 HR1.out x7_1 p150 q150
                       obtain rfl : ad145 = ad150 := (by injection e150)
                       replace hx150_0 := (HB.out.cell (World.block_lt_of_cell? w _ hx150_0)).trans hx150_0
                       replace hx150_1 := (HB.out.cell (World.block_lt_of_cell? w _ hx150_1)).trans hx150_1
                       replace hx150_2 := (HB.out.cell (World.block_lt_of_cell? w _ hx150_2)).trans hx150_2
                       replace hx150_3 := (HB.out.cell (World.block_lt_of_cell? w _ hx150_3)).trans hx150_3
                       replace hx150_4 := (HB.out.cell (World.block_lt_of_cell? w _ hx150_4)).trans hx150_4
                       have HR150_4 := Aside0.mk hi150_4
                       have HC150_4 := Aside0.mk hl150_4
                       clear hi150_4 hl150_4
                       replace p150 := eq_true p150
                       replace q150 := eq_true q150
                       have ea_ := Option.some.inj (hx149_4.symm.trans hx150_4)
                       injection ea_ with ea_ en_ ec_
                       subst ea_
                       subst ec_
                       clear en_
                       have p151 : 0 ≤ (x9_2 : Int) := of_decide_eq_true (by first | (with_reducible assumption) | assumption)
                       have q151 : x9_2 < (((rd_T26 l1 x7_1).f4).length : Int) := of_decide_eq_true (by first | (with_reducible assumption) | assumption)
                       obtain ⟨ad151, e151, hx151_0, hx151_1, hx151_2⟩ := at_T29 HR150_4.out x9_2 p151 q151
                       (try rw [← Nbq25.out] at hx151_2)
                       cases e151
                       replace hx151_0 := (HB.out.cell (World.block_lt_of_cell? w _ hx151_0)).trans hx151_0
                       replace hx151_1 := (HB.out.cell (World.block_lt_of_cell? w _ hx151_1)).trans hx151_1
                       replace hx151_2 := (HB.out.cell (World.block_lt_of_cell? w _ hx151_2)).trans hx151_2
                       replace p151 := eq_true p151
                       replace q151 := eq_true q151
                       go_wp2_with (first | ((with_reducible refine gate_dst (N := 10) rfl ?_); refine box_event ?hg (N := 10) ?hd (cs := #[.int .u8 0, .string (⟨#[]⟩ : ByteArray), .bool false]) (t := 29) ?hr ?_; (case hd => rfl); (case hg => rfl); (case hr => first | (go_simp; done) | (go_simp; rfl)); intro gb152 hg w34 hbox hb; have n0_ := Aside0.mk (below_step (by repeat (first | (with_reducible first | exact HB.out | apply below_alloc | apply pw_below_drewN | apply below_drew1) | exact HB.out)) hb); have n1_ := Aside0.mk (hbox); have n2_ := Aside0.mk ((by rw [hg]; exact (below_size (by repeat (first | (with_reducible first | exact HB.out | apply below_alloc | apply pw_below_drewN | apply below_drew1) | exact HB.out))) : w.heap.size ≤ gb152)); have n3_ := Aside0.mk ((by rw [hg]; exact (below_size (by repeat (first | (with_reducible first | exact HB.out | apply below_alloc | apply pw_below_drewN | apply below_drew1) | exact HB.out))) : w.heap.size ≤ gb152)); clear HB; have HB := n0_; have BK152 := n1_; have GW152 := n2_; have GE152 := n3_; clear n0_ n1_ n2_ n3_; clear hb hbox hg; have hcz35_0 : w34.cell? ⟨gb152, 0, none⟩ = some (.int .u8 0) := (blk_cell BK152.out 0).trans rfl; have hcz35_1 : w34.cell? ⟨gb152, 1, none⟩ = some (.string (⟨#[]⟩ : ByteArray)) := (blk_cell BK152.out 1).trans rfl; have hcz35_2 : w34.cell? ⟨gb152, 2, none⟩ = some (.bool false) := (blk_cell BK152.out 2).trans rfl; have hfz35_0 := blk_frozen BK152.out 0; have hfz35_1 := blk_frozen BK152.out 1; have hfz35_2 := blk_frozen BK152.out 2) | ((with_reducible refine gate_dst (N := 65) rfl ?_); refine Kd.R_lit (Kd.int .u8) _ 5 ?hg (N := 65) ?hd (xs := ([(rd_T29 ((rd_T26 l1 x7_1).f4) x9_2).f0] : List Int)) (inner := [.int .u8 ((rd_T29 ((rd_T26 l1 x7_1).f4) x9_2).f0)]) (ok := fun _ => True) (okp := fun _ => True) ?hr ?hp (fun _ hk => hk) trivial (Below.refl _ _) (Nat.le_refl _) (by simp) ?_; (case hd => rfl); (case hg => rfl); (case hr => first | (go_simp; done) | (go_simp; rfl)); (case hp => exact (Reps.one (show Kd.M (Kd.int .u8) _ _ _ ((rd_T29 ((rd_T26 l1 x7_1).f4) x9_2).f0) [.int .u8 ((rd_T29 ((rd_T26 l1 x7_1).f4) x9_2).f0)] from rfl) (Reps.none _ _))); intro v154 w36 ho37 hb hg_ hnew_; clear hg_ hnew_; (first | rw [← Ny153.out] at ho37 | (simp only [Int.reduceToNat] at ho37; rw [← Ny153.out] at ho37)); have n0_ := Aside0.mk (Kd.R_lower ho37 (below_size (by repeat (first | (with_reducible first | exact HB.out | apply below_alloc | apply pw_below_drewN | apply below_drew1 | refine below_set ?_ GE152.out) | exact HB.out)))); have n1_ := Aside0.mk (blk_below (g := gb152) (o := .cells #[.int .u8 ((rd_T29 ((rd_T26 l1 x7_1).f4) x9_2).f0), .string ((rd_T29 ((rd_T26 l1 x7_1).f4) x9_2).f1), .bool false] 29 (0, 0)) (by (with_reducible repeat (first | refine blk_drewN ?_ _ | refine blk_drew ?_ | refine blk_alloc ?_ _)); refine blk_put (cs := #[.int .u8 ((rd_T29 ((rd_T26 l1 x7_1).f4) x9_2).f0), .string ((rd_T29 ((rd_T26 l1 x7_1).f4) x9_2).f1), .bool false]) ?_ 2 _ rfl; (with_reducible repeat (first | refine blk_drewN ?_ _ | refine blk_drew ?_ | refine blk_alloc ?_ _)); refine blk_put (cs := #[.int .u8 ((rd_T29 ((rd_T26 l1 x7_1).f4) x9_2).f0), .string (⟨#[]⟩ : ByteArray), .bool false]) ?_ 1 _ rfl; (with_reducible repeat (first | refine blk_drewN ?_ _ | refine blk_drew ?_ | refine blk_alloc ?_ _)); refine blk_put (cs := #[.int .u8 0, .string (⟨#[]⟩ : ByteArray), .bool false]) ?_ 0 _ rfl; (with_reducible repeat (first | refine blk_drewN ?_ _ | refine blk_drew ?_ | refine blk_alloc ?_ _)); exact BK152.out) hb); have n2_ := Aside0.mk (below_step (by repeat (first | (with_reducible first | exact HB.out | apply below_alloc | apply pw_below_drewN | apply below_drew1 | refine below_set ?_ GE152.out) | exact HB.out)) hb); clear BK152; clear HB; have HO155 := n0_; have BK152 := n1_; have HB := n2_; clear n0_ n1_ n2_; clear hb ho37; have hcv38 := own_string (P := Tryd.prog) Tryd.underlying40 Tryd.underlying5 Tryd.underlying9 (Kd.own_of_R HO155.out); have hcv38n := fun (n_ : Nat) => own_string (P := Tryd.prog) Tryd.underlying40 Tryd.underlying5 Tryd.underlying9 (Kd.own_of_R (Kd.R_drewN HO155.out n_)); have hcz39_0 : w36.cell? ⟨gb152, 0, none⟩ = some (.int .u8 ((rd_T29 ((rd_T26 l1 x7_1).f4) x9_2).f0)) := (blk_cell BK152.out 0).trans rfl; have hcz39_1 : w36.cell? ⟨gb152, 1, none⟩ = some (.string ((rd_T29 ((rd_T26 l1 x7_1).f4) x9_2).f1)) := (blk_cell BK152.out 1).trans rfl; have hcz39_2 : w36.cell? ⟨gb152, 2, none⟩ = some (.bool false) := (blk_cell BK152.out 2).trans rfl; have hfz39_0 := blk_frozen BK152.out 0; have hfz39_1 := blk_frozen BK152.out 1; have hfz39_2 := blk_frozen BK152.out 2))
                       go_roundg k2
                       case measure => have := HK1.out; have := HK2.out; omega
                       case rel => exact ⟨(((x6_2 ++ (strOfNums y153)) ++ ((rd_T29 ((rd_T26 l1 x7_1).f4) x9_2).f1)) ++ (⟨#[10]⟩ : ByteArray)), (wrap64 (x9_2 + 1)), (by first | rfl | (simp; done) | (simp [*]; done) | (simp [wrap64, wrap32]; done)), (by first | rfl | (simp; done) | (simp [*]; done) | (simp [wrap64, wrap32]; done)), H', ⟨by have := HK1.out; have := HK2.out; omega⟩, ⟨by repeat (first | (with_reducible first | exact HB.out | apply below_alloc | apply pw_below_drewN | apply below_drew1 | refine below_set ?_ GE152.out) | exact HB.out)⟩⟩
                     ·rw [if_neg c24] at H
                      exact absurd H (by simp)
                    ·rw [if_neg c23] at H
                     exact absurd H (by simp)
                   ·rw [if_neg c22] at H
                    exact absurd H (by simp)
                  ·rw [if_neg c21] at H
                   exact absurd H (by simp)
                 ·rw [if_neg c20] at H
                  have c20b0 : decide (x9_2 < (((rd_T26 l1 x7_1).f4).length : Int)) = false := decide_eq_false c20
                  clear c20
                  have H' := Aside0.mk H
                  clear H
                  have p149 : 0 ≤ (x7_1 : Int) := of_decide_eq_true (by first | (with_reducible assumption) | assumption)
                  have q149 : x7_1 < (l1.length : Int) := of_decide_eq_true (by first | (with_reducible assumption) | assumption)
                  obtain ⟨ad149, A149_4, c149_4, e149, hx149_0, hx149_1, hx149_2, hx149_3, hx149_4, hl149_4, hi149_4⟩ := at_T26 HR1.out x7_1 p149 q149
                  obtain rfl : ad145 = ad149 := (by injection e149)
                  replace hx149_0 := (HB.out.cell (World.block_lt_of_cell? w _ hx149_0)).trans hx149_0
                  replace hx149_1 := (HB.out.cell (World.block_lt_of_cell? w _ hx149_1)).trans hx149_1
                  replace hx149_2 := (HB.out.cell (World.block_lt_of_cell? w _ hx149_2)).trans hx149_2
                  replace hx149_3 := (HB.out.cell (World.block_lt_of_cell? w _ hx149_3)).trans hx149_3
                  replace hx149_4 := (HB.out.cell (World.block_lt_of_cell? w _ hx149_4)).trans hx149_4
                  have HR149_4 := Aside0.mk hi149_4
                  have HC149_4 := Aside0.mk hl149_4
                  clear hi149_4 hl149_4
                  replace p149 := eq_true p149
                  replace q149 := eq_true q149
                  go_wp2
                  go_roundg k2
                  case measure => have := HK1.out; have := HK2.out; omega
                  case rel => exact ⟨(x6_2), (wrap64 (x7_1 + 1)), (by first | rfl | (simp; done) | (simp [*]; done) | (simp [wrap64, wrap32]; done)), (by first | rfl | (simp; done) | (simp [*]; done) | (simp [wrap64, wrap32]; done)), H', ⟨by have := HK1.out; have := HK2.out; omega⟩, ⟨by repeat (first | (with_reducible first | exact HB.out | apply below_alloc | apply pw_below_drewN | apply below_drew1) | exact HB.out)⟩⟩
                ·rw [if_neg c19] at H
                 exact absurd H (by simp)
               ·rw [if_neg c18] at H
                exact absurd H (by simp)
            ·rw [if_neg c15] at H
             exact absurd H (by simp)
           ·rw [if_neg c13] at H
            have c13b0 : (t146 == 0) = false := beq_eq_false_iff_ne.mpr c13
            have c13b1 : (t146 != 0) = true := bne_iff_ne.mpr c13
            simp only [Option.some.injEq, Prod.mk.injEq] at H
            obtain ⟨rfl, rfl⟩ := H
            have p145 : 0 ≤ (x7_1 : Int) := of_decide_eq_true (by first | (with_reducible assumption) | assumption)
            have q145 : x7_1 < (l1.length : Int) := of_decide_eq_true (by first | (with_reducible assumption) | assumption)
            obtain ⟨ad145, A145_4, c145_4, e145, hx145_0, hx145_1, hx145_2, hx145_3, hx145_4, hl145_4, hi145_4⟩ := at_T26 HR1.out x7_1 p145 q145
            cases e145
            replace hx145_0 := (HB.out.cell (World.block_lt_of_cell? w _ hx145_0)).trans hx145_0
            replace hx145_1 := (HB.out.cell (World.block_lt_of_cell? w _ hx145_1)).trans hx145_1
            replace hx145_2 := (HB.out.cell (World.block_lt_of_cell? w _ hx145_2)).trans hx145_2
            replace hx145_3 := (HB.out.cell (World.block_lt_of_cell? w _ hx145_3)).trans hx145_3
            replace hx145_4 := (HB.out.cell (World.block_lt_of_cell? w _ hx145_4)).trans hx145_4
            have HR145_4 := Aside0.mk hi145_4
            have HC145_4 := Aside0.mk hl145_4
            clear hi145_4 hl145_4
            replace p145 := eq_true p145
            replace q145 := eq_true q145
            go_wp2_with (first | ((with_reducible refine gate_callee (f := 17) rfl ?_); refine goesL_ (some 33) rfl rfl Tryd.func17 (by kernel_rfl) rfl #[.agg #[.int .i64 ((rd_T26 l1 x7_1).f0), .int .i64 ((rd_T26 l1 x7_1).f1), .int .i64 ((rd_T26 l1 x7_1).f2), .int .i64 ((rd_T26 l1 x7_1).f3), .slice A145_4 ((rd_T26 l1 x7_1).f4).length c145_4]] rfl (by (try simp only [List.map_toArray, List.map_cons, List.map_nil]); first | done | rfl | (simp only [List.length_drop, List.length_take]; rfl)) ?_; (with_reducible refine (redpenref18_Check.calls k1 ((rd_T26 l1 x7_1).f0) ((rd_T26 l1 x7_1).f1) ((rd_T26 l1 x7_1).f2) ((rd_T26 l1 x7_1).f3) _ _ ((rd_T26 l1 x7_1).f4) t146 _ ?side1 ?side2 A12.out).mono ?_); (case side1 => repeat (first | exact (Kd.C_below HR145_4.out HB.out) | (with_reducible refine Kd.C_alloc ?_ _) | (with_reducible refine Kd.C_drewN ?_ _) | (with_reducible refine Kd.C_drew ?_))); (case side2 => exact HC145_4.out); rintro e w40 ⟨rfl, hb⟩; refine ⟨_, rfl, ?_⟩; have n0_ := Aside0.mk (below_step (by repeat (first | (with_reducible first | exact HB.out | apply below_alloc | apply pw_below_drewN | apply below_drew1) | exact HB.out)) hb); clear HB; have HB := n0_; clear n0_; (try clear hb); (try clear hb2); (try clear hk); (try clear hi)))
            go_ret2
            exact ⟨by first | rfl | (simp [errW_none, errW_some] <;> rfl) | (simp [*, errW_none, errW_some] <;> rfl), by repeat (first | (with_reducible first | exact HB.out | apply below_alloc | apply pw_below_drewN | apply below_drew1) | exact HB.out)⟩
          ·rw [if_neg c11] at H
           exact absurd H (by simp)
         ·rw [if_neg c10] at H
          have c10b0 : decide (x7_1 < (l1.length : Int)) = false := decide_eq_false c10
          clear c10
          simp only [Option.some.injEq, Prod.mk.injEq] at H
          obtain ⟨rfl, rfl⟩ := H
          go_wp2
          go_ret2
          exact ⟨by first | rfl | (simp [errW_none, errW_some] <;> rfl) | (simp [*, errW_none, errW_some] <;> rfl), by repeat (first | (with_reducible first | exact HB.out | apply below_alloc | apply pw_below_drewN | apply below_drew1) | exact HB.out)⟩
      ·rw [if_neg c9] at H
       exact absurd H (by simp)
     ·rw [if_neg c8] at H
      exact absurd H (by simp)
    ·rw [if_neg c7] at H
     exact absurd H (by simp)
   ·rw [if_neg c6] at H
    exact absurd H (by simp)
 ·replace c4 := Bool.eq_false_iff.mpr c4
  subst c4
  have H1 : (some ((⟨#[]⟩ : ByteArray), 10)) = some (r1, r2) := by rw [if_neg (show ¬ (false = true) by decide)] at H; exact H
  clear H
  have H := H1
  clear H1
  simp only [Option.some.injEq, Prod.mk.injEq] at H
  obtain ⟨rfl, rfl⟩ := H
  go_enter Tryd.func19, Tryd.ntmps19
  go_wp2_with (first | ((with_reducible refine gate_callee (f := 14) rfl ?_); refine goesL_ (some 12) rfl rfl Tryd.func14 (by kernel_rfl) rfl #[.string a0] rfl (by (try simp only [List.map_toArray, List.map_cons, List.map_nil]); first | done | rfl | (simp only [List.length_drop, List.length_take]; rfl)) ?_; (with_reducible refine (redpenref18_Name.calls k a0 false _ A3.out).mono ?_); rintro e w' ⟨rfl, ⟨nd, rfl⟩⟩; refine ⟨_, rfl, ?_⟩))
  go_ret2
  exact ⟨by first | rfl | (simp [errW_none, errW_some] <;> rfl) | (simp [*, errW_none, errW_some] <;> rfl), by repeat (first | (with_reducible first | exact HB.out | apply below_alloc | apply pw_below_drewN | apply below_drew1) | exact HB.out)⟩

/-! ### redpenlaw20_ShowPrints: function 5 -/
def redpenlaw20_ShowPrints.l0 : Nat → ByteArray → Bool → List (S26) → List (S26) → Int → Int → Option (Bool)
 | 0, _, _, _, _, _, _ => none
 | k + 1, x0, x2, x7, x19, x20, x21 => if x21 < x20 then (if 0 ≤ x21 then (if x21 < (x19.length : Int) then (if x21 < 5 then (if (((rd_T26 x19 x21).f4).length : Int) < 100 then ((redpenlaw20_Tidied.f k ((rd_T26 x19 x21).f0) ((rd_T26 x19 x21).f1) ((rd_T26 x19 x21).f2) ((rd_T26 x19 x21).f3) ((rd_T26 x19 x21).f4) x2).bind fun bt159 => (if x7.length < 2513169434916 then (redpenlaw20_ShowPrints.l0 k x0 x2 (x7 ++ [(⟨bt159.1, bt159.2.1, bt159.2.2.1, bt159.2.2.2.1, bt159.2.2.2.2⟩ : S26)]) x19 x20 (wrap64 (x21 + 1))) else (none))) else (redpenlaw20_ShowPrints.l0 k x0 x2 x7 x19 x20 (wrap64 (x21 + 1)))) else (redpenlaw20_ShowPrints.l0 k x0 x2 x7 x19 x20 (wrap64 (x21 + 1)))) else (none)) else (none)) else ((show_Print.f k x0 x7).bind fun bt169 => ((redpenref18_Print.f k x0 x7).bind fun bt171 => (if bt169.2 = bt171.2 then (some (bt169.1.toList == bt171.1.toList)) else (some false))))
def redpenlaw20_ShowPrints.f (k : Nat) (a0 : ByteArray) (l1 : List (S26)) (a2 : Bool) : Option (Bool) := (redpenlaw20_Awake.f).bind fun t156 => (if t156 = true then (if (a0.size : Int) > 100 then (some true) else (redpenlaw20_ShowPrints.l0 k a0 a2 ([] : List (S26)) l1 (l1.length : Int) 0)) else (some false))
theorem redpenlaw20_ShowPrints.mono_l : ∀ k, (∀ y0 y1 y2 y3 y4 y5, LeO (redpenlaw20_ShowPrints.l0 k y0 y1 y2 y3 y4 y5) (redpenlaw20_ShowPrints.l0 (k + 1) y0 y1 y2 y3 y4 y5))
 | 0 => fun _ _ _ _ _ _ r h => by simp [redpenlaw20_ShowPrints.l0] at h
 | k + 1 => by
  have ih0 := redpenlaw20_ShowPrints.mono_l k
  ·intro y0 y1 y2 y3 y4 y5
   unfold redpenlaw20_ShowPrints.l0
   repeat' first
   | (with_reducible exact ih0 _ _ _ _ _ _)
   | (with_reducible exact redpenlaw20_Tidied.mono _ _ _ _ _ _ _)
   | (with_reducible exact redpenref18_Print.mono _ _ _)
   | (with_reducible exact show_Print.mono _ _ _)
   | (with_reducible exact LeO.refl _)
   | (with_reducible exact LeO.none _)
   | (with_reducible refine LeO.ite ?_ ?_)
   | (with_reducible refine LeO.bind ?_ (fun _ => ?_))
   | exact ih0 _ _ _ _ _ _
   | exact redpenlaw20_Tidied.mono _ _ _ _ _ _ _
   | exact redpenref18_Print.mono _ _ _
   | exact show_Print.mono _ _ _
   | exact LeO.none _
   | refine LeO.ite ?_ ?_
   | refine LeO.bind ?_ (fun _ => ?_)
theorem redpenlaw20_ShowPrints.mono : ∀ a0 a1 a2 k, LeO (redpenlaw20_ShowPrints.f k a0 a1 a2) (redpenlaw20_ShowPrints.f (k + 1) a0 a1 a2) := by
 intro a0 a1 a2 k
 have ih0 := redpenlaw20_ShowPrints.mono_l k
 unfold redpenlaw20_ShowPrints.f
 repeat' first
   | (with_reducible exact ih0 _ _ _ _ _ _)
   | (with_reducible exact redpenlaw20_Tidied.mono _ _ _ _ _ _ _)
   | (with_reducible exact redpenref18_Print.mono _ _ _)
   | (with_reducible exact show_Print.mono _ _ _)
   | (with_reducible exact LeO.refl _)
   | (with_reducible exact LeO.none _)
   | (with_reducible refine LeO.ite ?_ ?_)
   | (with_reducible refine LeO.bind ?_ (fun _ => ?_))
   | exact ih0 _ _ _ _ _ _
   | exact redpenlaw20_Tidied.mono _ _ _ _ _ _ _
   | exact redpenref18_Print.mono _ _ _
   | exact show_Print.mono _ _ _
   | exact LeO.none _
   | refine LeO.ite ?_ ?_
   | refine LeO.bind ?_ (fun _ => ?_)
set_option maxHeartbeats 8000000 in
set_option maxRecDepth 100000 in
theorem redpenlaw20_ShowPrints.calls (k : Nat) (a0 : ByteArray) (A1 : Option Addr) (c1 : Nat) (l1 : List (S26)) (a2 : Bool) (r : Bool) (w : World) (hr1 : Kd.C k26 w A1 l1.length l1) (hc1 : l1.length ≤ c1) (h : redpenlaw20_ShowPrints.f k a0 l1 a2 = some r) (hr_ : r = true) (hL : Go.Proofs.YtjabpbnlpljlkaaDoor.H.Laid w) :
  Calls Tryd.prog 5 #[.string a0, .slice A1 l1.length c1, .bool a2] w fun e w' => e = .returned (.bool r) ∧ Below w.heap.size w w' := by
 have HL := Aside0.mk hL
 clear hL
 have hu26 := Tryd.underlying26
 have HR1 := Aside0.mk hr1
 have HC1 := Aside0.mk hc1
 clear hr1 hc1
 have HB := Aside0.mk (Below.refl w.heap.size w)
 have H : ((redpenlaw20_Awake.f).bind fun t156 => (if t156 = true then (if (a0.size : Int) > 100 then (some true) else (redpenlaw20_ShowPrints.l0 k a0 a2 ([] : List (S26)) l1 (l1.length : Int) 0)) else (some false))) = some r := h
 clear h
 replace H := Option.bind_eq_some_iff.mp H
 obtain ⟨t156, A40, H⟩ := H
 replace H : (if t156 = true then (if (a0.size : Int) > 100 then (some true) else (redpenlaw20_ShowPrints.l0 k a0 a2 ([] : List (S26)) l1 (l1.length : Int) 0)) else (some false)) = some r := H
 have A4 := Aside0.mk A40
 clear A40
 by_cases c5 : t156 = true
 ·subst c5
  have H1 : (if (a0.size : Int) > 100 then (some true) else (redpenlaw20_ShowPrints.l0 k a0 a2 ([] : List (S26)) l1 (l1.length : Int) 0)) = some r := by rw [if_pos rfl] at H; exact H
  clear H
  have H := H1
  clear H1
  by_cases c6 : (a0.size : Int) > 100
  ·rw [if_pos c6] at H
   have c6b0 : decide (100 < (a0.size : Int)) = true := decide_eq_true c6
   have c6b1 : decide (100 < a0.size) = true := decide_eq_true (by omega)
   clear c6
   obtain rfl := Option.some.inj H
   go_enter Tryd.func5, Tryd.ntmps5
   go_wp2_with (first | ((with_reducible refine gate_callee (f := 12) rfl ?_); refine goesL_ (some 14) rfl rfl Tryd.func12 (by kernel_rfl) rfl #[] rfl (by (try simp only [List.map_toArray, List.map_cons, List.map_nil]); first | done | rfl | (simp only [List.length_drop, List.length_take]; rfl)) ?_; (with_reducible refine (redpenlaw20_Awake.calls  true _ A4.out ?sideL).mono ?_); (case sideL => first | exact HL.out | exact HL.out.below HB.out | exact HL.out.below (by repeat (first | (with_reducible first | exact HB.out | apply below_alloc | apply pw_below_drewN | apply below_drew1 | refine below_set ?_ (Aside0.out (by assumption))) | exact HB.out))); rintro e w7 ⟨rfl, hb⟩; refine ⟨_, rfl, ?_⟩; have n0_ := Aside0.mk (below_step (by repeat (first | (with_reducible first | exact HB.out | apply below_alloc | apply pw_below_drewN | apply below_drew1) | exact HB.out)) hb); clear HB; have HB := n0_; clear n0_; (try clear hb); (try clear hb2); (try clear hk); (try clear hi)))
   go_ret
   exact ⟨by first | rfl | (simp [errW_none, errW_some] <;> rfl) | (simp [*, errW_none, errW_some] <;> rfl), by repeat (first | (with_reducible first | exact HB.out | apply below_alloc | apply pw_below_drewN | apply below_drew1) | exact HB.out)⟩
  ·rw [if_neg c6] at H
   have c6b0 : decide (100 < (a0.size : Int)) = false := decide_eq_false c6
   have c6b1 : decide (100 < a0.size) = false := decide_eq_false (by omega)
   clear c6
   have H' := Aside0.mk H
   clear H
   go_enter Tryd.func5, Tryd.ntmps5
   go_wp2_with (first | ((with_reducible refine gate_callee (f := 12) rfl ?_); refine goesL_ (some 14) rfl rfl Tryd.func12 (by kernel_rfl) rfl #[] rfl (by (try simp only [List.map_toArray, List.map_cons, List.map_nil]); first | done | rfl | (simp only [List.length_drop, List.length_take]; rfl)) ?_; (with_reducible refine (redpenlaw20_Awake.calls  true _ A4.out ?sideL).mono ?_); (case sideL => first | exact HL.out | exact HL.out.below HB.out | exact HL.out.below (by repeat (first | (with_reducible first | exact HB.out | apply below_alloc | apply pw_below_drewN | apply below_drew1 | refine below_set ?_ (Aside0.out (by assumption))) | exact HB.out))); rintro e w8 ⟨rfl, hb⟩; refine ⟨_, rfl, ?_⟩; have n0_ := Aside0.mk (below_step (by repeat (first | (with_reducible first | exact HB.out | apply below_alloc | apply pw_below_drewN | apply below_drew1) | exact HB.out)) hb); clear HB; have HB := n0_; clear n0_; (try clear hb); (try clear hb2); (try clear hk); (try clear hi)))
   go_loopg [7, 21] k (fun kq v7 v21 w' => ∃ (x7_1 : List (S26)) (x21_1 : Int), v21 = .int .i64 x21_1 ∧ Aside0 (redpenlaw20_ShowPrints.l0 kq a0 a2 x7_1 l1 (l1.length : Int) x21_1 = some r) ∧ Aside0 (kq ≤ k) ∧ Aside0 (Kd.S k26 26 w' w.heap.size (fun _ => True) v7 x7_1) ∧ Aside0 (Below w.heap.size w w'))
   case atStart => exact ⟨(([] : List (S26))), (0), (by first | rfl | (simp; done) | (simp [*]; done) | (simp [wrap64, wrap32]; done)), H', ⟨Nat.le_refl _⟩, ⟨by first | exact Kd.S_nil _ _ _ _ _ | exact Kd.N_nil _ _ _ _ _ | exact Kd.V_nil _ _ _ _ _ | exact Kd.Q_nil _ _ _ _ _ | exact Kd.R_nil _ _ _ _ _⟩, ⟨by repeat (first | (with_reducible first | exact HB.out | apply below_alloc | apply pw_below_drewN | apply below_drew1) | exact HB.out)⟩⟩
   case round =>
    clear H'
    try clear c1
    try clear p2
    try clear c5
    try clear c6
    try clear c6b0
    try clear c6b1
    obtain ⟨x7_1, x21_1, rfl, HA, HK1, HO_7, HB⟩ := hrel
    cases gk with
    | zero => exact absurd HA.out (by simp [redpenlaw20_ShowPrints.l0])
    | succ k1 =>
     have H := HA.out
     clear HA
     simp only [redpenlaw20_ShowPrints.l0] at H
     by_cases c9 : x21_1 < (l1.length : Int)
     ·rw [if_pos c9] at H
      have c9b0 : decide (x21_1 < (l1.length : Int)) = true := decide_eq_true c9
      clear c9
      by_cases c10 : 0 ≤ x21_1
      ·rw [if_pos c10] at H
       have c10b0 : decide (0 ≤ x21_1) = true := decide_eq_true c10
       clear c10
       by_cases c11 : x21_1 < (l1.length : Int)
       ·rw [if_pos c11] at H
        have c11b0 : decide (x21_1 < (l1.length : Int)) = true := decide_eq_true c11
        clear c11
        by_cases c12 : x21_1 < 5
        ·rw [if_pos c12] at H
         have c12b0 : decide (x21_1 < 5) = true := decide_eq_true c12
         clear c12
         by_cases c13 : (((rd_T26 l1 x21_1).f4).length : Int) < 100
         ·rw [if_pos c13] at H
          have c13b0 : decide ((((rd_T26 l1 x21_1).f4).length : Int) < 100) = true := decide_eq_true c13
          have c13b1 : decide (((rd_T26 l1 x21_1).f4).length < 100) = true := decide_eq_true (by omega)
          clear c13
          replace H := Option.bind_eq_some_iff.mp H
          obtain ⟨⟨t159, t160, t161, t162, t163⟩, A140, H⟩ := H
          replace H : (if x7_1.length < 2513169434916 then (redpenlaw20_ShowPrints.l0 k1 a0 a2 (x7_1 ++ [(⟨t159, t160, t161, t162, t163⟩ : S26)]) l1 (l1.length : Int) (wrap64 (x21_1 + 1))) else (none)) = some r := H
          have A14 := Aside0.mk A140
          clear A140
          by_cases c15 : x7_1.length < 2513169434916
          ·rw [if_pos c15] at H
           have LMc15 := Aside0.mk c15
           clear c15
           obtain ⟨y166, hy166⟩ : ∃ y_ : List (S26), y_ = (x7_1 ++ [(⟨t159, t160, t161, t162, t163⟩ : S26)]) := ⟨_, rfl⟩
           replace H : (redpenlaw20_ShowPrints.l0 k1 a0 a2 y166 l1 (l1.length : Int) (wrap64 (x21_1 + 1))) = some r := by first | (rw [hy166]; with_reducible exact H) | (have H2_ := (Option.bind_some _ _).symm.trans H; rw [hy166]; with_reducible exact H2_) | (have H2_ := (Option.bind_some _ _).symm.trans H; with_reducible exact H2_) | with_reducible exact H | (rw [hy166]; exact H) | exact H
           have Ny166 := Aside0.mk hy166
           clear hy166
           have H' := Aside0.mk H
           clear H
           have p157 : 0 ≤ (x21_1 : Int) := of_decide_eq_true (by first | (with_reducible assumption) | assumption)
           have q157 : x21_1 < (l1.length : Int) := of_decide_eq_true (by first | (with_reducible assumption) | assumption)
           obtain ⟨ad157, A157_4, c157_4, e157, hx157_0, hx157_1, hx157_2, hx157_3, hx157_4, hl157_4, hi157_4⟩ := at_T26 HR1.out x21_1 p157 q157
           cases e157
           replace hx157_0 := (HB.out.cell (World.block_lt_of_cell? w _ hx157_0)).trans hx157_0
           replace hx157_1 := (HB.out.cell (World.block_lt_of_cell? w _ hx157_1)).trans hx157_1
           replace hx157_2 := (HB.out.cell (World.block_lt_of_cell? w _ hx157_2)).trans hx157_2
           replace hx157_3 := (HB.out.cell (World.block_lt_of_cell? w _ hx157_3)).trans hx157_3
           replace hx157_4 := (HB.out.cell (World.block_lt_of_cell? w _ hx157_4)).trans hx157_4
           have HR157_4 := Aside0.mk hi157_4
           have HC157_4 := Aside0.mk hl157_4
           clear hi157_4 hl157_4
           replace p157 := eq_true p157
           replace q157 := eq_true q157
           go_wp2_with (first | ((with_reducible refine gate_dst (N := 9) rfl ?_); (try (refine gate_guard (by rfl) ?_; dsimp only)); refine box_event ?hg (N := 9) ?hd (cs := #[.int .i64 0, .int .i64 0, .int .i64 0, .int .i64 0, .slice none 0 0]) (t := 26) ?hr ?_; (case hd => rfl); (case hg => rfl); (case hr => first | (go_simp; done) | (go_simp; rfl)); intro gb158 hg w16 hbox hb; have n0_ := Aside0.mk (Kd.S_below (Kd.S_elderB (by (with_reducible repeat (first | apply Kd.S_alloc | apply Kd.S_drewN | apply Kd.S_drew)); exact HO_7.out) gb158 (Nat.le_of_eq hg.symm)) hb); have n1_ := Aside0.mk (below_step (by repeat (first | (with_reducible first | exact HB.out | apply below_alloc | apply pw_below_drewN | apply below_drew1) | exact HB.out)) hb); have n2_ := Aside0.mk (hbox); have n3_ := Aside0.mk ((by rw [hg]; exact (below_size (by repeat (first | (with_reducible first | exact HB.out | apply below_alloc | apply pw_below_drewN | apply below_drew1) | exact HB.out))) : w.heap.size ≤ gb158)); have n4_ := Aside0.mk ((by rw [hg]; exact (below_size (by repeat (first | (with_reducible first | exact HB.out | apply below_alloc | apply pw_below_drewN | apply below_drew1) | exact HB.out))) : w.heap.size ≤ gb158)); clear HO_7; clear HB; have HO_7 := n0_; have HB := n1_; have BK158 := n2_; have GW158 := n3_; have GE158 := n4_; clear n0_ n1_ n2_ n3_ n4_; clear hb hbox hg; have hcz17_0 : w16.cell? ⟨gb158, 0, none⟩ = some (.int .i64 0) := (blk_cell BK158.out 0).trans rfl; have hcz17_1 : w16.cell? ⟨gb158, 1, none⟩ = some (.int .i64 0) := (blk_cell BK158.out 1).trans rfl; have hcz17_2 : w16.cell? ⟨gb158, 2, none⟩ = some (.int .i64 0) := (blk_cell BK158.out 2).trans rfl; have hcz17_3 : w16.cell? ⟨gb158, 3, none⟩ = some (.int .i64 0) := (blk_cell BK158.out 3).trans rfl; have hcz17_4 : w16.cell? ⟨gb158, 4, none⟩ = some (.slice none 0 0) := (blk_cell BK158.out 4).trans rfl; have hfz17_0 := blk_frozen BK158.out 0; have hfz17_1 := blk_frozen BK158.out 1; have hfz17_2 := blk_frozen BK158.out 2; have hfz17_3 := blk_frozen BK158.out 3; have hfz17_4 := blk_frozen BK158.out 4) | ((with_reducible refine gate_callee (f := 15) rfl ?_); refine goesL_ (some 37) rfl rfl Tryd.func15 (by kernel_rfl) rfl #[.agg #[.int .i64 ((rd_T26 l1 x21_1).f0), .int .i64 ((rd_T26 l1 x21_1).f1), .int .i64 ((rd_T26 l1 x21_1).f2), .int .i64 ((rd_T26 l1 x21_1).f3), .slice A157_4 ((rd_T26 l1 x21_1).f4).length c157_4], .bool a2] rfl (by (try simp only [List.map_toArray, List.map_cons, List.map_nil]); first | done | rfl | (simp only [List.length_drop, List.length_take]; rfl)) ?_; (with_reducible refine (redpenlaw20_Tidied.calls k1 ((rd_T26 l1 x21_1).f0) ((rd_T26 l1 x21_1).f1) ((rd_T26 l1 x21_1).f2) ((rd_T26 l1 x21_1).f3) _ _ ((rd_T26 l1 x21_1).f4) a2 t159 t160 t161 t162 t163 _ ?side1 ?side2 A14.out).mono ?_); (case side1 => exact Kd.C_below HR157_4.out (by repeat (first | (with_reducible first | exact HB.out | apply below_alloc | apply pw_below_drewN | apply below_drew1 | refine below_set ?_ GE158.out) | exact HB.out))); (case side2 => exact HC157_4.out); rintro e w18 ⟨v164, rfl, ho0, hb⟩; refine ⟨_, rfl, ?_⟩; have n0_ := Aside0.mk (Kd.S_elder' (by (with_reducible repeat (first | apply Kd.S_alloc | apply Kd.S_drewN | apply Kd.S_drew)); exact (Kd.S_mono (Kd.S_far (p := ⟨gb158, 4, none⟩) (Kd.S_far (p := ⟨gb158, 3, none⟩) (Kd.S_far (p := ⟨gb158, 2, none⟩) (Kd.S_far (p := ⟨gb158, 1, none⟩) (Kd.S_far (p := ⟨gb158, 0, none⟩) (Kd.S_mono HO_7.out (fun k_ hk => (⟨hk, hk.2⟩ : _ ∧ k_ ≠ gb158))) (fun _ hk => hk.2) (.int .i64 ((rd_T26 l1 x21_1).f0))) (fun _ hk => hk.2) (.int .i64 ((rd_T26 l1 x21_1).f1))) (fun _ hk => hk.2) (.int .i64 ((rd_T26 l1 x21_1).f2))) (fun _ hk => hk.2) (.int .i64 ((rd_T26 l1 x21_1).f3))) (fun _ hk => hk.2) (.slice A157_4 ((rd_T26 l1 x21_1).f4).length c157_4)) (fun _ h_ => h_.1))) (Kd.R_base ho0) hb); have n1_ := Aside0.mk (Kd.R_lower ho0 (below_size (by repeat (first | (with_reducible first | exact HB.out | apply below_alloc | apply pw_below_drewN | apply below_drew1 | refine below_set ?_ GE158.out) | exact HB.out)))); have n2_ := Aside0.mk (blk_below (g := gb158) (o := .cells #[.int .i64 ((rd_T26 l1 x21_1).f0), .int .i64 ((rd_T26 l1 x21_1).f1), .int .i64 ((rd_T26 l1 x21_1).f2), .int .i64 ((rd_T26 l1 x21_1).f3), .slice A157_4 ((rd_T26 l1 x21_1).f4).length c157_4] 26 (0, 0)) (by (with_reducible repeat (first | refine blk_drewN ?_ _ | refine blk_drew ?_ | refine blk_alloc ?_ _)); refine blk_put (cs := #[.int .i64 ((rd_T26 l1 x21_1).f0), .int .i64 ((rd_T26 l1 x21_1).f1), .int .i64 ((rd_T26 l1 x21_1).f2), .int .i64 ((rd_T26 l1 x21_1).f3), .slice none 0 0]) ?_ 4 _ rfl; (with_reducible repeat (first | refine blk_drewN ?_ _ | refine blk_drew ?_ | refine blk_alloc ?_ _)); refine blk_put (cs := #[.int .i64 ((rd_T26 l1 x21_1).f0), .int .i64 ((rd_T26 l1 x21_1).f1), .int .i64 ((rd_T26 l1 x21_1).f2), .int .i64 0, .slice none 0 0]) ?_ 3 _ rfl; (with_reducible repeat (first | refine blk_drewN ?_ _ | refine blk_drew ?_ | refine blk_alloc ?_ _)); refine blk_put (cs := #[.int .i64 ((rd_T26 l1 x21_1).f0), .int .i64 ((rd_T26 l1 x21_1).f1), .int .i64 0, .int .i64 0, .slice none 0 0]) ?_ 2 _ rfl; (with_reducible repeat (first | refine blk_drewN ?_ _ | refine blk_drew ?_ | refine blk_alloc ?_ _)); refine blk_put (cs := #[.int .i64 ((rd_T26 l1 x21_1).f0), .int .i64 0, .int .i64 0, .int .i64 0, .slice none 0 0]) ?_ 1 _ rfl; (with_reducible repeat (first | refine blk_drewN ?_ _ | refine blk_drew ?_ | refine blk_alloc ?_ _)); refine blk_put (cs := #[.int .i64 0, .int .i64 0, .int .i64 0, .int .i64 0, .slice none 0 0]) ?_ 0 _ rfl; (with_reducible repeat (first | refine blk_drewN ?_ _ | refine blk_drew ?_ | refine blk_alloc ?_ _)); exact BK158.out) hb); have n3_ := Aside0.mk (below_step (by repeat (first | (with_reducible first | exact HB.out | apply below_alloc | apply pw_below_drewN | apply below_drew1 | refine below_set ?_ GE158.out) | exact HB.out)) hb); clear HO_7; clear BK158; clear HB; have HO_7 := n0_; have HO165 := n1_; have BK158 := n2_; have HB := n3_; clear n0_ n1_ n2_ n3_; (try clear hb); (try clear hb2); (try clear hk); (try clear hi); (try clear ho0); obtain ⟨Ao20, co20, eo20⟩ := Kd.R_slice HO165.out; subst eo20) | ((with_reducible refine gate_builtin (b := .append) (xs := #[.tmp 34, .tmp 38]) rfl ?_); (try (refine gate_guard (by rfl) ?_; dsimp only)); at_builtin; refine Kd.S_append k26 (w0 := w) w.heap.size rfl (.tmp 34) (.tmp 38) 34 26 (.agg #[(.int .i64 0), (.int .i64 0), (.int .i64 0), (.int .i64 0), (.slice none 0 0)]) 56 rfl Tryd.underlying34 info26 rfl (by decide) (by omega) u7 x7_1 (⟨t159, t160, t161, t162, t163⟩ : S26) [.int .i64 t159, .int .i64 t160, .int .i64 t161, .int .i64 t162, .slice Ao20 t163.length co20] (fun k_ => k_ ≠ gb158) (fun k_ => some k_ = (.slice Ao20 t163.length co20 : Value).ownBlock) rfl rfl ?aP (fun k_ hk_ => ((Kd.R_mono (ok' := fun k_ => ((fun k_ => k_ ≠ gb158)) k_ ∧ some k_ ≠ (u7 : Value).ownBlock) (Kd.R_types (Kd.R_apart' (HO165.out) (Kd.S_typed HO_7.out) (by decide)) BK158.out (by decide)) (fun k_ hk => ⟨hk.2, hk.1.2⟩))).1 k_ hk_.symm) ?aF ?aO ?aB ?aS ?aL ?_; (case aP => exact k26_mkM _ _ _ (⟨t159, t160, t161, t162, t163⟩ : S26) (Kd.R_mono (Kd.R_tight rfl (Kd.R_mono (ok' := fun k_ => ((fun k_ => k_ ≠ gb158)) k_ ∧ some k_ ≠ (u7 : Value).ownBlock) (Kd.R_types (Kd.R_apart' (HO165.out) (Kd.S_typed HO_7.out) (by decide)) BK158.out (by decide)) (fun k_ hk => ⟨hk.2, hk.1.2⟩))) (fun _ h_ => h_))); (case aB => exact (by repeat (first | (with_reducible first | exact HB.out | apply below_alloc | apply pw_below_drewN | apply below_drew1 | refine below_set ?_ GE158.out) | exact HB.out))); (case aF => exact (fun k_ hk => Kd.freshB (g := gb158) (o := .cells #[.int .i64 ((rd_T26 l1 x21_1).f0), .int .i64 ((rd_T26 l1 x21_1).f1), .int .i64 ((rd_T26 l1 x21_1).f2), .int .i64 ((rd_T26 l1 x21_1).f3), .slice A157_4 ((rd_T26 l1 x21_1).f4).length c157_4] 26 (0, 0)) (by (with_reducible repeat (first | refine blk_drewN ?_ _ | refine blk_drew ?_ | refine blk_alloc ?_ _)); exact BK158.out) k_ hk)); (case aO => exact (by (with_reducible repeat (first | apply Kd.S_alloc | apply Kd.S_drewN | apply Kd.S_drew)); exact Kd.S_mono HO_7.out (fun k_ hk => ⟨hk.1.2, fun e_ => hk.2 e_⟩))); (case aS => exact (below_size (by repeat (first | (with_reducible first | exact HB.out | apply below_alloc | apply pw_below_drewN | apply below_drew1 | refine below_set ?_ GE158.out) | exact HB.out)))); (case aL => have := LMc15.out; omega); intro v167 w19 ho hb hg hat; rw [← Ny166.out] at ho; have n0_ := Aside0.mk (blk_grown (g := gb158) (o := .cells #[.int .i64 ((rd_T26 l1 x21_1).f0), .int .i64 ((rd_T26 l1 x21_1).f1), .int .i64 ((rd_T26 l1 x21_1).f2), .int .i64 ((rd_T26 l1 x21_1).f3), .slice A157_4 ((rd_T26 l1 x21_1).f4).length c157_4] 26 (0, 0)) (by (with_reducible repeat (first | refine blk_drewN ?_ _ | refine blk_drew ?_ | refine blk_alloc ?_ _)); exact BK158.out) hg (Kd.S_away HO_7.out (fun _ hk => hk.1.2))); have n1_ := Aside0.mk (hb); have n2_ := Aside0.mk (ho); clear BK158; clear HB; clear HO_7; clear HO165; have BK158 := n0_; have HB := n1_; have HO168 := n2_; clear n0_ n1_ n2_; clear ho hb hg hat))
           go_roundg k1
           case measure => have := HK1.out; omega
           case rel => exact ⟨(y166), (wrap64 (x21_1 + 1)), (by first | rfl | (simp; done) | (simp [*]; done) | (simp [wrap64, wrap32]; done)), H', ⟨by have := HK1.out; omega⟩, ⟨by (with_reducible repeat (first | apply Kd.S_alloc | apply Kd.S_drewN | apply Kd.S_drew)); exact Kd.S_mono HO168.out (fun _ hk => trivial)⟩, ⟨by repeat (first | (with_reducible first | exact HB.out | apply below_alloc | apply pw_below_drewN | apply below_drew1 | refine below_set ?_ GE158.out) | exact HB.out)⟩⟩
          ·rw [if_neg c15] at H
           exact absurd H (by simp)
         ·rw [if_neg c13] at H
          have c13b0 : decide ((((rd_T26 l1 x21_1).f4).length : Int) < 100) = false := decide_eq_false c13
          have c13b1 : decide (((rd_T26 l1 x21_1).f4).length < 100) = false := decide_eq_false (by omega)
          clear c13
          have H' := Aside0.mk H
          clear H
          have p157 : 0 ≤ (x21_1 : Int) := of_decide_eq_true (by first | (with_reducible assumption) | assumption)
          have q157 : x21_1 < (l1.length : Int) := of_decide_eq_true (by first | (with_reducible assumption) | assumption)
          obtain ⟨ad157, A157_4, c157_4, e157, hx157_0, hx157_1, hx157_2, hx157_3, hx157_4, hl157_4, hi157_4⟩ := at_T26 HR1.out x21_1 p157 q157
          cases e157
          replace hx157_0 := (HB.out.cell (World.block_lt_of_cell? w _ hx157_0)).trans hx157_0
          replace hx157_1 := (HB.out.cell (World.block_lt_of_cell? w _ hx157_1)).trans hx157_1
          replace hx157_2 := (HB.out.cell (World.block_lt_of_cell? w _ hx157_2)).trans hx157_2
          replace hx157_3 := (HB.out.cell (World.block_lt_of_cell? w _ hx157_3)).trans hx157_3
          replace hx157_4 := (HB.out.cell (World.block_lt_of_cell? w _ hx157_4)).trans hx157_4
          have HR157_4 := Aside0.mk hi157_4
          have HC157_4 := Aside0.mk hl157_4
          clear hi157_4 hl157_4
          replace p157 := eq_true p157
          replace q157 := eq_true q157
          go_wp2_with (first | ((with_reducible refine gate_dst (N := 9) rfl ?_); (try (refine gate_guard (by rfl) ?_; dsimp only)); refine box_event ?hg (N := 9) ?hd (cs := #[.int .i64 0, .int .i64 0, .int .i64 0, .int .i64 0, .slice none 0 0]) (t := 26) ?hr ?_; (case hd => rfl); (case hg => rfl); (case hr => first | (go_simp; done) | (go_simp; rfl)); intro gb158 hg w21 hbox hb; have n0_ := Aside0.mk (Kd.S_below (Kd.S_elderB (by (with_reducible repeat (first | apply Kd.S_alloc | apply Kd.S_drewN | apply Kd.S_drew)); exact HO_7.out) gb158 (Nat.le_of_eq hg.symm)) hb); have n1_ := Aside0.mk (below_step (by repeat (first | (with_reducible first | exact HB.out | apply below_alloc | apply pw_below_drewN | apply below_drew1) | exact HB.out)) hb); have n2_ := Aside0.mk (hbox); have n3_ := Aside0.mk ((by rw [hg]; exact (below_size (by repeat (first | (with_reducible first | exact HB.out | apply below_alloc | apply pw_below_drewN | apply below_drew1) | exact HB.out))) : w.heap.size ≤ gb158)); have n4_ := Aside0.mk ((by rw [hg]; exact (below_size (by repeat (first | (with_reducible first | exact HB.out | apply below_alloc | apply pw_below_drewN | apply below_drew1) | exact HB.out))) : w.heap.size ≤ gb158)); clear HO_7; clear HB; have HO_7 := n0_; have HB := n1_; have BK158 := n2_; have GW158 := n3_; have GE158 := n4_; clear n0_ n1_ n2_ n3_ n4_; clear hb hbox hg; have hcz22_0 : w21.cell? ⟨gb158, 0, none⟩ = some (.int .i64 0) := (blk_cell BK158.out 0).trans rfl; have hcz22_1 : w21.cell? ⟨gb158, 1, none⟩ = some (.int .i64 0) := (blk_cell BK158.out 1).trans rfl; have hcz22_2 : w21.cell? ⟨gb158, 2, none⟩ = some (.int .i64 0) := (blk_cell BK158.out 2).trans rfl; have hcz22_3 : w21.cell? ⟨gb158, 3, none⟩ = some (.int .i64 0) := (blk_cell BK158.out 3).trans rfl; have hcz22_4 : w21.cell? ⟨gb158, 4, none⟩ = some (.slice none 0 0) := (blk_cell BK158.out 4).trans rfl; have hfz22_0 := blk_frozen BK158.out 0; have hfz22_1 := blk_frozen BK158.out 1; have hfz22_2 := blk_frozen BK158.out 2; have hfz22_3 := blk_frozen BK158.out 3; have hfz22_4 := blk_frozen BK158.out 4))
          go_roundg k1
          case measure => have := HK1.out; omega
          case rel => exact ⟨(x7_1), (wrap64 (x21_1 + 1)), (by first | rfl | (simp; done) | (simp [*]; done) | (simp [wrap64, wrap32]; done)), H', ⟨by have := HK1.out; omega⟩, ⟨by (with_reducible repeat (first | apply Kd.S_alloc | apply Kd.S_drewN | apply Kd.S_drew)); exact Kd.S_mono (Kd.S_far (p := ⟨gb158, 4, none⟩) (Kd.S_far (p := ⟨gb158, 3, none⟩) (Kd.S_far (p := ⟨gb158, 2, none⟩) (Kd.S_far (p := ⟨gb158, 1, none⟩) (Kd.S_far (p := ⟨gb158, 0, none⟩) (Kd.S_mono HO_7.out (fun k_ hk => (⟨hk, hk.2⟩ : _ ∧ k_ ≠ gb158))) (fun _ hk => hk.2) (.int .i64 ((rd_T26 l1 x21_1).f0))) (fun _ hk => hk.2) (.int .i64 ((rd_T26 l1 x21_1).f1))) (fun _ hk => hk.2) (.int .i64 ((rd_T26 l1 x21_1).f2))) (fun _ hk => hk.2) (.int .i64 ((rd_T26 l1 x21_1).f3))) (fun _ hk => hk.2) (.slice A157_4 ((rd_T26 l1 x21_1).f4).length c157_4)) (fun _ hk => trivial)⟩, ⟨by repeat (first | (with_reducible first | exact HB.out | apply below_alloc | apply pw_below_drewN | apply below_drew1 | refine below_set ?_ GE158.out) | exact HB.out)⟩⟩
        ·rw [if_neg c12] at H
         have c12b0 : decide (x21_1 < 5) = false := decide_eq_false c12
         clear c12
         have H' := Aside0.mk H
         clear H
         have p157 : 0 ≤ (x21_1 : Int) := of_decide_eq_true (by first | (with_reducible assumption) | assumption)
         have q157 : x21_1 < (l1.length : Int) := of_decide_eq_true (by first | (with_reducible assumption) | assumption)
         obtain ⟨ad157, A157_4, c157_4, e157, hx157_0, hx157_1, hx157_2, hx157_3, hx157_4, hl157_4, hi157_4⟩ := at_T26 HR1.out x21_1 p157 q157
         cases e157
         replace hx157_0 := (HB.out.cell (World.block_lt_of_cell? w _ hx157_0)).trans hx157_0
         replace hx157_1 := (HB.out.cell (World.block_lt_of_cell? w _ hx157_1)).trans hx157_1
         replace hx157_2 := (HB.out.cell (World.block_lt_of_cell? w _ hx157_2)).trans hx157_2
         replace hx157_3 := (HB.out.cell (World.block_lt_of_cell? w _ hx157_3)).trans hx157_3
         replace hx157_4 := (HB.out.cell (World.block_lt_of_cell? w _ hx157_4)).trans hx157_4
         have HR157_4 := Aside0.mk hi157_4
         have HC157_4 := Aside0.mk hl157_4
         clear hi157_4 hl157_4
         replace p157 := eq_true p157
         replace q157 := eq_true q157
         go_wp2_with (first | ((with_reducible refine gate_dst (N := 9) rfl ?_); (try (refine gate_guard (by rfl) ?_; dsimp only)); refine box_event ?hg (N := 9) ?hd (cs := #[.int .i64 0, .int .i64 0, .int .i64 0, .int .i64 0, .slice none 0 0]) (t := 26) ?hr ?_; (case hd => rfl); (case hg => rfl); (case hr => first | (go_simp; done) | (go_simp; rfl)); intro gb158 hg w23 hbox hb; have n0_ := Aside0.mk (Kd.S_below (Kd.S_elderB (by (with_reducible repeat (first | apply Kd.S_alloc | apply Kd.S_drewN | apply Kd.S_drew)); exact HO_7.out) gb158 (Nat.le_of_eq hg.symm)) hb); have n1_ := Aside0.mk (below_step (by repeat (first | (with_reducible first | exact HB.out | apply below_alloc | apply pw_below_drewN | apply below_drew1) | exact HB.out)) hb); have n2_ := Aside0.mk (hbox); have n3_ := Aside0.mk ((by rw [hg]; exact (below_size (by repeat (first | (with_reducible first | exact HB.out | apply below_alloc | apply pw_below_drewN | apply below_drew1) | exact HB.out))) : w.heap.size ≤ gb158)); have n4_ := Aside0.mk ((by rw [hg]; exact (below_size (by repeat (first | (with_reducible first | exact HB.out | apply below_alloc | apply pw_below_drewN | apply below_drew1) | exact HB.out))) : w.heap.size ≤ gb158)); clear HO_7; clear HB; have HO_7 := n0_; have HB := n1_; have BK158 := n2_; have GW158 := n3_; have GE158 := n4_; clear n0_ n1_ n2_ n3_ n4_; clear hb hbox hg; have hcz24_0 : w23.cell? ⟨gb158, 0, none⟩ = some (.int .i64 0) := (blk_cell BK158.out 0).trans rfl; have hcz24_1 : w23.cell? ⟨gb158, 1, none⟩ = some (.int .i64 0) := (blk_cell BK158.out 1).trans rfl; have hcz24_2 : w23.cell? ⟨gb158, 2, none⟩ = some (.int .i64 0) := (blk_cell BK158.out 2).trans rfl; have hcz24_3 : w23.cell? ⟨gb158, 3, none⟩ = some (.int .i64 0) := (blk_cell BK158.out 3).trans rfl; have hcz24_4 : w23.cell? ⟨gb158, 4, none⟩ = some (.slice none 0 0) := (blk_cell BK158.out 4).trans rfl; have hfz24_0 := blk_frozen BK158.out 0; have hfz24_1 := blk_frozen BK158.out 1; have hfz24_2 := blk_frozen BK158.out 2; have hfz24_3 := blk_frozen BK158.out 3; have hfz24_4 := blk_frozen BK158.out 4))
         go_roundg k1
         case measure => have := HK1.out; omega
         case rel => exact ⟨(x7_1), (wrap64 (x21_1 + 1)), (by first | rfl | (simp; done) | (simp [*]; done) | (simp [wrap64, wrap32]; done)), H', ⟨by have := HK1.out; omega⟩, ⟨by (with_reducible repeat (first | apply Kd.S_alloc | apply Kd.S_drewN | apply Kd.S_drew)); exact Kd.S_mono (Kd.S_far (p := ⟨gb158, 4, none⟩) (Kd.S_far (p := ⟨gb158, 3, none⟩) (Kd.S_far (p := ⟨gb158, 2, none⟩) (Kd.S_far (p := ⟨gb158, 1, none⟩) (Kd.S_far (p := ⟨gb158, 0, none⟩) (Kd.S_mono HO_7.out (fun k_ hk => (⟨hk, hk.2⟩ : _ ∧ k_ ≠ gb158))) (fun _ hk => hk.2) (.int .i64 ((rd_T26 l1 x21_1).f0))) (fun _ hk => hk.2) (.int .i64 ((rd_T26 l1 x21_1).f1))) (fun _ hk => hk.2) (.int .i64 ((rd_T26 l1 x21_1).f2))) (fun _ hk => hk.2) (.int .i64 ((rd_T26 l1 x21_1).f3))) (fun _ hk => hk.2) (.slice A157_4 ((rd_T26 l1 x21_1).f4).length c157_4)) (fun _ hk => trivial)⟩, ⟨by repeat (first | (with_reducible first | exact HB.out | apply below_alloc | apply pw_below_drewN | apply below_drew1 | refine below_set ?_ GE158.out) | exact HB.out)⟩⟩
       ·rw [if_neg c11] at H
        exact absurd H (by simp)
      ·rw [if_neg c10] at H
       exact absurd H (by simp)
     ·rw [if_neg c9] at H
      have c9b0 : decide (x21_1 < (l1.length : Int)) = false := decide_eq_false c9
      clear c9
      replace H := Option.bind_eq_some_iff.mp H
      obtain ⟨⟨t169, t170⟩, A250, H⟩ := H
      replace H : ((redpenref18_Print.f k1 a0 x7_1).bind fun bt171 => (if t170 = bt171.2 then (some (t169.toList == bt171.1.toList)) else (some false))) = some r := H
      have A25 := Aside0.mk A250
      clear A250
      replace H := Option.bind_eq_some_iff.mp H
      obtain ⟨⟨t171, t172⟩, A260, H⟩ := H
      replace H : (if t170 = t172 then (some (t169.toList == t171.toList)) else (some false)) = some r := H
      have A26 := Aside0.mk A260
      clear A260
      by_cases c27 : t170 = t172
      ·rw [if_pos c27] at H
       have c27b0 : (t170 == t172) = true := beq_iff_eq.mpr c27
       have c27b1 : (t170 != t172) = false := bne_eq_false_iff_eq.mpr c27
       clear c27
       obtain rfl := Option.some.inj H
       obtain ⟨Ao28, co28, eo28⟩ := Kd.S_slice HO_7.out
       subst eo28
       go_wp2_with (first | ((with_reducible refine gate_callee (f := 18) rfl ?_); refine goesL_ (some 44) rfl rfl Tryd.func18 (by kernel_rfl) rfl #[.string a0, .slice Ao28 x7_1.length co28] rfl (by (try simp only [List.map_toArray, List.map_cons, List.map_nil]); first | done | rfl | (simp only [List.length_drop, List.length_take]; rfl)) ?_; (with_reducible refine (show_Print.calls k1 a0 _ _ x7_1 t169 t170 _ ?side1 ?side2 A25.out ?sideL).mono ?_); (case sideL => first | exact HL.out | exact HL.out.below HB.out | exact HL.out.below (by repeat (first | (with_reducible first | exact HB.out | apply below_alloc | apply pw_below_drewN | apply below_drew1 | refine below_set ?_ (Aside0.out (by assumption))) | exact HB.out))); (case side1 => repeat (first | exact (Kd.S_reads' HO_7.out).2.2 | (with_reducible refine Kd.C_alloc ?_ _) | (with_reducible refine Kd.C_drewN ?_ _) | (with_reducible refine Kd.C_drew ?_))); (case side2 => exact (Kd.S_reads' HO_7.out).2.1); rintro e w29 ⟨rfl, hb⟩; refine ⟨_, rfl, ?_⟩; have n0_ := Aside0.mk (Kd.S_below (by (with_reducible repeat (first | apply Kd.S_alloc | apply Kd.S_drewN | apply Kd.S_drew)); exact HO_7.out) hb); have n1_ := Aside0.mk (below_step (by repeat (first | (with_reducible first | exact HB.out | apply below_alloc | apply pw_below_drewN | apply below_drew1) | exact HB.out)) hb); clear HO_7; clear HB; have HO_7 := n0_; have HB := n1_; clear n0_ n1_; (try clear hb); (try clear hb2); (try clear hk); (try clear hi)) | ((with_reducible refine gate_callee (f := 19) rfl ?_); refine goesL_ (some 50) rfl rfl Tryd.func19 (by kernel_rfl) rfl #[.string a0, .slice Ao28 x7_1.length co28] rfl (by (try simp only [List.map_toArray, List.map_cons, List.map_nil]); first | done | rfl | (simp only [List.length_drop, List.length_take]; rfl)) ?_; (with_reducible refine (redpenref18_Print.calls k1 a0 _ _ x7_1 t171 t172 _ ?side1 ?side2 A26.out).mono ?_); (case side1 => repeat (first | exact (Kd.S_reads' HO_7.out).2.2 | (with_reducible refine Kd.C_alloc ?_ _) | (with_reducible refine Kd.C_drewN ?_ _) | (with_reducible refine Kd.C_drew ?_))); (case side2 => exact (Kd.S_reads' HO_7.out).2.1); rintro e w30 ⟨rfl, hb⟩; refine ⟨_, rfl, ?_⟩; have n0_ := Aside0.mk (Kd.S_below (by (with_reducible repeat (first | apply Kd.S_alloc | apply Kd.S_drewN | apply Kd.S_drew)); exact HO_7.out) hb); have n1_ := Aside0.mk (below_step (by repeat (first | (with_reducible first | exact HB.out | apply below_alloc | apply pw_below_drewN | apply below_drew1) | exact HB.out)) hb); clear HO_7; clear HB; have HO_7 := n0_; have HB := n1_; clear n0_ n1_; (try clear hb); (try clear hb2); (try clear hk); (try clear hi)))
       go_ret
       exact ⟨by first | rfl | (simp [errW_none, errW_some] <;> rfl) | (simp [*, errW_none, errW_some] <;> rfl), by repeat (first | (with_reducible first | exact HB.out | apply below_alloc | apply pw_below_drewN | apply below_drew1) | exact HB.out)⟩
      ·rw [if_neg c27] at H
       have c27b0 : (t170 == t172) = false := beq_eq_false_iff_ne.mpr c27
       have c27b1 : (t170 != t172) = true := bne_iff_ne.mpr c27
       have hf_ := Option.some.inj H
       rw [hr_] at hf_
       cases hf_
 ·replace c5 := Bool.eq_false_iff.mpr c5
  subst c5
  have H1 : (some false) = some r := by rw [if_neg (show ¬ (false = true) by decide)] at H; exact H
  clear H
  have H := H1
  clear H1
  have hf_ := Option.some.inj H
  rw [hr_] at hf_
  cases hf_

end Go.Proofs.YtjabpbnlpljlkaaDoor.PShowPrints
