-- Laid by a program of ours (the kit's print with words and contracts of our own beside it).
import Derived.Test.YtjabpbnlpljlkaaDoorPShowNamesx0
namespace Go.Proofs.YtjabpbnlpljlkaaDoor.PShowNames
open Go.RowKit Go.Proofs.YtjabpbnlpljlkaaDoor.X Go.Proofs.YtjabpbnlpljlkaaDoorW.PrintWords Go.Proofs.YtjabpbnlpljlkaaDoorW.PrintLast Go.Proofs.YtjabpbnlpljlkaaDoorW.PrintMore
attribute [local go_sem] max2_int min2_int max_two min_two max_three min_three max_four min_four   -- for this text's walks alone
set_option linter.unusedVariables false
set_option linter.unusedSimpArgs false

/-! ### strconv_Itoa: function 76 -/
def strconv_Itoa.f (a0 : Int) : Option (ByteArray) := Go.Proofs.YtjabpbnlpljlkaaDoor.H.itoaF a0
theorem strconv_Itoa.calls (a0 : Int) (r : ByteArray) (w : World) (h : strconv_Itoa.f a0 = some r) :
    Calls Tryd.prog 76 #[.int .i64 a0] w fun e w' => e = .returned (.string r) ∧ Drawn0 w w' :=
  Go.Proofs.YtjabpbnlpljlkaaDoor.H.itoa_at a0 r w h

/-! ### show_side: function 54 -/
def show_side.f (a0 : ByteArray) (a1 : Int) (a2 : Int) : Option (ByteArray) := if a2 > 0 then ((strconv_Itoa.f (wrap64 (a1 + 1))).bind fun t101 => (if a0.size + t101.size ≤ 9223372036854775807 then (if (a0 ++ t101).size + 1 ≤ 9223372036854775807 then ((strconv_Itoa.f a2).bind fun t102 => (if ((a0 ++ t101) ++ (⟨#[44]⟩ : ByteArray)).size + t102.size ≤ 9223372036854775807 then (some (((a0 ++ t101) ++ (⟨#[44]⟩ : ByteArray)) ++ t102)) else (none))) else (none)) else (none))) else ((strconv_Itoa.f a1).bind fun t103 => (if a0.size + t103.size ≤ 9223372036854775807 then (if (a0 ++ t103).size + 1 ≤ 9223372036854775807 then ((strconv_Itoa.f a2).bind fun t104 => (if ((a0 ++ t103) ++ (⟨#[44]⟩ : ByteArray)).size + t104.size ≤ 9223372036854775807 then (some (((a0 ++ t103) ++ (⟨#[44]⟩ : ByteArray)) ++ t104)) else (none))) else (none)) else (none)))
set_option maxHeartbeats 8000000 in
set_option maxRecDepth 100000 in
theorem show_side.calls (a0 : ByteArray) (a1 : Int) (a2 : Int) (r : ByteArray) (w : World) (h : show_side.f a0 a1 a2 = some r) :
  Calls Tryd.prog 54 #[.string a0, .int .i64 a1, .int .i64 a2] w fun e w' => e = .returned (.string r) ∧ Drawn0 w w' := by
 have H : (if a2 > 0 then ((strconv_Itoa.f (wrap64 (a1 + 1))).bind fun t101 => (if a0.size + t101.size ≤ 9223372036854775807 then (if (a0 ++ t101).size + 1 ≤ 9223372036854775807 then ((strconv_Itoa.f a2).bind fun t102 => (if ((a0 ++ t101) ++ (⟨#[44]⟩ : ByteArray)).size + t102.size ≤ 9223372036854775807 then (some (((a0 ++ t101) ++ (⟨#[44]⟩ : ByteArray)) ++ t102)) else (none))) else (none)) else (none))) else ((strconv_Itoa.f a1).bind fun t103 => (if a0.size + t103.size ≤ 9223372036854775807 then (if (a0 ++ t103).size + 1 ≤ 9223372036854775807 then ((strconv_Itoa.f a2).bind fun t104 => (if ((a0 ++ t103) ++ (⟨#[44]⟩ : ByteArray)).size + t104.size ≤ 9223372036854775807 then (some (((a0 ++ t103) ++ (⟨#[44]⟩ : ByteArray)) ++ t104)) else (none))) else (none)) else (none)))) = some r := h
 clear h
 by_cases c4 : a2 > 0
 ·rw [if_pos c4] at H
  have c4b0 : decide (0 < a2) = true := decide_eq_true c4
  clear c4
  replace H := Option.bind_eq_some_iff.mp H
  obtain ⟨t101, A50, H⟩ := H
  replace H : (if a0.size + t101.size ≤ 9223372036854775807 then (if (a0 ++ t101).size + 1 ≤ 9223372036854775807 then ((strconv_Itoa.f a2).bind fun t102 => (if ((a0 ++ t101) ++ (⟨#[44]⟩ : ByteArray)).size + t102.size ≤ 9223372036854775807 then (some (((a0 ++ t101) ++ (⟨#[44]⟩ : ByteArray)) ++ t102)) else (none))) else (none)) else (none)) = some r := H
  have A5 := Aside0.mk A50
  clear A50
  by_cases c6 : a0.size + t101.size ≤ 9223372036854775807
  ·rw [if_pos c6] at H
   have c6b0 := eq_true c6
   have c6b1 : decide (a0.size + t101.size ≤ 9223372036854775807) = true := decide_eq_true c6
   try have c6b2 : (9223372036854775807 < a0.size + t101.size) = False := eq_false (Nat.not_lt.2 c6)
   by_cases c7 : (a0 ++ t101).size + 1 ≤ 9223372036854775807
   ·rw [if_pos c7] at H
    have c7b0 := eq_true c7
    have c7b1 : decide ((a0 ++ t101).size + 1 ≤ 9223372036854775807) = true := decide_eq_true c7
    try have c7b2 : (9223372036854775807 < (a0 ++ t101).size + 1) = False := eq_false (Nat.not_lt.2 c7)
    try (have c7b4 := c7b2; simp only [ByteArray.size_append] at c7b4)
    replace H := Option.bind_eq_some_iff.mp H
    obtain ⟨t102, A80, H⟩ := H
    replace H : (if ((a0 ++ t101) ++ (⟨#[44]⟩ : ByteArray)).size + t102.size ≤ 9223372036854775807 then (some (((a0 ++ t101) ++ (⟨#[44]⟩ : ByteArray)) ++ t102)) else (none)) = some r := H
    have A8 := Aside0.mk A80
    clear A80
    by_cases c9 : ((a0 ++ t101) ++ (⟨#[44]⟩ : ByteArray)).size + t102.size ≤ 9223372036854775807
    ·rw [if_pos c9] at H
     have c9b0 := eq_true c9
     have c9b1 : decide (((a0 ++ t101) ++ (⟨#[44]⟩ : ByteArray)).size + t102.size ≤ 9223372036854775807) = true := decide_eq_true c9
     try have c9b2 : (9223372036854775807 < ((a0 ++ t101) ++ (⟨#[44]⟩ : ByteArray)).size + t102.size) = False := eq_false (Nat.not_lt.2 c9)
     try (have c9b4 := c9b2; simp only [ByteArray.size_append, show (⟨#[44]⟩ : ByteArray).size = 1 from rfl] at c9b4)
     obtain rfl := Option.some.inj H
     go_enter Tryd.func54, Tryd.ntmps54
     go_wp2_with (first | ((with_reducible refine gate_callee (f := 76) rfl ?_); refine goesL_ (some 13) rfl rfl Tryd.func76 (by kernel_rfl) rfl #[.int .i64 (wrap64 (a1 + 1))] rfl (by (try simp only [List.map_toArray, List.map_cons, List.map_nil]); first | done | rfl | (simp only [List.length_drop, List.length_take]; rfl)) ?_; (with_reducible refine (strconv_Itoa.calls (wrap64 (a1 + 1)) t101 _ A5.out).mono ?_); rintro e w' ⟨rfl, ⟨nd, rfl⟩⟩; refine ⟨_, rfl, ?_⟩) | ((with_reducible refine gate_callee (f := 76) rfl ?_); refine goesL_ (some 17) rfl rfl Tryd.func76 (by kernel_rfl) rfl #[.int .i64 a2] rfl (by (try simp only [List.map_toArray, List.map_cons, List.map_nil]); first | done | rfl | (simp only [List.length_drop, List.length_take]; rfl)) ?_; (with_reducible refine (strconv_Itoa.calls a2 t102 _ A8.out).mono ?_); rintro e w' ⟨rfl, ⟨nd, rfl⟩⟩; refine ⟨_, rfl, ?_⟩))
     go_ret
     exact ⟨by first | rfl | (simp; done) | (simp [*]; done), by repeat (first | exact Drawn0.refl _ | apply Drawn0.step)⟩
    ·rw [if_neg c9] at H
     exact absurd H (by simp)
   ·rw [if_neg c7] at H
    exact absurd H (by simp)
  ·rw [if_neg c6] at H
   exact absurd H (by simp)
 ·rw [if_neg c4] at H
  have c4b0 : decide (0 < a2) = false := decide_eq_false c4
  clear c4
  replace H := Option.bind_eq_some_iff.mp H
  obtain ⟨t103, A100, H⟩ := H
  replace H : (if a0.size + t103.size ≤ 9223372036854775807 then (if (a0 ++ t103).size + 1 ≤ 9223372036854775807 then ((strconv_Itoa.f a2).bind fun t104 => (if ((a0 ++ t103) ++ (⟨#[44]⟩ : ByteArray)).size + t104.size ≤ 9223372036854775807 then (some (((a0 ++ t103) ++ (⟨#[44]⟩ : ByteArray)) ++ t104)) else (none))) else (none)) else (none)) = some r := H
  have A10 := Aside0.mk A100
  clear A100
  by_cases c11 : a0.size + t103.size ≤ 9223372036854775807
  ·rw [if_pos c11] at H
   have c11b0 := eq_true c11
   have c11b1 : decide (a0.size + t103.size ≤ 9223372036854775807) = true := decide_eq_true c11
   try have c11b2 : (9223372036854775807 < a0.size + t103.size) = False := eq_false (Nat.not_lt.2 c11)
   by_cases c12 : (a0 ++ t103).size + 1 ≤ 9223372036854775807
   ·rw [if_pos c12] at H
    have c12b0 := eq_true c12
    have c12b1 : decide ((a0 ++ t103).size + 1 ≤ 9223372036854775807) = true := decide_eq_true c12
    try have c12b2 : (9223372036854775807 < (a0 ++ t103).size + 1) = False := eq_false (Nat.not_lt.2 c12)
    try (have c12b4 := c12b2; simp only [ByteArray.size_append] at c12b4)
    replace H := Option.bind_eq_some_iff.mp H
    obtain ⟨t104, A130, H⟩ := H
    replace H : (if ((a0 ++ t103) ++ (⟨#[44]⟩ : ByteArray)).size + t104.size ≤ 9223372036854775807 then (some (((a0 ++ t103) ++ (⟨#[44]⟩ : ByteArray)) ++ t104)) else (none)) = some r := H
    have A13 := Aside0.mk A130
    clear A130
    by_cases c14 : ((a0 ++ t103) ++ (⟨#[44]⟩ : ByteArray)).size + t104.size ≤ 9223372036854775807
    ·rw [if_pos c14] at H
     have c14b0 := eq_true c14
     have c14b1 : decide (((a0 ++ t103) ++ (⟨#[44]⟩ : ByteArray)).size + t104.size ≤ 9223372036854775807) = true := decide_eq_true c14
     try have c14b2 : (9223372036854775807 < ((a0 ++ t103) ++ (⟨#[44]⟩ : ByteArray)).size + t104.size) = False := eq_false (Nat.not_lt.2 c14)
     try (have c14b4 := c14b2; simp only [ByteArray.size_append, show (⟨#[44]⟩ : ByteArray).size = 1 from rfl] at c14b4)
     obtain rfl := Option.some.inj H
     go_enter Tryd.func54, Tryd.ntmps54
     go_wp2_with (first | ((with_reducible refine gate_callee (f := 76) rfl ?_); refine goesL_ (some 13) rfl rfl Tryd.func76 (by kernel_rfl) rfl #[.int .i64 a1] rfl (by (try simp only [List.map_toArray, List.map_cons, List.map_nil]); first | done | rfl | (simp only [List.length_drop, List.length_take]; rfl)) ?_; (with_reducible refine (strconv_Itoa.calls a1 t103 _ A10.out).mono ?_); rintro e w' ⟨rfl, ⟨nd, rfl⟩⟩; refine ⟨_, rfl, ?_⟩) | ((with_reducible refine gate_callee (f := 76) rfl ?_); refine goesL_ (some 17) rfl rfl Tryd.func76 (by kernel_rfl) rfl #[.int .i64 a2] rfl (by (try simp only [List.map_toArray, List.map_cons, List.map_nil]); first | done | rfl | (simp only [List.length_drop, List.length_take]; rfl)) ?_; (with_reducible refine (strconv_Itoa.calls a2 t104 _ A13.out).mono ?_); rintro e w' ⟨rfl, ⟨nd, rfl⟩⟩; refine ⟨_, rfl, ?_⟩))
     go_ret
     exact ⟨by first | rfl | (simp; done) | (simp [*]; done), by repeat (first | exact Drawn0.refl _ | apply Drawn0.step)⟩
    ·rw [if_neg c14] at H
     exact absurd H (by simp)
   ·rw [if_neg c12] at H
    exact absurd H (by simp)
  ·rw [if_neg c11] at H
   exact absurd H (by simp)

/-! ### show_Head: function 29 -/
def show_Head.f (a0_0 : Int) (a0_1 : Int) (a0_2 : Int) (a0_3 : Int) (l0_4 : List (S29)) : Option (ByteArray) := (show_side.f (⟨#[45]⟩ : ByteArray) a0_0 a0_1).bind fun t106 => (if 3 + t106.size ≤ 9223372036854775807 then (if ((⟨#[64, 64, 32]⟩ : ByteArray) ++ t106).size + 1 ≤ 9223372036854775807 then ((show_side.f (⟨#[43]⟩ : ByteArray) a0_2 a0_3).bind fun t107 => (if (((⟨#[64, 64, 32]⟩ : ByteArray) ++ t106) ++ (⟨#[32]⟩ : ByteArray)).size + t107.size ≤ 9223372036854775807 then (if ((((⟨#[64, 64, 32]⟩ : ByteArray) ++ t106) ++ (⟨#[32]⟩ : ByteArray)) ++ t107).size + 4 ≤ 9223372036854775807 then (some (((((⟨#[64, 64, 32]⟩ : ByteArray) ++ t106) ++ (⟨#[32]⟩ : ByteArray)) ++ t107) ++ (⟨#[32, 64, 64, 10]⟩ : ByteArray))) else (none)) else (none))) else (none)) else (none))
set_option maxHeartbeats 8000000 in
set_option maxRecDepth 100000 in
theorem show_Head.calls (a0_0 : Int) (a0_1 : Int) (a0_2 : Int) (a0_3 : Int) (A0_4 : Option Addr) (c0_4 : Nat) (l0_4 : List (S29)) (r : ByteArray) (w : World) (hr0_4 : Kd.C k29 w A0_4 l0_4.length l0_4) (hc0_4 : l0_4.length ≤ c0_4) (h : show_Head.f a0_0 a0_1 a0_2 a0_3 l0_4 = some r) :
  Calls Tryd.prog 29 #[.agg #[.int .i64 a0_0, .int .i64 a0_1, .int .i64 a0_2, .int .i64 a0_3, .slice A0_4 l0_4.length c0_4]] w fun e w' => e = .returned (.string r) ∧ Below w.heap.size w w' := by
 have hu26 := Tryd.underlying26
 have HR0_4 := Aside0.mk hr0_4
 have HC0_4 := Aside0.mk hc0_4
 clear hr0_4 hc0_4
 have HB := Aside0.mk (Below.refl w.heap.size w)
 have H : ((show_side.f (⟨#[45]⟩ : ByteArray) a0_0 a0_1).bind fun t106 => (if 3 + t106.size ≤ 9223372036854775807 then (if ((⟨#[64, 64, 32]⟩ : ByteArray) ++ t106).size + 1 ≤ 9223372036854775807 then ((show_side.f (⟨#[43]⟩ : ByteArray) a0_2 a0_3).bind fun t107 => (if (((⟨#[64, 64, 32]⟩ : ByteArray) ++ t106) ++ (⟨#[32]⟩ : ByteArray)).size + t107.size ≤ 9223372036854775807 then (if ((((⟨#[64, 64, 32]⟩ : ByteArray) ++ t106) ++ (⟨#[32]⟩ : ByteArray)) ++ t107).size + 4 ≤ 9223372036854775807 then (some (((((⟨#[64, 64, 32]⟩ : ByteArray) ++ t106) ++ (⟨#[32]⟩ : ByteArray)) ++ t107) ++ (⟨#[32, 64, 64, 10]⟩ : ByteArray))) else (none)) else (none))) else (none)) else (none))) = some r := h
 clear h
 replace H := Option.bind_eq_some_iff.mp H
 obtain ⟨t106, A20, H⟩ := H
 replace H : (if 3 + t106.size ≤ 9223372036854775807 then (if ((⟨#[64, 64, 32]⟩ : ByteArray) ++ t106).size + 1 ≤ 9223372036854775807 then ((show_side.f (⟨#[43]⟩ : ByteArray) a0_2 a0_3).bind fun t107 => (if (((⟨#[64, 64, 32]⟩ : ByteArray) ++ t106) ++ (⟨#[32]⟩ : ByteArray)).size + t107.size ≤ 9223372036854775807 then (if ((((⟨#[64, 64, 32]⟩ : ByteArray) ++ t106) ++ (⟨#[32]⟩ : ByteArray)) ++ t107).size + 4 ≤ 9223372036854775807 then (some (((((⟨#[64, 64, 32]⟩ : ByteArray) ++ t106) ++ (⟨#[32]⟩ : ByteArray)) ++ t107) ++ (⟨#[32, 64, 64, 10]⟩ : ByteArray))) else (none)) else (none))) else (none)) else (none)) = some r := H
 have A2 := Aside0.mk A20
 clear A20
 by_cases c3 : 3 + t106.size ≤ 9223372036854775807
 ·rw [if_pos c3] at H
  have c3b0 := eq_true c3
  have c3b1 : decide (3 + t106.size ≤ 9223372036854775807) = true := decide_eq_true c3
  try have c3b2 : (9223372036854775807 < 3 + t106.size) = False := eq_false (Nat.not_lt.2 c3)
  by_cases c4 : ((⟨#[64, 64, 32]⟩ : ByteArray) ++ t106).size + 1 ≤ 9223372036854775807
  ·rw [if_pos c4] at H
   have c4b0 := eq_true c4
   have c4b1 : decide (((⟨#[64, 64, 32]⟩ : ByteArray) ++ t106).size + 1 ≤ 9223372036854775807) = true := decide_eq_true c4
   try have c4b2 : (9223372036854775807 < ((⟨#[64, 64, 32]⟩ : ByteArray) ++ t106).size + 1) = False := eq_false (Nat.not_lt.2 c4)
   try (have c4b4 := c4b2; simp only [ByteArray.size_append, show (⟨#[64, 64, 32]⟩ : ByteArray).size = 3 from rfl] at c4b4)
   replace H := Option.bind_eq_some_iff.mp H
   obtain ⟨t107, A50, H⟩ := H
   replace H : (if (((⟨#[64, 64, 32]⟩ : ByteArray) ++ t106) ++ (⟨#[32]⟩ : ByteArray)).size + t107.size ≤ 9223372036854775807 then (if ((((⟨#[64, 64, 32]⟩ : ByteArray) ++ t106) ++ (⟨#[32]⟩ : ByteArray)) ++ t107).size + 4 ≤ 9223372036854775807 then (some (((((⟨#[64, 64, 32]⟩ : ByteArray) ++ t106) ++ (⟨#[32]⟩ : ByteArray)) ++ t107) ++ (⟨#[32, 64, 64, 10]⟩ : ByteArray))) else (none)) else (none)) = some r := H
   have A5 := Aside0.mk A50
   clear A50
   by_cases c6 : (((⟨#[64, 64, 32]⟩ : ByteArray) ++ t106) ++ (⟨#[32]⟩ : ByteArray)).size + t107.size ≤ 9223372036854775807
   ·rw [if_pos c6] at H
    have c6b0 := eq_true c6
    have c6b1 : decide ((((⟨#[64, 64, 32]⟩ : ByteArray) ++ t106) ++ (⟨#[32]⟩ : ByteArray)).size + t107.size ≤ 9223372036854775807) = true := decide_eq_true c6
    try have c6b2 : (9223372036854775807 < (((⟨#[64, 64, 32]⟩ : ByteArray) ++ t106) ++ (⟨#[32]⟩ : ByteArray)).size + t107.size) = False := eq_false (Nat.not_lt.2 c6)
    try (have c6b4 := c6b2; simp only [ByteArray.size_append, show (⟨#[32]⟩ : ByteArray).size = 1 from rfl, show (⟨#[64, 64, 32]⟩ : ByteArray).size = 3 from rfl] at c6b4)
    by_cases c7 : ((((⟨#[64, 64, 32]⟩ : ByteArray) ++ t106) ++ (⟨#[32]⟩ : ByteArray)) ++ t107).size + 4 ≤ 9223372036854775807
    ·rw [if_pos c7] at H
     have c7b0 := eq_true c7
     have c7b1 : decide (((((⟨#[64, 64, 32]⟩ : ByteArray) ++ t106) ++ (⟨#[32]⟩ : ByteArray)) ++ t107).size + 4 ≤ 9223372036854775807) = true := decide_eq_true c7
     try have c7b2 : (9223372036854775807 < ((((⟨#[64, 64, 32]⟩ : ByteArray) ++ t106) ++ (⟨#[32]⟩ : ByteArray)) ++ t107).size + 4) = False := eq_false (Nat.not_lt.2 c7)
     try (have c7b4 := c7b2; simp only [ByteArray.size_append, show (⟨#[32]⟩ : ByteArray).size = 1 from rfl, show (⟨#[64, 64, 32]⟩ : ByteArray).size = 3 from rfl] at c7b4)
     obtain rfl := Option.some.inj H
     go_enter Tryd.func29, Tryd.ntmps29
     go_wp2_with (first | ((with_reducible refine gate_dst (N := 1) rfl ?_); refine box_event ?hg (N := 1) ?hd (cs := #[.int .i64 a0_0, .int .i64 a0_1, .int .i64 a0_2, .int .i64 a0_3, .slice A0_4 l0_4.length c0_4]) (t := 26) ?hr ?_; (case hd => rfl); (case hg => rfl); (case hr => first | (go_simp; done) | (go_simp; rfl)); intro gb105 hg w8 hbox hb; have n0_ := Aside0.mk (below_step (by repeat (first | (with_reducible first | exact HB.out | apply below_alloc | apply pw_below_drewN | apply below_drew1) | exact HB.out)) hb); have n1_ := Aside0.mk (hbox); have n2_ := Aside0.mk ((by rw [hg]; exact (below_size (by repeat (first | (with_reducible first | exact HB.out | apply below_alloc | apply pw_below_drewN | apply below_drew1) | exact HB.out))) : w.heap.size ≤ gb105)); have n3_ := Aside0.mk ((by rw [hg]; exact (below_size (by repeat (first | (with_reducible first | exact HB.out | apply below_alloc | apply pw_below_drewN | apply below_drew1) | exact HB.out))) : w.heap.size ≤ gb105)); clear HB; have HB := n0_; have BK105 := n1_; have GW105 := n2_; have GE105 := n3_; clear n0_ n1_ n2_ n3_; clear hb hbox hg; have hcz9_0 : w8.cell? ⟨gb105, 0, none⟩ = some (.int .i64 a0_0) := (blk_cell BK105.out 0).trans rfl; have hcz9_1 : w8.cell? ⟨gb105, 1, none⟩ = some (.int .i64 a0_1) := (blk_cell BK105.out 1).trans rfl; have hcz9_2 : w8.cell? ⟨gb105, 2, none⟩ = some (.int .i64 a0_2) := (blk_cell BK105.out 2).trans rfl; have hcz9_3 : w8.cell? ⟨gb105, 3, none⟩ = some (.int .i64 a0_3) := (blk_cell BK105.out 3).trans rfl; have hcz9_4 : w8.cell? ⟨gb105, 4, none⟩ = some (.slice A0_4 l0_4.length c0_4) := (blk_cell BK105.out 4).trans rfl; have hfz9_0 := blk_frozen BK105.out 0; have hfz9_1 := blk_frozen BK105.out 1; have hfz9_2 := blk_frozen BK105.out 2; have hfz9_3 := blk_frozen BK105.out 3; have hfz9_4 := blk_frozen BK105.out 4) | (go_at_call 54; (with_reducible refine (show_side.calls (⟨#[45]⟩ : ByteArray) a0_0 a0_1 t106 _ A2.out).mono ?_); rintro e w' ⟨rfl, ⟨nd, rfl⟩⟩; (try first | exact ⟨rfl, _, World.drewN_drewN _ _ _⟩ | exact ⟨rfl, _, Eq.trans (World.drewN_drewN _ _ _) (congrArg (World.drewN _) (Nat.add_assoc _ _ _))⟩)) | (go_at_call 54; (with_reducible refine (show_side.calls (⟨#[43]⟩ : ByteArray) a0_2 a0_3 t107 _ A5.out).mono ?_); rintro e w' ⟨rfl, ⟨nd, rfl⟩⟩; (try first | exact ⟨rfl, _, World.drewN_drewN _ _ _⟩ | exact ⟨rfl, _, Eq.trans (World.drewN_drewN _ _ _) (congrArg (World.drewN _) (Nat.add_assoc _ _ _))⟩)))
     repeat (go_quiet (first | ((with_reducible refine gate_dst (N := 1) rfl ?_); refine box_event ?hg (N := 1) ?hd (cs := #[.int .i64 a0_0, .int .i64 a0_1, .int .i64 a0_2, .int .i64 a0_3, .slice A0_4 l0_4.length c0_4]) (t := 26) ?hr ?_; (case hd => rfl); (case hg => rfl); (case hr => first | (go_simp; done) | (go_simp; rfl)); intro gb105 hg w8 hbox hb; have n0_ := Aside0.mk (below_step (by repeat (first | (with_reducible first | exact HB.out | apply below_alloc | apply pw_below_drewN | apply below_drew1) | exact HB.out)) hb); have n1_ := Aside0.mk (hbox); have n2_ := Aside0.mk ((by rw [hg]; exact (below_size (by repeat (first | (with_reducible first | exact HB.out | apply below_alloc | apply pw_below_drewN | apply below_drew1) | exact HB.out))) : w.heap.size ≤ gb105)); have n3_ := Aside0.mk ((by rw [hg]; exact (below_size (by repeat (first | (with_reducible first | exact HB.out | apply below_alloc | apply pw_below_drewN | apply below_drew1) | exact HB.out))) : w.heap.size ≤ gb105)); clear HB; have HB := n0_; have BK105 := n1_; have GW105 := n2_; have GE105 := n3_; clear n0_ n1_ n2_ n3_; clear hb hbox hg; have hcz9_0 : w8.cell? ⟨gb105, 0, none⟩ = some (.int .i64 a0_0) := (blk_cell BK105.out 0).trans rfl; have hcz9_1 : w8.cell? ⟨gb105, 1, none⟩ = some (.int .i64 a0_1) := (blk_cell BK105.out 1).trans rfl; have hcz9_2 : w8.cell? ⟨gb105, 2, none⟩ = some (.int .i64 a0_2) := (blk_cell BK105.out 2).trans rfl; have hcz9_3 : w8.cell? ⟨gb105, 3, none⟩ = some (.int .i64 a0_3) := (blk_cell BK105.out 3).trans rfl; have hcz9_4 : w8.cell? ⟨gb105, 4, none⟩ = some (.slice A0_4 l0_4.length c0_4) := (blk_cell BK105.out 4).trans rfl; have hfz9_0 := blk_frozen BK105.out 0; have hfz9_1 := blk_frozen BK105.out 1; have hfz9_2 := blk_frozen BK105.out 2; have hfz9_3 := blk_frozen BK105.out 3; have hfz9_4 := blk_frozen BK105.out 4) | (go_at_call 54; (with_reducible refine (show_side.calls (⟨#[45]⟩ : ByteArray) a0_0 a0_1 t106 _ A2.out).mono ?_); rintro e w' ⟨rfl, ⟨nd, rfl⟩⟩; (try first | exact ⟨rfl, _, World.drewN_drewN _ _ _⟩ | exact ⟨rfl, _, Eq.trans (World.drewN_drewN _ _ _) (congrArg (World.drewN _) (Nat.add_assoc _ _ _))⟩)) | (go_at_call 54; (with_reducible refine (show_side.calls (⟨#[43]⟩ : ByteArray) a0_2 a0_3 t107 _ A5.out).mono ?_); rintro e w' ⟨rfl, ⟨nd, rfl⟩⟩; (try first | exact ⟨rfl, _, World.drewN_drewN _ _ _⟩ | exact ⟨rfl, _, Eq.trans (World.drewN_drewN _ _ _) (congrArg (World.drewN _) (Nat.add_assoc _ _ _))⟩))); try go_wp2_with (first | ((with_reducible refine gate_dst (N := 1) rfl ?_); refine box_event ?hg (N := 1) ?hd (cs := #[.int .i64 a0_0, .int .i64 a0_1, .int .i64 a0_2, .int .i64 a0_3, .slice A0_4 l0_4.length c0_4]) (t := 26) ?hr ?_; (case hd => rfl); (case hg => rfl); (case hr => first | (go_simp; done) | (go_simp; rfl)); intro gb105 hg w8 hbox hb; have n0_ := Aside0.mk (below_step (by repeat (first | (with_reducible first | exact HB.out | apply below_alloc | apply pw_below_drewN | apply below_drew1) | exact HB.out)) hb); have n1_ := Aside0.mk (hbox); have n2_ := Aside0.mk ((by rw [hg]; exact (below_size (by repeat (first | (with_reducible first | exact HB.out | apply below_alloc | apply pw_below_drewN | apply below_drew1) | exact HB.out))) : w.heap.size ≤ gb105)); have n3_ := Aside0.mk ((by rw [hg]; exact (below_size (by repeat (first | (with_reducible first | exact HB.out | apply below_alloc | apply pw_below_drewN | apply below_drew1) | exact HB.out))) : w.heap.size ≤ gb105)); clear HB; have HB := n0_; have BK105 := n1_; have GW105 := n2_; have GE105 := n3_; clear n0_ n1_ n2_ n3_; clear hb hbox hg; have hcz9_0 : w8.cell? ⟨gb105, 0, none⟩ = some (.int .i64 a0_0) := (blk_cell BK105.out 0).trans rfl; have hcz9_1 : w8.cell? ⟨gb105, 1, none⟩ = some (.int .i64 a0_1) := (blk_cell BK105.out 1).trans rfl; have hcz9_2 : w8.cell? ⟨gb105, 2, none⟩ = some (.int .i64 a0_2) := (blk_cell BK105.out 2).trans rfl; have hcz9_3 : w8.cell? ⟨gb105, 3, none⟩ = some (.int .i64 a0_3) := (blk_cell BK105.out 3).trans rfl; have hcz9_4 : w8.cell? ⟨gb105, 4, none⟩ = some (.slice A0_4 l0_4.length c0_4) := (blk_cell BK105.out 4).trans rfl; have hfz9_0 := blk_frozen BK105.out 0; have hfz9_1 := blk_frozen BK105.out 1; have hfz9_2 := blk_frozen BK105.out 2; have hfz9_3 := blk_frozen BK105.out 3; have hfz9_4 := blk_frozen BK105.out 4) | (go_at_call 54; (with_reducible refine (show_side.calls (⟨#[45]⟩ : ByteArray) a0_0 a0_1 t106 _ A2.out).mono ?_); rintro e w' ⟨rfl, ⟨nd, rfl⟩⟩; (try first | exact ⟨rfl, _, World.drewN_drewN _ _ _⟩ | exact ⟨rfl, _, Eq.trans (World.drewN_drewN _ _ _) (congrArg (World.drewN _) (Nat.add_assoc _ _ _))⟩)) | (go_at_call 54; (with_reducible refine (show_side.calls (⟨#[43]⟩ : ByteArray) a0_2 a0_3 t107 _ A5.out).mono ?_); rintro e w' ⟨rfl, ⟨nd, rfl⟩⟩; (try first | exact ⟨rfl, _, World.drewN_drewN _ _ _⟩ | exact ⟨rfl, _, Eq.trans (World.drewN_drewN _ _ _) (congrArg (World.drewN _) (Nat.add_assoc _ _ _))⟩))))
     go_ret
     exact ⟨by first | rfl | (simp [errW_none, errW_some] <;> rfl) | (simp [*, errW_none, errW_some] <;> rfl), by repeat (first | (with_reducible first | exact HB.out | apply below_alloc | apply pw_below_drewN | apply below_drew1 | refine below_set ?_ GE105.out) | exact HB.out)⟩
    ·rw [if_neg c7] at H
     exact absurd H (by simp)
   ·rw [if_neg c6] at H
    exact absurd H (by simp)
  ·rw [if_neg c4] at H
   exact absurd H (by simp)
 ·rw [if_neg c3] at H
  exact absurd H (by simp)

/-! ### redpenlaw20_Awake: function 12 -/
def redpenlaw20_Awake.f  : Option (Bool) := (show_Head.f 0 2 0 2 ([] : List (S29))).bind fun t108 => (if t108.toList = ([64, 64, 32, 45, 49, 44, 50, 32, 43, 49, 44, 50, 32, 64, 64, 10] : List UInt8) then ((show_Head.f 3 0 3 1 ([] : List (S29))).bind fun t109 => (some (t109.toList == ([64, 64, 32, 45, 51, 44, 48, 32, 43, 52, 44, 49, 32, 64, 64, 10] : List UInt8)))) else (some false))
set_option maxHeartbeats 8000000 in
set_option maxRecDepth 100000 in
theorem redpenlaw20_Awake.calls  (r : Bool) (w : World) (h : redpenlaw20_Awake.f  = some r) :
  Calls Tryd.prog 12 #[] w fun e w' => e = .returned (.bool r) ∧ Below w.heap.size w w' := by
 have hu26 := Tryd.underlying26
 have HB := Aside0.mk (Below.refl w.heap.size w)
 have H : ((show_Head.f 0 2 0 2 ([] : List (S29))).bind fun t108 => (if t108.toList = ([64, 64, 32, 45, 49, 44, 50, 32, 43, 49, 44, 50, 32, 64, 64, 10] : List UInt8) then ((show_Head.f 3 0 3 1 ([] : List (S29))).bind fun t109 => (some (t109.toList == ([64, 64, 32, 45, 51, 44, 48, 32, 43, 52, 44, 49, 32, 64, 64, 10] : List UInt8)))) else (some false))) = some r := h
 clear h
 replace H := Option.bind_eq_some_iff.mp H
 obtain ⟨t108, A10, H⟩ := H
 replace H : (if t108.toList = ([64, 64, 32, 45, 49, 44, 50, 32, 43, 49, 44, 50, 32, 64, 64, 10] : List UInt8) then ((show_Head.f 3 0 3 1 ([] : List (S29))).bind fun t109 => (some (t109.toList == ([64, 64, 32, 45, 51, 44, 48, 32, 43, 52, 44, 49, 32, 64, 64, 10] : List UInt8)))) else (some false)) = some r := H
 have A1 := Aside0.mk A10
 clear A10
 by_cases c2 : t108.toList = ([64, 64, 32, 45, 49, 44, 50, 32, 43, 49, 44, 50, 32, 64, 64, 10] : List UInt8)
 ·rw [if_pos c2] at H
  have c2b0 : (t108.toList == ([64, 64, 32, 45, 49, 44, 50, 32, 43, 49, 44, 50, 32, 64, 64, 10] : List UInt8)) = true := beq_iff_eq.mpr c2
  have c2b1 : (t108.toList != ([64, 64, 32, 45, 49, 44, 50, 32, 43, 49, 44, 50, 32, 64, 64, 10] : List UInt8)) = false := bne_eq_false_iff_eq.mpr c2
  clear c2
  replace H := Option.bind_eq_some_iff.mp H
  obtain ⟨t109, A30, H⟩ := H
  replace H : (some (t109.toList == ([64, 64, 32, 45, 51, 44, 48, 32, 43, 52, 44, 49, 32, 64, 64, 10] : List UInt8))) = some r := H
  have A3 := Aside0.mk A30
  clear A30
  obtain rfl := Option.some.inj H
  go_enter Tryd.func12, Tryd.ntmps12
  go_wp2_with (first | ((with_reducible refine gate_callee (f := 29) rfl ?_); refine goesL_ (some 2) rfl rfl Tryd.func29 (by kernel_rfl) rfl #[.agg #[.int .i64 0, .int .i64 2, .int .i64 0, .int .i64 2, .slice none 0 0]] rfl (by (try simp only [List.map_toArray, List.map_cons, List.map_nil]); first | done | rfl | (simp only [List.length_drop, List.length_take]; rfl)) ?_; (refine (show_Head.calls 0 2 0 2 _ _ ([] : List (S29)) t108 _ ?side1 ?side2 A1.out).mono ?_); (case side1 => exact Kd.C_nil _ _); (case side2 => exact Nat.le_refl _); rintro e w4 ⟨rfl, hb⟩; refine ⟨_, rfl, ?_⟩; have n0_ := Aside0.mk (below_step (by repeat (first | (with_reducible first | exact HB.out | apply below_alloc | apply pw_below_drewN | apply below_drew1) | exact HB.out)) hb); clear HB; have HB := n0_; clear n0_; (try clear hb); (try clear hb2); (try clear hk); (try clear hi)) | (go_at_call 29; (refine (show_Head.calls 3 0 3 1 _ _ ([] : List (S29)) t109 _ ?side1 ?side2 A3.out).mono ?_); (case side1 => exact Kd.C_nil _ _); (case side2 => exact Nat.le_refl _); rintro e w5 ⟨rfl, hb⟩; have n0_ := Aside0.mk (below_step (by repeat (first | (with_reducible first | exact HB.out | apply below_alloc | apply pw_below_drewN | apply below_drew1) | exact HB.out)) hb); clear HB; have HB := n0_; clear n0_; (try clear hb); (try clear hb2); (try clear hk); (try clear hi)))
  go_ret
  exact ⟨by first | rfl | (simp [errW_none, errW_some] <;> rfl) | (simp [*, errW_none, errW_some] <;> rfl), by repeat (first | (with_reducible first | exact HB.out | apply below_alloc | apply pw_below_drewN | apply below_drew1) | exact HB.out)⟩
 ·rw [if_neg c2] at H
  have c2b0 : (t108.toList == ([64, 64, 32, 45, 49, 44, 50, 32, 43, 49, 44, 50, 32, 64, 64, 10] : List UInt8)) = false := beq_eq_false_iff_ne.mpr c2
  have c2b1 : (t108.toList != ([64, 64, 32, 45, 49, 44, 50, 32, 43, 49, 44, 50, 32, 64, 64, 10] : List UInt8)) = true := bne_iff_ne.mpr c2
  obtain rfl := Option.some.inj H
  go_enter Tryd.func12, Tryd.ntmps12
  go_wp2_with (first | ((with_reducible refine gate_callee (f := 29) rfl ?_); refine goesL_ (some 2) rfl rfl Tryd.func29 (by kernel_rfl) rfl #[.agg #[.int .i64 0, .int .i64 2, .int .i64 0, .int .i64 2, .slice none 0 0]] rfl (by (try simp only [List.map_toArray, List.map_cons, List.map_nil]); first | done | rfl | (simp only [List.length_drop, List.length_take]; rfl)) ?_; (refine (show_Head.calls 0 2 0 2 _ _ ([] : List (S29)) t108 _ ?side1 ?side2 A1.out).mono ?_); (case side1 => exact Kd.C_nil _ _); (case side2 => exact Nat.le_refl _); rintro e w6 ⟨rfl, hb⟩; refine ⟨_, rfl, ?_⟩; have n0_ := Aside0.mk (below_step (by repeat (first | (with_reducible first | exact HB.out | apply below_alloc | apply pw_below_drewN | apply below_drew1) | exact HB.out)) hb); clear HB; have HB := n0_; clear n0_; (try clear hb); (try clear hb2); (try clear hk); (try clear hi)))
  go_ret
  exact ⟨by first | rfl | (simp [errW_none, errW_some] <;> rfl) | (simp [*, errW_none, errW_some] <;> rfl), by repeat (first | (with_reducible first | exact HB.out | apply below_alloc | apply pw_below_drewN | apply below_drew1) | exact HB.out)⟩

/-! ### show_Name: function 13 -/
def show_Name.f (a0 : ByteArray) : Option (Bool) := Go.Proofs.YtjabpbnlpljlkaaDoor.H.nameF a0
theorem show_Name.calls (a0 : ByteArray) (r : Bool) (w : World) (h : show_Name.f a0 = some r) :
    Calls Tryd.prog 13 #[.string a0] w fun e w' => e = .returned (.bool r) ∧ Below w.heap.size w w' :=
  Go.Proofs.YtjabpbnlpljlkaaDoor.H.name_at a0 r w h

/-! ### redpenref18_has: function 30 -/
def redpenref18_has.l0 : Nat → ByteArray → Int → Int → Option (Bool)
 | 0, _, _, _ => none
 | k + 1, x0, x1, x5 => if x5 < (x0.size : Int) then (if 0 ≤ x5 then (if (bt x0 x5) = x1 then (some true) else (redpenref18_has.l0 k x0 x1 (wrap64 (x5 + 1)))) else (none)) else (some false)
def redpenref18_has.f (k : Nat) (a0 : ByteArray) (a1 : Int) : Option (Bool) := redpenref18_has.l0 k a0 a1 0
theorem redpenref18_has.mono_l : ∀ k, (∀ y0 y1 y2, LeO (redpenref18_has.l0 k y0 y1 y2) (redpenref18_has.l0 (k + 1) y0 y1 y2))
 | 0 => fun _ _ _ r h => by simp [redpenref18_has.l0] at h
 | k + 1 => by
  have ih0 := redpenref18_has.mono_l k
  ·intro y0 y1 y2
   unfold redpenref18_has.l0
   repeat' first
   | (with_reducible exact ih0 _ _ _)
   | (with_reducible exact LeO.refl _)
   | (with_reducible exact LeO.none _)
   | (with_reducible refine LeO.ite ?_ ?_)
   | (with_reducible refine LeO.bind ?_ (fun _ => ?_))
   | exact ih0 _ _ _
   | exact LeO.none _
   | refine LeO.ite ?_ ?_
   | refine LeO.bind ?_ (fun _ => ?_)
theorem redpenref18_has.mono : ∀ a0 a1 k, LeO (redpenref18_has.f k a0 a1) (redpenref18_has.f (k + 1) a0 a1) := by
 intro a0 a1 k
 have ih0 := redpenref18_has.mono_l k
 unfold redpenref18_has.f
 repeat' first
   | (with_reducible exact ih0 _ _ _)
   | (with_reducible exact LeO.refl _)
   | (with_reducible exact LeO.none _)
   | (with_reducible refine LeO.ite ?_ ?_)
   | (with_reducible refine LeO.bind ?_ (fun _ => ?_))
   | exact ih0 _ _ _
   | exact LeO.none _
   | refine LeO.ite ?_ ?_
   | refine LeO.bind ?_ (fun _ => ?_)
set_option maxHeartbeats 8000000 in
set_option maxRecDepth 100000 in
theorem redpenref18_has.calls (k : Nat) (a0 : ByteArray) (a1 : Int) (r : Bool) (w : World) (h : redpenref18_has.f k a0 a1 = some r) :
  Calls Tryd.prog 30 #[.string a0, .int .u8 a1] w fun e w' => e = .returned (.bool r) ∧ Drawn0 w w' := by
 have H : (redpenref18_has.l0 k a0 a1 0) = some r := h
 clear h
 have H' := Aside0.mk H
 clear H
 go_enter Tryd.func30, Tryd.ntmps30
 go_wp2
 go_loopg [5] k (fun kq v5 w' => ∃ (x5_1 : Int), v5 = .int .i64 x5_1 ∧ Aside0 (redpenref18_has.l0 kq a0 a1 x5_1 = some r) ∧ Aside0 (kq ≤ k) ∧ Drawn0 w w')
 case atStart => exact ⟨(0), (by first | rfl | (simp; done) | (simp [*]; done)), H', ⟨Nat.le_refl _⟩, by repeat (first | exact Drawn0.refl _ | apply Drawn0.step)⟩
 case round =>
  clear H'
  try clear p2
  obtain ⟨x5_1, rfl, HA, HK1, ⟨m1, rfl⟩⟩ := hrel
  cases gk with
  | zero => exact absurd HA.out (by simp [redpenref18_has.l0])
  | succ k1 =>
   have H := HA.out
   clear HA
   simp only [redpenref18_has.l0] at H
   by_cases c3 : x5_1 < (a0.size : Int)
   ·rw [if_pos c3] at H
    have c3b0 : decide (x5_1 < (a0.size : Int)) = true := decide_eq_true c3
    clear c3
    by_cases c4 : 0 ≤ x5_1
    ·rw [if_pos c4] at H
     have c4b0 : decide (0 ≤ x5_1) = true := decide_eq_true c4
     clear c4
     by_cases c6 : (bt a0 x5_1) = a1
     ·rw [if_pos c6] at H
      have c6b0 : ((bt a0 x5_1) == a1) = true := beq_iff_eq.mpr c6
      have c6b1 : ((bt a0 x5_1) != a1) = false := bne_eq_false_iff_eq.mpr c6
      clear c6
      obtain rfl := Option.some.inj H
      have p5 : 0 ≤ (x5_1 : Int) := of_decide_eq_true (by first | (with_reducible assumption) | assumption)
      have q5 : x5_1 < (a0.size : Int) := of_decide_eq_true (by first | (with_reducible assumption) | assumption)
      have hx5 := bt_at a0 x5_1
      replace p5 := eq_true p5
      replace q5 := eq_true q5
      go_wp2
      go_ret
      exact ⟨by first | rfl | (simp; done) | (simp [*]; done), by repeat (first | exact Drawn0.refl _ | apply Drawn0.step)⟩
     ·rw [if_neg c6] at H
      have c6b0 : ((bt a0 x5_1) == a1) = false := beq_eq_false_iff_ne.mpr c6
      have c6b1 : ((bt a0 x5_1) != a1) = true := bne_iff_ne.mpr c6
      have H' := Aside0.mk H
      clear H
      have p5 : 0 ≤ (x5_1 : Int) := of_decide_eq_true (by first | (with_reducible assumption) | assumption)
      have q5 : x5_1 < (a0.size : Int) := of_decide_eq_true (by first | (with_reducible assumption) | assumption)
      have hx5 := bt_at a0 x5_1
      replace p5 := eq_true p5
      replace q5 := eq_true q5
      go_wp2
      go_roundg k1
      case measure => have := HK1.out; omega
      case rel => exact ⟨(wrap64 (x5_1 + 1)), (by first | rfl | (simp; done) | (simp [*]; done)), H', ⟨by have := HK1.out; omega⟩, by repeat (first | exact Drawn0.refl _ | apply Drawn0.step)⟩
    ·rw [if_neg c4] at H
     exact absurd H (by simp)
   ·rw [if_neg c3] at H
    have c3b0 : decide (x5_1 < (a0.size : Int)) = false := decide_eq_false c3
    clear c3
    obtain rfl := Option.some.inj H
    go_wp2
    go_ret
    exact ⟨by first | rfl | (simp; done) | (simp [*]; done), by repeat (first | exact Drawn0.refl _ | apply Drawn0.step)⟩

/-! ### redpenref18_Name: function 14 -/
def redpenref18_Name.f (k : Nat) (a0 : ByteArray) : Option (Bool) := if (a0.size : Int) ≥ 1 then (if (a0.size : Int) ≤ 64 then ((redpenref18_has.f k a0 10).bind fun t110 => (if t110 = true then (some false) else ((redpenref18_has.f k a0 13).bind fun t111 => (some (!t111))))) else (some false)) else (some false)
theorem redpenref18_Name.mono : ∀ a0 k, LeO (redpenref18_Name.f k a0) (redpenref18_Name.f (k + 1) a0) := by
 intro a0 k
 unfold redpenref18_Name.f
 repeat' first
   | (with_reducible exact redpenref18_has.mono _ _ _)
   | (with_reducible exact LeO.refl _)
   | (with_reducible exact LeO.none _)
   | (with_reducible refine LeO.ite ?_ ?_)
   | (with_reducible refine LeO.bind ?_ (fun _ => ?_))
   | exact redpenref18_has.mono _ _ _
   | exact LeO.none _
   | refine LeO.ite ?_ ?_
   | refine LeO.bind ?_ (fun _ => ?_)
set_option maxHeartbeats 8000000 in
set_option maxRecDepth 100000 in
theorem redpenref18_Name.calls (k : Nat) (a0 : ByteArray) (r : Bool) (w : World) (h : redpenref18_Name.f k a0 = some r) :
  Calls Tryd.prog 14 #[.string a0] w fun e w' => e = .returned (.bool r) ∧ Drawn0 w w' := by
 have H : (if (a0.size : Int) ≥ 1 then (if (a0.size : Int) ≤ 64 then ((redpenref18_has.f k a0 10).bind fun t110 => (if t110 = true then (some false) else ((redpenref18_has.f k a0 13).bind fun t111 => (some (!t111))))) else (some false)) else (some false)) = some r := h
 clear h
 by_cases c2 : (a0.size : Int) ≥ 1
 ·rw [if_pos c2] at H
  have c2b0 : decide (1 ≤ (a0.size : Int)) = true := decide_eq_true c2
  have c2b1 : decide (1 ≤ a0.size) = true := decide_eq_true (by omega)
  clear c2
  by_cases c3 : (a0.size : Int) ≤ 64
  ·rw [if_pos c3] at H
   have c3b0 : decide ((a0.size : Int) ≤ 64) = true := decide_eq_true c3
   have c3b1 : decide (a0.size ≤ 64) = true := decide_eq_true (by omega)
   clear c3
   replace H := Option.bind_eq_some_iff.mp H
   obtain ⟨t110, A40, H⟩ := H
   replace H : (if t110 = true then (some false) else ((redpenref18_has.f k a0 13).bind fun t111 => (some (!t111)))) = some r := H
   have A4 := Aside0.mk A40
   clear A40
   by_cases c5 : t110 = true
   ·subst c5
    have H1 : (some false) = some r := by rw [if_pos rfl] at H; exact H
    clear H
    have H := H1
    clear H1
    obtain rfl := Option.some.inj H
    go_enter Tryd.func14, Tryd.ntmps14
    go_wp2_with (first | (go_at_call 30; (with_reducible refine (redpenref18_has.calls k a0 10 true _ A4.out).mono ?_); rintro e w' ⟨rfl, ⟨nd, rfl⟩⟩))
    go_ret
    exact ⟨by first | rfl | (simp; done) | (simp [*]; done), by repeat (first | exact Drawn0.refl _ | apply Drawn0.step)⟩
   ·replace c5 := Bool.eq_false_iff.mpr c5
    subst c5
    have H1 : ((redpenref18_has.f k a0 13).bind fun t111 => (some (!t111))) = some r := by rw [if_neg (show ¬ (false = true) by decide)] at H; exact H
    clear H
    have H := H1
    clear H1
    replace H := Option.bind_eq_some_iff.mp H
    obtain ⟨t111, A60, H⟩ := H
    replace H : (some (!t111)) = some r := H
    have A6 := Aside0.mk A60
    clear A60
    obtain rfl := Option.some.inj H
    go_enter Tryd.func14, Tryd.ntmps14
    go_wp2_with (first | (go_at_call 30; (with_reducible refine (redpenref18_has.calls k a0 10 false _ A4.out).mono ?_); rintro e w' ⟨rfl, ⟨nd, rfl⟩⟩) | (go_at_call 30; (with_reducible refine (redpenref18_has.calls k a0 13 t111 _ A6.out).mono ?_); rintro e w' ⟨rfl, ⟨nd, rfl⟩⟩))
    go_ret
    exact ⟨by first | rfl | (simp; done) | (simp [*]; done), by repeat (first | exact Drawn0.refl _ | apply Drawn0.step)⟩
  ·rw [if_neg c3] at H
   have c3b0 : decide ((a0.size : Int) ≤ 64) = false := decide_eq_false c3
   have c3b1 : decide (a0.size ≤ 64) = false := decide_eq_false (by omega)
   clear c3
   obtain rfl := Option.some.inj H
   go_enter Tryd.func14, Tryd.ntmps14
   go_wp2
   go_ret
   exact ⟨by first | rfl | (simp; done) | (simp [*]; done), by repeat (first | exact Drawn0.refl _ | apply Drawn0.step)⟩
 ·rw [if_neg c2] at H
  have c2b0 : decide (1 ≤ (a0.size : Int)) = false := decide_eq_false c2
  have c2b1 : decide (1 ≤ a0.size) = false := decide_eq_false (by omega)
  clear c2
  obtain rfl := Option.some.inj H
  go_enter Tryd.func14, Tryd.ntmps14
  go_wp2
  go_ret
  exact ⟨by first | rfl | (simp; done) | (simp [*]; done), by repeat (first | exact Drawn0.refl _ | apply Drawn0.step)⟩

/-! ### redpenlaw20_ShowNames: function 3 -/
def redpenlaw20_ShowNames.f (k : Nat) (a0 : ByteArray) : Option (Bool) := (redpenlaw20_Awake.f).bind fun t112 => (if t112 = true then (if (a0.size : Int) > 300 then (some true) else ((show_Name.f a0).bind fun t113 => ((redpenref18_Name.f k a0).bind fun t114 => (some (t113 == t114))))) else (some false))
theorem redpenlaw20_ShowNames.mono : ∀ a0 k, LeO (redpenlaw20_ShowNames.f k a0) (redpenlaw20_ShowNames.f (k + 1) a0) := by
 intro a0 k
 unfold redpenlaw20_ShowNames.f
 repeat' first
   | (with_reducible exact redpenref18_Name.mono _ _)
   | (with_reducible exact LeO.refl _)
   | (with_reducible exact LeO.none _)
   | (with_reducible refine LeO.ite ?_ ?_)
   | (with_reducible refine LeO.bind ?_ (fun _ => ?_))
   | exact redpenref18_Name.mono _ _
   | exact LeO.none _
   | refine LeO.ite ?_ ?_
   | refine LeO.bind ?_ (fun _ => ?_)
set_option maxHeartbeats 8000000 in
set_option maxRecDepth 100000 in
theorem redpenlaw20_ShowNames.calls (k : Nat) (a0 : ByteArray) (r : Bool) (w : World) (h : redpenlaw20_ShowNames.f k a0 = some r) (hr_ : r = true) :
  Calls Tryd.prog 3 #[.string a0] w fun e w' => e = .returned (.bool r) ∧ Below w.heap.size w w' := by
 have HB := Aside0.mk (Below.refl w.heap.size w)
 have H : ((redpenlaw20_Awake.f).bind fun t112 => (if t112 = true then (if (a0.size : Int) > 300 then (some true) else ((show_Name.f a0).bind fun t113 => ((redpenref18_Name.f k a0).bind fun t114 => (some (t113 == t114))))) else (some false))) = some r := h
 clear h
 replace H := Option.bind_eq_some_iff.mp H
 obtain ⟨t112, A20, H⟩ := H
 replace H : (if t112 = true then (if (a0.size : Int) > 300 then (some true) else ((show_Name.f a0).bind fun t113 => ((redpenref18_Name.f k a0).bind fun t114 => (some (t113 == t114))))) else (some false)) = some r := H
 have A2 := Aside0.mk A20
 clear A20
 by_cases c3 : t112 = true
 ·subst c3
  have H1 : (if (a0.size : Int) > 300 then (some true) else ((show_Name.f a0).bind fun t113 => ((redpenref18_Name.f k a0).bind fun t114 => (some (t113 == t114))))) = some r := by rw [if_pos rfl] at H; exact H
  clear H
  have H := H1
  clear H1
  by_cases c4 : (a0.size : Int) > 300
  ·rw [if_pos c4] at H
   have c4b0 : decide (300 < (a0.size : Int)) = true := decide_eq_true c4
   have c4b1 : decide (300 < a0.size) = true := decide_eq_true (by omega)
   clear c4
   obtain rfl := Option.some.inj H
   go_enter Tryd.func3, Tryd.ntmps3
   go_wp2_with (first | ((with_reducible refine gate_callee (f := 12) rfl ?_); refine goesL_ (some 3) rfl rfl Tryd.func12 (by kernel_rfl) rfl #[] rfl (by (try simp only [List.map_toArray, List.map_cons, List.map_nil]); first | done | rfl | (simp only [List.length_drop, List.length_take]; rfl)) ?_; (with_reducible refine (redpenlaw20_Awake.calls  true _ A2.out).mono ?_); rintro e w5 ⟨rfl, hb⟩; refine ⟨_, rfl, ?_⟩; have n0_ := Aside0.mk (below_step (by repeat (first | (with_reducible first | exact HB.out | apply below_alloc | apply pw_below_drewN | apply below_drew1) | exact HB.out)) hb); clear HB; have HB := n0_; clear n0_; (try clear hb); (try clear hb2); (try clear hk); (try clear hi)))
   go_ret
   exact ⟨by first | rfl | (simp [errW_none, errW_some] <;> rfl) | (simp [*, errW_none, errW_some] <;> rfl), by repeat (first | (with_reducible first | exact HB.out | apply below_alloc | apply pw_below_drewN | apply below_drew1) | exact HB.out)⟩
  ·rw [if_neg c4] at H
   have c4b0 : decide (300 < (a0.size : Int)) = false := decide_eq_false c4
   have c4b1 : decide (300 < a0.size) = false := decide_eq_false (by omega)
   clear c4
   replace H := Option.bind_eq_some_iff.mp H
   obtain ⟨t113, A60, H⟩ := H
   replace H : ((redpenref18_Name.f k a0).bind fun t114 => (some (t113 == t114))) = some r := H
   have A6 := Aside0.mk A60
   clear A60
   replace H := Option.bind_eq_some_iff.mp H
   obtain ⟨t114, A70, H⟩ := H
   replace H : (some (t113 == t114)) = some r := H
   have A7 := Aside0.mk A70
   clear A70
   obtain rfl := Option.some.inj H
   go_enter Tryd.func3, Tryd.ntmps3
   go_wp2_with (first | ((with_reducible refine gate_callee (f := 12) rfl ?_); refine goesL_ (some 3) rfl rfl Tryd.func12 (by kernel_rfl) rfl #[] rfl (by (try simp only [List.map_toArray, List.map_cons, List.map_nil]); first | done | rfl | (simp only [List.length_drop, List.length_take]; rfl)) ?_; (with_reducible refine (redpenlaw20_Awake.calls  true _ A2.out).mono ?_); rintro e w8 ⟨rfl, hb⟩; refine ⟨_, rfl, ?_⟩; have n0_ := Aside0.mk (below_step (by repeat (first | (with_reducible first | exact HB.out | apply below_alloc | apply pw_below_drewN | apply below_drew1) | exact HB.out)) hb); clear HB; have HB := n0_; clear n0_; (try clear hb); (try clear hb2); (try clear hk); (try clear hi)) | ((with_reducible refine gate_callee (f := 13) rfl ?_); refine goesL_ (some 9) rfl rfl Tryd.func13 (by kernel_rfl) rfl #[.string a0] rfl (by (try simp only [List.map_toArray, List.map_cons, List.map_nil]); first | done | rfl | (simp only [List.length_drop, List.length_take]; rfl)) ?_; (with_reducible refine (show_Name.calls a0 t113 _ A6.out).mono ?_); rintro e w9 ⟨rfl, hb⟩; refine ⟨_, rfl, ?_⟩; have n0_ := Aside0.mk (below_step (by repeat (first | (with_reducible first | exact HB.out | apply below_alloc | apply pw_below_drewN | apply below_drew1) | exact HB.out)) hb); clear HB; have HB := n0_; clear n0_; (try clear hb); (try clear hb2); (try clear hk); (try clear hi)) | ((with_reducible refine gate_callee (f := 14) rfl ?_); refine goesL_ (some 11) rfl rfl Tryd.func14 (by kernel_rfl) rfl #[.string a0] rfl (by (try simp only [List.map_toArray, List.map_cons, List.map_nil]); first | done | rfl | (simp only [List.length_drop, List.length_take]; rfl)) ?_; (with_reducible refine (redpenref18_Name.calls k a0 t114 _ A7.out).mono ?_); rintro e w' ⟨rfl, ⟨nd, rfl⟩⟩; refine ⟨_, rfl, ?_⟩))
   go_ret
   exact ⟨by first | rfl | (simp [errW_none, errW_some] <;> rfl) | (simp [*, errW_none, errW_some] <;> rfl), by repeat (first | (with_reducible first | exact HB.out | apply below_alloc | apply pw_below_drewN | apply below_drew1) | exact HB.out)⟩
 ·replace c3 := Bool.eq_false_iff.mpr c3
  subst c3
  have H1 : (some false) = some r := by rw [if_neg (show ¬ (false = true) by decide)] at H; exact H
  clear H
  have H := H1
  clear H1
  have hf_ := Option.some.inj H
  rw [hr_] at hf_
  cases hf_

/-- THE ONE PURE STATEMENT of redpenlaw20_ShowNames: yours. -/
def redpenlaw20_ShowNames.Pure : Prop := ∀ (a0 : ByteArray), a0.size ≤ 140737488351232 → ∃ k, redpenlaw20_ShowNames.f k a0 = some true
theorem redpenlaw20_ShowNames.walk (P : redpenlaw20_ShowNames.Pure) (a0 : ByteArray) (w : World) (w0 : a0.size ≤ 140737488351232) :
  Calls Tryd.prog 3 #[.string a0] w fun e w' => e = .returned (.bool true) ∧ Below w.heap.size w w' := by
 obtain ⟨k, h⟩ := P a0 w0
 refine (redpenlaw20_ShowNames.calls k a0 true w h rfl).mono ?_
 rintro e w' ⟨rfl, hd⟩
 exact ⟨rfl, hd⟩

end Go.Proofs.YtjabpbnlpljlkaaDoor.PShowNames
