-- Laid by a program of ours (the kit's print with words and contracts of our own beside it).
import Derived.Test.YtmnohlmdckcdeaaPTokenCasesx0
import Derived.Test.YtmnohlmdckcdeaaPTokenCasesx2
import Derived.Test.YtmnohlmdckcdeaaPTokenCasesx3
import Derived.Test.YtmnohlmdckcdeaaPTokenCasesx6
import Derived.Test.YtmnohlmdckcdeaaPTokenCasesx7
namespace Go.Proofs.Ytmnohlmdckcdeaa.PTokenCases
open Go.RowKit Go.Proofs.Ytmnohlmdckcdeaa.X Go.Proofs.YtmnohlmdckcdeaaW.PrintWords Go.Proofs.YtmnohlmdckcdeaaW.PrintLast Go.Proofs.YtmnohlmdckcdeaaW.PrintMore
attribute [local go_sem] max2_int min2_int max_two min_two max_three min_three max_four min_four   -- for this text's walks alone
set_option linter.unusedVariables false
set_option linter.unusedSimpArgs false

/-! ### redpenlaw16_TokenCases: function 9 -/
mutual
def redpenlaw16_TokenCases.l0 : Nat → Int → List ByteArray → ByteArray → List (List Int) → Int → Int → Option (Bool)
 | 0, _, _, _, _, _, _ => none
 | k + 1, x1, x5, x6, x17, x18, x19 => if x19 < x18 then (if 0 ≤ x19 then (if x19 < (x17.length : Int) then (redpenlaw16_TokenCases.l1 k x1 x5 x6 x19 (⟨#[]⟩ : ByteArray) x17 x18 x19 (rd_L11 x17 x19) ((rd_L11 x17 x19).length : Int) 0) else (none)) else (none)) else ((conv_bytes.f x6).bind fun t273 => ((conv_bytes.f x6).bind fun t276 => ((utf_Units.f k t276).bind fun t279 => ((token_Words.f k t273 t279 1 1000).bind fun t282 => (if (Int.tmod x1 3) > 0 then (redpenlaw16_TokenCases.j3 k x5 x6 t282 true) else (redpenlaw16_TokenCases.j3 k x5 x6 t282 ((x5.length : Int) == 0)))))))
def redpenlaw16_TokenCases.l1 : Nat → Int → List ByteArray → ByteArray → Int → ByteArray → List (List Int) → Int → Int → List Int → Int → Int → Option (Bool)
 | 0, _, _, _, _, _, _, _, _, _, _, _ => none
 | k + 1, x1, x5, x6, x7, x9, x17, x18, x19, x24, x25, x26 => if x26 < x25 then (if 0 ≤ x26 then (if x26 < (x24.length : Int) then (if x26 < 7 then ((some (([(97 + (Int.tmod (rd x24 x26) 26)) % 256] : List Int) : List Int)).bind fun y265 => (if x9.size + (strOfNums y265).size ≤ 9223372036854775807 then (redpenlaw16_TokenCases.l1 k x1 x5 x6 x7 (x9 ++ (strOfNums y265)) x17 x18 x19 x24 x25 (wrap64 (x26 + 1))) else (none))) else (redpenlaw16_TokenCases.l1 k x1 x5 x6 x7 x9 x17 x18 x19 x24 x25 (wrap64 (x26 + 1)))) else (none)) else (none)) else (if x7 < 10 then (redpenlaw16_TokenCases.j2 k x1 x5 x6 x9 x17 x18 x19 (decide ((x9.size : Int) > 1))) else (redpenlaw16_TokenCases.j2 k x1 x5 x6 x9 x17 x18 x19 false))
def redpenlaw16_TokenCases.j2 : Nat → Int → List ByteArray → ByteArray → ByteArray → List (List Int) → Int → Int → Bool → Option (Bool)
 | 0, _, _, _, _, _, _, _, _ => none
 | k + 1, x1, x5, x6, x9, x17, x18, x19, x47 => if x47 = true then (if x5.length < 8796093022208 then ((some (x5 ++ [x9] : List ByteArray)).bind fun y268 => (if (Int.tmod x1 3) = 0 then ((fold_As.f k 2 x9).bind fun t271 => (if x6.size + t271.size ≤ 9223372036854775807 then (redpenlaw16_TokenCases.l0 k x1 y268 (x6 ++ t271) x17 x18 (wrap64 (x19 + 1))) else (none))) else (if (Int.tmod x1 3) = 1 then (if x6.size + x9.size ≤ 9223372036854775807 then (redpenlaw16_TokenCases.l0 k x1 y268 (x6 ++ x9) x17 x18 (wrap64 (x19 + 1))) else (none)) else ((fold_As.f k 3 x9).bind fun t272 => (if x6.size + t272.size ≤ 9223372036854775807 then (redpenlaw16_TokenCases.l0 k x1 y268 (x6 ++ t272) x17 x18 (wrap64 (x19 + 1))) else (none)))))) else (none)) else (redpenlaw16_TokenCases.l0 k x1 x5 x6 x17 x18 (wrap64 (x19 + 1)))
def redpenlaw16_TokenCases.j3 : Nat → List ByteArray → ByteArray → List (S50) → Bool → Option (Bool)
 | 0, _, _, _, _ => none
 | k + 1, x5, x6, x12, x83 => if x83 = true then (if (x12.length : Int) = (mn (x5.length : Int) 1) then (if (x12.length : Int) = 0 then (some true) else (if 0 < (x12.length : Int) then (some (((rd_T50 x12 0).f0).toList == x6.toList)) else (none))) else (some false)) else (if (x12.length : Int) = (x5.length : Int) then (redpenlaw16_TokenCases.l2 k x5 x12 (x12.length : Int) 0) else (some false))
def redpenlaw16_TokenCases.l2 : Nat → List ByteArray → List (S50) → Int → Int → Option (Bool)
 | 0, _, _, _, _ => none
 | k + 1, x5, x108, x109, x110 => if x110 < x109 then (if 0 ≤ x110 then (if x110 < (x108.length : Int) then ((fold_Fold.f k ((rd_T50 x108 x110).f0)).bind fun t288 => (if x110 < (x5.length : Int) then (if t288.toList = (rdOf ByteArray.empty x5 x110).toList then (redpenlaw16_TokenCases.l2 k x5 x108 x109 (wrap64 (x110 + 1))) else (some false)) else (none))) else (none)) else (none)) else (some true)
end
def redpenlaw16_TokenCases.f (k : Nat) (l0 : List (List Int)) (a1 : Int) : Option (Bool) := (redpenlaw16_Awake.f k).bind fun t262 => (if t262 = true then (redpenlaw16_TokenCases.l0 k a1 ([] : List ByteArray) (⟨#[]⟩ : ByteArray) l0 (l0.length : Int) 0) else (some false))
theorem redpenlaw16_TokenCases.mono_l : ∀ k, (∀ y0 y1 y2 y3 y4 y5, LeO (redpenlaw16_TokenCases.l0 k y0 y1 y2 y3 y4 y5) (redpenlaw16_TokenCases.l0 (k + 1) y0 y1 y2 y3 y4 y5)) ∧ (∀ y0 y1 y2 y3 y4 y5 y6 y7 y8 y9 y10, LeO (redpenlaw16_TokenCases.l1 k y0 y1 y2 y3 y4 y5 y6 y7 y8 y9 y10) (redpenlaw16_TokenCases.l1 (k + 1) y0 y1 y2 y3 y4 y5 y6 y7 y8 y9 y10)) ∧ (∀ y0 y1 y2 y3 y4 y5 y6 y7, LeO (redpenlaw16_TokenCases.j2 k y0 y1 y2 y3 y4 y5 y6 y7) (redpenlaw16_TokenCases.j2 (k + 1) y0 y1 y2 y3 y4 y5 y6 y7)) ∧ (∀ y0 y1 y2 y3, LeO (redpenlaw16_TokenCases.j3 k y0 y1 y2 y3) (redpenlaw16_TokenCases.j3 (k + 1) y0 y1 y2 y3)) ∧ (∀ y0 y1 y2 y3, LeO (redpenlaw16_TokenCases.l2 k y0 y1 y2 y3) (redpenlaw16_TokenCases.l2 (k + 1) y0 y1 y2 y3))
 | 0 => ⟨fun _ _ _ _ _ _ r h => by simp [redpenlaw16_TokenCases.l0] at h, fun _ _ _ _ _ _ _ _ _ _ _ r h => by simp [redpenlaw16_TokenCases.l1] at h, fun _ _ _ _ _ _ _ _ r h => by simp [redpenlaw16_TokenCases.j2] at h, fun _ _ _ _ r h => by simp [redpenlaw16_TokenCases.j3] at h, fun _ _ _ _ r h => by simp [redpenlaw16_TokenCases.l2] at h⟩
 | k + 1 => by
  obtain ⟨ih0, ih1, ih2, ih3, ih4⟩ := redpenlaw16_TokenCases.mono_l k
  refine ⟨?_, ?_, ?_, ?_, ?_⟩
  ·intro y0 y1 y2 y3 y4 y5
   unfold redpenlaw16_TokenCases.l0
   repeat' first
   | (with_reducible exact ih0 _ _ _ _ _ _)
   | (with_reducible exact ih1 _ _ _ _ _ _ _ _ _ _ _)
   | (with_reducible exact ih2 _ _ _ _ _ _ _ _)
   | (with_reducible exact ih3 _ _ _ _)
   | (with_reducible exact ih4 _ _ _ _)
   | (with_reducible exact fold_As.mono _ _ _)
   | (with_reducible exact fold_Fold.mono _ _)
   | (with_reducible exact redpenlaw16_Awake.mono _)
   | (with_reducible exact token_Words.mono _ _ _ _ _)
   | (with_reducible exact utf_Units.mono _ _)
   | (with_reducible exact LeO.refl _)
   | (with_reducible exact LeO.none _)
   | (with_reducible refine LeO.ite ?_ ?_)
   | (with_reducible refine LeO.bind ?_ (fun _ => ?_))
   | exact ih0 _ _ _ _ _ _
   | exact ih1 _ _ _ _ _ _ _ _ _ _ _
   | exact ih2 _ _ _ _ _ _ _ _
   | exact ih3 _ _ _ _
   | exact ih4 _ _ _ _
   | exact fold_As.mono _ _ _
   | exact fold_Fold.mono _ _
   | exact redpenlaw16_Awake.mono _
   | exact token_Words.mono _ _ _ _ _
   | exact utf_Units.mono _ _
   | exact LeO.none _
   | refine LeO.ite ?_ ?_
   | refine LeO.bind ?_ (fun _ => ?_)
  ·intro y0 y1 y2 y3 y4 y5 y6 y7 y8 y9 y10
   unfold redpenlaw16_TokenCases.l1
   repeat' first
   | (with_reducible exact ih0 _ _ _ _ _ _)
   | (with_reducible exact ih1 _ _ _ _ _ _ _ _ _ _ _)
   | (with_reducible exact ih2 _ _ _ _ _ _ _ _)
   | (with_reducible exact ih3 _ _ _ _)
   | (with_reducible exact ih4 _ _ _ _)
   | (with_reducible exact fold_As.mono _ _ _)
   | (with_reducible exact fold_Fold.mono _ _)
   | (with_reducible exact redpenlaw16_Awake.mono _)
   | (with_reducible exact token_Words.mono _ _ _ _ _)
   | (with_reducible exact utf_Units.mono _ _)
   | (with_reducible exact LeO.refl _)
   | (with_reducible exact LeO.none _)
   | (with_reducible refine LeO.ite ?_ ?_)
   | (with_reducible refine LeO.bind ?_ (fun _ => ?_))
   | exact ih0 _ _ _ _ _ _
   | exact ih1 _ _ _ _ _ _ _ _ _ _ _
   | exact ih2 _ _ _ _ _ _ _ _
   | exact ih3 _ _ _ _
   | exact ih4 _ _ _ _
   | exact fold_As.mono _ _ _
   | exact fold_Fold.mono _ _
   | exact redpenlaw16_Awake.mono _
   | exact token_Words.mono _ _ _ _ _
   | exact utf_Units.mono _ _
   | exact LeO.none _
   | refine LeO.ite ?_ ?_
   | refine LeO.bind ?_ (fun _ => ?_)
  ·intro y0 y1 y2 y3 y4 y5 y6 y7
   unfold redpenlaw16_TokenCases.j2
   repeat' first
   | (with_reducible exact ih0 _ _ _ _ _ _)
   | (with_reducible exact ih1 _ _ _ _ _ _ _ _ _ _ _)
   | (with_reducible exact ih2 _ _ _ _ _ _ _ _)
   | (with_reducible exact ih3 _ _ _ _)
   | (with_reducible exact ih4 _ _ _ _)
   | (with_reducible exact fold_As.mono _ _ _)
   | (with_reducible exact fold_Fold.mono _ _)
   | (with_reducible exact redpenlaw16_Awake.mono _)
   | (with_reducible exact token_Words.mono _ _ _ _ _)
   | (with_reducible exact utf_Units.mono _ _)
   | (with_reducible exact LeO.refl _)
   | (with_reducible exact LeO.none _)
   | (with_reducible refine LeO.ite ?_ ?_)
   | (with_reducible refine LeO.bind ?_ (fun _ => ?_))
   | exact ih0 _ _ _ _ _ _
   | exact ih1 _ _ _ _ _ _ _ _ _ _ _
   | exact ih2 _ _ _ _ _ _ _ _
   | exact ih3 _ _ _ _
   | exact ih4 _ _ _ _
   | exact fold_As.mono _ _ _
   | exact fold_Fold.mono _ _
   | exact redpenlaw16_Awake.mono _
   | exact token_Words.mono _ _ _ _ _
   | exact utf_Units.mono _ _
   | exact LeO.none _
   | refine LeO.ite ?_ ?_
   | refine LeO.bind ?_ (fun _ => ?_)
  ·intro y0 y1 y2 y3
   unfold redpenlaw16_TokenCases.j3
   repeat' first
   | (with_reducible exact ih0 _ _ _ _ _ _)
   | (with_reducible exact ih1 _ _ _ _ _ _ _ _ _ _ _)
   | (with_reducible exact ih2 _ _ _ _ _ _ _ _)
   | (with_reducible exact ih3 _ _ _ _)
   | (with_reducible exact ih4 _ _ _ _)
   | (with_reducible exact fold_As.mono _ _ _)
   | (with_reducible exact fold_Fold.mono _ _)
   | (with_reducible exact redpenlaw16_Awake.mono _)
   | (with_reducible exact token_Words.mono _ _ _ _ _)
   | (with_reducible exact utf_Units.mono _ _)
   | (with_reducible exact LeO.refl _)
   | (with_reducible exact LeO.none _)
   | (with_reducible refine LeO.ite ?_ ?_)
   | (with_reducible refine LeO.bind ?_ (fun _ => ?_))
   | exact ih0 _ _ _ _ _ _
   | exact ih1 _ _ _ _ _ _ _ _ _ _ _
   | exact ih2 _ _ _ _ _ _ _ _
   | exact ih3 _ _ _ _
   | exact ih4 _ _ _ _
   | exact fold_As.mono _ _ _
   | exact fold_Fold.mono _ _
   | exact redpenlaw16_Awake.mono _
   | exact token_Words.mono _ _ _ _ _
   | exact utf_Units.mono _ _
   | exact LeO.none _
   | refine LeO.ite ?_ ?_
   | refine LeO.bind ?_ (fun _ => ?_)
  ·intro y0 y1 y2 y3
   unfold redpenlaw16_TokenCases.l2
   repeat' first
   | (with_reducible exact ih0 _ _ _ _ _ _)
   | (with_reducible exact ih1 _ _ _ _ _ _ _ _ _ _ _)
   | (with_reducible exact ih2 _ _ _ _ _ _ _ _)
   | (with_reducible exact ih3 _ _ _ _)
   | (with_reducible exact ih4 _ _ _ _)
   | (with_reducible exact fold_As.mono _ _ _)
   | (with_reducible exact fold_Fold.mono _ _)
   | (with_reducible exact redpenlaw16_Awake.mono _)
   | (with_reducible exact token_Words.mono _ _ _ _ _)
   | (with_reducible exact utf_Units.mono _ _)
   | (with_reducible exact LeO.refl _)
   | (with_reducible exact LeO.none _)
   | (with_reducible refine LeO.ite ?_ ?_)
   | (with_reducible refine LeO.bind ?_ (fun _ => ?_))
   | exact ih0 _ _ _ _ _ _
   | exact ih1 _ _ _ _ _ _ _ _ _ _ _
   | exact ih2 _ _ _ _ _ _ _ _
   | exact ih3 _ _ _ _
   | exact ih4 _ _ _ _
   | exact fold_As.mono _ _ _
   | exact fold_Fold.mono _ _
   | exact redpenlaw16_Awake.mono _
   | exact token_Words.mono _ _ _ _ _
   | exact utf_Units.mono _ _
   | exact LeO.none _
   | refine LeO.ite ?_ ?_
   | refine LeO.bind ?_ (fun _ => ?_)
theorem redpenlaw16_TokenCases.mono : ∀ a0 a1 k, LeO (redpenlaw16_TokenCases.f k a0 a1) (redpenlaw16_TokenCases.f (k + 1) a0 a1) := by
 intro a0 a1 k
 obtain ⟨ih0, ih1, ih2, ih3, ih4⟩ := redpenlaw16_TokenCases.mono_l k
 unfold redpenlaw16_TokenCases.f
 repeat' first
   | (with_reducible exact ih0 _ _ _ _ _ _)
   | (with_reducible exact ih1 _ _ _ _ _ _ _ _ _ _ _)
   | (with_reducible exact ih2 _ _ _ _ _ _ _ _)
   | (with_reducible exact ih3 _ _ _ _)
   | (with_reducible exact ih4 _ _ _ _)
   | (with_reducible exact fold_As.mono _ _ _)
   | (with_reducible exact fold_Fold.mono _ _)
   | (with_reducible exact redpenlaw16_Awake.mono _)
   | (with_reducible exact token_Words.mono _ _ _ _ _)
   | (with_reducible exact utf_Units.mono _ _)
   | (with_reducible exact LeO.refl _)
   | (with_reducible exact LeO.none _)
   | (with_reducible refine LeO.ite ?_ ?_)
   | (with_reducible refine LeO.bind ?_ (fun _ => ?_))
   | exact ih0 _ _ _ _ _ _
   | exact ih1 _ _ _ _ _ _ _ _ _ _ _
   | exact ih2 _ _ _ _ _ _ _ _
   | exact ih3 _ _ _ _
   | exact ih4 _ _ _ _
   | exact fold_As.mono _ _ _
   | exact fold_Fold.mono _ _
   | exact redpenlaw16_Awake.mono _
   | exact token_Words.mono _ _ _ _ _
   | exact utf_Units.mono _ _
   | exact LeO.none _
   | refine LeO.ite ?_ ?_
   | refine LeO.bind ?_ (fun _ => ?_)
def redpenlaw16_TokenCases.T32 : Bool × List (List Nat × List Nat) := (true, [([], []), ([0], [0]), ([1], [1]), ([], []), ([], []), ([3, 4], [3, 4]), ([5], [5]), ([2, 6], [2, 6])])
def redpenlaw16_TokenCases.B32 : List Nat := [0, 1, 3, 0, 0, 24, 56, 127]
theorem redpenlaw16_TokenCases.tab32 : rtab .any (opsOf Try.f9 32) = redpenlaw16_TokenCases.T32 := by kernel_rfl
theorem redpenlaw16_TokenCases.bits32 : waitsOk redpenlaw16_TokenCases.T32.2 redpenlaw16_TokenCases.B32 = true := by kernel_rfl
set_option maxHeartbeats 8000000 in
set_option maxRecDepth 100000 in
theorem redpenlaw16_TokenCases.calls (k : Nat) (A0 : Option Addr) (c0 : Nat) (l0 : List (List Int)) (a1 : Int) (r : Bool) (w : World) (hr0 : Kd.C (Kd.slice 5 (Kd.int .u8)) w A0 l0.length l0) (hc0 : l0.length ≤ c0) (h : redpenlaw16_TokenCases.f k l0 a1 = some r) (hr_ : r = true) :
  Calls Try.prog 9 #[.slice A0 l0.length c0, .int .u8 a1] w fun e w' => e = .returned (.bool r) ∧ Below w.heap.size w w' := by
 have hu50 := Try.underlying50
 have HR0 := Aside0.mk hr0
 have HC0 := Aside0.mk hc0
 clear hr0 hc0
 have HB := Aside0.mk (Below.refl w.heap.size w)
 have H : ((redpenlaw16_Awake.f k).bind fun t262 => (if t262 = true then (redpenlaw16_TokenCases.l0 k a1 ([] : List ByteArray) (⟨#[]⟩ : ByteArray) l0 (l0.length : Int) 0) else (some false))) = some r := h
 clear h
 replace H := Option.bind_eq_some_iff.mp H
 obtain ⟨t262, A30, H⟩ := H
 replace H : (if t262 = true then (redpenlaw16_TokenCases.l0 k a1 ([] : List ByteArray) (⟨#[]⟩ : ByteArray) l0 (l0.length : Int) 0) else (some false)) = some r := H
 have A3 := Aside0.mk A30
 clear A30
 by_cases c4 : t262 = true
 ·subst c4
  have H1 : (redpenlaw16_TokenCases.l0 k a1 ([] : List ByteArray) (⟨#[]⟩ : ByteArray) l0 (l0.length : Int) 0) = some r := by rw [if_pos rfl] at H; exact H
  clear H
  have H := H1
  clear H1
  have H' := Aside0.mk H
  clear H
  go_enter Try.func9, Try.ntmps9
  go_wp2_with (first | ((with_reducible refine gate_callee (f := 23) rfl ?_); refine goesL_ (some 15) rfl rfl Try.func23 (by kernel_rfl) rfl #[] rfl (by (try simp only [List.map_toArray, List.map_cons, List.map_nil]); first | done | rfl | (simp only [List.length_drop, List.length_take]; rfl)) ?_; (with_reducible refine (redpenlaw16_Awake.calls k  true _ A3.out).mono ?_); rintro e w5 ⟨rfl, hb⟩; refine ⟨_, rfl, ?_⟩; have n0_ := Aside0.mk (below_step (by repeat (first | (with_reducible first | exact HB.out | apply below_alloc | apply pw_below_drewN | apply below_drew1) | exact HB.out)) hb); clear HB; have HB := n0_; clear n0_; (try clear hb); (try clear hb2); (try clear hk); (try clear hi)))
  go_loopg [5, 6, 19] k (fun kq v5 v6 v19 w' => ∃ (x5_1 : List ByteArray) (x6_1 : ByteArray) (x19_1 : Int), v6 = .string x6_1 ∧ v19 = .int .i64 x19_1 ∧ Aside0 (redpenlaw16_TokenCases.l0 kq a1 x5_1 x6_1 l0 (l0.length : Int) x19_1 = some r) ∧ Aside0 (kq ≤ k) ∧ Aside0 (Kd.R Kd.string 9 w' w.heap.size (fun _ => True) v5 x5_1) ∧ Aside0 (Below w.heap.size w w'))
  case atStart => exact ⟨(([] : List ByteArray)), ((⟨#[]⟩ : ByteArray)), (0), (by first | rfl | (simp; done) | (simp [*]; done)), (by first | rfl | (simp; done) | (simp [*]; done)), H', ⟨Nat.le_refl _⟩, ⟨by first | exact Kd.R_nil _ _ _ _ _ | exact Kd.N_nil _ _ _ _ _ | exact Kd.V_nil _ _ _ _ _ | exact Kd.Q_nil _ _ _ _ _ | exact Kd.S_nil _ _ _ _ _⟩, ⟨by repeat (first | (with_reducible first | exact HB.out | apply below_alloc | apply pw_below_drewN | apply below_drew1) | exact HB.out)⟩⟩
  case round =>
   clear H'
   try clear c2
   try clear p2
   try clear c4
   obtain ⟨x5_1, x6_1, x19_1, rfl, rfl, HA, HK1, HO_5, HB⟩ := hrel
   cases gk with
   | zero => exact absurd HA.out (by simp [redpenlaw16_TokenCases.l0])
   | succ k1 =>
    have H := HA.out
    clear HA
    simp only [redpenlaw16_TokenCases.l0] at H
    by_cases c6 : x19_1 < (l0.length : Int)
    ·rw [if_pos c6] at H
     have c6b0 : decide (x19_1 < (l0.length : Int)) = true := decide_eq_true c6
     clear c6
     by_cases c7 : 0 ≤ x19_1
     ·rw [if_pos c7] at H
      have c7b0 : decide (0 ≤ x19_1) = true := decide_eq_true c7
      clear c7
      by_cases c8 : x19_1 < (l0.length : Int)
      ·rw [if_pos c8] at H
       have c8b0 : decide (x19_1 < (l0.length : Int)) = true := decide_eq_true c8
       clear c8
       have H' := Aside0.mk H
       clear H
       have p263 : 0 ≤ (x19_1 : Int) := of_decide_eq_true (by first | (with_reducible assumption) | assumption)
       have q263 : x19_1 < (l0.length : Int) := of_decide_eq_true (by first | (with_reducible assumption) | assumption)
       obtain ⟨ad263, A263_0, c263_0, e263, hx263_0, hl263_0, hi263_0⟩ := at_L11 HR0.out x19_1 p263 q263
       cases e263
       replace hx263_0 := (HB.out.cell (World.block_lt_of_cell? w _ hx263_0)).trans hx263_0
       have HR263_0 := Aside0.mk hi263_0
       have HC263_0 := Aside0.mk hl263_0
       clear hi263_0 hl263_0
       replace p263 := eq_true p263
       replace q263 := eq_true q263
       go_wp2
       go_loopg [9, 26] k1 (fun kq v9 v26 w' => ∃ (x9_2 : ByteArray) (x26_2 : Int), v9 = .string x9_2 ∧ v26 = .int .i64 x26_2 ∧ Aside0 (redpenlaw16_TokenCases.l1 kq a1 x5_1 x6_1 x19_1 x9_2 l0 (l0.length : Int) x19_1 (rd_L11 l0 x19_1) ((rd_L11 l0 x19_1).length : Int) x26_2 = some r) ∧ Aside0 (kq ≤ k1) ∧ Aside0 (Kd.R Kd.string 9 w' w.heap.size (fun _ => True) u5 x5_1) ∧ Aside0 (Below w.heap.size w w'))
       case atStart => exact ⟨((⟨#[]⟩ : ByteArray)), (0), (by first | rfl | (simp; done) | (simp [*]; done)), (by first | rfl | (simp; done) | (simp [*]; done)), H', ⟨Nat.le_refl _⟩, ⟨by (with_reducible repeat (first | apply Kd.R_alloc | apply Kd.R_drewN | apply Kd.R_drew)); exact HO_5.out⟩, ⟨by repeat (first | (with_reducible first | exact HB.out | apply below_alloc | apply pw_below_drewN | apply below_drew1) | exact HB.out)⟩⟩
       case round =>
        clear H'
        try clear c2
        try clear p2
        try clear q2
        try clear hx2
        try clear c4
        try clear c6
        try clear c6b0
        try clear c7
        try clear c7b0
        try clear c8
        try clear c8b0
        try clear hx263_0
        try clear p2
        try clear p263
        try clear q263
        obtain ⟨x9_2, x26_2, rfl, rfl, HA, HK2, HO_5, HB⟩ := hrel
        cases gk with
        | zero => exact absurd HA.out (by simp [redpenlaw16_TokenCases.l1])
        | succ k2 =>
         have H := HA.out
         clear HA
         simp only [redpenlaw16_TokenCases.l1] at H
         by_cases c9 : x26_2 < ((rd_L11 l0 x19_1).length : Int)
         ·rw [if_pos c9] at H
          have c9b0 : decide (x26_2 < ((rd_L11 l0 x19_1).length : Int)) = true := decide_eq_true c9
          clear c9
          by_cases c10 : 0 ≤ x26_2
          ·rw [if_pos c10] at H
           have c10b0 : decide (0 ≤ x26_2) = true := decide_eq_true c10
           clear c10
           by_cases c11 : x26_2 < ((rd_L11 l0 x19_1).length : Int)
           ·rw [if_pos c11] at H
            have c11b0 : decide (x26_2 < ((rd_L11 l0 x19_1).length : Int)) = true := decide_eq_true c11
            clear c11
            by_cases c12 : x26_2 < 7
            ·rw [if_pos c12] at H
             have c12b0 : decide (x26_2 < 7) = true := decide_eq_true c12
             clear c12
             obtain ⟨y265, hy265⟩ : ∃ y_ : List Int, y_ = (([(97 + (Int.tmod (rd (rd_L11 l0 x19_1) x26_2) 26)) % 256] : List Int)) := ⟨_, rfl⟩
             replace H : (if x9_2.size + (strOfNums y265).size ≤ 9223372036854775807 then (redpenlaw16_TokenCases.l1 k2 a1 x5_1 x6_1 x19_1 (x9_2 ++ (strOfNums y265)) l0 (l0.length : Int) x19_1 (rd_L11 l0 x19_1) ((rd_L11 l0 x19_1).length : Int) (wrap64 (x26_2 + 1))) else (none)) = some r := by first | (rw [hy265]; with_reducible exact H) | (have H2_ := (Option.bind_some _ _).symm.trans H; rw [hy265]; with_reducible exact H2_) | (have H2_ := (Option.bind_some _ _).symm.trans H; with_reducible exact H2_) | with_reducible exact H | (rw [hy265]; exact H) | exact H
             have Ny265 := Aside0.mk hy265
             clear hy265
             by_cases c13 : x9_2.size + (strOfNums y265).size ≤ 9223372036854775807
             ·rw [if_pos c13] at H
              have c13b0 := eq_true c13
              have c13b1 : decide (x9_2.size + (strOfNums y265).size ≤ 9223372036854775807) = true := decide_eq_true c13
              try have c13b2 : (9223372036854775807 < x9_2.size + (strOfNums y265).size) = False := eq_false (Nat.not_lt.2 c13)
              have H' := Aside0.mk H
              clear H
              have p264 : 0 ≤ (x26_2 : Int) := of_decide_eq_true (by first | (with_reducible assumption) | assumption)
              have q264 : x26_2 < ((rd_L11 l0 x19_1).length : Int) := of_decide_eq_true (by first | (with_reducible assumption) | assumption)
              obtain ⟨ad264, e264, hx264_0⟩ := Kd.at_int HR263_0.out x26_2 p264 q264
              cases e264
              replace hx264_0 := (HB.out.cell (World.block_lt_of_cell? w _ hx264_0)).trans hx264_0
              replace p264 := eq_true p264
              replace q264 := eq_true q264
              go_wp2_with (first | ((with_reducible refine gate_dst (N := 37) rfl ?_); (try (refine gate_guard (by rfl) ?_; dsimp only)); refine Kd.R_lit (Kd.int .u8) _ 5 ?hg (N := 37) ?hd (xs := ([(97 + (Int.tmod (rd (rd_L11 l0 x19_1) x26_2) 26)) % 256] : List Int)) (inner := [.int .u8 ((97 + (Int.tmod (rd (rd_L11 l0 x19_1) x26_2) 26)) % 256)]) (ok := fun _ => True) (okp := fun _ => True) ?hr ?hp (fun _ hk => hk) trivial (Below.refl _ _) (Nat.le_refl _) (by simp) ?_; (case hd => rfl); (case hg => rfl); (case hr => first | (go_simp; done) | (go_simp; rfl)); (case hp => exact (Reps.one (show Kd.M (Kd.int .u8) _ _ _ ((97 + (Int.tmod (rd (rd_L11 l0 x19_1) x26_2) 26)) % 256) [.int .u8 ((97 + (Int.tmod (rd (rd_L11 l0 x19_1) x26_2) 26)) % 256)] from rfl) (Reps.none _ _))); intro v266 w14 ho15 hb hg_ hnew_; clear hg_ hnew_; (first | rw [← Ny265.out] at ho15 | (simp only [Int.reduceToNat] at ho15; rw [← Ny265.out] at ho15)); have n0_ := Aside0.mk (Kd.R_below (by (with_reducible repeat (first | apply Kd.R_alloc | apply Kd.R_drewN | apply Kd.R_drew)); exact HO_5.out) hb); have n1_ := Aside0.mk (Kd.R_lower ho15 (below_size (by repeat (first | (with_reducible first | exact HB.out | apply below_alloc | apply pw_below_drewN | apply below_drew1) | exact HB.out)))); have n2_ := Aside0.mk (below_step (by repeat (first | (with_reducible first | exact HB.out | apply below_alloc | apply pw_below_drewN | apply below_drew1) | exact HB.out)) hb); clear HO_5; clear HB; have HO_5 := n0_; have HO267 := n1_; have HB := n2_; clear n0_ n1_ n2_; clear hb ho15; have hcv16 := own_string (P := Try.prog) Try.underlying32 Try.underlying5 Try.underlying9 (Kd.own_of_R HO267.out); have hcv16n := fun (n_ : Nat) => own_string (P := Try.prog) Try.underlying32 Try.underlying5 Try.underlying9 (Kd.own_of_R (Kd.R_drewN HO267.out n_))))
              go_roundg k2
              case measure => have := HK1.out; have := HK2.out; omega
              case rel => exact ⟨(x9_2 ++ (strOfNums y265)), (wrap64 (x26_2 + 1)), (by first | rfl | (simp; done) | (simp [*]; done)), (by first | rfl | (simp; done) | (simp [*]; done)), H', ⟨by have := HK1.out; have := HK2.out; omega⟩, ⟨by (with_reducible repeat (first | apply Kd.R_alloc | apply Kd.R_drewN | apply Kd.R_drew)); exact HO_5.out⟩, ⟨by repeat (first | (with_reducible first | exact HB.out | apply below_alloc | apply pw_below_drewN | apply below_drew1) | exact HB.out)⟩⟩
             ·rw [if_neg c13] at H
              exact absurd H (by simp)
            ·rw [if_neg c12] at H
             have c12b0 : decide (x26_2 < 7) = false := decide_eq_false c12
             clear c12
             have H' := Aside0.mk H
             clear H
             have p264 : 0 ≤ (x26_2 : Int) := of_decide_eq_true (by first | (with_reducible assumption) | assumption)
             have q264 : x26_2 < ((rd_L11 l0 x19_1).length : Int) := of_decide_eq_true (by first | (with_reducible assumption) | assumption)
             obtain ⟨ad264, e264, hx264_0⟩ := Kd.at_int HR263_0.out x26_2 p264 q264
             cases e264
             replace hx264_0 := (HB.out.cell (World.block_lt_of_cell? w _ hx264_0)).trans hx264_0
             replace p264 := eq_true p264
             replace q264 := eq_true q264
             go_wp2
             go_roundg k2
             case measure => have := HK1.out; have := HK2.out; omega
             case rel => exact ⟨(x9_2), (wrap64 (x26_2 + 1)), (by first | rfl | (simp; done) | (simp [*]; done)), (by first | rfl | (simp; done) | (simp [*]; done)), H', ⟨by have := HK1.out; have := HK2.out; omega⟩, ⟨by (with_reducible repeat (first | apply Kd.R_alloc | apply Kd.R_drewN | apply Kd.R_drew)); exact HO_5.out⟩, ⟨by repeat (first | (with_reducible first | exact HB.out | apply below_alloc | apply pw_below_drewN | apply below_drew1) | exact HB.out)⟩⟩
           ·rw [if_neg c11] at H
            exact absurd H (by simp)
          ·rw [if_neg c10] at H
           exact absurd H (by simp)
         ·rw [if_neg c9] at H
          have c9b0 : decide (x26_2 < ((rd_L11 l0 x19_1).length : Int)) = false := decide_eq_false c9
          clear c9
          have HC17 := Aside0.mk H
          clear H
          go_upto_region 15 with (fail)
          go_cut [47] (fun v47 wc => ∃ (kq : Nat) (x47_16 : Bool), v47 = .bool x47_16 ∧ Aside0 (redpenlaw16_TokenCases.j2 kq a1 x5_1 x6_1 x9_2 l0 (l0.length : Int) x19_1 x47_16 = some r) ∧ Aside0 (kq ≤ k2) ∧ Aside0 (Kd.R Kd.string 9 wc w.heap.size (fun _ => True) u5 x5_1) ∧ Aside0 (Below w.heap.size w wc))
          case first =>
           have H := HC17.out
           clear HC17
           by_cases c18 : x19_1 < 10
           ·rw [if_pos c18] at H
            have c18b0 : decide (x19_1 < 10) = true := decide_eq_true c18
            clear c18
            (first | rw [c18b0] | (simp only [i64_w, i32_w]; rw [c18b0]) | skip)
            have H' := Aside0.mk H
            clear H
            go_wp2
            go_meet
            case rel => exact ⟨_, (decide ((x9_2.size : Int) > 1)), (by first | rfl | (simp; done) | (simp [*]; done)), H', ⟨by have := HK1.out; have := HK2.out; first | omega | exact Nat.le_refl _⟩, ⟨by (with_reducible repeat (first | apply Kd.R_alloc | apply Kd.R_drewN | apply Kd.R_drew)); exact HO_5.out⟩, ⟨by repeat (first | (with_reducible first | exact HB.out | apply below_alloc | apply pw_below_drewN | apply below_drew1) | exact HB.out)⟩⟩
           ·rw [if_neg c18] at H
            have c18b0 : decide (x19_1 < 10) = false := decide_eq_false c18
            clear c18
            (first | rw [c18b0] | (simp only [i64_w, i32_w]; rw [c18b0]) | skip)
            have H' := Aside0.mk H
            clear H
            go_wp2
            go_meet
            case rel => exact ⟨_, (false), (by first | rfl | (simp; done) | (simp [*]; done)), H', ⟨by have := HK1.out; have := HK2.out; first | omega | exact Nat.le_refl _⟩, ⟨by (with_reducible repeat (first | apply Kd.R_alloc | apply Kd.R_drewN | apply Kd.R_drew)); exact HO_5.out⟩, ⟨by repeat (first | (with_reducible first | exact HB.out | apply below_alloc | apply pw_below_drewN | apply below_drew1) | exact HB.out)⟩⟩
          case rest =>
           clear HC17
           try clear c1
           try clear hcv1
           try clear c2
           try clear p2
           try clear q2
           try clear hx2
           try clear c4
           try clear c6
           try clear c6b0
           try clear p6
           try clear c7
           try clear c7b0
           try clear c8
           try clear c8b0
           try clear c9
           try clear c9b0
           try clear c10
           try clear c10b0
           try clear c11
           try clear c11b0
           try clear c12
           try clear c12b0
           try clear c13
           try clear c13b0
           try clear c13b1
           try clear c13b2
           try clear hcv16
           try clear c18
           try clear c18b0
           try clear hx263_0
           try clear hx264_0
           try clear p2
           try clear p263
           try clear p264
           try clear q2
           try clear q263
           try clear q264
           obtain ⟨kq, x47_16, rfl, HA, HJ16, HO_5, HB⟩ := hcut
           cases kq with
           | zero => exact absurd HA.out (by simp [redpenlaw16_TokenCases.j2])
           | succ kj16 =>
            have H := HA.out
            clear HA
            simp only [redpenlaw16_TokenCases.j2] at H
            by_cases c19 : x47_16 = true
            ·subst c19
             have H1 : (if x5_1.length < 8796093022208 then ((some (x5_1 ++ [x9_2] : List ByteArray)).bind fun y268 => (if (Int.tmod a1 3) = 0 then ((fold_As.f kj16 2 x9_2).bind fun t271 => (if x6_1.size + t271.size ≤ 9223372036854775807 then (redpenlaw16_TokenCases.l0 kj16 a1 y268 (x6_1 ++ t271) l0 (l0.length : Int) (wrap64 (x19_1 + 1))) else (none))) else (if (Int.tmod a1 3) = 1 then (if x6_1.size + x9_2.size ≤ 9223372036854775807 then (redpenlaw16_TokenCases.l0 kj16 a1 y268 (x6_1 ++ x9_2) l0 (l0.length : Int) (wrap64 (x19_1 + 1))) else (none)) else ((fold_As.f kj16 3 x9_2).bind fun t272 => (if x6_1.size + t272.size ≤ 9223372036854775807 then (redpenlaw16_TokenCases.l0 kj16 a1 y268 (x6_1 ++ t272) l0 (l0.length : Int) (wrap64 (x19_1 + 1))) else (none)))))) else (none)) = some r := by rw [if_pos rfl] at H; exact H
             clear H
             have H := H1
             clear H1
             by_cases c20 : x5_1.length < 8796093022208
             ·rw [if_pos c20] at H
              have LMc20 := Aside0.mk c20
              clear c20
              obtain ⟨y268, hy268⟩ : ∃ y_ : List ByteArray, y_ = (x5_1 ++ [x9_2]) := ⟨_, rfl⟩
              replace H : (if (Int.tmod a1 3) = 0 then ((fold_As.f kj16 2 x9_2).bind fun t271 => (if x6_1.size + t271.size ≤ 9223372036854775807 then (redpenlaw16_TokenCases.l0 kj16 a1 y268 (x6_1 ++ t271) l0 (l0.length : Int) (wrap64 (x19_1 + 1))) else (none))) else (if (Int.tmod a1 3) = 1 then (if x6_1.size + x9_2.size ≤ 9223372036854775807 then (redpenlaw16_TokenCases.l0 kj16 a1 y268 (x6_1 ++ x9_2) l0 (l0.length : Int) (wrap64 (x19_1 + 1))) else (none)) else ((fold_As.f kj16 3 x9_2).bind fun t272 => (if x6_1.size + t272.size ≤ 9223372036854775807 then (redpenlaw16_TokenCases.l0 kj16 a1 y268 (x6_1 ++ t272) l0 (l0.length : Int) (wrap64 (x19_1 + 1))) else (none))))) = some r := by first | (rw [hy268]; with_reducible exact H) | (have H2_ := (Option.bind_some _ _).symm.trans H; rw [hy268]; with_reducible exact H2_) | (have H2_ := (Option.bind_some _ _).symm.trans H; with_reducible exact H2_) | with_reducible exact H | (rw [hy268]; exact H) | exact H
              have Ny268 := Aside0.mk hy268
              clear hy268
              by_cases c21 : (Int.tmod a1 3) = 0
              ·rw [if_pos c21] at H
               have c21b0 : ((Int.tmod a1 3) == 0) = true := beq_iff_eq.mpr c21
               have c21b1 : ((Int.tmod a1 3) != 0) = false := bne_eq_false_iff_eq.mpr c21
               clear c21
               replace H := Option.bind_eq_some_iff.mp H
               obtain ⟨t271, A220, H⟩ := H
               replace H : (if x6_1.size + t271.size ≤ 9223372036854775807 then (redpenlaw16_TokenCases.l0 kj16 a1 y268 (x6_1 ++ t271) l0 (l0.length : Int) (wrap64 (x19_1 + 1))) else (none)) = some r := H
               have A22 := Aside0.mk A220
               clear A220
               by_cases c23 : x6_1.size + t271.size ≤ 9223372036854775807
               ·rw [if_pos c23] at H
                have c23b0 := eq_true c23
                have c23b1 : decide (x6_1.size + t271.size ≤ 9223372036854775807) = true := decide_eq_true c23
                try have c23b2 : (9223372036854775807 < x6_1.size + t271.size) = False := eq_false (Nat.not_lt.2 c23)
                have H' := Aside0.mk H
                clear H
                go_wp2_with (first | ((with_reducible refine gate_builtin (b := .append) (xs := #[.tmp 48, .tmp 50]) rfl ?_); (try (refine gate_guard (by rfl) ?_; dsimp only)); at_builtin; refine Kd.R_append Kd.string (w0 := w) w.heap.size rfl (.tmp 48) (.tmp 50) 37 9 (.string ⟨#[]⟩) 16 rfl Try.underlying37 info9 rfl (by decide) (by omega) u5 x5_1 x9_2 [.string x9_2] (fun _ => True) (fun _ => False) rfl rfl ?aP (fun _ hk => hk.elim) ?aF ?aO ?aB ?aS ?aL ?_; (case aP => exact rfl); (case aB => exact (by repeat (first | (with_reducible first | exact HB.out | apply below_alloc | apply pw_below_drewN | apply below_drew1) | exact HB.out))); (case aF => exact (fun _ _ => trivial)); (case aO => exact (by (with_reducible repeat (first | apply Kd.R_alloc | apply Kd.R_drewN | apply Kd.R_drew)); exact HO_5.out)); (case aS => exact (below_size (by repeat (first | (with_reducible first | exact HB.out | apply below_alloc | apply pw_below_drewN | apply below_drew1) | exact HB.out)))); (case aL => have := LMc20.out; omega); intro v269 w24 ho hb hg hat; rw [← Ny268.out] at ho; have n0_ := Aside0.mk (hb); have n1_ := Aside0.mk (ho); clear HB; clear HO_5; have HB := n0_; have HO270 := n1_; clear n0_ n1_; clear ho hb hg hat) | ((with_reducible refine gate_callee (f := 22) rfl ?_); refine goesL_ (some 62) rfl rfl Try.func22 (by kernel_rfl) rfl #[.int .u8 2, .string x9_2] rfl (by (try simp only [List.map_toArray, List.map_cons, List.map_nil]); first | done | rfl | (simp only [List.length_drop, List.length_take]; rfl)) ?_; (with_reducible refine (fold_As.calls kj16 2 x9_2 t271 _ A22.out).mono ?_); rintro e w25 ⟨rfl, hb⟩; refine ⟨_, rfl, ?_⟩; have n0_ := Aside0.mk (Kd.R_below (by (with_reducible repeat (first | apply Kd.R_alloc | apply Kd.R_drewN | apply Kd.R_drew)); exact HO270.out) hb); have n1_ := Aside0.mk (below_step (by repeat (first | (with_reducible first | exact HB.out | apply below_alloc | apply pw_below_drewN | apply below_drew1) | exact HB.out)) hb); clear HO270; clear HB; have HO270 := n0_; have HB := n1_; clear n0_ n1_; (try clear hb); (try clear hb2); (try clear hk); (try clear hi)))
                go_roundg kj16
                case measure => have := HK1.out; have := HK2.out; have := HJ16.out; omega
                case rel => exact ⟨(y268), (x6_1 ++ t271), (wrap64 (x19_1 + 1)), (by first | rfl | (simp; done) | (simp [*]; done)), (by first | rfl | (simp; done) | (simp [*]; done)), H', ⟨by have := HK1.out; have := HK2.out; have := HJ16.out; omega⟩, ⟨by (with_reducible repeat (first | apply Kd.R_alloc | apply Kd.R_drewN | apply Kd.R_drew)); exact HO270.out⟩, ⟨by repeat (first | (with_reducible first | exact HB.out | apply below_alloc | apply pw_below_drewN | apply below_drew1) | exact HB.out)⟩⟩
               ·rw [if_neg c23] at H
                exact absurd H (by simp)
              ·rw [if_neg c21] at H
               have c21b0 : ((Int.tmod a1 3) == 0) = false := beq_eq_false_iff_ne.mpr c21
               have c21b1 : ((Int.tmod a1 3) != 0) = true := bne_iff_ne.mpr c21
               by_cases c26 : (Int.tmod a1 3) = 1
               ·rw [if_pos c26] at H
                have c26b0 : ((Int.tmod a1 3) == 1) = true := beq_iff_eq.mpr c26
                have c26b1 : ((Int.tmod a1 3) != 1) = false := bne_eq_false_iff_eq.mpr c26
                clear c26
                by_cases c27 : x6_1.size + x9_2.size ≤ 9223372036854775807
                ·rw [if_pos c27] at H
                 have c27b0 := eq_true c27
                 have c27b1 : decide (x6_1.size + x9_2.size ≤ 9223372036854775807) = true := decide_eq_true c27
                 try have c27b2 : (9223372036854775807 < x6_1.size + x9_2.size) = False := eq_false (Nat.not_lt.2 c27)
                 have H' := Aside0.mk H
                 clear H
                 go_wp2_with (first | ((with_reducible refine gate_builtin (b := .append) (xs := #[.tmp 48, .tmp 50]) rfl ?_); (try (refine gate_guard (by rfl) ?_; dsimp only)); at_builtin; refine Kd.R_append Kd.string (w0 := w) w.heap.size rfl (.tmp 48) (.tmp 50) 37 9 (.string ⟨#[]⟩) 16 rfl Try.underlying37 info9 rfl (by decide) (by omega) u5 x5_1 x9_2 [.string x9_2] (fun _ => True) (fun _ => False) rfl rfl ?aP (fun _ hk => hk.elim) ?aF ?aO ?aB ?aS ?aL ?_; (case aP => exact rfl); (case aB => exact (by repeat (first | (with_reducible first | exact HB.out | apply below_alloc | apply pw_below_drewN | apply below_drew1) | exact HB.out))); (case aF => exact (fun _ _ => trivial)); (case aO => exact (by (with_reducible repeat (first | apply Kd.R_alloc | apply Kd.R_drewN | apply Kd.R_drew)); exact HO_5.out)); (case aS => exact (below_size (by repeat (first | (with_reducible first | exact HB.out | apply below_alloc | apply pw_below_drewN | apply below_drew1) | exact HB.out)))); (case aL => have := LMc20.out; omega); intro v269 w28 ho hb hg hat; rw [← Ny268.out] at ho; have n0_ := Aside0.mk (hb); have n1_ := Aside0.mk (ho); clear HB; clear HO_5; have HB := n0_; have HO270 := n1_; clear n0_ n1_; clear ho hb hg hat))
                 go_roundg kj16
                 case measure => have := HK1.out; have := HK2.out; have := HJ16.out; omega
                 case rel => exact ⟨(y268), (x6_1 ++ x9_2), (wrap64 (x19_1 + 1)), (by first | rfl | (simp; done) | (simp [*]; done)), (by first | rfl | (simp; done) | (simp [*]; done)), H', ⟨by have := HK1.out; have := HK2.out; have := HJ16.out; omega⟩, ⟨by (with_reducible repeat (first | apply Kd.R_alloc | apply Kd.R_drewN | apply Kd.R_drew)); exact HO270.out⟩, ⟨by repeat (first | (with_reducible first | exact HB.out | apply below_alloc | apply pw_below_drewN | apply below_drew1) | exact HB.out)⟩⟩
                ·rw [if_neg c27] at H
                 exact absurd H (by simp)
               ·rw [if_neg c26] at H
                have c26b0 : ((Int.tmod a1 3) == 1) = false := beq_eq_false_iff_ne.mpr c26
                have c26b1 : ((Int.tmod a1 3) != 1) = true := bne_iff_ne.mpr c26
                replace H := Option.bind_eq_some_iff.mp H
                obtain ⟨t272, A290, H⟩ := H
                replace H : (if x6_1.size + t272.size ≤ 9223372036854775807 then (redpenlaw16_TokenCases.l0 kj16 a1 y268 (x6_1 ++ t272) l0 (l0.length : Int) (wrap64 (x19_1 + 1))) else (none)) = some r := H
                have A29 := Aside0.mk A290
                clear A290
                by_cases c30 : x6_1.size + t272.size ≤ 9223372036854775807
                ·rw [if_pos c30] at H
                 have c30b0 := eq_true c30
                 have c30b1 : decide (x6_1.size + t272.size ≤ 9223372036854775807) = true := decide_eq_true c30
                 try have c30b2 : (9223372036854775807 < x6_1.size + t272.size) = False := eq_false (Nat.not_lt.2 c30)
                 have H' := Aside0.mk H
                 clear H
                 go_wp2_with (first | ((with_reducible refine gate_builtin (b := .append) (xs := #[.tmp 48, .tmp 50]) rfl ?_); (try (refine gate_guard (by rfl) ?_; dsimp only)); at_builtin; refine Kd.R_append Kd.string (w0 := w) w.heap.size rfl (.tmp 48) (.tmp 50) 37 9 (.string ⟨#[]⟩) 16 rfl Try.underlying37 info9 rfl (by decide) (by omega) u5 x5_1 x9_2 [.string x9_2] (fun _ => True) (fun _ => False) rfl rfl ?aP (fun _ hk => hk.elim) ?aF ?aO ?aB ?aS ?aL ?_; (case aP => exact rfl); (case aB => exact (by repeat (first | (with_reducible first | exact HB.out | apply below_alloc | apply pw_below_drewN | apply below_drew1) | exact HB.out))); (case aF => exact (fun _ _ => trivial)); (case aO => exact (by (with_reducible repeat (first | apply Kd.R_alloc | apply Kd.R_drewN | apply Kd.R_drew)); exact HO_5.out)); (case aS => exact (below_size (by repeat (first | (with_reducible first | exact HB.out | apply below_alloc | apply pw_below_drewN | apply below_drew1) | exact HB.out)))); (case aL => have := LMc20.out; omega); intro v269 w31 ho hb hg hat; rw [← Ny268.out] at ho; have n0_ := Aside0.mk (hb); have n1_ := Aside0.mk (ho); clear HB; clear HO_5; have HB := n0_; have HO270 := n1_; clear n0_ n1_; clear ho hb hg hat) | ((with_reducible refine gate_callee (f := 22) rfl ?_); refine goesL_ (some 56) rfl rfl Try.func22 (by kernel_rfl) rfl #[.int .u8 3, .string x9_2] rfl (by (try simp only [List.map_toArray, List.map_cons, List.map_nil]); first | done | rfl | (simp only [List.length_drop, List.length_take]; rfl)) ?_; (with_reducible refine (fold_As.calls kj16 3 x9_2 t272 _ A29.out).mono ?_); rintro e w32 ⟨rfl, hb⟩; refine ⟨_, rfl, ?_⟩; have n0_ := Aside0.mk (Kd.R_below (by (with_reducible repeat (first | apply Kd.R_alloc | apply Kd.R_drewN | apply Kd.R_drew)); exact HO270.out) hb); have n1_ := Aside0.mk (below_step (by repeat (first | (with_reducible first | exact HB.out | apply below_alloc | apply pw_below_drewN | apply below_drew1) | exact HB.out)) hb); clear HO270; clear HB; have HO270 := n0_; have HB := n1_; clear n0_ n1_; (try clear hb); (try clear hb2); (try clear hk); (try clear hi)))
                 go_roundg kj16
                 case measure => have := HK1.out; have := HK2.out; have := HJ16.out; omega
                 case rel => exact ⟨(y268), (x6_1 ++ t272), (wrap64 (x19_1 + 1)), (by first | rfl | (simp; done) | (simp [*]; done)), (by first | rfl | (simp; done) | (simp [*]; done)), H', ⟨by have := HK1.out; have := HK2.out; have := HJ16.out; omega⟩, ⟨by (with_reducible repeat (first | apply Kd.R_alloc | apply Kd.R_drewN | apply Kd.R_drew)); exact HO270.out⟩, ⟨by repeat (first | (with_reducible first | exact HB.out | apply below_alloc | apply pw_below_drewN | apply below_drew1) | exact HB.out)⟩⟩
                ·rw [if_neg c30] at H
                 exact absurd H (by simp)
             ·rw [if_neg c20] at H
              exact absurd H (by simp)
            ·replace c19 := Bool.eq_false_iff.mpr c19
             subst c19
             have H1 : (redpenlaw16_TokenCases.l0 kj16 a1 x5_1 x6_1 l0 (l0.length : Int) (wrap64 (x19_1 + 1))) = some r := by rw [if_neg (show ¬ (false = true) by decide)] at H; exact H
             clear H
             have H := H1
             clear H1
             have H' := Aside0.mk H
             clear H
             go_wp2
             go_roundg kj16
             case measure => have := HK1.out; have := HK2.out; have := HJ16.out; omega
             case rel => exact ⟨(x5_1), (x6_1), (wrap64 (x19_1 + 1)), (by first | rfl | (simp; done) | (simp [*]; done)), (by first | rfl | (simp; done) | (simp [*]; done)), H', ⟨by have := HK1.out; have := HK2.out; have := HJ16.out; omega⟩, ⟨by (with_reducible repeat (first | apply Kd.R_alloc | apply Kd.R_drewN | apply Kd.R_drew)); exact HO_5.out⟩, ⟨by repeat (first | (with_reducible first | exact HB.out | apply below_alloc | apply pw_below_drewN | apply below_drew1) | exact HB.out)⟩⟩
      ·rw [if_neg c8] at H
       exact absurd H (by simp)
     ·rw [if_neg c7] at H
      exact absurd H (by simp)
    ·rw [if_neg c6] at H
     have c6b0 : decide (x19_1 < (l0.length : Int)) = false := decide_eq_false c6
     clear c6
     replace H := Option.bind_eq_some_iff.mp H
     obtain ⟨t273, A330, H⟩ := H
     replace H : ((conv_bytes.f x6_1).bind fun t276 => ((utf_Units.f k1 t276).bind fun t279 => ((token_Words.f k1 t273 t279 1 1000).bind fun t282 => (if (Int.tmod a1 3) > 0 then (redpenlaw16_TokenCases.j3 k1 x5_1 x6_1 t282 true) else (redpenlaw16_TokenCases.j3 k1 x5_1 x6_1 t282 ((x5_1.length : Int) == 0)))))) = some r := H
     have A33 := Aside0.mk A330
     clear A330
     replace H := Option.bind_eq_some_iff.mp H
     obtain ⟨t276, A340, H⟩ := H
     replace H : ((utf_Units.f k1 t276).bind fun t279 => ((token_Words.f k1 t273 t279 1 1000).bind fun t282 => (if (Int.tmod a1 3) > 0 then (redpenlaw16_TokenCases.j3 k1 x5_1 x6_1 t282 true) else (redpenlaw16_TokenCases.j3 k1 x5_1 x6_1 t282 ((x5_1.length : Int) == 0))))) = some r := H
     have A34 := Aside0.mk A340
     clear A340
     replace H := Option.bind_eq_some_iff.mp H
     obtain ⟨t279, A350, H⟩ := H
     replace H : ((token_Words.f k1 t273 t279 1 1000).bind fun t282 => (if (Int.tmod a1 3) > 0 then (redpenlaw16_TokenCases.j3 k1 x5_1 x6_1 t282 true) else (redpenlaw16_TokenCases.j3 k1 x5_1 x6_1 t282 ((x5_1.length : Int) == 0)))) = some r := H
     have A35 := Aside0.mk A350
     clear A350
     replace H := Option.bind_eq_some_iff.mp H
     obtain ⟨t282, A360, H⟩ := H
     replace H : (if (Int.tmod a1 3) > 0 then (redpenlaw16_TokenCases.j3 k1 x5_1 x6_1 t282 true) else (redpenlaw16_TokenCases.j3 k1 x5_1 x6_1 t282 ((x5_1.length : Int) == 0))) = some r := H
     have A36 := Aside0.mk A360
     clear A360
     have HC37 := Aside0.mk H
     clear H
     go_upto_region 25 with (first | ((with_reducible refine gate_dst (N := 71) rfl ?_); (try (refine gate_guard (by rfl) ?_; dsimp only)); refine cv_goes (N := some 71) rfl rfl (s := x6_1) rfl (by first | rfl | (simp; done)) Try.underlying9 Try.underlying32 Try.underlying5 ?_; (with_reducible refine (conv_bytes.calls x6_1 t273 _ A33.out).mono ?_); rintro e w38 ⟨v274, rfl, ho0, hb⟩; refine ⟨_, rfl, ?_⟩; have n0_ := Aside0.mk (Kd.R_below (by (with_reducible repeat (first | apply Kd.R_alloc | apply Kd.R_drewN | apply Kd.R_drew)); exact HO_5.out) hb); have n1_ := Aside0.mk (Kd.V_lower (Kd.V_mono (ok' := fun k_ => some k_ ≠ (u5 : Value).ownBlock) ho0 (fun k_ hk_ => (Kd.fresh' (Kd.R_lt (by (with_reducible repeat (first | apply Kd.R_alloc | apply Kd.R_drewN | apply Kd.R_drew)); exact HO_5.out)) k_ hk_))) (below_size (by repeat (first | (with_reducible first | exact HB.out | apply below_alloc | apply pw_below_drewN | apply below_drew1) | exact HB.out)))); have n2_ := Aside0.mk (below_step (by repeat (first | (with_reducible first | exact HB.out | apply below_alloc | apply pw_below_drewN | apply below_drew1) | exact HB.out)) hb); clear HO_5; clear HB; have HO_5 := n0_; have HO275 := n1_; have HB := n2_; clear n0_ n1_ n2_; (try clear hb); (try clear hb2); (try clear hk); (try clear hi); (try clear ho0)) | ((with_reducible refine gate_dst (N := 73) rfl ?_); (try (refine gate_guard (by rfl) ?_; dsimp only)); refine cv_goes (N := some 73) rfl rfl (s := x6_1) rfl (by first | rfl | (simp; done)) Try.underlying9 Try.underlying32 Try.underlying5 ?_; (with_reducible refine (conv_bytes.calls x6_1 t276 _ A34.out).mono ?_); rintro e w39 ⟨v277, rfl, ho0, hb⟩; refine ⟨_, rfl, ?_⟩; have n0_ := Aside0.mk (Kd.R_below (by (with_reducible repeat (first | apply Kd.R_alloc | apply Kd.R_drewN | apply Kd.R_drew)); exact HO_5.out) hb); have n1_ := Aside0.mk (Kd.V_below (by (with_reducible repeat (first | apply Kd.V_alloc | apply Kd.V_drewN | apply Kd.V_drew)); exact HO275.out) hb); have n2_ := Aside0.mk (Kd.V_lower (Kd.V_mono (ok' := fun k_ => some k_ ≠ (u5 : Value).ownBlock) ho0 (fun k_ hk_ => (Kd.fresh' (Kd.R_lt (by (with_reducible repeat (first | apply Kd.R_alloc | apply Kd.R_drewN | apply Kd.R_drew)); exact HO_5.out)) k_ hk_))) (below_size (by repeat (first | (with_reducible first | exact HB.out | apply below_alloc | apply pw_below_drewN | apply below_drew1) | exact HB.out)))); have n3_ := Aside0.mk (below_step (by repeat (first | (with_reducible first | exact HB.out | apply below_alloc | apply pw_below_drewN | apply below_drew1) | exact HB.out)) hb); clear HO_5; clear HO275; clear HB; have HO_5 := n0_; have HO275 := n1_; have HO278 := n2_; have HB := n3_; clear n0_ n1_ n2_ n3_; (try clear hb); (try clear hb2); (try clear hk); (try clear hi); (try clear ho0); obtain ⟨Ao40, co40, eo40⟩ := Kd.V_slice HO278.out; subst eo40) | ((with_reducible refine gate_callee (f := 24) rfl ?_); refine goesL_ (some 74) rfl rfl Try.func24 (by kernel_rfl) rfl #[.slice Ao40 t276.length co40] rfl (by (try simp only [List.map_toArray, List.map_cons, List.map_nil]); first | done | rfl | (simp only [List.length_drop, List.length_take]; rfl)) ?_; (with_reducible refine (utf_Units.calls k1 _ _ t276 t279 _ ?side1 ?side2 A35.out).mono ?_); (case side1 => repeat (first | exact (Kd.V_reads' HO278.out).2.2 | (with_reducible refine Kd.C_alloc ?_ _) | (with_reducible refine Kd.C_drewN ?_ _) | (with_reducible refine Kd.C_drew ?_))); (case side2 => exact (Kd.V_reads' HO278.out).2.1); rintro e w41 ⟨v280, rfl, ho0, hb⟩; refine ⟨_, rfl, ?_⟩; have n0_ := Aside0.mk (Kd.R_below (by (with_reducible repeat (first | apply Kd.R_alloc | apply Kd.R_drewN | apply Kd.R_drew)); exact HO_5.out) hb); have n1_ := Aside0.mk (Kd.V_elder' (by (with_reducible repeat (first | apply Kd.V_alloc | apply Kd.V_drewN | apply Kd.V_drew)); exact HO275.out) (Kd.R_base ho0) hb); have n2_ := Aside0.mk (Kd.V_elder' (by (with_reducible repeat (first | apply Kd.V_alloc | apply Kd.V_drewN | apply Kd.V_drew)); exact HO278.out) (Kd.R_base ho0) hb); have n3_ := Aside0.mk (Kd.R_lower ho0 (below_size (by repeat (first | (with_reducible first | exact HB.out | apply below_alloc | apply pw_below_drewN | apply below_drew1) | exact HB.out)))); have n4_ := Aside0.mk (below_step (by repeat (first | (with_reducible first | exact HB.out | apply below_alloc | apply pw_below_drewN | apply below_drew1) | exact HB.out)) hb); clear HO_5; clear HO275; clear HO278; clear HB; have HO_5 := n0_; have HO275 := n1_; have HO278 := n2_; have HO281 := n3_; have HB := n4_; clear n0_ n1_ n2_ n3_ n4_; (try clear hb); (try clear hb2); (try clear hk); (try clear hi); (try clear ho0); obtain ⟨Ao42, co42, eo42⟩ := Kd.V_slice HO275.out; subst eo42; obtain ⟨Ao43, co43, eo43⟩ := Kd.R_slice HO281.out; subst eo43) | ((with_reducible refine gate_callee (f := 32) rfl ?_); refine goesL_ (some 75) rfl rfl Try.func32 (by kernel_rfl) rfl #[.slice Ao42 t273.length co42, .slice Ao43 t279.length co43, .int .i64 1, .int .i64 1000] rfl (by (try simp only [List.map_toArray, List.map_cons, List.map_nil]); first | done | rfl | (simp only [List.length_drop, List.length_take]; rfl)) ?_; (with_reducible refine (token_Words.calls k1 _ _ t273 _ _ t279 1 1000 t282 _ ?side1 ?side2 ?side3 ?side4 A36.out).mono ?_); (case side1 => repeat (first | exact (Kd.V_reads' HO275.out).2.2 | (with_reducible refine Kd.C_alloc ?_ _) | (with_reducible refine Kd.C_drewN ?_ _) | (with_reducible refine Kd.C_drew ?_))); (case side2 => exact (Kd.V_reads' HO275.out).2.1); (case side3 => repeat (first | exact (Kd.R_reads' HO281.out).2.2 | (with_reducible refine Kd.C_alloc ?_ _) | (with_reducible refine Kd.C_drewN ?_ _) | (with_reducible refine Kd.C_drew ?_))); (case side4 => exact (Kd.R_reads' HO281.out).2.1); rintro e w44 ⟨v283, rfl, ho0, hb⟩; refine ⟨_, rfl, ?_⟩; have n0_ := Aside0.mk (Kd.R_below (by (with_reducible repeat (first | apply Kd.R_alloc | apply Kd.R_drewN | apply Kd.R_drew)); exact HO_5.out) hb); have n1_ := Aside0.mk (Kd.V_elder' (by (with_reducible repeat (first | apply Kd.V_alloc | apply Kd.V_drewN | apply Kd.V_drew)); exact HO275.out) (Kd.R_base ho0) hb); have n2_ := Aside0.mk (Kd.V_elder' (by (with_reducible repeat (first | apply Kd.V_alloc | apply Kd.V_drewN | apply Kd.V_drew)); exact HO278.out) (Kd.R_base ho0) hb); have n3_ := Aside0.mk (Kd.R_below (by (with_reducible repeat (first | apply Kd.R_alloc | apply Kd.R_drewN | apply Kd.R_drew)); exact HO281.out) hb); have n4_ := Aside0.mk (Kd.R_lower ho0 (below_size (by repeat (first | (with_reducible first | exact HB.out | apply below_alloc | apply pw_below_drewN | apply below_drew1) | exact HB.out)))); have n5_ := Aside0.mk (below_step (by repeat (first | (with_reducible first | exact HB.out | apply below_alloc | apply pw_below_drewN | apply below_drew1) | exact HB.out)) hb); clear HO_5; clear HO275; clear HO278; clear HO281; clear HB; have HO_5 := n0_; have HO275 := n1_; have HO278 := n2_; have HO281 := n3_; have HO284 := n4_; have HB := n5_; clear n0_ n1_ n2_ n3_ n4_ n5_; (try clear hb); (try clear hb2); (try clear hk); (try clear hi); (try clear ho0)))
     (try simp only [Act.put, List.setIfInBounds_toArray, List.set_cons_zero, List.set_cons_succ])
     go_cut [83] (fun v83 wc => ∃ (kq : Nat) (x83_36 : Bool), v83 = .bool x83_36 ∧ Aside0 (redpenlaw16_TokenCases.j3 kq x5_1 x6_1 t282 x83_36 = some r) ∧ Aside0 (kq ≤ k1) ∧ Aside0 (Kd.R Kd.string 9 wc w.heap.size (fun _ => True) u5 x5_1) ∧ Aside0 (Kd.R k50 50 wc w.heap.size (fun _ => True) v283 t282) ∧ Aside0 (Below w.heap.size w wc))
     case first =>
      have H := HC37.out
      clear HC37
      by_cases c45 : (Int.tmod a1 3) > 0
      ·rw [if_pos c45] at H
       have c45b0 : decide (0 < (Int.tmod a1 3)) = true := decide_eq_true c45
       clear c45
       (first | rw [c45b0] | (simp only [i64_w, i32_w]; rw [c45b0]) | skip)
       have H' := Aside0.mk H
       clear H
       go_wp2
       go_meet
       case rel => exact ⟨_, (true), (by first | rfl | (simp; done) | (simp [*]; done)), H', ⟨by have := HK1.out; first | omega | exact Nat.le_refl _⟩, ⟨by (with_reducible repeat (first | apply Kd.R_alloc | apply Kd.R_drewN | apply Kd.R_drew)); exact HO_5.out⟩, ⟨by (with_reducible repeat (first | apply Kd.R_alloc | apply Kd.R_drewN | apply Kd.R_drew)); exact HO284.out⟩, ⟨by repeat (first | (with_reducible first | exact HB.out | apply below_alloc | apply pw_below_drewN | apply below_drew1) | exact HB.out)⟩⟩
      ·rw [if_neg c45] at H
       have c45b0 : decide (0 < (Int.tmod a1 3)) = false := decide_eq_false c45
       clear c45
       (first | rw [c45b0] | (simp only [i64_w, i32_w]; rw [c45b0]) | skip)
       have H' := Aside0.mk H
       clear H
       obtain ⟨Ao46, co46, eo46⟩ := Kd.R_slice HO_5.out
       subst eo46
       go_wp2
       go_meet
       case rel => exact ⟨_, (((x5_1.length : Int) == 0)), (by first | rfl | (simp; done) | (simp [*]; done)), H', ⟨by have := HK1.out; first | omega | exact Nat.le_refl _⟩, ⟨by (with_reducible repeat (first | apply Kd.R_alloc | apply Kd.R_drewN | apply Kd.R_drew)); exact HO_5.out⟩, ⟨by (with_reducible repeat (first | apply Kd.R_alloc | apply Kd.R_drewN | apply Kd.R_drew)); exact HO284.out⟩, ⟨by repeat (first | (with_reducible first | exact HB.out | apply below_alloc | apply pw_below_drewN | apply below_drew1) | exact HB.out)⟩⟩
     case rest =>
      clear HC37
      try clear c1
      try clear hcv1
      try clear c2
      try clear p2
      try clear q2
      try clear hx2
      try clear c3
      try clear c4
      try clear c6
      try clear c6b0
      try clear p6
      try clear c7
      try clear c7b0
      try clear c8
      try clear c8b0
      try clear c9
      try clear c9b0
      try clear c10
      try clear c10b0
      try clear c11
      try clear c11b0
      try clear c12
      try clear c12b0
      try clear c13
      try clear c13b0
      try clear c13b1
      try clear c13b2
      try clear hcv16
      try clear c18
      try clear c18b0
      try clear c19
      try clear c20
      try clear c21
      try clear c21b0
      try clear c21b1
      try clear c22
      try clear c23
      try clear c23b0
      try clear c23b1
      try clear c23b2
      try clear c24
      try clear c26
      try clear c26b0
      try clear c26b1
      try clear p26
      try clear q26
      try clear hx26
      try clear c27
      try clear c27b0
      try clear c27b1
      try clear c27b2
      try clear c30
      try clear c30b0
      try clear c30b1
      try clear c30b2
      try clear c32
      try clear c45
      try clear c45b0
      try clear hx263_0
      try clear hx264_0
      try clear p2
      try clear p263
      try clear p264
      try clear p6
      try clear q2
      try clear q263
      try clear q264
      obtain ⟨kq, x83_36, rfl, HA, HJ36, HO_5, HO_12, HB⟩ := hcut
      cases kq with
      | zero => exact absurd HA.out (by simp [redpenlaw16_TokenCases.j3])
      | succ kj36 =>
       have H := HA.out
       clear HA
       simp only [redpenlaw16_TokenCases.j3] at H
       by_cases c47 : x83_36 = true
       ·subst c47
        have H1 : (if (t282.length : Int) = (mn (x5_1.length : Int) 1) then (if (t282.length : Int) = 0 then (some true) else (if 0 < (t282.length : Int) then (some (((rd_T50 t282 0).f0).toList == x6_1.toList)) else (none))) else (some false)) = some r := by rw [if_pos rfl] at H; exact H
        clear H
        have H := H1
        clear H1
        obtain ⟨ji48, hji48⟩ : ∃ j_ : Int, (mn (x5_1.length : Int) 1) = j_ := ⟨_, rfl⟩
        replace H : (if (t282.length : Int) = (ji48) then (if (t282.length : Int) = 0 then (some true) else (if 0 < (t282.length : Int) then (some (((rd_T50 t282 0).f0).toList == x6_1.toList)) else (none))) else (some false)) = some r := by first | (rw [hji48] at H; exact H) | (simp only [hji48] at H ⊢; exact H)
        have hji48_ : (if 1 < (x5_1.length : Int) then 1 else (x5_1.length : Int)) = ji48 := hji48
        by_cases c49 : (t282.length : Int) = (ji48)
        ·rw [if_pos c49] at H
         have c49b0 : ((t282.length : Int) == (ji48)) = true := beq_iff_eq.mpr c49
         have c49b1 : ((t282.length : Int) != (ji48)) = false := bne_eq_false_iff_eq.mpr c49
         clear c49
         by_cases c50 : (t282.length : Int) = 0
         ·rw [if_pos c50] at H
          have c50b0 : ((t282.length : Int) == 0) = true := beq_iff_eq.mpr c50
          have c50b1 : ((t282.length : Int) != 0) = false := bne_eq_false_iff_eq.mpr c50
          clear c50
          obtain rfl := Option.some.inj H
          obtain ⟨Ao51, co51, eo51⟩ := Kd.R_slice HO_12.out
          subst eo51
          obtain ⟨Ao52, co52, eo52⟩ := Kd.R_slice HO_5.out
          subst eo52
          go_wp2
          go_ret
          exact ⟨by first | rfl | (simp [errW_none, errW_some] <;> rfl) | (simp only [← hji48]; first | rfl | (simp [errW_none, errW_some] <;> rfl)) | (simp [*, errW_none, errW_some] <;> rfl), by repeat (first | (with_reducible first | exact HB.out | apply below_alloc | apply pw_below_drewN | apply below_drew1) | exact HB.out)⟩
         ·rw [if_neg c50] at H
          have c50b0 : ((t282.length : Int) == 0) = false := beq_eq_false_iff_ne.mpr c50
          have c50b1 : ((t282.length : Int) != 0) = true := bne_iff_ne.mpr c50
          have c50b2 : ¬ (t282 = []) := fun h_ => c50 (by rw [h_]; rfl)
          by_cases c53 : 0 < (t282.length : Int)
          ·rw [if_pos c53] at H
           have c53b0 : decide (0 < (t282.length : Int)) = true := decide_eq_true c53
           have c53b1 : decide (0 < t282.length) = true := decide_eq_true (by omega)
           clear c53
           obtain rfl := Option.some.inj H
           obtain ⟨Ao54, co54, eo54⟩ := Kd.R_slice HO_12.out
           subst eo54
           obtain ⟨Ao55, co55, eo55⟩ := Kd.R_slice HO_5.out
           subst eo55
           have p285 : 0 ≤ (0 : Int) := (by omega)
           have q285 : 0 < (t282.length : Int) := of_decide_eq_true (by first | (with_reducible assumption) | assumption)
           obtain ⟨ad285, e285, hx285_0, hx285_1, hx285_2, hx285_3⟩ := at_T50 (Kd.R_reads' HO_12.out).2.2 0 p285 q285
           cases e285
           have qi285 : (0 < t282.length) = True := eq_true (by omega)
           (try rw [show ((0 : Int)).toNat = 0 from rfl] at hx285_0)
           (try rw [show 0 * 4 = 0 from rfl] at hx285_0)
           (try rw [Addr.add_zero'] at hx285_0)
           (try rw [show ((0 : Int)).toNat = 0 from rfl] at hx285_1)
           (try rw [show 0 * 4 = 0 from rfl] at hx285_1)
           (try rw [Addr.add_zero'] at hx285_1)
           (try rw [show ((0 : Int)).toNat = 0 from rfl] at hx285_2)
           (try rw [show 0 * 4 = 0 from rfl] at hx285_2)
           (try rw [Addr.add_zero'] at hx285_2)
           (try rw [show ((0 : Int)).toNat = 0 from rfl] at hx285_3)
           (try rw [show 0 * 4 = 0 from rfl] at hx285_3)
           (try rw [Addr.add_zero'] at hx285_3)
           replace p285 := eq_true p285
           replace q285 := eq_true q285
           go_wp2
           go_ret
           exact ⟨by first | rfl | (simp [errW_none, errW_some] <;> rfl) | (simp only [← hji48]; first | rfl | (simp [errW_none, errW_some] <;> rfl)) | (simp [*, errW_none, errW_some] <;> rfl), by repeat (first | (with_reducible first | exact HB.out | apply below_alloc | apply pw_below_drewN | apply below_drew1) | exact HB.out)⟩
          ·rw [if_neg c53] at H
           exact absurd H (by simp)
        ·rw [if_neg c49] at H
         have c49b0 : ((t282.length : Int) == (ji48)) = false := beq_eq_false_iff_ne.mpr c49
         have c49b1 : ((t282.length : Int) != (ji48)) = true := bne_iff_ne.mpr c49
         have hf_ := Option.some.inj H
         rw [hr_] at hf_
         cases hf_
       ·replace c47 := Bool.eq_false_iff.mpr c47
        subst c47
        have H1 : (if (t282.length : Int) = (x5_1.length : Int) then (redpenlaw16_TokenCases.l2 kj36 x5_1 t282 (t282.length : Int) 0) else (some false)) = some r := by rw [if_neg (show ¬ (false = true) by decide)] at H; exact H
        clear H
        have H := H1
        clear H1
        by_cases c56 : (t282.length : Int) = (x5_1.length : Int)
        ·rw [if_pos c56] at H
         have c56b0 : ((t282.length : Int) == (x5_1.length : Int)) = true := beq_iff_eq.mpr c56
         have c56b1 : ((t282.length : Int) != (x5_1.length : Int)) = false := bne_eq_false_iff_eq.mpr c56
         have c56b2 : (t282.length == x5_1.length) = true := by first | simpa using c56 | (simp at c56 ⊢; omega)
         clear c56
         have H' := Aside0.mk H
         clear H
         obtain ⟨Ao57, co57, eo57⟩ := Kd.R_slice HO_12.out
         subst eo57
         obtain ⟨Ao58, co58, eo58⟩ := Kd.R_slice HO_5.out
         subst eo58
         go_wp2
         go_loopg [110] kj36 (fun kq v110 w' => ∃ (x110_3 : Int), v110 = .int .i64 x110_3 ∧ Aside0 (redpenlaw16_TokenCases.l2 kq x5_1 t282 (t282.length : Int) x110_3 = some r) ∧ Aside0 (kq ≤ kj36) ∧ Aside0 (Kd.R Kd.string 9 w' w.heap.size (fun _ => True) (.slice Ao58 x5_1.length co58) x5_1) ∧ Aside0 (Kd.R k50 50 w' w.heap.size (fun _ => True) (.slice Ao57 t282.length co57) t282) ∧ Aside0 (Below w.heap.size w w'))
         case atStart => exact ⟨(0), (by first | rfl | (simp; done) | (simp [*]; done)), H', ⟨Nat.le_refl _⟩, ⟨by (with_reducible repeat (first | apply Kd.R_alloc | apply Kd.R_drewN | apply Kd.R_drew)); exact HO_5.out⟩, ⟨by (with_reducible repeat (first | apply Kd.R_alloc | apply Kd.R_drewN | apply Kd.R_drew)); exact HO_12.out⟩, ⟨by repeat (first | (with_reducible first | exact HB.out | apply below_alloc | apply pw_below_drewN | apply below_drew1) | exact HB.out)⟩⟩
         case round =>
          clear H'
          try clear c1
          try clear hcv1
          try clear c2
          try clear p2
          try clear q2
          try clear hx2
          try clear qi2
          try clear c3
          try clear c4
          try clear c5
          try clear c6
          try clear c6b0
          try clear p6
          try clear c7
          try clear c7b0
          try clear c8
          try clear c8b0
          try clear c9
          try clear c9b0
          try clear c10
          try clear c10b0
          try clear c11
          try clear c11b0
          try clear c12
          try clear c12b0
          try clear c13
          try clear c13b0
          try clear c13b1
          try clear c13b2
          try clear hcv16
          try clear c18
          try clear c18b0
          try clear c19
          try clear c20
          try clear c21
          try clear c21b0
          try clear c21b1
          try clear c22
          try clear c23
          try clear c23b0
          try clear c23b1
          try clear c23b2
          try clear c24
          try clear c26
          try clear c26b0
          try clear c26b1
          try clear p26
          try clear q26
          try clear hx26
          try clear c27
          try clear c27b0
          try clear c27b1
          try clear c27b2
          try clear p28
          try clear q28
          try clear hx28
          try clear qi28
          try clear c30
          try clear c30b0
          try clear c30b1
          try clear c30b2
          try clear c32
          try clear c45
          try clear c45b0
          try clear c47
          try clear c49
          try clear c49b0
          try clear c49b1
          try clear c50
          try clear c50b0
          try clear c50b1
          try clear c50b2
          try clear c53
          try clear c53b0
          try clear c53b1
          try clear c56
          try clear c56b0
          try clear c56b1
          try clear c56b2
          try clear hx263_0
          try clear hx264_0
          try clear hx285_0
          try clear hx285_1
          try clear hx285_2
          try clear hx285_3
          try clear p2
          try clear p26
          try clear p263
          try clear p264
          try clear p285
          try clear p6
          try clear q2
          try clear q26
          try clear q263
          try clear q264
          try clear q285
          obtain ⟨x110_3, rfl, HA, HK3, HO_5, HO_108, HB⟩ := hrel
          cases gk with
          | zero => exact absurd HA.out (by simp [redpenlaw16_TokenCases.l2])
          | succ k3 =>
           have H := HA.out
           clear HA
           simp only [redpenlaw16_TokenCases.l2] at H
           by_cases c59 : x110_3 < (t282.length : Int)
           ·rw [if_pos c59] at H
            have c59b0 : decide (x110_3 < (t282.length : Int)) = true := decide_eq_true c59
            clear c59
            by_cases c60 : 0 ≤ x110_3
            ·rw [if_pos c60] at H
             have c60b0 : decide (0 ≤ x110_3) = true := decide_eq_true c60
             clear c60
             by_cases c61 : x110_3 < (t282.length : Int)
             ·rw [if_pos c61] at H
              have c61b0 : decide (x110_3 < (t282.length : Int)) = true := decide_eq_true c61
              clear c61
              replace H := Option.bind_eq_some_iff.mp H
              obtain ⟨t288, A620, H⟩ := H
              replace H : (if x110_3 < (x5_1.length : Int) then (if t288.toList = (rdOf ByteArray.empty x5_1 x110_3).toList then (redpenlaw16_TokenCases.l2 k3 x5_1 t282 (t282.length : Int) (wrap64 (x110_3 + 1))) else (some false)) else (none)) = some r := H
              have A62 := Aside0.mk A620
              clear A620
              by_cases c63 : x110_3 < (x5_1.length : Int)
              ·rw [if_pos c63] at H
               have c63b0 : decide (x110_3 < (x5_1.length : Int)) = true := decide_eq_true c63
               clear c63
               by_cases c64 : t288.toList = (rdOf ByteArray.empty x5_1 x110_3).toList
               ·rw [if_pos c64] at H
                have c64b0 : (t288.toList == (rdOf ByteArray.empty x5_1 x110_3).toList) = true := beq_iff_eq.mpr c64
                have c64b1 : (t288.toList != (rdOf ByteArray.empty x5_1 x110_3).toList) = false := bne_eq_false_iff_eq.mpr c64
                clear c64
                have H' := Aside0.mk H
                clear H
                have p286 : 0 ≤ (x110_3 : Int) := of_decide_eq_true (by first | (with_reducible assumption) | assumption)
                have q286 : x110_3 < (t282.length : Int) := of_decide_eq_true (by first | (with_reducible assumption) | assumption)
                obtain ⟨ad286, e286, hx286_0, hx286_1, hx286_2, hx286_3⟩ := at_T50 (Kd.R_reads' HO_108.out).2.2 x110_3 p286 q286
                cases e286
                replace p286 := eq_true p286
                replace q286 := eq_true q286
                try go_wp2_with (first | ((with_reducible refine gate_dst (N := 14) rfl ?_); (try (refine gate_guard (by rfl) ?_; dsimp only)); refine box_event ?hg (N := 14) ?hd (cs := #[.string (⟨#[]⟩ : ByteArray), .int .i64 0, .int .i64 0, .bool false]) (t := 50) ?hr ?_; (case hd => rfl); (case hg => rfl); (case hr => first | (go_simp; done) | (go_simp; rfl)); intro gb287 hg w65 hbox hb; have n0_ := Aside0.mk (Kd.R_below (by (with_reducible repeat (first | apply Kd.R_alloc | apply Kd.R_drewN | apply Kd.R_drew)); exact HO_5.out) hb); have n1_ := Aside0.mk (Kd.R_below (Kd.R_elderB (by (with_reducible repeat (first | apply Kd.R_alloc | apply Kd.R_drewN | apply Kd.R_drew)); exact HO_108.out) gb287 (Nat.le_of_eq hg.symm)) hb); have n2_ := Aside0.mk (below_step (by repeat (first | (with_reducible first | exact HB.out | apply below_alloc | apply pw_below_drewN | apply below_drew1) | exact HB.out)) hb); have n3_ := Aside0.mk (hbox); have n4_ := Aside0.mk ((by rw [hg]; exact (below_size (by repeat (first | (with_reducible first | exact HB.out | apply below_alloc | apply pw_below_drewN | apply below_drew1) | exact HB.out))) : w.heap.size ≤ gb287)); have n5_ := Aside0.mk ((by rw [hg]; exact (below_size (by repeat (first | (with_reducible first | exact HB.out | apply below_alloc | apply pw_below_drewN | apply below_drew1) | exact HB.out))) : w.heap.size ≤ gb287)); clear HO_5; clear HO_108; clear HB; have HO_5 := n0_; have HO_108 := n1_; have HB := n2_; have BK287 := n3_; have GW287 := n4_; have GE287 := n5_; clear n0_ n1_ n2_ n3_ n4_ n5_; clear hb hbox hg; have hcz66_0 : w65.cell? ⟨gb287, 0, none⟩ = some (.string (⟨#[]⟩ : ByteArray)) := (blk_cell BK287.out 0).trans rfl; have hcz66_1 : w65.cell? ⟨gb287, 1, none⟩ = some (.int .i64 0) := (blk_cell BK287.out 1).trans rfl; have hcz66_2 : w65.cell? ⟨gb287, 2, none⟩ = some (.int .i64 0) := (blk_cell BK287.out 2).trans rfl; have hcz66_3 : w65.cell? ⟨gb287, 3, none⟩ = some (.bool false) := (blk_cell BK287.out 3).trans rfl; have hfz66_0 := blk_frozen BK287.out 0; have hfz66_1 := blk_frozen BK287.out 1; have hfz66_2 := blk_frozen BK287.out 2; have hfz66_3 := blk_frozen BK287.out 3))
                have n0_ : Aside0 (Kd.R Kd.string 9 ((((w65.setCell ⟨gb287, 0, none⟩ (.string ((rd_T50 t282 x110_3).f0))).setCell ⟨gb287, 1, none⟩ (.int .i64 ((rd_T50 t282 x110_3).f1.f0))).setCell ⟨gb287, 2, none⟩ (.int .i64 ((rd_T50 t282 x110_3).f1.f1))).setCell ⟨gb287, 3, none⟩ (.bool ((rd_T50 t282 x110_3).f2))) w.heap.size (fun _ => True) (.slice Ao58 x5_1.length co58) x5_1) := ⟨by (with_reducible repeat (first | apply Kd.R_alloc | apply Kd.R_drewN | apply Kd.R_drew)); exact Kd.R_mono (Kd.R_far (p := ⟨gb287, 3, none⟩) (Kd.R_far (p := ⟨gb287, 2, none⟩) (Kd.R_far (p := ⟨gb287, 1, none⟩) (Kd.R_far (p := ⟨gb287, 0, none⟩) (Kd.R_types HO_5.out BK287.out (by decide)) (fun _ hk => hk.2) (.string ((rd_T50 t282 x110_3).f0))) (fun _ hk => hk.2) (.int .i64 ((rd_T50 t282 x110_3).f1.f0))) (fun _ hk => hk.2) (.int .i64 ((rd_T50 t282 x110_3).f1.f1))) (fun _ hk => hk.2) (.bool ((rd_T50 t282 x110_3).f2))) (fun _ hk => trivial)⟩
                have n1_ : Aside0 (Kd.R k50 50 ((((w65.setCell ⟨gb287, 0, none⟩ (.string ((rd_T50 t282 x110_3).f0))).setCell ⟨gb287, 1, none⟩ (.int .i64 ((rd_T50 t282 x110_3).f1.f0))).setCell ⟨gb287, 2, none⟩ (.int .i64 ((rd_T50 t282 x110_3).f1.f1))).setCell ⟨gb287, 3, none⟩ (.bool ((rd_T50 t282 x110_3).f2))) w.heap.size (fun k_ => k_ ≠ gb287) (.slice (some ad286) t282.length co57) t282) := ⟨by (with_reducible repeat (first | apply Kd.R_alloc | apply Kd.R_drewN | apply Kd.R_drew)); exact Kd.R_mono (Kd.R_far (p := ⟨gb287, 3, none⟩) (Kd.R_far (p := ⟨gb287, 2, none⟩) (Kd.R_far (p := ⟨gb287, 1, none⟩) (Kd.R_far (p := ⟨gb287, 0, none⟩) (Kd.R_mono HO_108.out (fun k_ hk => (⟨hk, hk.2⟩ : _ ∧ k_ ≠ gb287))) (fun _ hk => hk.2) (.string ((rd_T50 t282 x110_3).f0))) (fun _ hk => hk.2) (.int .i64 ((rd_T50 t282 x110_3).f1.f0))) (fun _ hk => hk.2) (.int .i64 ((rd_T50 t282 x110_3).f1.f1))) (fun _ hk => hk.2) (.bool ((rd_T50 t282 x110_3).f2))) (fun _ hk => hk.1.2)⟩
                have n2_ : Aside0 (((((w65.setCell ⟨gb287, 0, none⟩ (.string ((rd_T50 t282 x110_3).f0))).setCell ⟨gb287, 1, none⟩ (.int .i64 ((rd_T50 t282 x110_3).f1.f0))).setCell ⟨gb287, 2, none⟩ (.int .i64 ((rd_T50 t282 x110_3).f1.f1))).setCell ⟨gb287, 3, none⟩ (.bool ((rd_T50 t282 x110_3).f2))).heap[gb287]? = some (.cells #[.string ((rd_T50 t282 x110_3).f0), .int .i64 ((rd_T50 t282 x110_3).f1.f0), .int .i64 ((rd_T50 t282 x110_3).f1.f1), .bool ((rd_T50 t282 x110_3).f2)] 50 (0, 0))) := ⟨by (with_reducible repeat (first | refine blk_drewN ?_ _ | refine blk_drew ?_ | refine blk_alloc ?_ _)); refine blk_put (cs := #[.string ((rd_T50 t282 x110_3).f0), .int .i64 ((rd_T50 t282 x110_3).f1.f0), .int .i64 ((rd_T50 t282 x110_3).f1.f1), .bool false]) ?_ 3 _ rfl; (with_reducible repeat (first | refine blk_drewN ?_ _ | refine blk_drew ?_ | refine blk_alloc ?_ _)); refine blk_put (cs := #[.string ((rd_T50 t282 x110_3).f0), .int .i64 ((rd_T50 t282 x110_3).f1.f0), .int .i64 0, .bool false]) ?_ 2 _ rfl; (with_reducible repeat (first | refine blk_drewN ?_ _ | refine blk_drew ?_ | refine blk_alloc ?_ _)); refine blk_put (cs := #[.string ((rd_T50 t282 x110_3).f0), .int .i64 0, .int .i64 0, .bool false]) ?_ 1 _ rfl; (with_reducible repeat (first | refine blk_drewN ?_ _ | refine blk_drew ?_ | refine blk_alloc ?_ _)); refine blk_put (cs := #[.string (⟨#[]⟩ : ByteArray), .int .i64 0, .int .i64 0, .bool false]) ?_ 0 _ rfl; (with_reducible repeat (first | refine blk_drewN ?_ _ | refine blk_drew ?_ | refine blk_alloc ?_ _)); exact BK287.out⟩
                have n3_ : Aside0 (Below w.heap.size w ((((w65.setCell ⟨gb287, 0, none⟩ (.string ((rd_T50 t282 x110_3).f0))).setCell ⟨gb287, 1, none⟩ (.int .i64 ((rd_T50 t282 x110_3).f1.f0))).setCell ⟨gb287, 2, none⟩ (.int .i64 ((rd_T50 t282 x110_3).f1.f1))).setCell ⟨gb287, 3, none⟩ (.bool ((rd_T50 t282 x110_3).f2)))) := ⟨by repeat (first | (with_reducible first | exact HB.out | apply below_alloc | apply pw_below_drewN | apply below_drew1 | refine below_set ?_ GE287.out) | exact HB.out)⟩
                (try clear HO_5)
                (try clear HO_108)
                (try clear BK287)
                (try clear HB)
                generalize ((((w65.setCell ⟨gb287, 0, none⟩ (.string ((rd_T50 t282 x110_3).f0))).setCell ⟨gb287, 1, none⟩ (.int .i64 ((rd_T50 t282 x110_3).f1.f0))).setCell ⟨gb287, 2, none⟩ (.int .i64 ((rd_T50 t282 x110_3).f1.f1))).setCell ⟨gb287, 3, none⟩ (.bool ((rd_T50 t282 x110_3).f2))) = w67 at n0_ n1_ n2_ n3_ ⊢
                have HO_5 := n0_
                have HO_108 := n1_
                have BK287 := n2_
                have HB := n3_
                clear n0_ n1_ n2_ n3_
                have n0_ := Aside0.mk (Kd.R_drew HO_5.out)
                have n1_ := Aside0.mk (Kd.R_drew HO_108.out)
                have n2_ := Aside0.mk (blk_drew BK287.out)
                have n3_ := Aside0.mk (below_drew1 HB.out)
                clear HO_5
                clear HO_108
                clear BK287
                clear HB
                have HO_5 := n0_
                have HO_108 := n1_
                have BK287 := n2_
                have HB := n3_
                clear n0_ n1_ n2_ n3_
                have p289 : 0 ≤ (x110_3 : Int) := of_decide_eq_true (by first | (with_reducible assumption) | assumption)
                have q289 : x110_3 < (x5_1.length : Int) := of_decide_eq_true (by first | (with_reducible assumption) | assumption)
                obtain ⟨ad289, e289, hx289_0⟩ := Kd.at_string (Kd.R_reads' HO_5.out).2.2 x110_3 p289 q289
                cases e289
                replace p289 := eq_true p289
                replace q289 := eq_true q289
                refine start_ (n := 8) (S := fun w' => w'.cell? ⟨gb287, 0, none⟩ = some (.string ((rd_T50 t282 x110_3).f0)) ∧ w'.cell? ⟨gb287, 1, none⟩ = some (.int .i64 ((rd_T50 t282 x110_3).f1.f0)) ∧ w'.cell? ⟨gb287, 2, none⟩ = some (.int .i64 ((rd_T50 t282 x110_3).f1.f1)) ∧ w'.cell? ⟨gb287, 3, none⟩ = some (.bool ((rd_T50 t282 x110_3).f2)) ∧ w'.cell? (ad289.add (x110_3).toNat) = some (.string (rdOf ByteArray.empty x5_1 x110_3))) (ds := []) #[false, false, false, false, false, false, false, false] (by kernel_rfl) rfl rfl ⟨(blk_cell BK287.out 0).trans rfl, (blk_cell BK287.out 1).trans rfl, (blk_cell BK287.out 2).trans rfl, (blk_cell BK287.out 3).trans rfl, hx289_0⟩ (fun hHeld => ?_); refine with_tabW redpenlaw16_TokenCases.tab32 redpenlaw16_TokenCases.bits32 (fun HT_ HW_ => ?_)
                generalize w67.drew = w68 at HO_5 HO_108 BK287 HB hx289_0 hHeld ⊢
                refine pure_ (i := 0) (N := some 115) (v := ?_) (a' := ?_) #[true, false, false, false, false, false, false, false] rfl rfl (any_of HT_.out (by kernel_rfl)) (fun _ _ _ h => h) (Or.inl ⟨by rfl, ?_⟩) ?_ ?_
                rotate_left
                ·intro w'
                 go_simp
                 with_reducible rfl
                rotate_left
                ·simp only [Act.put, List.setIfInBounds_toArray, List.set_cons_zero, List.set_cons_succ, i64_w, i32_w]
                 rfl
                refine pure_ (i := 3) (N := some 118) (v := ?_) (a' := ?_) #[true, false, false, true, false, false, false, false] rfl rfl (any_of HT_.out (by kernel_rfl)) (fun _ _ _ h => h) (Or.inl ⟨by rfl, ?_⟩) ?_ ?_
                rotate_left
                ·intro w'
                 go_simp
                 with_reducible rfl
                rotate_left
                ·simp only [Act.put, List.setIfInBounds_toArray, List.set_cons_zero, List.set_cons_succ, i64_w, i32_w]
                 rfl
                refine pure_ (i := 4) (N := some 119) (v := ?_) (a' := ?_) #[true, false, false, true, true, false, false, false] rfl rfl (any_of HT_.out (by kernel_rfl)) (fun _ _ _ h => h) (Or.inl ⟨by rfl, ?_⟩) ?_ ?_
                rotate_left
                ·intro w'
                 go_simp
                 with_reducible rfl
                rotate_left
                ·simp only [Act.put, List.setIfInBounds_toArray, List.set_cons_zero, List.set_cons_succ, i64_w, i32_w]
                 rfl
                refine pure_ (i := 5) (N := some 120) (v := ?_) (a' := ?_) #[true, false, false, true, true, true, false, false] rfl rfl (any_of HT_.out (by kernel_rfl)) (fun _ _ _ h => h) (Or.inl ⟨by rfl, ?_⟩) ?_ ?_
                rotate_left
                ·intro w'
                 go_simp
                 with_reducible rfl
                rotate_left
                ·simp only [Act.put, List.setIfInBounds_toArray, List.set_cons_zero, List.set_cons_succ, i64_w, i32_w]
                 rfl
                refine take_ (i := 1) (N := some 116) (v := ?_) (a' := ?_) #[true, true, false, true, true, true, false, false] rfl rfl (take_ofW HT_.out HW_.out (by kernel_rfl)) (fun _ _ _ h => h) (Or.inl ⟨by rfl, ?_⟩) hHeld ?_ ?_
                rotate_left
                ·rintro w' ⟨s0, s1, s2, s3, s4⟩
                 go_simp
                 with_reducible rfl
                rotate_left
                ·simp only [Act.put, List.setIfInBounds_toArray, List.set_cons_zero, List.set_cons_succ, i64_w, i32_w]
                 rfl
                refine take_ (i := 6) (N := some 121) (v := ?_) (a' := ?_) #[true, true, false, true, true, true, true, false] rfl rfl (take_ofW HT_.out HW_.out (by kernel_rfl)) (fun _ _ _ h => h) (Or.inl ⟨by rfl, ?_⟩) hHeld ?_ ?_
                rotate_left
                ·rintro w' ⟨s0, s1, s2, s3, s4⟩
                 go_simp
                 with_reducible rfl
                rotate_left
                ·simp only [Act.put, List.setIfInBounds_toArray, List.set_cons_zero, List.set_cons_succ, i64_w, i32_w]
                 rfl
                refine one_ (i := 2) (N := some 117) #[true, true, true, true, true, true, true, false] rfl rfl (one_of HT_.out (by kernel_rfl)) (by decide) (fun K hK => ?_)
                refine goes_ Try.func20 (by kernel_rfl) rfl #[.string ((rd_T50 t282 x110_3).f0)] (by rfl) rfl rfl (by (try simp only [List.map_toArray, List.map_cons, List.map_nil]); first | done | rfl | (simp only [List.length_drop, List.length_take]; rfl)) ?_
                with_reducible refine (fold_Fold.calls k3 ((rd_T50 t282 x110_3).f0) t288 _ A62.out).mono ?_
                rintro e w69 ⟨rfl, hb⟩
                have HS4_ := (hb.cell (World.block_lt_of_cell? _ _ (hHeld.2.2.2.2))).trans (hHeld.2.2.2.2)
                refine ⟨_, rfl, ?_⟩
                have n0_ := Aside0.mk (Kd.R_below (by (with_reducible repeat (first | apply Kd.R_alloc | apply Kd.R_drewN | apply Kd.R_drew)); exact HO_5.out) hb)
                have n1_ := Aside0.mk (Kd.R_below (by (with_reducible repeat (first | apply Kd.R_alloc | apply Kd.R_drewN | apply Kd.R_drew)); exact HO_108.out) hb)
                have n2_ := Aside0.mk (blk_below (g := gb287) (o := .cells #[.string ((rd_T50 t282 x110_3).f0), .int .i64 ((rd_T50 t282 x110_3).f1.f0), .int .i64 ((rd_T50 t282 x110_3).f1.f1), .bool ((rd_T50 t282 x110_3).f2)] 50 (0, 0)) (by (with_reducible repeat (first | refine blk_drewN ?_ _ | refine blk_drew ?_ | refine blk_alloc ?_ _)); exact BK287.out) hb)
                have n3_ := Aside0.mk (below_step (by repeat (first | (with_reducible first | exact HB.out | apply below_alloc | apply pw_below_drewN | apply below_drew1 | refine below_set ?_ GE287.out) | exact HB.out)) hb)
                clear HO_5
                clear HO_108
                clear BK287
                clear HB
                have HO_5 := n0_
                have HO_108 := n1_
                have BK287 := n2_
                have HB := n3_
                clear n0_ n1_ n2_ n3_
                (try clear hb)
                (try clear hb2)
                (try clear hk)
                (try clear hi)
                refine hK.out _ _ ⟨(blk_cell BK287.out 0).trans rfl, (blk_cell BK287.out 1).trans rfl, (blk_cell BK287.out 2).trans rfl, (blk_cell BK287.out 3).trans rfl, HS4_⟩ (fun hHeld => ?_)
                clear hK K
                refine norm_ (a' := ?_) ?_ ?_
                rotate_left
                ·show Act.put _ (some 117) _ = _
                 simp only [Act.put, List.setIfInBounds_toArray, List.set_cons_zero, List.set_cons_succ, i64_w, i32_w]
                 rfl
                refine pure_ (i := 7) (N := some 122) (v := ?_) (a' := ?_) #[true, true, true, true, true, true, true, true] rfl rfl (any_of HT_.out (by kernel_rfl)) (fun _ _ _ h => h) (Or.inl ⟨by rfl, ?_⟩) ?_ ?_
                rotate_left
                ·intro w'
                 go_simp
                 with_reducible rfl
                rotate_left
                ·simp only [Act.put, List.setIfInBounds_toArray, List.set_cons_zero, List.set_cons_succ, i64_w, i32_w]
                 rfl
                refine done_ (done_of HT_.out (by kernel_rfl)) ?_
                try go_wp2
                go_roundg k3
                case measure => have := HK1.out; have := HJ36.out; have := HK3.out; omega
                case rel => exact ⟨(wrap64 (x110_3 + 1)), (by first | rfl | (simp; done) | (simp [*]; done)), H', ⟨by have := HK1.out; have := HJ36.out; have := HK3.out; omega⟩, ⟨by (with_reducible repeat (first | apply Kd.R_alloc | apply Kd.R_drewN | apply Kd.R_drew)); exact HO_5.out⟩, ⟨by (with_reducible repeat (first | apply Kd.R_alloc | apply Kd.R_drewN | apply Kd.R_drew)); exact Kd.R_mono HO_108.out (fun _ hk => trivial)⟩, ⟨by repeat (first | (with_reducible first | exact HB.out | apply below_alloc | apply pw_below_drewN | apply below_drew1 | refine below_set ?_ GE287.out) | exact HB.out)⟩⟩
               ·rw [if_neg c64] at H
                have c64b0 : (t288.toList == (rdOf ByteArray.empty x5_1 x110_3).toList) = false := beq_eq_false_iff_ne.mpr c64
                have c64b1 : (t288.toList != (rdOf ByteArray.empty x5_1 x110_3).toList) = true := bne_iff_ne.mpr c64
                have hf_ := Option.some.inj H
                rw [hr_] at hf_
                cases hf_
              ·rw [if_neg c63] at H
               exact absurd H (by simp)
             ·rw [if_neg c61] at H
              exact absurd H (by simp)
            ·rw [if_neg c60] at H
             exact absurd H (by simp)
           ·rw [if_neg c59] at H
            have c59b0 : decide (x110_3 < (t282.length : Int)) = false := decide_eq_false c59
            clear c59
            obtain rfl := Option.some.inj H
            go_wp2
            go_ret
            exact ⟨by first | rfl | (simp [errW_none, errW_some] <;> rfl) | (simp [*, errW_none, errW_some] <;> rfl), by repeat (first | (with_reducible first | exact HB.out | apply below_alloc | apply pw_below_drewN | apply below_drew1) | exact HB.out)⟩
        ·rw [if_neg c56] at H
         have c56b0 : ((t282.length : Int) == (x5_1.length : Int)) = false := beq_eq_false_iff_ne.mpr c56
         have c56b1 : ((t282.length : Int) != (x5_1.length : Int)) = true := bne_iff_ne.mpr c56
         have c56b2 : (t282.length == x5_1.length) = false := by first | simpa using c56 | (simp at c56 ⊢; omega)
         have hf_ := Option.some.inj H
         rw [hr_] at hf_
         cases hf_
 ·replace c4 := Bool.eq_false_iff.mpr c4
  subst c4
  have H1 : (some false) = some r := by rw [if_neg (show ¬ (false = true) by decide)] at H; exact H
  clear H
  have H := H1
  clear H1
  have hf_ := Option.some.inj H
  rw [hr_] at hf_
  cases hf_

end Go.Proofs.Ytmnohlmdckcdeaa.PTokenCases
