-- Laid by a program of ours (the kit's print with words and contracts of our own beside it).
import Derived.Test.YtmnohlmdckcdeaaPTokenWholex0
import Derived.Test.YtmnohlmdckcdeaaPTokenWholex1
import Derived.Test.YtmnohlmdckcdeaaPTokenWholex2
import Derived.Test.YtmnohlmdckcdeaaPTokenWholex6
import Derived.Test.YtmnohlmdckcdeaaPTokenWholex7
namespace Go.Proofs.Ytmnohlmdckcdeaa.PTokenWhole
open Go.RowKit Go.Proofs.Ytmnohlmdckcdeaa.X Go.Proofs.YtmnohlmdckcdeaaW.PrintWords Go.Proofs.YtmnohlmdckcdeaaW.PrintLast Go.Proofs.YtmnohlmdckcdeaaW.PrintMore
attribute [local go_sem] max2_int min2_int max_two min_two max_three min_three max_four min_four   -- for this text's walks alone
set_option linter.unusedVariables false
set_option linter.unusedSimpArgs false

/-! ### redpenlaw16_TokenWhole: function 7 -/
mutual
def redpenlaw16_TokenWhole.l0 : Nat → List Int → List (S53) → List (S50) → Int → List (S50) → Int → Int → Option (Bool)
 | 0, _, _, _, _, _, _, _ => none
 | k + 1, x5, x6, x7, x8, x31, x32, x33 => if x33 < x32 then (if 0 ≤ x33 then (if x33 < (x31.length : Int) then (if ((rd_T50 x31 x33).f1.f0) < x8 then (redpenlaw16_TokenWhole.j1 k x5 x6 x7 x31 x32 x33 true ((rd_T50 x31 x33).f0) ((rd_T50 x31 x33).f1.f0) ((rd_T50 x31 x33).f1.f1) ((rd_T50 x31 x33).f2)) else (if ((rd_T50 x31 x33).f1.f1) < 1 then (redpenlaw16_TokenWhole.j1 k x5 x6 x7 x31 x32 x33 true ((rd_T50 x31 x33).f0) ((rd_T50 x31 x33).f1.f0) ((rd_T50 x31 x33).f1.f1) ((rd_T50 x31 x33).f2)) else (if ((rd_T50 x31 x33).f2 = true) then (if 0 ≤ ((rd_T50 x31 x33).f1.f0) then (if ((rd_T50 x31 x33).f1.f0) ≤ (wrap64 (((rd_T50 x31 x33).f1.f0) + ((rd_T50 x31 x33).f1.f1))) then (if (wrap64 (((rd_T50 x31 x33).f1.f0) + ((rd_T50 x31 x33).f1.f1))) ≤ (x5.length : Int) then (redpenlaw16_TokenWhole.j1 k x5 x6 x7 x31 x32 x33 ((strOfNums ((x5.take ((wrap64 (((rd_T50 x31 x33).f1.f0) + ((rd_T50 x31 x33).f1.f1))) : Int).toNat).drop (((rd_T50 x31 x33).f1.f0) : Int).toNat)).toList != ((rd_T50 x31 x33).f0).toList) ((rd_T50 x31 x33).f0) ((rd_T50 x31 x33).f1.f0) ((rd_T50 x31 x33).f1.f1) ((rd_T50 x31 x33).f2)) else (none)) else (none)) else (none)) else (redpenlaw16_TokenWhole.j1 k x5 x6 x7 x31 x32 x33 true ((rd_T50 x31 x33).f0) ((rd_T50 x31 x33).f1.f0) ((rd_T50 x31 x33).f1.f1) ((rd_T50 x31 x33).f2))))) else (none)) else (none)) else (redpenlaw16_TokenWhole.l2 k x7 0 x6 (x6.length : Int) 0)
def redpenlaw16_TokenWhole.j1 : Nat → List Int → List (S53) → List (S50) → List (S50) → Int → Int → Bool → ByteArray → Int → Int → Bool → Option (Bool)
 | 0, _, _, _, _, _, _, _, _, _, _, _ => none
 | k + 1, x5, x6, x7, x31, x32, x33, x70, x265000, x265001, x265002, x265003 => if x70 = true then (some false) else ((utf_Runes.f k x265000).bind fun t269 => (redpenlaw16_TokenWhole.l1 k x5 x6 x7 (wrap64 (x265001 + x265002)) x31 x32 x33 t269 (t269.length : Int) 0))
def redpenlaw16_TokenWhole.l1 : Nat → List Int → List (S53) → List (S50) → Int → List (S50) → Int → Int → List Int → Int → Int → Option (Bool)
 | 0, _, _, _, _, _, _, _, _, _, _ => none
 | k + 1, x5, x6, x7, x8, x31, x32, x33, x80, x81, x82 => if x82 < x81 then (if 0 ≤ x82 then (if x82 < (x80.length : Int) then ((fold_Letter.f (rd x80 x82)).bind fun t273 => (if t273 = true then (redpenlaw16_TokenWhole.l1 k x5 x6 x7 x8 x31 x32 x33 x80 x81 (wrap64 (x82 + 1))) else (if (rd x80 x82) = 39 then (redpenlaw16_TokenWhole.l1 k x5 x6 x7 x8 x31 x32 x33 x80 x81 (wrap64 (x82 + 1))) else (some false)))) else (none)) else (none)) else (redpenlaw16_TokenWhole.l0 k x5 x6 x7 x8 x31 x32 (wrap64 (x33 + 1)))
def redpenlaw16_TokenWhole.l2 : Nat → List (S50) → Int → List (S53) → Int → Int → Option (Bool)
 | 0, _, _, _, _, _ => none
 | k + 1, x7, x13, x95, x96, x97 => if x97 < x96 then (if 0 ≤ x97 then (if x97 < (x95.length : Int) then (redpenlaw16_TokenWhole.l3 k x7 x13 x95 x96 x97 ((rd_T53 x95 x97).f0) ((rd_T53 x95 x97).f1.f0) ((rd_T53 x95 x97).f1.f1)) else (none)) else (none)) else (some true)
def redpenlaw16_TokenWhole.j5 : Nat → List (S50) → Int → List (S53) → Int → Int → Int → Int → Int → Option (Bool)
 | 0, _, _, _, _, _, _, _, _ => none
 | k + 1, x7, x13, x95, x96, x97, x276000, x276001, x276002 => if x13 < (x7.length : Int) then (if 0 ≤ x13 then (redpenlaw16_TokenWhole.j6 k x7 x13 (decide (x276001 ≥ ((rd_T50 x7 x13).f1.f0))) x95 x96 x97 x276000 x276001 x276002) else (none)) else (redpenlaw16_TokenWhole.j6 k x7 x13 false x95 x96 x97 x276000 x276001 x276002)
def redpenlaw16_TokenWhole.j6 : Nat → List (S50) → Int → Bool → List (S53) → Int → Int → Int → Int → Int → Option (Bool)
 | 0, _, _, _, _, _, _, _, _, _ => none
 | k + 1, x7, x13, x16, x95, x96, x97, x276000, x276001, x276002 => (fold_Letter.f x276000).bind fun t279 => (if t279 = true then (if x16 = true then ((fold_Letter.f x276000).bind fun t280 => (if t280 = true then (redpenlaw16_TokenWhole.l2 k x7 x13 x95 x96 (wrap64 (x97 + 1))) else (if x276000 = 39 then (redpenlaw16_TokenWhole.l2 k x7 x13 x95 x96 (wrap64 (x97 + 1))) else (some false)))) else (some false)) else (if x16 = true then ((fold_Letter.f x276000).bind fun t281 => (if t281 = true then (redpenlaw16_TokenWhole.l2 k x7 x13 x95 x96 (wrap64 (x97 + 1))) else (if x276000 = 39 then (redpenlaw16_TokenWhole.l2 k x7 x13 x95 x96 (wrap64 (x97 + 1))) else (some false)))) else (redpenlaw16_TokenWhole.l2 k x7 x13 x95 x96 (wrap64 (x97 + 1)))))
def redpenlaw16_TokenWhole.l3 : Nat → List (S50) → Int → List (S53) → Int → Int → Int → Int → Int → Option (Bool)
 | 0, _, _, _, _, _, _, _, _ => none
 | k + 1, x7, x13, x95, x96, x97, x276000, x276001, x276002 => if x13 < (x7.length : Int) then (if 0 ≤ x13 then (if (wrap64 (((rd_T50 x7 x13).f1.f0) + ((rd_T50 x7 x13).f1.f1))) ≤ x276001 then (redpenlaw16_TokenWhole.l3 k x7 (wrap64 (x13 + 1)) x95 x96 x97 x276000 x276001 x276002) else (redpenlaw16_TokenWhole.j5 k x7 x13 x95 x96 x97 x276000 x276001 x276002)) else (none)) else (redpenlaw16_TokenWhole.j5 k x7 x13 x95 x96 x97 x276000 x276001 x276002)
end
def redpenlaw16_TokenWhole.f (k : Nat) (l0 : List Int) (l1 : List Int) : Option (Bool) := (redpenlaw16_Awake.f k).bind fun t250 => (if t250 = true then (if (l0.length : Int) > 500 then (some true) else ((redpenlaw16_pieces.f).bind fun t251 => ((redpenlaw11_Bits.f k t251 l1 l0).bind fun t254 => ((utf_Units.f k t254).bind fun t257 => ((token_Words.f k t254 t257 0 1048576).bind fun t260 => (redpenlaw16_TokenWhole.l0 k t254 t257 t260 0 t260 (t260.length : Int) 0)))))) else (some false))
theorem redpenlaw16_TokenWhole.mono_l : ∀ k, (∀ y0 y1 y2 y3 y4 y5 y6, LeO (redpenlaw16_TokenWhole.l0 k y0 y1 y2 y3 y4 y5 y6) (redpenlaw16_TokenWhole.l0 (k + 1) y0 y1 y2 y3 y4 y5 y6)) ∧ (∀ y0 y1 y2 y3 y4 y5 y6 y7 y8 y9 y10, LeO (redpenlaw16_TokenWhole.j1 k y0 y1 y2 y3 y4 y5 y6 y7 y8 y9 y10) (redpenlaw16_TokenWhole.j1 (k + 1) y0 y1 y2 y3 y4 y5 y6 y7 y8 y9 y10)) ∧ (∀ y0 y1 y2 y3 y4 y5 y6 y7 y8 y9, LeO (redpenlaw16_TokenWhole.l1 k y0 y1 y2 y3 y4 y5 y6 y7 y8 y9) (redpenlaw16_TokenWhole.l1 (k + 1) y0 y1 y2 y3 y4 y5 y6 y7 y8 y9)) ∧ (∀ y0 y1 y2 y3 y4, LeO (redpenlaw16_TokenWhole.l2 k y0 y1 y2 y3 y4) (redpenlaw16_TokenWhole.l2 (k + 1) y0 y1 y2 y3 y4)) ∧ (∀ y0 y1 y2 y3 y4 y5 y6 y7, LeO (redpenlaw16_TokenWhole.j5 k y0 y1 y2 y3 y4 y5 y6 y7) (redpenlaw16_TokenWhole.j5 (k + 1) y0 y1 y2 y3 y4 y5 y6 y7)) ∧ (∀ y0 y1 y2 y3 y4 y5 y6 y7 y8, LeO (redpenlaw16_TokenWhole.j6 k y0 y1 y2 y3 y4 y5 y6 y7 y8) (redpenlaw16_TokenWhole.j6 (k + 1) y0 y1 y2 y3 y4 y5 y6 y7 y8)) ∧ (∀ y0 y1 y2 y3 y4 y5 y6 y7, LeO (redpenlaw16_TokenWhole.l3 k y0 y1 y2 y3 y4 y5 y6 y7) (redpenlaw16_TokenWhole.l3 (k + 1) y0 y1 y2 y3 y4 y5 y6 y7))
 | 0 => ⟨fun _ _ _ _ _ _ _ r h => by simp [redpenlaw16_TokenWhole.l0] at h, fun _ _ _ _ _ _ _ _ _ _ _ r h => by simp [redpenlaw16_TokenWhole.j1] at h, fun _ _ _ _ _ _ _ _ _ _ r h => by simp [redpenlaw16_TokenWhole.l1] at h, fun _ _ _ _ _ r h => by simp [redpenlaw16_TokenWhole.l2] at h, fun _ _ _ _ _ _ _ _ r h => by simp [redpenlaw16_TokenWhole.j5] at h, fun _ _ _ _ _ _ _ _ _ r h => by simp [redpenlaw16_TokenWhole.j6] at h, fun _ _ _ _ _ _ _ _ r h => by simp [redpenlaw16_TokenWhole.l3] at h⟩
 | k + 1 => by
  obtain ⟨ih0, ih1, ih2, ih3, ih4, ih5, ih6⟩ := redpenlaw16_TokenWhole.mono_l k
  refine ⟨?_, ?_, ?_, ?_, ?_, ?_, ?_⟩
  ·intro y0 y1 y2 y3 y4 y5 y6
   unfold redpenlaw16_TokenWhole.l0
   repeat' first
   | (with_reducible exact ih0 _ _ _ _ _ _ _)
   | (with_reducible exact ih1 _ _ _ _ _ _ _ _ _ _ _)
   | (with_reducible exact ih2 _ _ _ _ _ _ _ _ _ _)
   | (with_reducible exact ih3 _ _ _ _ _)
   | (with_reducible exact ih4 _ _ _ _ _ _ _ _)
   | (with_reducible exact ih5 _ _ _ _ _ _ _ _ _)
   | (with_reducible exact ih6 _ _ _ _ _ _ _ _)
   | (with_reducible exact redpenlaw11_Bits.mono _ _ _ _)
   | (with_reducible exact redpenlaw16_Awake.mono _)
   | (with_reducible exact token_Words.mono _ _ _ _ _)
   | (with_reducible exact utf_Runes.mono _ _)
   | (with_reducible exact utf_Units.mono _ _)
   | (with_reducible exact LeO.refl _)
   | (with_reducible exact LeO.none _)
   | (with_reducible refine LeO.ite ?_ ?_)
   | (with_reducible refine LeO.bind ?_ (fun _ => ?_))
   | exact ih0 _ _ _ _ _ _ _
   | exact ih1 _ _ _ _ _ _ _ _ _ _ _
   | exact ih2 _ _ _ _ _ _ _ _ _ _
   | exact ih3 _ _ _ _ _
   | exact ih4 _ _ _ _ _ _ _ _
   | exact ih5 _ _ _ _ _ _ _ _ _
   | exact ih6 _ _ _ _ _ _ _ _
   | exact redpenlaw11_Bits.mono _ _ _ _
   | exact redpenlaw16_Awake.mono _
   | exact token_Words.mono _ _ _ _ _
   | exact utf_Runes.mono _ _
   | exact utf_Units.mono _ _
   | exact LeO.none _
   | refine LeO.ite ?_ ?_
   | refine LeO.bind ?_ (fun _ => ?_)
  ·intro y0 y1 y2 y3 y4 y5 y6 y7 y8 y9 y10
   unfold redpenlaw16_TokenWhole.j1
   repeat' first
   | (with_reducible exact ih0 _ _ _ _ _ _ _)
   | (with_reducible exact ih1 _ _ _ _ _ _ _ _ _ _ _)
   | (with_reducible exact ih2 _ _ _ _ _ _ _ _ _ _)
   | (with_reducible exact ih3 _ _ _ _ _)
   | (with_reducible exact ih4 _ _ _ _ _ _ _ _)
   | (with_reducible exact ih5 _ _ _ _ _ _ _ _ _)
   | (with_reducible exact ih6 _ _ _ _ _ _ _ _)
   | (with_reducible exact redpenlaw11_Bits.mono _ _ _ _)
   | (with_reducible exact redpenlaw16_Awake.mono _)
   | (with_reducible exact token_Words.mono _ _ _ _ _)
   | (with_reducible exact utf_Runes.mono _ _)
   | (with_reducible exact utf_Units.mono _ _)
   | (with_reducible exact LeO.refl _)
   | (with_reducible exact LeO.none _)
   | (with_reducible refine LeO.ite ?_ ?_)
   | (with_reducible refine LeO.bind ?_ (fun _ => ?_))
   | exact ih0 _ _ _ _ _ _ _
   | exact ih1 _ _ _ _ _ _ _ _ _ _ _
   | exact ih2 _ _ _ _ _ _ _ _ _ _
   | exact ih3 _ _ _ _ _
   | exact ih4 _ _ _ _ _ _ _ _
   | exact ih5 _ _ _ _ _ _ _ _ _
   | exact ih6 _ _ _ _ _ _ _ _
   | exact redpenlaw11_Bits.mono _ _ _ _
   | exact redpenlaw16_Awake.mono _
   | exact token_Words.mono _ _ _ _ _
   | exact utf_Runes.mono _ _
   | exact utf_Units.mono _ _
   | exact LeO.none _
   | refine LeO.ite ?_ ?_
   | refine LeO.bind ?_ (fun _ => ?_)
  ·intro y0 y1 y2 y3 y4 y5 y6 y7 y8 y9
   unfold redpenlaw16_TokenWhole.l1
   repeat' first
   | (with_reducible exact ih0 _ _ _ _ _ _ _)
   | (with_reducible exact ih1 _ _ _ _ _ _ _ _ _ _ _)
   | (with_reducible exact ih2 _ _ _ _ _ _ _ _ _ _)
   | (with_reducible exact ih3 _ _ _ _ _)
   | (with_reducible exact ih4 _ _ _ _ _ _ _ _)
   | (with_reducible exact ih5 _ _ _ _ _ _ _ _ _)
   | (with_reducible exact ih6 _ _ _ _ _ _ _ _)
   | (with_reducible exact redpenlaw11_Bits.mono _ _ _ _)
   | (with_reducible exact redpenlaw16_Awake.mono _)
   | (with_reducible exact token_Words.mono _ _ _ _ _)
   | (with_reducible exact utf_Runes.mono _ _)
   | (with_reducible exact utf_Units.mono _ _)
   | (with_reducible exact LeO.refl _)
   | (with_reducible exact LeO.none _)
   | (with_reducible refine LeO.ite ?_ ?_)
   | (with_reducible refine LeO.bind ?_ (fun _ => ?_))
   | exact ih0 _ _ _ _ _ _ _
   | exact ih1 _ _ _ _ _ _ _ _ _ _ _
   | exact ih2 _ _ _ _ _ _ _ _ _ _
   | exact ih3 _ _ _ _ _
   | exact ih4 _ _ _ _ _ _ _ _
   | exact ih5 _ _ _ _ _ _ _ _ _
   | exact ih6 _ _ _ _ _ _ _ _
   | exact redpenlaw11_Bits.mono _ _ _ _
   | exact redpenlaw16_Awake.mono _
   | exact token_Words.mono _ _ _ _ _
   | exact utf_Runes.mono _ _
   | exact utf_Units.mono _ _
   | exact LeO.none _
   | refine LeO.ite ?_ ?_
   | refine LeO.bind ?_ (fun _ => ?_)
  ·intro y0 y1 y2 y3 y4
   unfold redpenlaw16_TokenWhole.l2
   repeat' first
   | (with_reducible exact ih0 _ _ _ _ _ _ _)
   | (with_reducible exact ih1 _ _ _ _ _ _ _ _ _ _ _)
   | (with_reducible exact ih2 _ _ _ _ _ _ _ _ _ _)
   | (with_reducible exact ih3 _ _ _ _ _)
   | (with_reducible exact ih4 _ _ _ _ _ _ _ _)
   | (with_reducible exact ih5 _ _ _ _ _ _ _ _ _)
   | (with_reducible exact ih6 _ _ _ _ _ _ _ _)
   | (with_reducible exact redpenlaw11_Bits.mono _ _ _ _)
   | (with_reducible exact redpenlaw16_Awake.mono _)
   | (with_reducible exact token_Words.mono _ _ _ _ _)
   | (with_reducible exact utf_Runes.mono _ _)
   | (with_reducible exact utf_Units.mono _ _)
   | (with_reducible exact LeO.refl _)
   | (with_reducible exact LeO.none _)
   | (with_reducible refine LeO.ite ?_ ?_)
   | (with_reducible refine LeO.bind ?_ (fun _ => ?_))
   | exact ih0 _ _ _ _ _ _ _
   | exact ih1 _ _ _ _ _ _ _ _ _ _ _
   | exact ih2 _ _ _ _ _ _ _ _ _ _
   | exact ih3 _ _ _ _ _
   | exact ih4 _ _ _ _ _ _ _ _
   | exact ih5 _ _ _ _ _ _ _ _ _
   | exact ih6 _ _ _ _ _ _ _ _
   | exact redpenlaw11_Bits.mono _ _ _ _
   | exact redpenlaw16_Awake.mono _
   | exact token_Words.mono _ _ _ _ _
   | exact utf_Runes.mono _ _
   | exact utf_Units.mono _ _
   | exact LeO.none _
   | refine LeO.ite ?_ ?_
   | refine LeO.bind ?_ (fun _ => ?_)
  ·intro y0 y1 y2 y3 y4 y5 y6 y7
   unfold redpenlaw16_TokenWhole.j5
   repeat' first
   | (with_reducible exact ih0 _ _ _ _ _ _ _)
   | (with_reducible exact ih1 _ _ _ _ _ _ _ _ _ _ _)
   | (with_reducible exact ih2 _ _ _ _ _ _ _ _ _ _)
   | (with_reducible exact ih3 _ _ _ _ _)
   | (with_reducible exact ih4 _ _ _ _ _ _ _ _)
   | (with_reducible exact ih5 _ _ _ _ _ _ _ _ _)
   | (with_reducible exact ih6 _ _ _ _ _ _ _ _)
   | (with_reducible exact redpenlaw11_Bits.mono _ _ _ _)
   | (with_reducible exact redpenlaw16_Awake.mono _)
   | (with_reducible exact token_Words.mono _ _ _ _ _)
   | (with_reducible exact utf_Runes.mono _ _)
   | (with_reducible exact utf_Units.mono _ _)
   | (with_reducible exact LeO.refl _)
   | (with_reducible exact LeO.none _)
   | (with_reducible refine LeO.ite ?_ ?_)
   | (with_reducible refine LeO.bind ?_ (fun _ => ?_))
   | exact ih0 _ _ _ _ _ _ _
   | exact ih1 _ _ _ _ _ _ _ _ _ _ _
   | exact ih2 _ _ _ _ _ _ _ _ _ _
   | exact ih3 _ _ _ _ _
   | exact ih4 _ _ _ _ _ _ _ _
   | exact ih5 _ _ _ _ _ _ _ _ _
   | exact ih6 _ _ _ _ _ _ _ _
   | exact redpenlaw11_Bits.mono _ _ _ _
   | exact redpenlaw16_Awake.mono _
   | exact token_Words.mono _ _ _ _ _
   | exact utf_Runes.mono _ _
   | exact utf_Units.mono _ _
   | exact LeO.none _
   | refine LeO.ite ?_ ?_
   | refine LeO.bind ?_ (fun _ => ?_)
  ·intro y0 y1 y2 y3 y4 y5 y6 y7 y8
   unfold redpenlaw16_TokenWhole.j6
   repeat' first
   | (with_reducible exact ih0 _ _ _ _ _ _ _)
   | (with_reducible exact ih1 _ _ _ _ _ _ _ _ _ _ _)
   | (with_reducible exact ih2 _ _ _ _ _ _ _ _ _ _)
   | (with_reducible exact ih3 _ _ _ _ _)
   | (with_reducible exact ih4 _ _ _ _ _ _ _ _)
   | (with_reducible exact ih5 _ _ _ _ _ _ _ _ _)
   | (with_reducible exact ih6 _ _ _ _ _ _ _ _)
   | (with_reducible exact redpenlaw11_Bits.mono _ _ _ _)
   | (with_reducible exact redpenlaw16_Awake.mono _)
   | (with_reducible exact token_Words.mono _ _ _ _ _)
   | (with_reducible exact utf_Runes.mono _ _)
   | (with_reducible exact utf_Units.mono _ _)
   | (with_reducible exact LeO.refl _)
   | (with_reducible exact LeO.none _)
   | (with_reducible refine LeO.ite ?_ ?_)
   | (with_reducible refine LeO.bind ?_ (fun _ => ?_))
   | exact ih0 _ _ _ _ _ _ _
   | exact ih1 _ _ _ _ _ _ _ _ _ _ _
   | exact ih2 _ _ _ _ _ _ _ _ _ _
   | exact ih3 _ _ _ _ _
   | exact ih4 _ _ _ _ _ _ _ _
   | exact ih5 _ _ _ _ _ _ _ _ _
   | exact ih6 _ _ _ _ _ _ _ _
   | exact redpenlaw11_Bits.mono _ _ _ _
   | exact redpenlaw16_Awake.mono _
   | exact token_Words.mono _ _ _ _ _
   | exact utf_Runes.mono _ _
   | exact utf_Units.mono _ _
   | exact LeO.none _
   | refine LeO.ite ?_ ?_
   | refine LeO.bind ?_ (fun _ => ?_)
  ·intro y0 y1 y2 y3 y4 y5 y6 y7
   unfold redpenlaw16_TokenWhole.l3
   repeat' first
   | (with_reducible exact ih0 _ _ _ _ _ _ _)
   | (with_reducible exact ih1 _ _ _ _ _ _ _ _ _ _ _)
   | (with_reducible exact ih2 _ _ _ _ _ _ _ _ _ _)
   | (with_reducible exact ih3 _ _ _ _ _)
   | (with_reducible exact ih4 _ _ _ _ _ _ _ _)
   | (with_reducible exact ih5 _ _ _ _ _ _ _ _ _)
   | (with_reducible exact ih6 _ _ _ _ _ _ _ _)
   | (with_reducible exact redpenlaw11_Bits.mono _ _ _ _)
   | (with_reducible exact redpenlaw16_Awake.mono _)
   | (with_reducible exact token_Words.mono _ _ _ _ _)
   | (with_reducible exact utf_Runes.mono _ _)
   | (with_reducible exact utf_Units.mono _ _)
   | (with_reducible exact LeO.refl _)
   | (with_reducible exact LeO.none _)
   | (with_reducible refine LeO.ite ?_ ?_)
   | (with_reducible refine LeO.bind ?_ (fun _ => ?_))
   | exact ih0 _ _ _ _ _ _ _
   | exact ih1 _ _ _ _ _ _ _ _ _ _ _
   | exact ih2 _ _ _ _ _ _ _ _ _ _
   | exact ih3 _ _ _ _ _
   | exact ih4 _ _ _ _ _ _ _ _
   | exact ih5 _ _ _ _ _ _ _ _ _
   | exact ih6 _ _ _ _ _ _ _ _
   | exact redpenlaw11_Bits.mono _ _ _ _
   | exact redpenlaw16_Awake.mono _
   | exact token_Words.mono _ _ _ _ _
   | exact utf_Runes.mono _ _
   | exact utf_Units.mono _ _
   | exact LeO.none _
   | refine LeO.ite ?_ ?_
   | refine LeO.bind ?_ (fun _ => ?_)
theorem redpenlaw16_TokenWhole.mono : ∀ a0 a1 k, LeO (redpenlaw16_TokenWhole.f k a0 a1) (redpenlaw16_TokenWhole.f (k + 1) a0 a1) := by
 intro a0 a1 k
 obtain ⟨ih0, ih1, ih2, ih3, ih4, ih5, ih6⟩ := redpenlaw16_TokenWhole.mono_l k
 unfold redpenlaw16_TokenWhole.f
 repeat' first
   | (with_reducible exact ih0 _ _ _ _ _ _ _)
   | (with_reducible exact ih1 _ _ _ _ _ _ _ _ _ _ _)
   | (with_reducible exact ih2 _ _ _ _ _ _ _ _ _ _)
   | (with_reducible exact ih3 _ _ _ _ _)
   | (with_reducible exact ih4 _ _ _ _ _ _ _ _)
   | (with_reducible exact ih5 _ _ _ _ _ _ _ _ _)
   | (with_reducible exact ih6 _ _ _ _ _ _ _ _)
   | (with_reducible exact redpenlaw11_Bits.mono _ _ _ _)
   | (with_reducible exact redpenlaw16_Awake.mono _)
   | (with_reducible exact token_Words.mono _ _ _ _ _)
   | (with_reducible exact utf_Runes.mono _ _)
   | (with_reducible exact utf_Units.mono _ _)
   | (with_reducible exact LeO.refl _)
   | (with_reducible exact LeO.none _)
   | (with_reducible refine LeO.ite ?_ ?_)
   | (with_reducible refine LeO.bind ?_ (fun _ => ?_))
   | exact ih0 _ _ _ _ _ _ _
   | exact ih1 _ _ _ _ _ _ _ _ _ _ _
   | exact ih2 _ _ _ _ _ _ _ _ _ _
   | exact ih3 _ _ _ _ _
   | exact ih4 _ _ _ _ _ _ _ _
   | exact ih5 _ _ _ _ _ _ _ _ _
   | exact ih6 _ _ _ _ _ _ _ _
   | exact redpenlaw11_Bits.mono _ _ _ _
   | exact redpenlaw16_Awake.mono _
   | exact token_Words.mono _ _ _ _ _
   | exact utf_Runes.mono _ _
   | exact utf_Units.mono _ _
   | exact LeO.none _
   | refine LeO.ite ?_ ?_
   | refine LeO.bind ?_ (fun _ => ?_)
set_option maxHeartbeats 8000000 in
set_option maxRecDepth 100000 in
theorem redpenlaw16_TokenWhole.calls (k : Nat) (A0 : Option Addr) (c0 : Nat) (l0 : List Int) (A1 : Option Addr) (c1 : Nat) (l1 : List Int) (r : Bool) (w : World) (hr0 : Kd.C (Kd.int .u8) w A0 l0.length l0) (hc0 : l0.length ≤ c0) (hr1 : Kd.C (Kd.int .u8) w A1 l1.length l1) (hc1 : l1.length ≤ c1) (h : redpenlaw16_TokenWhole.f k l0 l1 = some r) (hr_ : r = true) :
  Calls Try.prog 7 #[.slice A0 l0.length c0, .slice A1 l1.length c1] w fun e w' => e = .returned (.bool r) ∧ Below w.heap.size w w' := by
 have hu50 := Try.underlying50
 have hu53 := Try.underlying53
 have HR0 := Aside0.mk hr0
 have HC0 := Aside0.mk hc0
 clear hr0 hc0
 have HR1 := Aside0.mk hr1
 have HC1 := Aside0.mk hc1
 clear hr1 hc1
 have HB := Aside0.mk (Below.refl w.heap.size w)
 have H : ((redpenlaw16_Awake.f k).bind fun t250 => (if t250 = true then (if (l0.length : Int) > 500 then (some true) else ((redpenlaw16_pieces.f).bind fun t251 => ((redpenlaw11_Bits.f k t251 l1 l0).bind fun t254 => ((utf_Units.f k t254).bind fun t257 => ((token_Words.f k t254 t257 0 1048576).bind fun t260 => (redpenlaw16_TokenWhole.l0 k t254 t257 t260 0 t260 (t260.length : Int) 0)))))) else (some false))) = some r := h
 clear h
 replace H := Option.bind_eq_some_iff.mp H
 obtain ⟨t250, A30, H⟩ := H
 replace H : (if t250 = true then (if (l0.length : Int) > 500 then (some true) else ((redpenlaw16_pieces.f).bind fun t251 => ((redpenlaw11_Bits.f k t251 l1 l0).bind fun t254 => ((utf_Units.f k t254).bind fun t257 => ((token_Words.f k t254 t257 0 1048576).bind fun t260 => (redpenlaw16_TokenWhole.l0 k t254 t257 t260 0 t260 (t260.length : Int) 0)))))) else (some false)) = some r := H
 have A3 := Aside0.mk A30
 clear A30
 by_cases c4 : t250 = true
 ·subst c4
  have H1 : (if (l0.length : Int) > 500 then (some true) else ((redpenlaw16_pieces.f).bind fun t251 => ((redpenlaw11_Bits.f k t251 l1 l0).bind fun t254 => ((utf_Units.f k t254).bind fun t257 => ((token_Words.f k t254 t257 0 1048576).bind fun t260 => (redpenlaw16_TokenWhole.l0 k t254 t257 t260 0 t260 (t260.length : Int) 0)))))) = some r := by rw [if_pos rfl] at H; exact H
  clear H
  have H := H1
  clear H1
  by_cases c5 : (l0.length : Int) > 500
  ·rw [if_pos c5] at H
   have c5b0 : decide (500 < (l0.length : Int)) = true := decide_eq_true c5
   have c5b1 : decide (500 < l0.length) = true := decide_eq_true (by omega)
   clear c5
   obtain rfl := Option.some.inj H
   go_enter Try.func7, Try.ntmps7
   go_wp2_with (first | (go_at_call 23; (with_reducible refine (redpenlaw16_Awake.calls k  true _ A3.out).mono ?_); rintro e w6 ⟨rfl, hb⟩; have n0_ := Aside0.mk (below_step (by repeat (first | (with_reducible first | exact HB.out | apply below_alloc | apply pw_below_drewN | apply below_drew1) | exact HB.out)) hb); clear HB; have HB := n0_; clear n0_; (try clear hb); (try clear hb2); (try clear hk); (try clear hi)))
   repeat (go_quiet (first | (go_at_call 23; (with_reducible refine (redpenlaw16_Awake.calls k  true _ A3.out).mono ?_); rintro e w6 ⟨rfl, hb⟩; have n0_ := Aside0.mk (below_step (by repeat (first | (with_reducible first | exact HB.out | apply below_alloc | apply pw_below_drewN | apply below_drew1) | exact HB.out)) hb); clear HB; have HB := n0_; clear n0_; (try clear hb); (try clear hb2); (try clear hk); (try clear hi))); try go_wp2_with (first | (go_at_call 23; (with_reducible refine (redpenlaw16_Awake.calls k  true _ A3.out).mono ?_); rintro e w6 ⟨rfl, hb⟩; have n0_ := Aside0.mk (below_step (by repeat (first | (with_reducible first | exact HB.out | apply below_alloc | apply pw_below_drewN | apply below_drew1) | exact HB.out)) hb); clear HB; have HB := n0_; clear n0_; (try clear hb); (try clear hb2); (try clear hk); (try clear hi))))
   go_ret
   exact ⟨by first | rfl | (simp [errW_none, errW_some] <;> rfl) | (simp [*, errW_none, errW_some] <;> rfl), by repeat (first | (with_reducible first | exact HB.out | apply below_alloc | apply pw_below_drewN | apply below_drew1) | exact HB.out)⟩
  ·rw [if_neg c5] at H
   have c5b0 : decide (500 < (l0.length : Int)) = false := decide_eq_false c5
   have c5b1 : decide (500 < l0.length) = false := decide_eq_false (by omega)
   clear c5
   replace H := Option.bind_eq_some_iff.mp H
   obtain ⟨t251, A70, H⟩ := H
   replace H : ((redpenlaw11_Bits.f k t251 l1 l0).bind fun t254 => ((utf_Units.f k t254).bind fun t257 => ((token_Words.f k t254 t257 0 1048576).bind fun t260 => (redpenlaw16_TokenWhole.l0 k t254 t257 t260 0 t260 (t260.length : Int) 0)))) = some r := H
   have A7 := Aside0.mk A70
   clear A70
   replace H := Option.bind_eq_some_iff.mp H
   obtain ⟨t254, A80, H⟩ := H
   replace H : ((utf_Units.f k t254).bind fun t257 => ((token_Words.f k t254 t257 0 1048576).bind fun t260 => (redpenlaw16_TokenWhole.l0 k t254 t257 t260 0 t260 (t260.length : Int) 0))) = some r := H
   have A8 := Aside0.mk A80
   clear A80
   replace H := Option.bind_eq_some_iff.mp H
   obtain ⟨t257, A90, H⟩ := H
   replace H : ((token_Words.f k t254 t257 0 1048576).bind fun t260 => (redpenlaw16_TokenWhole.l0 k t254 t257 t260 0 t260 (t260.length : Int) 0)) = some r := H
   have A9 := Aside0.mk A90
   clear A90
   replace H := Option.bind_eq_some_iff.mp H
   obtain ⟨t260, A100, H⟩ := H
   replace H : (redpenlaw16_TokenWhole.l0 k t254 t257 t260 0 t260 (t260.length : Int) 0) = some r := H
   have A10 := Aside0.mk A100
   clear A100
   have H' := Aside0.mk H
   clear H
   go_enter Try.func7, Try.ntmps7
   go_wp2_with (first | (go_at_call 23; (with_reducible refine (redpenlaw16_Awake.calls k  true _ A3.out).mono ?_); rintro e w11 ⟨rfl, hb⟩; have n0_ := Aside0.mk (below_step (by repeat (first | (with_reducible first | exact HB.out | apply below_alloc | apply pw_below_drewN | apply below_drew1) | exact HB.out)) hb); clear HB; have HB := n0_; clear n0_; (try clear hb); (try clear hb2); (try clear hk); (try clear hi)) | (go_at_call 26; (with_reducible refine (redpenlaw16_pieces.calls  t251 _ A7.out).mono ?_); rintro e w12 ⟨v252, rfl, ho0, hb⟩; have n0_ := Aside0.mk (Kd.R_lower ho0 (below_size (by repeat (first | (with_reducible first | exact HB.out | apply below_alloc | apply pw_below_drewN | apply below_drew1) | exact HB.out)))); have n1_ := Aside0.mk (below_step (by repeat (first | (with_reducible first | exact HB.out | apply below_alloc | apply pw_below_drewN | apply below_drew1) | exact HB.out)) hb); clear HB; have HO253 := n0_; have HB := n1_; clear n0_ n1_; (try clear hb); (try clear hb2); (try clear hk); (try clear hi); (try clear ho0); obtain ⟨Ao13, co13, eo13⟩ := Kd.R_slice HO253.out; subst eo13) | (go_at_call 25; (with_reducible refine (redpenlaw11_Bits.calls k _ _ t251 _ _ l1 _ _ l0 t254 _ ?side1 ?side2 ?side3 ?side4 ?side5 ?side6 A8.out).mono ?_); (case side1 => repeat (first | exact (Kd.R_reads' HO253.out).2.2 | (with_reducible refine Kd.C_alloc ?_ _) | (with_reducible refine Kd.C_drewN ?_ _) | (with_reducible refine Kd.C_drew ?_))); (case side2 => exact (Kd.R_reads' HO253.out).2.1); (case side3 => repeat (first | exact (Kd.C_below HR1.out HB.out) | (with_reducible refine Kd.C_alloc ?_ _) | (with_reducible refine Kd.C_drewN ?_ _) | (with_reducible refine Kd.C_drew ?_))); (case side4 => exact HC1.out); (case side5 => repeat (first | exact (Kd.C_below HR0.out HB.out) | (with_reducible refine Kd.C_alloc ?_ _) | (with_reducible refine Kd.C_drewN ?_ _) | (with_reducible refine Kd.C_drew ?_))); (case side6 => exact HC0.out); rintro e w14 ⟨v255, rfl, ho0, hb⟩; have n0_ := Aside0.mk (Kd.R_below (by (with_reducible repeat (first | apply Kd.R_alloc | apply Kd.R_drewN | apply Kd.R_drew)); exact HO253.out) hb); have n1_ := Aside0.mk (Kd.R_lower ho0 (below_size (by repeat (first | (with_reducible first | exact HB.out | apply below_alloc | apply pw_below_drewN | apply below_drew1) | exact HB.out)))); have n2_ := Aside0.mk (below_step (by repeat (first | (with_reducible first | exact HB.out | apply below_alloc | apply pw_below_drewN | apply below_drew1) | exact HB.out)) hb); clear HO253; clear HB; have HO253 := n0_; have HO256 := n1_; have HB := n2_; clear n0_ n1_ n2_; (try clear hb); (try clear hb2); (try clear hk); (try clear hi); (try clear ho0); obtain ⟨Ao15, co15, eo15⟩ := Kd.R_slice HO256.out; subst eo15) | (go_at_call 24; (with_reducible refine (utf_Units.calls k _ _ t254 t257 _ ?side1 ?side2 A9.out).mono ?_); (case side1 => repeat (first | exact (Kd.R_reads' HO256.out).2.2 | (with_reducible refine Kd.C_alloc ?_ _) | (with_reducible refine Kd.C_drewN ?_ _) | (with_reducible refine Kd.C_drew ?_))); (case side2 => exact (Kd.R_reads' HO256.out).2.1); rintro e w16 ⟨v258, rfl, ho0, hb⟩; have n0_ := Aside0.mk (Kd.R_below (by (with_reducible repeat (first | apply Kd.R_alloc | apply Kd.R_drewN | apply Kd.R_drew)); exact HO253.out) hb); have n1_ := Aside0.mk (Kd.R_below (by (with_reducible repeat (first | apply Kd.R_alloc | apply Kd.R_drewN | apply Kd.R_drew)); exact HO256.out) hb); have n2_ := Aside0.mk (Kd.R_lower ho0 (below_size (by repeat (first | (with_reducible first | exact HB.out | apply below_alloc | apply pw_below_drewN | apply below_drew1) | exact HB.out)))); have n3_ := Aside0.mk (below_step (by repeat (first | (with_reducible first | exact HB.out | apply below_alloc | apply pw_below_drewN | apply below_drew1) | exact HB.out)) hb); clear HO253; clear HO256; clear HB; have HO253 := n0_; have HO256 := n1_; have HO259 := n2_; have HB := n3_; clear n0_ n1_ n2_ n3_; (try clear hb); (try clear hb2); (try clear hk); (try clear hi); (try clear ho0); obtain ⟨Ao17, co17, eo17⟩ := Kd.R_slice HO259.out; subst eo17) | (go_at_call 32; (with_reducible refine (token_Words.calls k _ _ t254 _ _ t257 0 1048576 t260 _ ?side1 ?side2 ?side3 ?side4 A10.out).mono ?_); (case side1 => repeat (first | exact (Kd.R_reads' HO256.out).2.2 | (with_reducible refine Kd.C_alloc ?_ _) | (with_reducible refine Kd.C_drewN ?_ _) | (with_reducible refine Kd.C_drew ?_))); (case side2 => exact (Kd.R_reads' HO256.out).2.1); (case side3 => repeat (first | exact (Kd.R_reads' HO259.out).2.2 | (with_reducible refine Kd.C_alloc ?_ _) | (with_reducible refine Kd.C_drewN ?_ _) | (with_reducible refine Kd.C_drew ?_))); (case side4 => exact (Kd.R_reads' HO259.out).2.1); rintro e w18 ⟨v261, rfl, ho0, hb⟩; have n0_ := Aside0.mk (Kd.R_below (by (with_reducible repeat (first | apply Kd.R_alloc | apply Kd.R_drewN | apply Kd.R_drew)); exact HO253.out) hb); have n1_ := Aside0.mk (Kd.R_below (by (with_reducible repeat (first | apply Kd.R_alloc | apply Kd.R_drewN | apply Kd.R_drew)); exact HO256.out) hb); have n2_ := Aside0.mk (Kd.R_below (by (with_reducible repeat (first | apply Kd.R_alloc | apply Kd.R_drewN | apply Kd.R_drew)); exact HO259.out) hb); have n3_ := Aside0.mk (Kd.R_lower ho0 (below_size (by repeat (first | (with_reducible first | exact HB.out | apply below_alloc | apply pw_below_drewN | apply below_drew1) | exact HB.out)))); have n4_ := Aside0.mk (below_step (by repeat (first | (with_reducible first | exact HB.out | apply below_alloc | apply pw_below_drewN | apply below_drew1) | exact HB.out)) hb); clear HO253; clear HO256; clear HO259; clear HB; have HO253 := n0_; have HO256 := n1_; have HO259 := n2_; have HO262 := n3_; have HB := n4_; clear n0_ n1_ n2_ n3_ n4_; (try clear hb); (try clear hb2); (try clear hk); (try clear hi); (try clear ho0); obtain ⟨Ao19, co19, eo19⟩ := Kd.R_slice HO262.out; subst eo19))
   repeat (go_quiet (first | (go_at_call 23; (with_reducible refine (redpenlaw16_Awake.calls k  true _ A3.out).mono ?_); rintro e w11 ⟨rfl, hb⟩; have n0_ := Aside0.mk (below_step (by repeat (first | (with_reducible first | exact HB.out | apply below_alloc | apply pw_below_drewN | apply below_drew1) | exact HB.out)) hb); clear HB; have HB := n0_; clear n0_; (try clear hb); (try clear hb2); (try clear hk); (try clear hi)) | (go_at_call 26; (with_reducible refine (redpenlaw16_pieces.calls  t251 _ A7.out).mono ?_); rintro e w12 ⟨v252, rfl, ho0, hb⟩; have n0_ := Aside0.mk (Kd.R_lower ho0 (below_size (by repeat (first | (with_reducible first | exact HB.out | apply below_alloc | apply pw_below_drewN | apply below_drew1) | exact HB.out)))); have n1_ := Aside0.mk (below_step (by repeat (first | (with_reducible first | exact HB.out | apply below_alloc | apply pw_below_drewN | apply below_drew1) | exact HB.out)) hb); clear HB; have HO253 := n0_; have HB := n1_; clear n0_ n1_; (try clear hb); (try clear hb2); (try clear hk); (try clear hi); (try clear ho0); obtain ⟨Ao13, co13, eo13⟩ := Kd.R_slice HO253.out; subst eo13) | (go_at_call 25; (with_reducible refine (redpenlaw11_Bits.calls k _ _ t251 _ _ l1 _ _ l0 t254 _ ?side1 ?side2 ?side3 ?side4 ?side5 ?side6 A8.out).mono ?_); (case side1 => repeat (first | exact (Kd.R_reads' HO253.out).2.2 | (with_reducible refine Kd.C_alloc ?_ _) | (with_reducible refine Kd.C_drewN ?_ _) | (with_reducible refine Kd.C_drew ?_))); (case side2 => exact (Kd.R_reads' HO253.out).2.1); (case side3 => repeat (first | exact (Kd.C_below HR1.out HB.out) | (with_reducible refine Kd.C_alloc ?_ _) | (with_reducible refine Kd.C_drewN ?_ _) | (with_reducible refine Kd.C_drew ?_))); (case side4 => exact HC1.out); (case side5 => repeat (first | exact (Kd.C_below HR0.out HB.out) | (with_reducible refine Kd.C_alloc ?_ _) | (with_reducible refine Kd.C_drewN ?_ _) | (with_reducible refine Kd.C_drew ?_))); (case side6 => exact HC0.out); rintro e w14 ⟨v255, rfl, ho0, hb⟩; have n0_ := Aside0.mk (Kd.R_below (by (with_reducible repeat (first | apply Kd.R_alloc | apply Kd.R_drewN | apply Kd.R_drew)); exact HO253.out) hb); have n1_ := Aside0.mk (Kd.R_lower ho0 (below_size (by repeat (first | (with_reducible first | exact HB.out | apply below_alloc | apply pw_below_drewN | apply below_drew1) | exact HB.out)))); have n2_ := Aside0.mk (below_step (by repeat (first | (with_reducible first | exact HB.out | apply below_alloc | apply pw_below_drewN | apply below_drew1) | exact HB.out)) hb); clear HO253; clear HB; have HO253 := n0_; have HO256 := n1_; have HB := n2_; clear n0_ n1_ n2_; (try clear hb); (try clear hb2); (try clear hk); (try clear hi); (try clear ho0); obtain ⟨Ao15, co15, eo15⟩ := Kd.R_slice HO256.out; subst eo15) | (go_at_call 24; (with_reducible refine (utf_Units.calls k _ _ t254 t257 _ ?side1 ?side2 A9.out).mono ?_); (case side1 => repeat (first | exact (Kd.R_reads' HO256.out).2.2 | (with_reducible refine Kd.C_alloc ?_ _) | (with_reducible refine Kd.C_drewN ?_ _) | (with_reducible refine Kd.C_drew ?_))); (case side2 => exact (Kd.R_reads' HO256.out).2.1); rintro e w16 ⟨v258, rfl, ho0, hb⟩; have n0_ := Aside0.mk (Kd.R_below (by (with_reducible repeat (first | apply Kd.R_alloc | apply Kd.R_drewN | apply Kd.R_drew)); exact HO253.out) hb); have n1_ := Aside0.mk (Kd.R_below (by (with_reducible repeat (first | apply Kd.R_alloc | apply Kd.R_drewN | apply Kd.R_drew)); exact HO256.out) hb); have n2_ := Aside0.mk (Kd.R_lower ho0 (below_size (by repeat (first | (with_reducible first | exact HB.out | apply below_alloc | apply pw_below_drewN | apply below_drew1) | exact HB.out)))); have n3_ := Aside0.mk (below_step (by repeat (first | (with_reducible first | exact HB.out | apply below_alloc | apply pw_below_drewN | apply below_drew1) | exact HB.out)) hb); clear HO253; clear HO256; clear HB; have HO253 := n0_; have HO256 := n1_; have HO259 := n2_; have HB := n3_; clear n0_ n1_ n2_ n3_; (try clear hb); (try clear hb2); (try clear hk); (try clear hi); (try clear ho0); obtain ⟨Ao17, co17, eo17⟩ := Kd.R_slice HO259.out; subst eo17) | (go_at_call 32; (with_reducible refine (token_Words.calls k _ _ t254 _ _ t257 0 1048576 t260 _ ?side1 ?side2 ?side3 ?side4 A10.out).mono ?_); (case side1 => repeat (first | exact (Kd.R_reads' HO256.out).2.2 | (with_reducible refine Kd.C_alloc ?_ _) | (with_reducible refine Kd.C_drewN ?_ _) | (with_reducible refine Kd.C_drew ?_))); (case side2 => exact (Kd.R_reads' HO256.out).2.1); (case side3 => repeat (first | exact (Kd.R_reads' HO259.out).2.2 | (with_reducible refine Kd.C_alloc ?_ _) | (with_reducible refine Kd.C_drewN ?_ _) | (with_reducible refine Kd.C_drew ?_))); (case side4 => exact (Kd.R_reads' HO259.out).2.1); rintro e w18 ⟨v261, rfl, ho0, hb⟩; have n0_ := Aside0.mk (Kd.R_below (by (with_reducible repeat (first | apply Kd.R_alloc | apply Kd.R_drewN | apply Kd.R_drew)); exact HO253.out) hb); have n1_ := Aside0.mk (Kd.R_below (by (with_reducible repeat (first | apply Kd.R_alloc | apply Kd.R_drewN | apply Kd.R_drew)); exact HO256.out) hb); have n2_ := Aside0.mk (Kd.R_below (by (with_reducible repeat (first | apply Kd.R_alloc | apply Kd.R_drewN | apply Kd.R_drew)); exact HO259.out) hb); have n3_ := Aside0.mk (Kd.R_lower ho0 (below_size (by repeat (first | (with_reducible first | exact HB.out | apply below_alloc | apply pw_below_drewN | apply below_drew1) | exact HB.out)))); have n4_ := Aside0.mk (below_step (by repeat (first | (with_reducible first | exact HB.out | apply below_alloc | apply pw_below_drewN | apply below_drew1) | exact HB.out)) hb); clear HO253; clear HO256; clear HO259; clear HB; have HO253 := n0_; have HO256 := n1_; have HO259 := n2_; have HO262 := n3_; have HB := n4_; clear n0_ n1_ n2_ n3_ n4_; (try clear hb); (try clear hb2); (try clear hk); (try clear hi); (try clear ho0); obtain ⟨Ao19, co19, eo19⟩ := Kd.R_slice HO262.out; subst eo19)); try go_wp2_with (first | (go_at_call 23; (with_reducible refine (redpenlaw16_Awake.calls k  true _ A3.out).mono ?_); rintro e w11 ⟨rfl, hb⟩; have n0_ := Aside0.mk (below_step (by repeat (first | (with_reducible first | exact HB.out | apply below_alloc | apply pw_below_drewN | apply below_drew1) | exact HB.out)) hb); clear HB; have HB := n0_; clear n0_; (try clear hb); (try clear hb2); (try clear hk); (try clear hi)) | (go_at_call 26; (with_reducible refine (redpenlaw16_pieces.calls  t251 _ A7.out).mono ?_); rintro e w12 ⟨v252, rfl, ho0, hb⟩; have n0_ := Aside0.mk (Kd.R_lower ho0 (below_size (by repeat (first | (with_reducible first | exact HB.out | apply below_alloc | apply pw_below_drewN | apply below_drew1) | exact HB.out)))); have n1_ := Aside0.mk (below_step (by repeat (first | (with_reducible first | exact HB.out | apply below_alloc | apply pw_below_drewN | apply below_drew1) | exact HB.out)) hb); clear HB; have HO253 := n0_; have HB := n1_; clear n0_ n1_; (try clear hb); (try clear hb2); (try clear hk); (try clear hi); (try clear ho0); obtain ⟨Ao13, co13, eo13⟩ := Kd.R_slice HO253.out; subst eo13) | (go_at_call 25; (with_reducible refine (redpenlaw11_Bits.calls k _ _ t251 _ _ l1 _ _ l0 t254 _ ?side1 ?side2 ?side3 ?side4 ?side5 ?side6 A8.out).mono ?_); (case side1 => repeat (first | exact (Kd.R_reads' HO253.out).2.2 | (with_reducible refine Kd.C_alloc ?_ _) | (with_reducible refine Kd.C_drewN ?_ _) | (with_reducible refine Kd.C_drew ?_))); (case side2 => exact (Kd.R_reads' HO253.out).2.1); (case side3 => repeat (first | exact (Kd.C_below HR1.out HB.out) | (with_reducible refine Kd.C_alloc ?_ _) | (with_reducible refine Kd.C_drewN ?_ _) | (with_reducible refine Kd.C_drew ?_))); (case side4 => exact HC1.out); (case side5 => repeat (first | exact (Kd.C_below HR0.out HB.out) | (with_reducible refine Kd.C_alloc ?_ _) | (with_reducible refine Kd.C_drewN ?_ _) | (with_reducible refine Kd.C_drew ?_))); (case side6 => exact HC0.out); rintro e w14 ⟨v255, rfl, ho0, hb⟩; have n0_ := Aside0.mk (Kd.R_below (by (with_reducible repeat (first | apply Kd.R_alloc | apply Kd.R_drewN | apply Kd.R_drew)); exact HO253.out) hb); have n1_ := Aside0.mk (Kd.R_lower ho0 (below_size (by repeat (first | (with_reducible first | exact HB.out | apply below_alloc | apply pw_below_drewN | apply below_drew1) | exact HB.out)))); have n2_ := Aside0.mk (below_step (by repeat (first | (with_reducible first | exact HB.out | apply below_alloc | apply pw_below_drewN | apply below_drew1) | exact HB.out)) hb); clear HO253; clear HB; have HO253 := n0_; have HO256 := n1_; have HB := n2_; clear n0_ n1_ n2_; (try clear hb); (try clear hb2); (try clear hk); (try clear hi); (try clear ho0); obtain ⟨Ao15, co15, eo15⟩ := Kd.R_slice HO256.out; subst eo15) | (go_at_call 24; (with_reducible refine (utf_Units.calls k _ _ t254 t257 _ ?side1 ?side2 A9.out).mono ?_); (case side1 => repeat (first | exact (Kd.R_reads' HO256.out).2.2 | (with_reducible refine Kd.C_alloc ?_ _) | (with_reducible refine Kd.C_drewN ?_ _) | (with_reducible refine Kd.C_drew ?_))); (case side2 => exact (Kd.R_reads' HO256.out).2.1); rintro e w16 ⟨v258, rfl, ho0, hb⟩; have n0_ := Aside0.mk (Kd.R_below (by (with_reducible repeat (first | apply Kd.R_alloc | apply Kd.R_drewN | apply Kd.R_drew)); exact HO253.out) hb); have n1_ := Aside0.mk (Kd.R_below (by (with_reducible repeat (first | apply Kd.R_alloc | apply Kd.R_drewN | apply Kd.R_drew)); exact HO256.out) hb); have n2_ := Aside0.mk (Kd.R_lower ho0 (below_size (by repeat (first | (with_reducible first | exact HB.out | apply below_alloc | apply pw_below_drewN | apply below_drew1) | exact HB.out)))); have n3_ := Aside0.mk (below_step (by repeat (first | (with_reducible first | exact HB.out | apply below_alloc | apply pw_below_drewN | apply below_drew1) | exact HB.out)) hb); clear HO253; clear HO256; clear HB; have HO253 := n0_; have HO256 := n1_; have HO259 := n2_; have HB := n3_; clear n0_ n1_ n2_ n3_; (try clear hb); (try clear hb2); (try clear hk); (try clear hi); (try clear ho0); obtain ⟨Ao17, co17, eo17⟩ := Kd.R_slice HO259.out; subst eo17) | (go_at_call 32; (with_reducible refine (token_Words.calls k _ _ t254 _ _ t257 0 1048576 t260 _ ?side1 ?side2 ?side3 ?side4 A10.out).mono ?_); (case side1 => repeat (first | exact (Kd.R_reads' HO256.out).2.2 | (with_reducible refine Kd.C_alloc ?_ _) | (with_reducible refine Kd.C_drewN ?_ _) | (with_reducible refine Kd.C_drew ?_))); (case side2 => exact (Kd.R_reads' HO256.out).2.1); (case side3 => repeat (first | exact (Kd.R_reads' HO259.out).2.2 | (with_reducible refine Kd.C_alloc ?_ _) | (with_reducible refine Kd.C_drewN ?_ _) | (with_reducible refine Kd.C_drew ?_))); (case side4 => exact (Kd.R_reads' HO259.out).2.1); rintro e w18 ⟨v261, rfl, ho0, hb⟩; have n0_ := Aside0.mk (Kd.R_below (by (with_reducible repeat (first | apply Kd.R_alloc | apply Kd.R_drewN | apply Kd.R_drew)); exact HO253.out) hb); have n1_ := Aside0.mk (Kd.R_below (by (with_reducible repeat (first | apply Kd.R_alloc | apply Kd.R_drewN | apply Kd.R_drew)); exact HO256.out) hb); have n2_ := Aside0.mk (Kd.R_below (by (with_reducible repeat (first | apply Kd.R_alloc | apply Kd.R_drewN | apply Kd.R_drew)); exact HO259.out) hb); have n3_ := Aside0.mk (Kd.R_lower ho0 (below_size (by repeat (first | (with_reducible first | exact HB.out | apply below_alloc | apply pw_below_drewN | apply below_drew1) | exact HB.out)))); have n4_ := Aside0.mk (below_step (by repeat (first | (with_reducible first | exact HB.out | apply below_alloc | apply pw_below_drewN | apply below_drew1) | exact HB.out)) hb); clear HO253; clear HO256; clear HO259; clear HB; have HO253 := n0_; have HO256 := n1_; have HO259 := n2_; have HO262 := n3_; have HB := n4_; clear n0_ n1_ n2_ n3_ n4_; (try clear hb); (try clear hb2); (try clear hk); (try clear hi); (try clear ho0); obtain ⟨Ao19, co19, eo19⟩ := Kd.R_slice HO262.out; subst eo19)))
   go_loopg [8, 33] k (fun kq v8 v33 w' => ∃ (x8_1 : Int) (x33_1 : Int), v8 = .int .i64 x8_1 ∧ v33 = .int .i64 x33_1 ∧ Aside0 (redpenlaw16_TokenWhole.l0 kq t254 t257 t260 x8_1 t260 (t260.length : Int) x33_1 = some r) ∧ Aside0 (kq ≤ k) ∧ Aside0 (Kd.R (Kd.int .u8) 5 w' w.heap.size (fun _ => True) (.slice Ao15 t254.length co15) t254) ∧ Aside0 (Kd.R k53 53 w' w.heap.size (fun _ => True) (.slice Ao17 t257.length co17) t257) ∧ Aside0 (Kd.R k50 50 w' w.heap.size (fun _ => True) (.slice Ao19 t260.length co19) t260) ∧ Aside0 (Kd.R k50 50 w' w.heap.size (fun _ => True) (.slice Ao19 t260.length co19) t260) ∧ Aside0 (Below w.heap.size w w'))
   case atStart => exact ⟨(0), (0), (by first | rfl | (simp; done) | (simp [*]; done)), (by first | rfl | (simp; done) | (simp [*]; done)), H', ⟨Nat.le_refl _⟩, ⟨by (with_reducible repeat (first | apply Kd.R_alloc | apply Kd.R_drewN | apply Kd.R_drew)); exact HO256.out⟩, ⟨by (with_reducible repeat (first | apply Kd.R_alloc | apply Kd.R_drewN | apply Kd.R_drew)); exact HO259.out⟩, ⟨by (with_reducible repeat (first | apply Kd.R_alloc | apply Kd.R_drewN | apply Kd.R_drew)); exact HO262.out⟩, ⟨by (with_reducible repeat (first | apply Kd.R_alloc | apply Kd.R_drewN | apply Kd.R_drew)); exact HO262.out⟩, ⟨by repeat (first | (with_reducible first | exact HB.out | apply below_alloc | apply pw_below_drewN | apply below_drew1) | exact HB.out)⟩⟩
   case round =>
    clear H'
    try clear c1
    try clear p2
    try clear c4
    try clear c5
    try clear c5b0
    try clear c5b1
    try clear c7
    obtain ⟨x8_1, x33_1, rfl, rfl, HA, HK1, HO_5, HO_6, HO_7, HO_31, HB⟩ := hrel
    cases gk with
    | zero => exact absurd HA.out (by simp [redpenlaw16_TokenWhole.l0])
    | succ k1 =>
     have H := HA.out
     clear HA
     simp only [redpenlaw16_TokenWhole.l0] at H
     by_cases c20 : x33_1 < (t260.length : Int)
     ·rw [if_pos c20] at H
      have c20b0 : decide (x33_1 < (t260.length : Int)) = true := decide_eq_true c20
      clear c20
      by_cases c21 : 0 ≤ x33_1
      ·rw [if_pos c21] at H
       have c21b0 : decide (0 ≤ x33_1) = true := decide_eq_true c21
       clear c21
       by_cases c22 : x33_1 < (t260.length : Int)
       ·rw [if_pos c22] at H
        have c22b0 : decide (x33_1 < (t260.length : Int)) = true := decide_eq_true c22
        clear c22
        have HC23 := Aside0.mk H
        clear H
        have p263 : 0 ≤ (x33_1 : Int) := of_decide_eq_true (by first | (with_reducible assumption) | assumption)
        have q263 : x33_1 < (t260.length : Int) := of_decide_eq_true (by first | (with_reducible assumption) | assumption)
        obtain ⟨ad263, e263, hx263_0, hx263_1, hx263_2, hx263_3⟩ := at_T50 (Kd.R_reads' HO_31.out).2.2 x33_1 p263 q263
        cases e263
        replace p263 := eq_true p263
        replace q263 := eq_true q263
        go_upto_region 12 with (first | ((with_reducible refine gate_dst (N := 10) rfl ?_); refine box_event ?hg (N := 10) ?hd (cs := #[.string (⟨#[]⟩ : ByteArray), .int .i64 0, .int .i64 0, .bool false]) (t := 50) ?hr ?_; (case hd => rfl); (case hg => rfl); (case hr => first | (go_simp; done) | (go_simp; rfl)); intro gb264 hg w24 hbox hb; have n0_ := Aside0.mk (Kd.R_below (by (with_reducible repeat (first | apply Kd.R_alloc | apply Kd.R_drewN | apply Kd.R_drew)); exact HO_5.out) hb); have n1_ := Aside0.mk (Kd.R_below (by (with_reducible repeat (first | apply Kd.R_alloc | apply Kd.R_drewN | apply Kd.R_drew)); exact HO_6.out) hb); have n2_ := Aside0.mk (Kd.R_below (Kd.R_elderB (by (with_reducible repeat (first | apply Kd.R_alloc | apply Kd.R_drewN | apply Kd.R_drew)); exact HO_7.out) gb264 (Nat.le_of_eq hg.symm)) hb); have n3_ := Aside0.mk (Kd.R_below (Kd.R_elderB (by (with_reducible repeat (first | apply Kd.R_alloc | apply Kd.R_drewN | apply Kd.R_drew)); exact HO_31.out) gb264 (Nat.le_of_eq hg.symm)) hb); have n4_ := Aside0.mk (below_step (by repeat (first | (with_reducible first | exact HB.out | apply below_alloc | apply pw_below_drewN | apply below_drew1) | exact HB.out)) hb); have n5_ := Aside0.mk (hbox); have n6_ := Aside0.mk ((by rw [hg]; exact (below_size (by repeat (first | (with_reducible first | exact HB.out | apply below_alloc | apply pw_below_drewN | apply below_drew1) | exact HB.out))) : w.heap.size ≤ gb264)); have n7_ := Aside0.mk ((by rw [hg]; exact (below_size (by repeat (first | (with_reducible first | exact HB.out | apply below_alloc | apply pw_below_drewN | apply below_drew1) | exact HB.out))) : w.heap.size ≤ gb264)); clear HO_5; clear HO_6; clear HO_7; clear HO_31; clear HB; have HO_5 := n0_; have HO_6 := n1_; have HO_7 := n2_; have HO_31 := n3_; have HB := n4_; have BK264 := n5_; have GW264 := n6_; have GE264 := n7_; clear n0_ n1_ n2_ n3_ n4_ n5_ n6_ n7_; clear hb hbox hg; have hcz25_0 : w24.cell? ⟨gb264, 0, none⟩ = some (.string (⟨#[]⟩ : ByteArray)) := (blk_cell BK264.out 0).trans rfl; have hcz25_1 : w24.cell? ⟨gb264, 1, none⟩ = some (.int .i64 0) := (blk_cell BK264.out 1).trans rfl; have hcz25_2 : w24.cell? ⟨gb264, 2, none⟩ = some (.int .i64 0) := (blk_cell BK264.out 2).trans rfl; have hcz25_3 : w24.cell? ⟨gb264, 3, none⟩ = some (.bool false) := (blk_cell BK264.out 3).trans rfl; have hfz25_0 := blk_frozen BK264.out 0; have hfz25_1 := blk_frozen BK264.out 1; have hfz25_2 := blk_frozen BK264.out 2; have hfz25_3 := blk_frozen BK264.out 3) | ((with_reducible refine gate_store (t := 50) (p := 10) rfl ?_); (try (rw [drewN_self w24]; generalize hq_ : World.drewN w24 _ = w24; have n0_ := Aside0.mk (Kd.R_at hq_ HO_5.out); have n1_ := Aside0.mk (Kd.R_at hq_ HO_6.out); have n2_ := Aside0.mk (Kd.R_at hq_ HO_7.out); have n3_ := Aside0.mk (Kd.R_at hq_ HO_31.out); have n4_ := Aside0.mk (blk_at hq_ BK264.out); have n5_ := Aside0.mk (below_at hq_ HB.out); clear hq_ HO_5 HO_6 HO_7 HO_31 BK264 HB; have HO_5 := n0_; have HO_6 := n1_; have HO_7 := n2_; have HO_31 := n3_; have BK264 := n4_; have HB := n5_; clear n0_ n1_ n2_ n3_ n4_ n5_)); refine store_event (t := 50) (p := 10) (v := ?vo_w26) (w1 := ((((w24.setCell ⟨gb264, 0, none⟩ (.string ((rd_T50 t260 x33_1).f0))).setCell ⟨gb264, 1, none⟩ (.int .i64 ((rd_T50 t260 x33_1).f1.f0))).setCell ⟨gb264, 2, none⟩ (.int .i64 ((rd_T50 t260 x33_1).f1.f1))).setCell ⟨gb264, 3, none⟩ (.bool ((rd_T50 t260 x33_1).f2)))) ?hg ?ho ?hn ?hr ?_; (case ho => rfl); (case hg => rfl); (case hn => rfl); (case hr => first | (go_simp; done) | (go_simp; rfl)); intro w26 hw; have n0_ : Aside0 (Kd.R (Kd.int .u8) 5 w26 w.heap.size (fun _ => True) (.slice Ao15 t254.length co15) t254) := ⟨(by rw [hw]; exact (by (with_reducible repeat (first | apply Kd.R_alloc | apply Kd.R_drewN | apply Kd.R_drew)); exact Kd.R_mono (Kd.R_far (p := ⟨gb264, 3, none⟩) (Kd.R_far (p := ⟨gb264, 2, none⟩) (Kd.R_far (p := ⟨gb264, 1, none⟩) (Kd.R_far (p := ⟨gb264, 0, none⟩) (Kd.R_types HO_5.out BK264.out (by decide)) (fun _ hk => hk.2) (.string ((rd_T50 t260 x33_1).f0))) (fun _ hk => hk.2) (.int .i64 ((rd_T50 t260 x33_1).f1.f0))) (fun _ hk => hk.2) (.int .i64 ((rd_T50 t260 x33_1).f1.f1))) (fun _ hk => hk.2) (.bool ((rd_T50 t260 x33_1).f2))) (fun _ hk => trivial)))⟩; have n1_ : Aside0 (Kd.R k53 53 w26 w.heap.size (fun _ => True) (.slice Ao17 t257.length co17) t257) := ⟨(by rw [hw]; exact (by (with_reducible repeat (first | apply Kd.R_alloc | apply Kd.R_drewN | apply Kd.R_drew)); exact Kd.R_mono (Kd.R_far (p := ⟨gb264, 3, none⟩) (Kd.R_far (p := ⟨gb264, 2, none⟩) (Kd.R_far (p := ⟨gb264, 1, none⟩) (Kd.R_far (p := ⟨gb264, 0, none⟩) (Kd.R_types HO_6.out BK264.out (by decide)) (fun _ hk => hk.2) (.string ((rd_T50 t260 x33_1).f0))) (fun _ hk => hk.2) (.int .i64 ((rd_T50 t260 x33_1).f1.f0))) (fun _ hk => hk.2) (.int .i64 ((rd_T50 t260 x33_1).f1.f1))) (fun _ hk => hk.2) (.bool ((rd_T50 t260 x33_1).f2))) (fun _ hk => trivial)))⟩; have n2_ : Aside0 (Kd.R k50 50 w26 w.heap.size (fun k_ => k_ ≠ gb264) (.slice (some ad263) t260.length co19) t260) := ⟨(by rw [hw]; exact (by (with_reducible repeat (first | apply Kd.R_alloc | apply Kd.R_drewN | apply Kd.R_drew)); exact Kd.R_mono (Kd.R_far (p := ⟨gb264, 3, none⟩) (Kd.R_far (p := ⟨gb264, 2, none⟩) (Kd.R_far (p := ⟨gb264, 1, none⟩) (Kd.R_far (p := ⟨gb264, 0, none⟩) (Kd.R_mono HO_7.out (fun k_ hk => (⟨hk, hk.2⟩ : _ ∧ k_ ≠ gb264))) (fun _ hk => hk.2) (.string ((rd_T50 t260 x33_1).f0))) (fun _ hk => hk.2) (.int .i64 ((rd_T50 t260 x33_1).f1.f0))) (fun _ hk => hk.2) (.int .i64 ((rd_T50 t260 x33_1).f1.f1))) (fun _ hk => hk.2) (.bool ((rd_T50 t260 x33_1).f2))) (fun _ hk => hk.1.2)))⟩; have n3_ : Aside0 (Kd.R k50 50 w26 w.heap.size (fun k_ => k_ ≠ gb264) (.slice (some ad263) t260.length co19) t260) := ⟨(by rw [hw]; exact (by (with_reducible repeat (first | apply Kd.R_alloc | apply Kd.R_drewN | apply Kd.R_drew)); exact Kd.R_mono (Kd.R_far (p := ⟨gb264, 3, none⟩) (Kd.R_far (p := ⟨gb264, 2, none⟩) (Kd.R_far (p := ⟨gb264, 1, none⟩) (Kd.R_far (p := ⟨gb264, 0, none⟩) (Kd.R_mono HO_31.out (fun k_ hk => (⟨hk, hk.2⟩ : _ ∧ k_ ≠ gb264))) (fun _ hk => hk.2) (.string ((rd_T50 t260 x33_1).f0))) (fun _ hk => hk.2) (.int .i64 ((rd_T50 t260 x33_1).f1.f0))) (fun _ hk => hk.2) (.int .i64 ((rd_T50 t260 x33_1).f1.f1))) (fun _ hk => hk.2) (.bool ((rd_T50 t260 x33_1).f2))) (fun _ hk => hk.1.2)))⟩; have n4_ : Aside0 (w26.heap[gb264]? = some (.cells #[.string ((rd_T50 t260 x33_1).f0), .int .i64 ((rd_T50 t260 x33_1).f1.f0), .int .i64 ((rd_T50 t260 x33_1).f1.f1), .bool ((rd_T50 t260 x33_1).f2)] 50 (0, 0))) := ⟨(by rw [hw]; exact (by (with_reducible repeat (first | refine blk_drewN ?_ _ | refine blk_drew ?_ | refine blk_alloc ?_ _)); refine blk_put (cs := #[.string ((rd_T50 t260 x33_1).f0), .int .i64 ((rd_T50 t260 x33_1).f1.f0), .int .i64 ((rd_T50 t260 x33_1).f1.f1), .bool false]) ?_ 3 _ rfl; (with_reducible repeat (first | refine blk_drewN ?_ _ | refine blk_drew ?_ | refine blk_alloc ?_ _)); refine blk_put (cs := #[.string ((rd_T50 t260 x33_1).f0), .int .i64 ((rd_T50 t260 x33_1).f1.f0), .int .i64 0, .bool false]) ?_ 2 _ rfl; (with_reducible repeat (first | refine blk_drewN ?_ _ | refine blk_drew ?_ | refine blk_alloc ?_ _)); refine blk_put (cs := #[.string ((rd_T50 t260 x33_1).f0), .int .i64 0, .int .i64 0, .bool false]) ?_ 1 _ rfl; (with_reducible repeat (first | refine blk_drewN ?_ _ | refine blk_drew ?_ | refine blk_alloc ?_ _)); refine blk_put (cs := #[.string (⟨#[]⟩ : ByteArray), .int .i64 0, .int .i64 0, .bool false]) ?_ 0 _ rfl; (with_reducible repeat (first | refine blk_drewN ?_ _ | refine blk_drew ?_ | refine blk_alloc ?_ _)); exact BK264.out))⟩; have n5_ : Aside0 (Below w.heap.size w w26) := ⟨(by rw [hw]; exact (by repeat (first | (with_reducible first | exact HB.out | apply below_alloc | apply pw_below_drewN | apply below_drew1 | refine below_set ?_ GE264.out) | exact HB.out)))⟩; clear hw; clear HO_5; clear HO_6; clear HO_7; clear HO_31; clear BK264; clear HB; have HO_5 := n0_; have HO_6 := n1_; have HO_7 := n2_; have HO_31 := n3_; have BK264 := n4_; have HB := n5_; clear n0_ n1_ n2_ n3_ n4_ n5_))
        repeat (go_quiet (first | ((with_reducible refine gate_dst (N := 10) rfl ?_); refine box_event ?hg (N := 10) ?hd (cs := #[.string (⟨#[]⟩ : ByteArray), .int .i64 0, .int .i64 0, .bool false]) (t := 50) ?hr ?_; (case hd => rfl); (case hg => rfl); (case hr => first | (go_simp; done) | (go_simp; rfl)); intro gb264 hg w24 hbox hb; have n0_ := Aside0.mk (Kd.R_below (by (with_reducible repeat (first | apply Kd.R_alloc | apply Kd.R_drewN | apply Kd.R_drew)); exact HO_5.out) hb); have n1_ := Aside0.mk (Kd.R_below (by (with_reducible repeat (first | apply Kd.R_alloc | apply Kd.R_drewN | apply Kd.R_drew)); exact HO_6.out) hb); have n2_ := Aside0.mk (Kd.R_below (Kd.R_elderB (by (with_reducible repeat (first | apply Kd.R_alloc | apply Kd.R_drewN | apply Kd.R_drew)); exact HO_7.out) gb264 (Nat.le_of_eq hg.symm)) hb); have n3_ := Aside0.mk (Kd.R_below (Kd.R_elderB (by (with_reducible repeat (first | apply Kd.R_alloc | apply Kd.R_drewN | apply Kd.R_drew)); exact HO_31.out) gb264 (Nat.le_of_eq hg.symm)) hb); have n4_ := Aside0.mk (below_step (by repeat (first | (with_reducible first | exact HB.out | apply below_alloc | apply pw_below_drewN | apply below_drew1) | exact HB.out)) hb); have n5_ := Aside0.mk (hbox); have n6_ := Aside0.mk ((by rw [hg]; exact (below_size (by repeat (first | (with_reducible first | exact HB.out | apply below_alloc | apply pw_below_drewN | apply below_drew1) | exact HB.out))) : w.heap.size ≤ gb264)); have n7_ := Aside0.mk ((by rw [hg]; exact (below_size (by repeat (first | (with_reducible first | exact HB.out | apply below_alloc | apply pw_below_drewN | apply below_drew1) | exact HB.out))) : w.heap.size ≤ gb264)); clear HO_5; clear HO_6; clear HO_7; clear HO_31; clear HB; have HO_5 := n0_; have HO_6 := n1_; have HO_7 := n2_; have HO_31 := n3_; have HB := n4_; have BK264 := n5_; have GW264 := n6_; have GE264 := n7_; clear n0_ n1_ n2_ n3_ n4_ n5_ n6_ n7_; clear hb hbox hg; have hcz25_0 : w24.cell? ⟨gb264, 0, none⟩ = some (.string (⟨#[]⟩ : ByteArray)) := (blk_cell BK264.out 0).trans rfl; have hcz25_1 : w24.cell? ⟨gb264, 1, none⟩ = some (.int .i64 0) := (blk_cell BK264.out 1).trans rfl; have hcz25_2 : w24.cell? ⟨gb264, 2, none⟩ = some (.int .i64 0) := (blk_cell BK264.out 2).trans rfl; have hcz25_3 : w24.cell? ⟨gb264, 3, none⟩ = some (.bool false) := (blk_cell BK264.out 3).trans rfl; have hfz25_0 := blk_frozen BK264.out 0; have hfz25_1 := blk_frozen BK264.out 1; have hfz25_2 := blk_frozen BK264.out 2; have hfz25_3 := blk_frozen BK264.out 3) | ((with_reducible refine gate_store (t := 50) (p := 10) rfl ?_); (try (rw [drewN_self w24]; generalize hq_ : World.drewN w24 _ = w24; have n0_ := Aside0.mk (Kd.R_at hq_ HO_5.out); have n1_ := Aside0.mk (Kd.R_at hq_ HO_6.out); have n2_ := Aside0.mk (Kd.R_at hq_ HO_7.out); have n3_ := Aside0.mk (Kd.R_at hq_ HO_31.out); have n4_ := Aside0.mk (blk_at hq_ BK264.out); have n5_ := Aside0.mk (below_at hq_ HB.out); clear hq_ HO_5 HO_6 HO_7 HO_31 BK264 HB; have HO_5 := n0_; have HO_6 := n1_; have HO_7 := n2_; have HO_31 := n3_; have BK264 := n4_; have HB := n5_; clear n0_ n1_ n2_ n3_ n4_ n5_)); refine store_event (t := 50) (p := 10) (v := ?vo_w26) (w1 := ((((w24.setCell ⟨gb264, 0, none⟩ (.string ((rd_T50 t260 x33_1).f0))).setCell ⟨gb264, 1, none⟩ (.int .i64 ((rd_T50 t260 x33_1).f1.f0))).setCell ⟨gb264, 2, none⟩ (.int .i64 ((rd_T50 t260 x33_1).f1.f1))).setCell ⟨gb264, 3, none⟩ (.bool ((rd_T50 t260 x33_1).f2)))) ?hg ?ho ?hn ?hr ?_; (case ho => rfl); (case hg => rfl); (case hn => rfl); (case hr => first | (go_simp; done) | (go_simp; rfl)); intro w26 hw; have n0_ : Aside0 (Kd.R (Kd.int .u8) 5 w26 w.heap.size (fun _ => True) (.slice Ao15 t254.length co15) t254) := ⟨(by rw [hw]; exact (by (with_reducible repeat (first | apply Kd.R_alloc | apply Kd.R_drewN | apply Kd.R_drew)); exact Kd.R_mono (Kd.R_far (p := ⟨gb264, 3, none⟩) (Kd.R_far (p := ⟨gb264, 2, none⟩) (Kd.R_far (p := ⟨gb264, 1, none⟩) (Kd.R_far (p := ⟨gb264, 0, none⟩) (Kd.R_types HO_5.out BK264.out (by decide)) (fun _ hk => hk.2) (.string ((rd_T50 t260 x33_1).f0))) (fun _ hk => hk.2) (.int .i64 ((rd_T50 t260 x33_1).f1.f0))) (fun _ hk => hk.2) (.int .i64 ((rd_T50 t260 x33_1).f1.f1))) (fun _ hk => hk.2) (.bool ((rd_T50 t260 x33_1).f2))) (fun _ hk => trivial)))⟩; have n1_ : Aside0 (Kd.R k53 53 w26 w.heap.size (fun _ => True) (.slice Ao17 t257.length co17) t257) := ⟨(by rw [hw]; exact (by (with_reducible repeat (first | apply Kd.R_alloc | apply Kd.R_drewN | apply Kd.R_drew)); exact Kd.R_mono (Kd.R_far (p := ⟨gb264, 3, none⟩) (Kd.R_far (p := ⟨gb264, 2, none⟩) (Kd.R_far (p := ⟨gb264, 1, none⟩) (Kd.R_far (p := ⟨gb264, 0, none⟩) (Kd.R_types HO_6.out BK264.out (by decide)) (fun _ hk => hk.2) (.string ((rd_T50 t260 x33_1).f0))) (fun _ hk => hk.2) (.int .i64 ((rd_T50 t260 x33_1).f1.f0))) (fun _ hk => hk.2) (.int .i64 ((rd_T50 t260 x33_1).f1.f1))) (fun _ hk => hk.2) (.bool ((rd_T50 t260 x33_1).f2))) (fun _ hk => trivial)))⟩; have n2_ : Aside0 (Kd.R k50 50 w26 w.heap.size (fun k_ => k_ ≠ gb264) (.slice (some ad263) t260.length co19) t260) := ⟨(by rw [hw]; exact (by (with_reducible repeat (first | apply Kd.R_alloc | apply Kd.R_drewN | apply Kd.R_drew)); exact Kd.R_mono (Kd.R_far (p := ⟨gb264, 3, none⟩) (Kd.R_far (p := ⟨gb264, 2, none⟩) (Kd.R_far (p := ⟨gb264, 1, none⟩) (Kd.R_far (p := ⟨gb264, 0, none⟩) (Kd.R_mono HO_7.out (fun k_ hk => (⟨hk, hk.2⟩ : _ ∧ k_ ≠ gb264))) (fun _ hk => hk.2) (.string ((rd_T50 t260 x33_1).f0))) (fun _ hk => hk.2) (.int .i64 ((rd_T50 t260 x33_1).f1.f0))) (fun _ hk => hk.2) (.int .i64 ((rd_T50 t260 x33_1).f1.f1))) (fun _ hk => hk.2) (.bool ((rd_T50 t260 x33_1).f2))) (fun _ hk => hk.1.2)))⟩; have n3_ : Aside0 (Kd.R k50 50 w26 w.heap.size (fun k_ => k_ ≠ gb264) (.slice (some ad263) t260.length co19) t260) := ⟨(by rw [hw]; exact (by (with_reducible repeat (first | apply Kd.R_alloc | apply Kd.R_drewN | apply Kd.R_drew)); exact Kd.R_mono (Kd.R_far (p := ⟨gb264, 3, none⟩) (Kd.R_far (p := ⟨gb264, 2, none⟩) (Kd.R_far (p := ⟨gb264, 1, none⟩) (Kd.R_far (p := ⟨gb264, 0, none⟩) (Kd.R_mono HO_31.out (fun k_ hk => (⟨hk, hk.2⟩ : _ ∧ k_ ≠ gb264))) (fun _ hk => hk.2) (.string ((rd_T50 t260 x33_1).f0))) (fun _ hk => hk.2) (.int .i64 ((rd_T50 t260 x33_1).f1.f0))) (fun _ hk => hk.2) (.int .i64 ((rd_T50 t260 x33_1).f1.f1))) (fun _ hk => hk.2) (.bool ((rd_T50 t260 x33_1).f2))) (fun _ hk => hk.1.2)))⟩; have n4_ : Aside0 (w26.heap[gb264]? = some (.cells #[.string ((rd_T50 t260 x33_1).f0), .int .i64 ((rd_T50 t260 x33_1).f1.f0), .int .i64 ((rd_T50 t260 x33_1).f1.f1), .bool ((rd_T50 t260 x33_1).f2)] 50 (0, 0))) := ⟨(by rw [hw]; exact (by (with_reducible repeat (first | refine blk_drewN ?_ _ | refine blk_drew ?_ | refine blk_alloc ?_ _)); refine blk_put (cs := #[.string ((rd_T50 t260 x33_1).f0), .int .i64 ((rd_T50 t260 x33_1).f1.f0), .int .i64 ((rd_T50 t260 x33_1).f1.f1), .bool false]) ?_ 3 _ rfl; (with_reducible repeat (first | refine blk_drewN ?_ _ | refine blk_drew ?_ | refine blk_alloc ?_ _)); refine blk_put (cs := #[.string ((rd_T50 t260 x33_1).f0), .int .i64 ((rd_T50 t260 x33_1).f1.f0), .int .i64 0, .bool false]) ?_ 2 _ rfl; (with_reducible repeat (first | refine blk_drewN ?_ _ | refine blk_drew ?_ | refine blk_alloc ?_ _)); refine blk_put (cs := #[.string ((rd_T50 t260 x33_1).f0), .int .i64 0, .int .i64 0, .bool false]) ?_ 1 _ rfl; (with_reducible repeat (first | refine blk_drewN ?_ _ | refine blk_drew ?_ | refine blk_alloc ?_ _)); refine blk_put (cs := #[.string (⟨#[]⟩ : ByteArray), .int .i64 0, .int .i64 0, .bool false]) ?_ 0 _ rfl; (with_reducible repeat (first | refine blk_drewN ?_ _ | refine blk_drew ?_ | refine blk_alloc ?_ _)); exact BK264.out))⟩; have n5_ : Aside0 (Below w.heap.size w w26) := ⟨(by rw [hw]; exact (by repeat (first | (with_reducible first | exact HB.out | apply below_alloc | apply pw_below_drewN | apply below_drew1 | refine below_set ?_ GE264.out) | exact HB.out)))⟩; clear hw; clear HO_5; clear HO_6; clear HO_7; clear HO_31; clear BK264; clear HB; have HO_5 := n0_; have HO_6 := n1_; have HO_7 := n2_; have HO_31 := n3_; have BK264 := n4_; have HB := n5_; clear n0_ n1_ n2_ n3_ n4_ n5_)); go_upto_region 12 with (first | ((with_reducible refine gate_dst (N := 10) rfl ?_); refine box_event ?hg (N := 10) ?hd (cs := #[.string (⟨#[]⟩ : ByteArray), .int .i64 0, .int .i64 0, .bool false]) (t := 50) ?hr ?_; (case hd => rfl); (case hg => rfl); (case hr => first | (go_simp; done) | (go_simp; rfl)); intro gb264 hg w24 hbox hb; have n0_ := Aside0.mk (Kd.R_below (by (with_reducible repeat (first | apply Kd.R_alloc | apply Kd.R_drewN | apply Kd.R_drew)); exact HO_5.out) hb); have n1_ := Aside0.mk (Kd.R_below (by (with_reducible repeat (first | apply Kd.R_alloc | apply Kd.R_drewN | apply Kd.R_drew)); exact HO_6.out) hb); have n2_ := Aside0.mk (Kd.R_below (Kd.R_elderB (by (with_reducible repeat (first | apply Kd.R_alloc | apply Kd.R_drewN | apply Kd.R_drew)); exact HO_7.out) gb264 (Nat.le_of_eq hg.symm)) hb); have n3_ := Aside0.mk (Kd.R_below (Kd.R_elderB (by (with_reducible repeat (first | apply Kd.R_alloc | apply Kd.R_drewN | apply Kd.R_drew)); exact HO_31.out) gb264 (Nat.le_of_eq hg.symm)) hb); have n4_ := Aside0.mk (below_step (by repeat (first | (with_reducible first | exact HB.out | apply below_alloc | apply pw_below_drewN | apply below_drew1) | exact HB.out)) hb); have n5_ := Aside0.mk (hbox); have n6_ := Aside0.mk ((by rw [hg]; exact (below_size (by repeat (first | (with_reducible first | exact HB.out | apply below_alloc | apply pw_below_drewN | apply below_drew1) | exact HB.out))) : w.heap.size ≤ gb264)); have n7_ := Aside0.mk ((by rw [hg]; exact (below_size (by repeat (first | (with_reducible first | exact HB.out | apply below_alloc | apply pw_below_drewN | apply below_drew1) | exact HB.out))) : w.heap.size ≤ gb264)); clear HO_5; clear HO_6; clear HO_7; clear HO_31; clear HB; have HO_5 := n0_; have HO_6 := n1_; have HO_7 := n2_; have HO_31 := n3_; have HB := n4_; have BK264 := n5_; have GW264 := n6_; have GE264 := n7_; clear n0_ n1_ n2_ n3_ n4_ n5_ n6_ n7_; clear hb hbox hg; have hcz25_0 : w24.cell? ⟨gb264, 0, none⟩ = some (.string (⟨#[]⟩ : ByteArray)) := (blk_cell BK264.out 0).trans rfl; have hcz25_1 : w24.cell? ⟨gb264, 1, none⟩ = some (.int .i64 0) := (blk_cell BK264.out 1).trans rfl; have hcz25_2 : w24.cell? ⟨gb264, 2, none⟩ = some (.int .i64 0) := (blk_cell BK264.out 2).trans rfl; have hcz25_3 : w24.cell? ⟨gb264, 3, none⟩ = some (.bool false) := (blk_cell BK264.out 3).trans rfl; have hfz25_0 := blk_frozen BK264.out 0; have hfz25_1 := blk_frozen BK264.out 1; have hfz25_2 := blk_frozen BK264.out 2; have hfz25_3 := blk_frozen BK264.out 3) | ((with_reducible refine gate_store (t := 50) (p := 10) rfl ?_); (try (rw [drewN_self w24]; generalize hq_ : World.drewN w24 _ = w24; have n0_ := Aside0.mk (Kd.R_at hq_ HO_5.out); have n1_ := Aside0.mk (Kd.R_at hq_ HO_6.out); have n2_ := Aside0.mk (Kd.R_at hq_ HO_7.out); have n3_ := Aside0.mk (Kd.R_at hq_ HO_31.out); have n4_ := Aside0.mk (blk_at hq_ BK264.out); have n5_ := Aside0.mk (below_at hq_ HB.out); clear hq_ HO_5 HO_6 HO_7 HO_31 BK264 HB; have HO_5 := n0_; have HO_6 := n1_; have HO_7 := n2_; have HO_31 := n3_; have BK264 := n4_; have HB := n5_; clear n0_ n1_ n2_ n3_ n4_ n5_)); refine store_event (t := 50) (p := 10) (v := ?vo_w26) (w1 := ((((w24.setCell ⟨gb264, 0, none⟩ (.string ((rd_T50 t260 x33_1).f0))).setCell ⟨gb264, 1, none⟩ (.int .i64 ((rd_T50 t260 x33_1).f1.f0))).setCell ⟨gb264, 2, none⟩ (.int .i64 ((rd_T50 t260 x33_1).f1.f1))).setCell ⟨gb264, 3, none⟩ (.bool ((rd_T50 t260 x33_1).f2)))) ?hg ?ho ?hn ?hr ?_; (case ho => rfl); (case hg => rfl); (case hn => rfl); (case hr => first | (go_simp; done) | (go_simp; rfl)); intro w26 hw; have n0_ : Aside0 (Kd.R (Kd.int .u8) 5 w26 w.heap.size (fun _ => True) (.slice Ao15 t254.length co15) t254) := ⟨(by rw [hw]; exact (by (with_reducible repeat (first | apply Kd.R_alloc | apply Kd.R_drewN | apply Kd.R_drew)); exact Kd.R_mono (Kd.R_far (p := ⟨gb264, 3, none⟩) (Kd.R_far (p := ⟨gb264, 2, none⟩) (Kd.R_far (p := ⟨gb264, 1, none⟩) (Kd.R_far (p := ⟨gb264, 0, none⟩) (Kd.R_types HO_5.out BK264.out (by decide)) (fun _ hk => hk.2) (.string ((rd_T50 t260 x33_1).f0))) (fun _ hk => hk.2) (.int .i64 ((rd_T50 t260 x33_1).f1.f0))) (fun _ hk => hk.2) (.int .i64 ((rd_T50 t260 x33_1).f1.f1))) (fun _ hk => hk.2) (.bool ((rd_T50 t260 x33_1).f2))) (fun _ hk => trivial)))⟩; have n1_ : Aside0 (Kd.R k53 53 w26 w.heap.size (fun _ => True) (.slice Ao17 t257.length co17) t257) := ⟨(by rw [hw]; exact (by (with_reducible repeat (first | apply Kd.R_alloc | apply Kd.R_drewN | apply Kd.R_drew)); exact Kd.R_mono (Kd.R_far (p := ⟨gb264, 3, none⟩) (Kd.R_far (p := ⟨gb264, 2, none⟩) (Kd.R_far (p := ⟨gb264, 1, none⟩) (Kd.R_far (p := ⟨gb264, 0, none⟩) (Kd.R_types HO_6.out BK264.out (by decide)) (fun _ hk => hk.2) (.string ((rd_T50 t260 x33_1).f0))) (fun _ hk => hk.2) (.int .i64 ((rd_T50 t260 x33_1).f1.f0))) (fun _ hk => hk.2) (.int .i64 ((rd_T50 t260 x33_1).f1.f1))) (fun _ hk => hk.2) (.bool ((rd_T50 t260 x33_1).f2))) (fun _ hk => trivial)))⟩; have n2_ : Aside0 (Kd.R k50 50 w26 w.heap.size (fun k_ => k_ ≠ gb264) (.slice (some ad263) t260.length co19) t260) := ⟨(by rw [hw]; exact (by (with_reducible repeat (first | apply Kd.R_alloc | apply Kd.R_drewN | apply Kd.R_drew)); exact Kd.R_mono (Kd.R_far (p := ⟨gb264, 3, none⟩) (Kd.R_far (p := ⟨gb264, 2, none⟩) (Kd.R_far (p := ⟨gb264, 1, none⟩) (Kd.R_far (p := ⟨gb264, 0, none⟩) (Kd.R_mono HO_7.out (fun k_ hk => (⟨hk, hk.2⟩ : _ ∧ k_ ≠ gb264))) (fun _ hk => hk.2) (.string ((rd_T50 t260 x33_1).f0))) (fun _ hk => hk.2) (.int .i64 ((rd_T50 t260 x33_1).f1.f0))) (fun _ hk => hk.2) (.int .i64 ((rd_T50 t260 x33_1).f1.f1))) (fun _ hk => hk.2) (.bool ((rd_T50 t260 x33_1).f2))) (fun _ hk => hk.1.2)))⟩; have n3_ : Aside0 (Kd.R k50 50 w26 w.heap.size (fun k_ => k_ ≠ gb264) (.slice (some ad263) t260.length co19) t260) := ⟨(by rw [hw]; exact (by (with_reducible repeat (first | apply Kd.R_alloc | apply Kd.R_drewN | apply Kd.R_drew)); exact Kd.R_mono (Kd.R_far (p := ⟨gb264, 3, none⟩) (Kd.R_far (p := ⟨gb264, 2, none⟩) (Kd.R_far (p := ⟨gb264, 1, none⟩) (Kd.R_far (p := ⟨gb264, 0, none⟩) (Kd.R_mono HO_31.out (fun k_ hk => (⟨hk, hk.2⟩ : _ ∧ k_ ≠ gb264))) (fun _ hk => hk.2) (.string ((rd_T50 t260 x33_1).f0))) (fun _ hk => hk.2) (.int .i64 ((rd_T50 t260 x33_1).f1.f0))) (fun _ hk => hk.2) (.int .i64 ((rd_T50 t260 x33_1).f1.f1))) (fun _ hk => hk.2) (.bool ((rd_T50 t260 x33_1).f2))) (fun _ hk => hk.1.2)))⟩; have n4_ : Aside0 (w26.heap[gb264]? = some (.cells #[.string ((rd_T50 t260 x33_1).f0), .int .i64 ((rd_T50 t260 x33_1).f1.f0), .int .i64 ((rd_T50 t260 x33_1).f1.f1), .bool ((rd_T50 t260 x33_1).f2)] 50 (0, 0))) := ⟨(by rw [hw]; exact (by (with_reducible repeat (first | refine blk_drewN ?_ _ | refine blk_drew ?_ | refine blk_alloc ?_ _)); refine blk_put (cs := #[.string ((rd_T50 t260 x33_1).f0), .int .i64 ((rd_T50 t260 x33_1).f1.f0), .int .i64 ((rd_T50 t260 x33_1).f1.f1), .bool false]) ?_ 3 _ rfl; (with_reducible repeat (first | refine blk_drewN ?_ _ | refine blk_drew ?_ | refine blk_alloc ?_ _)); refine blk_put (cs := #[.string ((rd_T50 t260 x33_1).f0), .int .i64 ((rd_T50 t260 x33_1).f1.f0), .int .i64 0, .bool false]) ?_ 2 _ rfl; (with_reducible repeat (first | refine blk_drewN ?_ _ | refine blk_drew ?_ | refine blk_alloc ?_ _)); refine blk_put (cs := #[.string ((rd_T50 t260 x33_1).f0), .int .i64 0, .int .i64 0, .bool false]) ?_ 1 _ rfl; (with_reducible repeat (first | refine blk_drewN ?_ _ | refine blk_drew ?_ | refine blk_alloc ?_ _)); refine blk_put (cs := #[.string (⟨#[]⟩ : ByteArray), .int .i64 0, .int .i64 0, .bool false]) ?_ 0 _ rfl; (with_reducible repeat (first | refine blk_drewN ?_ _ | refine blk_drew ?_ | refine blk_alloc ?_ _)); exact BK264.out))⟩; have n5_ : Aside0 (Below w.heap.size w w26) := ⟨(by rw [hw]; exact (by repeat (first | (with_reducible first | exact HB.out | apply below_alloc | apply pw_below_drewN | apply below_drew1 | refine below_set ?_ GE264.out) | exact HB.out)))⟩; clear hw; clear HO_5; clear HO_6; clear HO_7; clear HO_31; clear BK264; clear HB; have HO_5 := n0_; have HO_6 := n1_; have HO_7 := n2_; have HO_31 := n3_; have BK264 := n4_; have HB := n5_; clear n0_ n1_ n2_ n3_ n4_ n5_)))
        (try simp only [Act.put, List.setIfInBounds_toArray, List.set_cons_zero, List.set_cons_succ])
        go_cut [70] (fun v70 wc => ∃ (kq : Nat) (x70_22 : Bool), v70 = .bool x70_22 ∧ Aside0 (redpenlaw16_TokenWhole.j1 kq t254 t257 t260 t260 (t260.length : Int) x33_1 x70_22 ((rd_T50 t260 x33_1).f0) ((rd_T50 t260 x33_1).f1.f0) ((rd_T50 t260 x33_1).f1.f1) ((rd_T50 t260 x33_1).f2) = some r) ∧ Aside0 (kq ≤ k1) ∧ Aside0 (Kd.R (Kd.int .u8) 5 wc w.heap.size (fun _ => True) (.slice Ao15 t254.length co15) t254) ∧ Aside0 (Kd.R k53 53 wc w.heap.size (fun _ => True) (.slice Ao17 t257.length co17) t257) ∧ Aside0 (Kd.R k50 50 wc w.heap.size (fun k_ => k_ ≠ gb264) (.slice (some ad263) t260.length co19) t260) ∧ Aside0 (Kd.R k50 50 wc w.heap.size (fun k_ => k_ ≠ gb264) (.slice (some ad263) t260.length co19) t260) ∧ Aside0 (wc.heap[gb264]? = some (.cells #[.string ((rd_T50 t260 x33_1).f0), .int .i64 ((rd_T50 t260 x33_1).f1.f0), .int .i64 ((rd_T50 t260 x33_1).f1.f1), .bool ((rd_T50 t260 x33_1).f2)] 50 (0, 0))) ∧ Aside0 (Below w.heap.size w wc))
        case first =>
         have H := HC23.out
         clear HC23
         by_cases c27 : ((rd_T50 t260 x33_1).f1.f0) < x8_1
         ·rw [if_pos c27] at H
          have c27b0 : decide (((rd_T50 t260 x33_1).f1.f0) < x8_1) = true := decide_eq_true c27
          clear c27
          (first | rw [c27b0] | (simp only [i64_w, i32_w]; rw [c27b0]) | skip)
          have H' := Aside0.mk H
          clear H
          have hcz28_0 : w26.cell? ⟨gb264, 0, none⟩ = some (.string ((rd_T50 t260 x33_1).f0)) := (blk_cell BK264.out 0).trans rfl
          have hcz28_1 : w26.cell? ⟨gb264, 1, none⟩ = some (.int .i64 ((rd_T50 t260 x33_1).f1.f0)) := (blk_cell BK264.out 1).trans rfl
          have hcz28_2 : w26.cell? ⟨gb264, 2, none⟩ = some (.int .i64 ((rd_T50 t260 x33_1).f1.f1)) := (blk_cell BK264.out 2).trans rfl
          have hcz28_3 : w26.cell? ⟨gb264, 3, none⟩ = some (.bool ((rd_T50 t260 x33_1).f2)) := (blk_cell BK264.out 3).trans rfl
          have hfz28_0 := blk_frozen BK264.out 0
          have hfz28_1 := blk_frozen BK264.out 1
          have hfz28_2 := blk_frozen BK264.out 2
          have hfz28_3 := blk_frozen BK264.out 3
          go_wp2
          repeat (go_quiet (fail); try go_wp2)
          go_meet
          case rel => exact ⟨_, (true), (by first | rfl | (simp; done) | (simp [*]; done)), (by first | exact H' | (rw [Nbq31.out]; exact H') | (rw [← Nbq31.out]; exact H')), ⟨by have := HK1.out; first | omega | exact Nat.le_refl _⟩, ⟨by (with_reducible repeat (first | apply Kd.R_alloc | apply Kd.R_drewN | apply Kd.R_drew)); exact HO_5.out⟩, ⟨by (with_reducible repeat (first | apply Kd.R_alloc | apply Kd.R_drewN | apply Kd.R_drew)); exact HO_6.out⟩, ⟨by (with_reducible repeat (first | apply Kd.R_alloc | apply Kd.R_drewN | apply Kd.R_drew)); exact HO_7.out⟩, ⟨by (with_reducible repeat (first | apply Kd.R_alloc | apply Kd.R_drewN | apply Kd.R_drew)); exact HO_31.out⟩, ⟨by (with_reducible repeat (first | refine blk_drewN ?_ _ | refine blk_drew ?_ | refine blk_alloc ?_ _)); exact BK264.out⟩, ⟨by repeat (first | (with_reducible first | exact HB.out | apply below_alloc | apply pw_below_drewN | apply below_drew1 | refine below_set ?_ GE264.out) | exact HB.out)⟩⟩
         ·rw [if_neg c27] at H
          have c27b0 : decide (((rd_T50 t260 x33_1).f1.f0) < x8_1) = false := decide_eq_false c27
          clear c27
          (first | rw [c27b0] | (simp only [i64_w, i32_w]; rw [c27b0]) | skip)
          by_cases c29 : ((rd_T50 t260 x33_1).f1.f1) < 1
          ·rw [if_pos c29] at H
           have c29b0 : decide (((rd_T50 t260 x33_1).f1.f1) < 1) = true := decide_eq_true c29
           clear c29
           have H' := Aside0.mk H
           clear H
           have hcz30_0 : w26.cell? ⟨gb264, 0, none⟩ = some (.string ((rd_T50 t260 x33_1).f0)) := (blk_cell BK264.out 0).trans rfl
           have hcz30_1 : w26.cell? ⟨gb264, 1, none⟩ = some (.int .i64 ((rd_T50 t260 x33_1).f1.f0)) := (blk_cell BK264.out 1).trans rfl
           have hcz30_2 : w26.cell? ⟨gb264, 2, none⟩ = some (.int .i64 ((rd_T50 t260 x33_1).f1.f1)) := (blk_cell BK264.out 2).trans rfl
           have hcz30_3 : w26.cell? ⟨gb264, 3, none⟩ = some (.bool ((rd_T50 t260 x33_1).f2)) := (blk_cell BK264.out 3).trans rfl
           have hfz30_0 := blk_frozen BK264.out 0
           have hfz30_1 := blk_frozen BK264.out 1
           have hfz30_2 := blk_frozen BK264.out 2
           have hfz30_3 := blk_frozen BK264.out 3
           go_wp2
           repeat (go_quiet (fail); try go_wp2)
           go_meet
           case rel => exact ⟨_, (true), (by first | rfl | (simp; done) | (simp [*]; done)), (by first | exact H' | (rw [Nbq31.out]; exact H') | (rw [← Nbq31.out]; exact H')), ⟨by have := HK1.out; first | omega | exact Nat.le_refl _⟩, ⟨by (with_reducible repeat (first | apply Kd.R_alloc | apply Kd.R_drewN | apply Kd.R_drew)); exact HO_5.out⟩, ⟨by (with_reducible repeat (first | apply Kd.R_alloc | apply Kd.R_drewN | apply Kd.R_drew)); exact HO_6.out⟩, ⟨by (with_reducible repeat (first | apply Kd.R_alloc | apply Kd.R_drewN | apply Kd.R_drew)); exact HO_7.out⟩, ⟨by (with_reducible repeat (first | apply Kd.R_alloc | apply Kd.R_drewN | apply Kd.R_drew)); exact HO_31.out⟩, ⟨by (with_reducible repeat (first | refine blk_drewN ?_ _ | refine blk_drew ?_ | refine blk_alloc ?_ _)); exact BK264.out⟩, ⟨by repeat (first | (with_reducible first | exact HB.out | apply below_alloc | apply pw_below_drewN | apply below_drew1 | refine below_set ?_ GE264.out) | exact HB.out)⟩⟩
          ·rw [if_neg c29] at H
           have c29b0 : decide (((rd_T50 t260 x33_1).f1.f1) < 1) = false := decide_eq_false c29
           clear c29
           obtain ⟨bq31, hbq31⟩ : ∃ b_ : Bool, b_ = ((rd_T50 t260 x33_1).f2) := ⟨_, rfl⟩
           replace H : (if (bq31 = true) then (if 0 ≤ ((rd_T50 t260 x33_1).f1.f0) then (if ((rd_T50 t260 x33_1).f1.f0) ≤ (wrap64 (((rd_T50 t260 x33_1).f1.f0) + ((rd_T50 t260 x33_1).f1.f1))) then (if (wrap64 (((rd_T50 t260 x33_1).f1.f0) + ((rd_T50 t260 x33_1).f1.f1))) ≤ (t254.length : Int) then (redpenlaw16_TokenWhole.j1 k1 t254 t257 t260 t260 (t260.length : Int) x33_1 ((strOfNums ((t254.take ((wrap64 (((rd_T50 t260 x33_1).f1.f0) + ((rd_T50 t260 x33_1).f1.f1))) : Int).toNat).drop (((rd_T50 t260 x33_1).f1.f0) : Int).toNat)).toList != ((rd_T50 t260 x33_1).f0).toList) ((rd_T50 t260 x33_1).f0) ((rd_T50 t260 x33_1).f1.f0) ((rd_T50 t260 x33_1).f1.f1) bq31) else (none)) else (none)) else (none)) else (redpenlaw16_TokenWhole.j1 k1 t254 t257 t260 t260 (t260.length : Int) x33_1 true ((rd_T50 t260 x33_1).f0) ((rd_T50 t260 x33_1).f1.f0) ((rd_T50 t260 x33_1).f1.f1) bq31)) = some r := by rw [← hbq31] at H; exact H
           have Nbq31 := Aside0.mk hbq31
           clear hbq31
           by_cases c32 : (bq31 = true)
           ·subst c32
            have H1 : (if 0 ≤ ((rd_T50 t260 x33_1).f1.f0) then (if ((rd_T50 t260 x33_1).f1.f0) ≤ (wrap64 (((rd_T50 t260 x33_1).f1.f0) + ((rd_T50 t260 x33_1).f1.f1))) then (if (wrap64 (((rd_T50 t260 x33_1).f1.f0) + ((rd_T50 t260 x33_1).f1.f1))) ≤ (t254.length : Int) then (redpenlaw16_TokenWhole.j1 k1 t254 t257 t260 t260 (t260.length : Int) x33_1 ((strOfNums ((t254.take ((wrap64 (((rd_T50 t260 x33_1).f1.f0) + ((rd_T50 t260 x33_1).f1.f1))) : Int).toNat).drop (((rd_T50 t260 x33_1).f1.f0) : Int).toNat)).toList != ((rd_T50 t260 x33_1).f0).toList) ((rd_T50 t260 x33_1).f0) ((rd_T50 t260 x33_1).f1.f0) ((rd_T50 t260 x33_1).f1.f1) true) else (none)) else (none)) else (none)) = some r := by rw [if_pos rfl] at H; exact H
            clear H
            have H := H1
            clear H1
            by_cases c33 : 0 ≤ ((rd_T50 t260 x33_1).f1.f0)
            ·rw [if_pos c33] at H
             have c33b0 := eq_true c33
             have c33b1 : decide (0 ≤ ((rd_T50 t260 x33_1).f1.f0)) = true := decide_eq_true c33
             clear c33
             by_cases c34 : ((rd_T50 t260 x33_1).f1.f0) ≤ (wrap64 (((rd_T50 t260 x33_1).f1.f0) + ((rd_T50 t260 x33_1).f1.f1)))
             ·rw [if_pos c34] at H
              have c34b0 := eq_true c34
              have c34b1 : decide (((rd_T50 t260 x33_1).f1.f0) ≤ (wrap64 (((rd_T50 t260 x33_1).f1.f0) + ((rd_T50 t260 x33_1).f1.f1)))) = true := decide_eq_true c34
              by_cases c35 : (wrap64 (((rd_T50 t260 x33_1).f1.f0) + ((rd_T50 t260 x33_1).f1.f1))) ≤ (t254.length : Int)
              ·rw [if_pos c35] at H
               have c35b0 := eq_true c35
               have c35b1 : decide ((wrap64 (((rd_T50 t260 x33_1).f1.f0) + ((rd_T50 t260 x33_1).f1.f1))) ≤ (t254.length : Int)) = true := decide_eq_true c35
               obtain ⟨y265, hy265⟩ : ∃ y_ : List Int, y_ = ((t254.take ((wrap64 (((rd_T50 t260 x33_1).f1.f0) + ((rd_T50 t260 x33_1).f1.f1))) : Int).toNat).drop (((rd_T50 t260 x33_1).f1.f0) : Int).toNat) := ⟨_, rfl⟩
               replace H : (redpenlaw16_TokenWhole.j1 k1 t254 t257 t260 t260 (t260.length : Int) x33_1 ((strOfNums y265).toList != ((rd_T50 t260 x33_1).f0).toList) ((rd_T50 t260 x33_1).f0) ((rd_T50 t260 x33_1).f1.f0) ((rd_T50 t260 x33_1).f1.f1) true) = some r := by first | (rw [hy265]; with_reducible exact H) | (have H2_ := (Option.bind_some _ _).symm.trans H; rw [hy265]; with_reducible exact H2_) | (have H2_ := (Option.bind_some _ _).symm.trans H; with_reducible exact H2_) | with_reducible exact H | (rw [hy265]; exact H) | exact H
               have Ny265 := Aside0.mk hy265
               clear hy265
               have H' := Aside0.mk H
               clear H
               have hcz36_0 : w26.cell? ⟨gb264, 0, none⟩ = some (.string ((rd_T50 t260 x33_1).f0)) := (blk_cell BK264.out 0).trans rfl
               have hcz36_1 : w26.cell? ⟨gb264, 1, none⟩ = some (.int .i64 ((rd_T50 t260 x33_1).f1.f0)) := (blk_cell BK264.out 1).trans rfl
               have hcz36_2 : w26.cell? ⟨gb264, 2, none⟩ = some (.int .i64 ((rd_T50 t260 x33_1).f1.f1)) := (blk_cell BK264.out 2).trans rfl
               have hcz36_3 : w26.cell? ⟨gb264, 3, none⟩ = some (.bool true) := (by first | exact (blk_cell BK264.out 3).trans rfl | exact (blk_cell BK264.out 3).trans (by rw [Nbq31.out]; rfl) | exact (blk_cell BK264.out 3).trans (by rw [← Nbq31.out]; rfl))
               have hfz36_0 := blk_frozen BK264.out 0
               have hfz36_1 := blk_frozen BK264.out 1
               have hfz36_2 := blk_frozen BK264.out 2
               have hfz36_3 := blk_frozen BK264.out 3
               have q37 : ((wrap64 (((rd_T50 t260 x33_1).f1.f0) + ((rd_T50 t260 x33_1).f1.f1))) : Int) ≤ ((t254.length : Int) : Int) := of_decide_eq_true (by first | (with_reducible assumption) | assumption)
               obtain ⟨i037, hi037, _, hsz37, _⟩ := info_parts info5
               have hroom37 : t254.length ≤ co15 := (Kd.R_reads' HO_5.out).2.1
               have hC37 : Kd.C (Kd.int .u8) _ Ao15 t254.length t254 := (Kd.R_reads' HO_5.out).2.2
               have ql37 : (((rd_T50 t260 x33_1).f1.f0) : Int) ≤ ((wrap64 (((rd_T50 t260 x33_1).f1.f0) + ((rd_T50 t260 x33_1).f1.f1))) : Int) := of_decide_eq_true (by first | (with_reducible assumption) | assumption)
               have q037 : (0 : Int) ≤ (((rd_T50 t260 x33_1).f1.f0) : Int) := of_decide_eq_true (by first | (with_reducible assumption) | assumption)
               have hcut37 := cut_mid (P := Try.prog) 32 5 .i64 .i64 Try.underlying32 hi037 1 hsz37 Ao15 t254.length co15 ((rd_T50 t260 x33_1).f1.f0) (wrap64 (((rd_T50 t260 x33_1).f1.f0) + ((rd_T50 t260 x33_1).f1.f1))) q037 ql37 q37 hroom37
               have hr37 := Kd.C_mid (lo := (((rd_T50 t260 x33_1).f1.f0) : Int).toNat) (hi := ((wrap64 (((rd_T50 t260 x33_1).f1.f0) + ((rd_T50 t260 x33_1).f1.f1))) : Int).toNat) (c := co15) hC37 (by omega) (by omega) hroom37
               obtain ⟨A37, hA37⟩ : ∃ A1z_, A1z_ = (if co15 = (((rd_T50 t260 x33_1).f1.f0) : Int).toNat then Ao15 else (Ao15 : Option Addr).map (·.add ((((rd_T50 t260 x33_1).f1.f0) : Int).toNat * 1))) := ⟨_, rfl⟩
               obtain ⟨c37, hc37⟩ : ∃ c1z_, c1z_ = co15 - (((rd_T50 t260 x33_1).f1.f0) : Int).toNat := ⟨_, rfl⟩
               have hy37 : y265.length = ((wrap64 (((rd_T50 t260 x33_1).f1.f0) + ((rd_T50 t260 x33_1).f1.f1))) : Int).toNat - (((rd_T50 t260 x33_1).f1.f0) : Int).toNat := (by rw [Ny265.out, List.length_drop, List.length_take] <;> omega)
               rw [show ((t254).take ((wrap64 (((rd_T50 t260 x33_1).f1.f0) + ((rd_T50 t260 x33_1).f1.f1))) : Int).toNat).drop (((rd_T50 t260 x33_1).f1.f0) : Int).toNat = y265 from Ny265.out.symm] at hr37
               replace hr37 : Kd.C (Kd.int .u8) _ A37 y265.length y265 := (by rw [hA37]; exact hr37)
               rw [← hy37, ← hA37, ← hc37] at hcut37
               have HR268 := Aside0.mk hr37
               have HC268 := Aside0.mk (show y265.length ≤ c37 from by rw [hy37, hc37]; exact Nat.sub_le_sub_right (Nat.le_trans (by omega) hroom37) _)
               clear hr37 hC37 hroom37 hi037 hsz37 hc37
               have KY37 := Aside0.mk hy37
               have KA37 := Aside0.mk hA37
               clear hy37 hA37
               have KL37 := Aside0.mk (show ((wrap64 (((rd_T50 t260 x33_1).f1.f0) + ((rd_T50 t260 x33_1).f1.f1))) : Int).toNat ≤ t254.length from by omega)
               have KM37 := Aside0.mk (show (((rd_T50 t260 x33_1).f1.f0) : Int).toNat ≤ ((wrap64 (((rd_T50 t260 x33_1).f1.f0) + ((rd_T50 t260 x33_1).f1.f1))) : Int).toNat from by omega)
               replace q37 := eq_true q37
               have hcv38 := Kd.C_string (P := Try.prog) (A := A37) (c := c37) Try.underlying32 Try.underlying5 Try.underlying9 (by repeat (first | (with_reducible exact HR268.out) | (with_reducible refine Kd.C_alloc ?_ _) | (with_reducible refine Kd.C_drewN ?_ _) | (with_reducible refine Kd.C_drew ?_) | exact HR268.out))
               (try simp only [List.length_drop] at hcv38)
               (try (have hcv38n := fun (n_ : Nat) => Kd.C_string (P := Try.prog) (A := A37) (c := c37) Try.underlying32 Try.underlying5 Try.underlying9 (Kd.C_drewN HR268.out n_)))
               go_wp2
               repeat (go_quiet (fail); try go_wp2)
               go_meet
               case rel => exact ⟨_, (((strOfNums y265).toList != ((rd_T50 t260 x33_1).f0).toList)), (by first | rfl | (simp; done) | (simp [*]; done)), (by first | exact H' | (rw [Nbq31.out]; exact H') | (rw [← Nbq31.out]; exact H')), ⟨by have := HK1.out; first | omega | exact Nat.le_refl _⟩, ⟨by (with_reducible repeat (first | apply Kd.R_alloc | apply Kd.R_drewN | apply Kd.R_drew)); exact HO_5.out⟩, ⟨by (with_reducible repeat (first | apply Kd.R_alloc | apply Kd.R_drewN | apply Kd.R_drew)); exact HO_6.out⟩, ⟨by (with_reducible repeat (first | apply Kd.R_alloc | apply Kd.R_drewN | apply Kd.R_drew)); exact HO_7.out⟩, ⟨by (with_reducible repeat (first | apply Kd.R_alloc | apply Kd.R_drewN | apply Kd.R_drew)); exact HO_31.out⟩, ⟨by (with_reducible repeat (first | refine blk_drewN ?_ _ | refine blk_drew ?_ | refine blk_alloc ?_ _)); exact BK264.out⟩, ⟨by repeat (first | (with_reducible first | exact HB.out | apply below_alloc | apply pw_below_drewN | apply below_drew1 | refine below_set ?_ GE264.out) | exact HB.out)⟩⟩
              ·rw [if_neg c35] at H
               exact absurd H (by simp)
             ·rw [if_neg c34] at H
              exact absurd H (by simp)
            ·rw [if_neg c33] at H
             exact absurd H (by simp)
           ·replace c32 := Bool.eq_false_iff.mpr c32
            subst c32
            have H1 : (redpenlaw16_TokenWhole.j1 k1 t254 t257 t260 t260 (t260.length : Int) x33_1 true ((rd_T50 t260 x33_1).f0) ((rd_T50 t260 x33_1).f1.f0) ((rd_T50 t260 x33_1).f1.f1) false) = some r := by rw [if_neg (show ¬ (false = true) by decide)] at H; exact H
            clear H
            have H := H1
            clear H1
            have H' := Aside0.mk H
            clear H
            have hcz39_0 : w26.cell? ⟨gb264, 0, none⟩ = some (.string ((rd_T50 t260 x33_1).f0)) := (blk_cell BK264.out 0).trans rfl
            have hcz39_1 : w26.cell? ⟨gb264, 1, none⟩ = some (.int .i64 ((rd_T50 t260 x33_1).f1.f0)) := (blk_cell BK264.out 1).trans rfl
            have hcz39_2 : w26.cell? ⟨gb264, 2, none⟩ = some (.int .i64 ((rd_T50 t260 x33_1).f1.f1)) := (blk_cell BK264.out 2).trans rfl
            have hcz39_3 : w26.cell? ⟨gb264, 3, none⟩ = some (.bool false) := (by first | exact (blk_cell BK264.out 3).trans rfl | exact (blk_cell BK264.out 3).trans (by rw [Nbq31.out]; rfl) | exact (blk_cell BK264.out 3).trans (by rw [← Nbq31.out]; rfl))
            have hfz39_0 := blk_frozen BK264.out 0
            have hfz39_1 := blk_frozen BK264.out 1
            have hfz39_2 := blk_frozen BK264.out 2
            have hfz39_3 := blk_frozen BK264.out 3
            go_wp2
            repeat (go_quiet (fail); try go_wp2)
            go_meet
            case rel => exact ⟨_, (true), (by first | rfl | (simp; done) | (simp [*]; done)), (by first | exact H' | (rw [Nbq31.out]; exact H') | (rw [← Nbq31.out]; exact H')), ⟨by have := HK1.out; first | omega | exact Nat.le_refl _⟩, ⟨by (with_reducible repeat (first | apply Kd.R_alloc | apply Kd.R_drewN | apply Kd.R_drew)); exact HO_5.out⟩, ⟨by (with_reducible repeat (first | apply Kd.R_alloc | apply Kd.R_drewN | apply Kd.R_drew)); exact HO_6.out⟩, ⟨by (with_reducible repeat (first | apply Kd.R_alloc | apply Kd.R_drewN | apply Kd.R_drew)); exact HO_7.out⟩, ⟨by (with_reducible repeat (first | apply Kd.R_alloc | apply Kd.R_drewN | apply Kd.R_drew)); exact HO_31.out⟩, ⟨by (with_reducible repeat (first | refine blk_drewN ?_ _ | refine blk_drew ?_ | refine blk_alloc ?_ _)); exact BK264.out⟩, ⟨by repeat (first | (with_reducible first | exact HB.out | apply below_alloc | apply pw_below_drewN | apply below_drew1 | refine below_set ?_ GE264.out) | exact HB.out)⟩⟩
        case rest =>
         clear HC23
         try clear c1
         try clear c2
         try clear p2
         try clear q2
         try clear hx2
         try clear c3
         try clear q3
         try clear hcv3
         try clear c4
         try clear c5
         try clear c5b0
         try clear c5b1
         try clear p6
         try clear c7
         try clear c20
         try clear c20b0
         try clear c21
         try clear c21b0
         try clear c22
         try clear c22b0
         try clear p26
         try clear q26
         try clear hx26
         try clear c27
         try clear c27b0
         try clear c29
         try clear c29b0
         try clear q31
         try clear c32
         try clear c33
         try clear c33b0
         try clear c33b1
         try clear c34
         try clear c34b0
         try clear c34b1
         try clear c35
         try clear c35b0
         try clear c35b1
         try clear c37
         try clear q37
         try clear hcv38
         try clear hcz25_0
         try clear hcz25_1
         try clear hcz25_2
         try clear hcz25_3
         try clear hcz28_0
         try clear hcz28_1
         try clear hcz28_2
         try clear hcz28_3
         try clear hcz30_0
         try clear hcz30_1
         try clear hcz30_2
         try clear hcz30_3
         try clear hcz36_0
         try clear hcz36_1
         try clear hcz36_2
         try clear hcz36_3
         try clear hcz39_0
         try clear hcz39_1
         try clear hcz39_2
         try clear hcz39_3
         try clear hfz25_0
         try clear hfz25_1
         try clear hfz25_2
         try clear hfz25_3
         try clear hfz28_0
         try clear hfz28_1
         try clear hfz28_2
         try clear hfz28_3
         try clear hfz30_0
         try clear hfz30_1
         try clear hfz30_2
         try clear hfz30_3
         try clear hfz36_0
         try clear hfz36_1
         try clear hfz36_2
         try clear hfz36_3
         try clear hfz39_0
         try clear hfz39_1
         try clear hfz39_2
         try clear hfz39_3
         try clear hx263_0
         try clear hx263_1
         try clear hx263_2
         try clear hx263_3
         try clear p2
         try clear p263
         try clear q037
         try clear q263
         try clear q37
         obtain ⟨kq, x70_22, rfl, HA, HJ22, HO_5, HO_6, HO_7, HO_31, BK264, HB⟩ := hcut
         cases kq with
         | zero => exact absurd HA.out (by simp [redpenlaw16_TokenWhole.j1])
         | succ kj22 =>
          have H := HA.out
          clear HA
          simp only [redpenlaw16_TokenWhole.j1] at H
          by_cases c40 : x70_22 = true
          ·subst c40
           have H1 : (some false) = some r := by rw [if_pos rfl] at H; exact H
           clear H
           have H := H1
           clear H1
           have hf_ := Option.some.inj H
           rw [hr_] at hf_
           cases hf_
          ·replace c40 := Bool.eq_false_iff.mpr c40
           subst c40
           have H1 : ((utf_Runes.f kj22 ((rd_T50 t260 x33_1).f0)).bind fun t269 => (redpenlaw16_TokenWhole.l1 kj22 t254 t257 t260 (wrap64 (((rd_T50 t260 x33_1).f1.f0) + ((rd_T50 t260 x33_1).f1.f1))) t260 (t260.length : Int) x33_1 t269 (t269.length : Int) 0)) = some r := by rw [if_neg (show ¬ (false = true) by decide)] at H; exact H
           clear H
           have H := H1
           clear H1
           replace H := Option.bind_eq_some_iff.mp H
           obtain ⟨t269, A410, H⟩ := H
           replace H : (redpenlaw16_TokenWhole.l1 kj22 t254 t257 t260 (wrap64 (((rd_T50 t260 x33_1).f1.f0) + ((rd_T50 t260 x33_1).f1.f1))) t260 (t260.length : Int) x33_1 t269 (t269.length : Int) 0) = some r := H
           have A41 := Aside0.mk A410
           clear A410
           have H' := Aside0.mk H
           clear H
           have hcz42_0 : wc.cell? ⟨gb264, 0, none⟩ = some (.string ((rd_T50 t260 x33_1).f0)) := (blk_cell BK264.out 0).trans rfl
           have hcz42_1 : wc.cell? ⟨gb264, 1, none⟩ = some (.int .i64 ((rd_T50 t260 x33_1).f1.f0)) := (blk_cell BK264.out 1).trans rfl
           have hcz42_2 : wc.cell? ⟨gb264, 2, none⟩ = some (.int .i64 ((rd_T50 t260 x33_1).f1.f1)) := (blk_cell BK264.out 2).trans rfl
           have hcz42_3 : wc.cell? ⟨gb264, 3, none⟩ = some (.bool ((rd_T50 t260 x33_1).f2)) := (blk_cell BK264.out 3).trans rfl
           have hfz42_0 := blk_frozen BK264.out 0
           have hfz42_1 := blk_frozen BK264.out 1
           have hfz42_2 := blk_frozen BK264.out 2
           have hfz42_3 := blk_frozen BK264.out 3
           go_wp2_with (first | (go_at_call 33; (with_reducible refine (utf_Runes.calls kj22 ((rd_T50 t260 x33_1).f0) t269 _ A41.out).mono ?_); rintro e w43 ⟨v270, rfl, ho0, hb⟩; have n0_ := Aside0.mk (Kd.R_below (by (with_reducible repeat (first | apply Kd.R_alloc | apply Kd.R_drewN | apply Kd.R_drew)); exact HO_5.out) hb); have n1_ := Aside0.mk (Kd.R_below (by (with_reducible repeat (first | apply Kd.R_alloc | apply Kd.R_drewN | apply Kd.R_drew)); exact HO_6.out) hb); have n2_ := Aside0.mk (Kd.R_below (by (with_reducible repeat (first | apply Kd.R_alloc | apply Kd.R_drewN | apply Kd.R_drew)); exact HO_7.out) hb); have n3_ := Aside0.mk (Kd.R_below (by (with_reducible repeat (first | apply Kd.R_alloc | apply Kd.R_drewN | apply Kd.R_drew)); exact HO_31.out) hb); have n4_ := Aside0.mk (Kd.R_lower ho0 (below_size (by repeat (first | (with_reducible first | exact HB.out | apply below_alloc | apply pw_below_drewN | apply below_drew1 | refine below_set ?_ GE264.out) | exact HB.out)))); have n5_ := Aside0.mk (blk_below (g := gb264) (o := .cells #[.string ((rd_T50 t260 x33_1).f0), .int .i64 ((rd_T50 t260 x33_1).f1.f0), .int .i64 ((rd_T50 t260 x33_1).f1.f1), .bool ((rd_T50 t260 x33_1).f2)] 50 (0, 0)) (by (with_reducible repeat (first | refine blk_drewN ?_ _ | refine blk_drew ?_ | refine blk_alloc ?_ _)); exact BK264.out) hb); have n6_ := Aside0.mk (below_step (by repeat (first | (with_reducible first | exact HB.out | apply below_alloc | apply pw_below_drewN | apply below_drew1 | refine below_set ?_ GE264.out) | exact HB.out)) hb); clear HO_5; clear HO_6; clear HO_7; clear HO_31; clear BK264; clear HB; have HO_5 := n0_; have HO_6 := n1_; have HO_7 := n2_; have HO_31 := n3_; have HO271 := n4_; have BK264 := n5_; have HB := n6_; clear n0_ n1_ n2_ n3_ n4_ n5_ n6_; (try clear hb); (try clear hb2); (try clear hk); (try clear hi); (try clear ho0); obtain ⟨Ao44, co44, eo44⟩ := Kd.R_slice HO271.out; subst eo44))
           repeat (go_quiet (first | (go_at_call 33; (with_reducible refine (utf_Runes.calls kj22 ((rd_T50 t260 x33_1).f0) t269 _ A41.out).mono ?_); rintro e w43 ⟨v270, rfl, ho0, hb⟩; have n0_ := Aside0.mk (Kd.R_below (by (with_reducible repeat (first | apply Kd.R_alloc | apply Kd.R_drewN | apply Kd.R_drew)); exact HO_5.out) hb); have n1_ := Aside0.mk (Kd.R_below (by (with_reducible repeat (first | apply Kd.R_alloc | apply Kd.R_drewN | apply Kd.R_drew)); exact HO_6.out) hb); have n2_ := Aside0.mk (Kd.R_below (by (with_reducible repeat (first | apply Kd.R_alloc | apply Kd.R_drewN | apply Kd.R_drew)); exact HO_7.out) hb); have n3_ := Aside0.mk (Kd.R_below (by (with_reducible repeat (first | apply Kd.R_alloc | apply Kd.R_drewN | apply Kd.R_drew)); exact HO_31.out) hb); have n4_ := Aside0.mk (Kd.R_lower ho0 (below_size (by repeat (first | (with_reducible first | exact HB.out | apply below_alloc | apply pw_below_drewN | apply below_drew1 | refine below_set ?_ GE264.out) | exact HB.out)))); have n5_ := Aside0.mk (blk_below (g := gb264) (o := .cells #[.string ((rd_T50 t260 x33_1).f0), .int .i64 ((rd_T50 t260 x33_1).f1.f0), .int .i64 ((rd_T50 t260 x33_1).f1.f1), .bool ((rd_T50 t260 x33_1).f2)] 50 (0, 0)) (by (with_reducible repeat (first | refine blk_drewN ?_ _ | refine blk_drew ?_ | refine blk_alloc ?_ _)); exact BK264.out) hb); have n6_ := Aside0.mk (below_step (by repeat (first | (with_reducible first | exact HB.out | apply below_alloc | apply pw_below_drewN | apply below_drew1 | refine below_set ?_ GE264.out) | exact HB.out)) hb); clear HO_5; clear HO_6; clear HO_7; clear HO_31; clear BK264; clear HB; have HO_5 := n0_; have HO_6 := n1_; have HO_7 := n2_; have HO_31 := n3_; have HO271 := n4_; have BK264 := n5_; have HB := n6_; clear n0_ n1_ n2_ n3_ n4_ n5_ n6_; (try clear hb); (try clear hb2); (try clear hk); (try clear hi); (try clear ho0); obtain ⟨Ao44, co44, eo44⟩ := Kd.R_slice HO271.out; subst eo44)); try go_wp2_with (first | (go_at_call 33; (with_reducible refine (utf_Runes.calls kj22 ((rd_T50 t260 x33_1).f0) t269 _ A41.out).mono ?_); rintro e w43 ⟨v270, rfl, ho0, hb⟩; have n0_ := Aside0.mk (Kd.R_below (by (with_reducible repeat (first | apply Kd.R_alloc | apply Kd.R_drewN | apply Kd.R_drew)); exact HO_5.out) hb); have n1_ := Aside0.mk (Kd.R_below (by (with_reducible repeat (first | apply Kd.R_alloc | apply Kd.R_drewN | apply Kd.R_drew)); exact HO_6.out) hb); have n2_ := Aside0.mk (Kd.R_below (by (with_reducible repeat (first | apply Kd.R_alloc | apply Kd.R_drewN | apply Kd.R_drew)); exact HO_7.out) hb); have n3_ := Aside0.mk (Kd.R_below (by (with_reducible repeat (first | apply Kd.R_alloc | apply Kd.R_drewN | apply Kd.R_drew)); exact HO_31.out) hb); have n4_ := Aside0.mk (Kd.R_lower ho0 (below_size (by repeat (first | (with_reducible first | exact HB.out | apply below_alloc | apply pw_below_drewN | apply below_drew1 | refine below_set ?_ GE264.out) | exact HB.out)))); have n5_ := Aside0.mk (blk_below (g := gb264) (o := .cells #[.string ((rd_T50 t260 x33_1).f0), .int .i64 ((rd_T50 t260 x33_1).f1.f0), .int .i64 ((rd_T50 t260 x33_1).f1.f1), .bool ((rd_T50 t260 x33_1).f2)] 50 (0, 0)) (by (with_reducible repeat (first | refine blk_drewN ?_ _ | refine blk_drew ?_ | refine blk_alloc ?_ _)); exact BK264.out) hb); have n6_ := Aside0.mk (below_step (by repeat (first | (with_reducible first | exact HB.out | apply below_alloc | apply pw_below_drewN | apply below_drew1 | refine below_set ?_ GE264.out) | exact HB.out)) hb); clear HO_5; clear HO_6; clear HO_7; clear HO_31; clear BK264; clear HB; have HO_5 := n0_; have HO_6 := n1_; have HO_7 := n2_; have HO_31 := n3_; have HO271 := n4_; have BK264 := n5_; have HB := n6_; clear n0_ n1_ n2_ n3_ n4_ n5_ n6_; (try clear hb); (try clear hb2); (try clear hk); (try clear hi); (try clear ho0); obtain ⟨Ao44, co44, eo44⟩ := Kd.R_slice HO271.out; subst eo44)))
           go_loopg [82] kj22 (fun kq v82 w' => ∃ (x82_3 : Int), v82 = .int .i64 x82_3 ∧ Aside0 (redpenlaw16_TokenWhole.l1 kq t254 t257 t260 (wrap64 (((rd_T50 t260 x33_1).f1.f0) + ((rd_T50 t260 x33_1).f1.f1))) t260 (t260.length : Int) x33_1 t269 (t269.length : Int) x82_3 = some r) ∧ Aside0 (kq ≤ kj22) ∧ Aside0 (Kd.R (Kd.int .u8) 5 w' w.heap.size (fun _ => True) (.slice Ao15 t254.length co15) t254) ∧ Aside0 (Kd.R k53 53 w' w.heap.size (fun _ => True) (.slice Ao17 t257.length co17) t257) ∧ Aside0 (Kd.R k50 50 w' w.heap.size (fun k_ => k_ ≠ gb264) (.slice (some ad263) t260.length co19) t260) ∧ Aside0 (Kd.R k50 50 w' w.heap.size (fun k_ => k_ ≠ gb264) (.slice (some ad263) t260.length co19) t260) ∧ Aside0 (Kd.R (Kd.int .i32) 21 w' w.heap.size (fun _ => True) (.slice Ao44 t269.length co44) t269) ∧ Aside0 (w'.heap[gb264]? = some (.cells #[.string ((rd_T50 t260 x33_1).f0), .int .i64 ((rd_T50 t260 x33_1).f1.f0), .int .i64 ((rd_T50 t260 x33_1).f1.f1), .bool ((rd_T50 t260 x33_1).f2)] 50 (0, 0))) ∧ Aside0 (Below w.heap.size w w'))
           case atStart => exact ⟨(0), (by first | rfl | (simp; done) | (simp [*]; done)), H', ⟨Nat.le_refl _⟩, ⟨by (with_reducible repeat (first | apply Kd.R_alloc | apply Kd.R_drewN | apply Kd.R_drew)); exact HO_5.out⟩, ⟨by (with_reducible repeat (first | apply Kd.R_alloc | apply Kd.R_drewN | apply Kd.R_drew)); exact HO_6.out⟩, ⟨by (with_reducible repeat (first | apply Kd.R_alloc | apply Kd.R_drewN | apply Kd.R_drew)); exact HO_7.out⟩, ⟨by (with_reducible repeat (first | apply Kd.R_alloc | apply Kd.R_drewN | apply Kd.R_drew)); exact HO_31.out⟩, ⟨by (with_reducible repeat (first | apply Kd.R_alloc | apply Kd.R_drewN | apply Kd.R_drew)); exact HO271.out⟩, ⟨by (with_reducible repeat (first | refine blk_drewN ?_ _ | refine blk_drew ?_ | refine blk_alloc ?_ _)); exact BK264.out⟩, ⟨by repeat (first | (with_reducible first | exact HB.out | apply below_alloc | apply pw_below_drewN | apply below_drew1 | refine below_set ?_ GE264.out) | exact HB.out)⟩⟩
           case round =>
            clear H'
            try clear c1
            try clear c2
            try clear p2
            try clear q2
            try clear hx2
            try clear c3
            try clear q3
            try clear hcv3
            try clear c4
            try clear c5
            try clear c5b0
            try clear c5b1
            try clear p6
            try clear c7
            try clear c20
            try clear c20b0
            try clear c21
            try clear c21b0
            try clear c22
            try clear c22b0
            try clear p26
            try clear q26
            try clear hx26
            try clear c27
            try clear c27b0
            try clear c29
            try clear c29b0
            try clear q31
            try clear c32
            try clear c33
            try clear c33b0
            try clear c33b1
            try clear c34
            try clear c34b0
            try clear c34b1
            try clear c35
            try clear c35b0
            try clear c35b1
            try clear c37
            try clear q37
            try clear hcv38
            try clear c40
            try clear hcz25_0
            try clear hcz25_1
            try clear hcz25_2
            try clear hcz25_3
            try clear hcz28_0
            try clear hcz28_1
            try clear hcz28_2
            try clear hcz28_3
            try clear hcz30_0
            try clear hcz30_1
            try clear hcz30_2
            try clear hcz30_3
            try clear hcz36_0
            try clear hcz36_1
            try clear hcz36_2
            try clear hcz36_3
            try clear hcz39_0
            try clear hcz39_1
            try clear hcz39_2
            try clear hcz39_3
            try clear hcz42_0
            try clear hcz42_1
            try clear hcz42_2
            try clear hcz42_3
            try clear hfz25_0
            try clear hfz25_1
            try clear hfz25_2
            try clear hfz25_3
            try clear hfz28_0
            try clear hfz28_1
            try clear hfz28_2
            try clear hfz28_3
            try clear hfz30_0
            try clear hfz30_1
            try clear hfz30_2
            try clear hfz30_3
            try clear hfz36_0
            try clear hfz36_1
            try clear hfz36_2
            try clear hfz36_3
            try clear hfz39_0
            try clear hfz39_1
            try clear hfz39_2
            try clear hfz39_3
            try clear hfz42_0
            try clear hfz42_1
            try clear hfz42_2
            try clear hfz42_3
            try clear hx263_0
            try clear hx263_1
            try clear hx263_2
            try clear hx263_3
            try clear p2
            try clear p26
            try clear p263
            try clear p6
            try clear q037
            try clear q2
            try clear q26
            try clear q263
            try clear q3
            try clear q31
            try clear q37
            obtain ⟨x82_3, rfl, HA, HK3, HO_5, HO_6, HO_7, HO_31, HO_80, BK264, HB⟩ := hrel
            cases gk with
            | zero => exact absurd HA.out (by simp [redpenlaw16_TokenWhole.l1])
            | succ k3 =>
             have H := HA.out
             clear HA
             simp only [redpenlaw16_TokenWhole.l1] at H
             by_cases c45 : x82_3 < (t269.length : Int)
             ·rw [if_pos c45] at H
              have c45b0 : decide (x82_3 < (t269.length : Int)) = true := decide_eq_true c45
              clear c45
              by_cases c46 : 0 ≤ x82_3
              ·rw [if_pos c46] at H
               have c46b0 : decide (0 ≤ x82_3) = true := decide_eq_true c46
               clear c46
               by_cases c47 : x82_3 < (t269.length : Int)
               ·rw [if_pos c47] at H
                have c47b0 : decide (x82_3 < (t269.length : Int)) = true := decide_eq_true c47
                clear c47
                replace H := Option.bind_eq_some_iff.mp H
                obtain ⟨t273, A480, H⟩ := H
                replace H : (if t273 = true then (redpenlaw16_TokenWhole.l1 k3 t254 t257 t260 (wrap64 (((rd_T50 t260 x33_1).f1.f0) + ((rd_T50 t260 x33_1).f1.f1))) t260 (t260.length : Int) x33_1 t269 (t269.length : Int) (wrap64 (x82_3 + 1))) else (if (rd t269 x82_3) = 39 then (redpenlaw16_TokenWhole.l1 k3 t254 t257 t260 (wrap64 (((rd_T50 t260 x33_1).f1.f0) + ((rd_T50 t260 x33_1).f1.f1))) t260 (t260.length : Int) x33_1 t269 (t269.length : Int) (wrap64 (x82_3 + 1))) else (some false))) = some r := H
                have A48 := Aside0.mk A480
                clear A480
                by_cases c49 : t273 = true
                ·subst c49
                 have H1 : (redpenlaw16_TokenWhole.l1 k3 t254 t257 t260 (wrap64 (((rd_T50 t260 x33_1).f1.f0) + ((rd_T50 t260 x33_1).f1.f1))) t260 (t260.length : Int) x33_1 t269 (t269.length : Int) (wrap64 (x82_3 + 1))) = some r := by rw [if_pos rfl] at H; exact H
                 clear H
                 have H := H1
                 clear H1
                 have H' := Aside0.mk H
                 clear H
                 have p272 : 0 ≤ (x82_3 : Int) := of_decide_eq_true (by first | (with_reducible assumption) | assumption)
                 have q272 : x82_3 < (t269.length : Int) := of_decide_eq_true (by first | (with_reducible assumption) | assumption)
                 obtain ⟨ad272, e272, hx272_0⟩ := Kd.at_int (Kd.R_reads' HO_80.out).2.2 x82_3 p272 q272
                 cases e272
                 replace p272 := eq_true p272
                 replace q272 := eq_true q272
                 go_wp2_with (first | (go_at_call 13; (with_reducible refine (fold_Letter.calls (rd t269 x82_3) true _ A48.out).mono ?_); rintro e w' ⟨rfl, ⟨nd, rfl⟩⟩; (try first | exact ⟨rfl, _, World.drewN_drewN _ _ _⟩ | exact ⟨rfl, _, Eq.trans (World.drewN_drewN _ _ _) (congrArg (World.drewN _) (Nat.add_assoc _ _ _))⟩)))
                 repeat (go_quiet (first | (go_at_call 13; (with_reducible refine (fold_Letter.calls (rd t269 x82_3) true _ A48.out).mono ?_); rintro e w' ⟨rfl, ⟨nd, rfl⟩⟩; (try first | exact ⟨rfl, _, World.drewN_drewN _ _ _⟩ | exact ⟨rfl, _, Eq.trans (World.drewN_drewN _ _ _) (congrArg (World.drewN _) (Nat.add_assoc _ _ _))⟩))); try go_wp2_with (first | (go_at_call 13; (with_reducible refine (fold_Letter.calls (rd t269 x82_3) true _ A48.out).mono ?_); rintro e w' ⟨rfl, ⟨nd, rfl⟩⟩; (try first | exact ⟨rfl, _, World.drewN_drewN _ _ _⟩ | exact ⟨rfl, _, Eq.trans (World.drewN_drewN _ _ _) (congrArg (World.drewN _) (Nat.add_assoc _ _ _))⟩))))
                 go_roundg k3
                 case measure => have := HK1.out; have := HJ22.out; have := HK3.out; omega
                 case rel => exact ⟨(wrap64 (x82_3 + 1)), (by first | rfl | (simp; done) | (simp [*]; done)), (by first | exact H' | (rw [Nbq31.out]; exact H') | (rw [← Nbq31.out]; exact H')), ⟨by have := HK1.out; have := HJ22.out; have := HK3.out; omega⟩, ⟨by (with_reducible repeat (first | apply Kd.R_alloc | apply Kd.R_drewN | apply Kd.R_drew)); exact HO_5.out⟩, ⟨by (with_reducible repeat (first | apply Kd.R_alloc | apply Kd.R_drewN | apply Kd.R_drew)); exact HO_6.out⟩, ⟨by (with_reducible repeat (first | apply Kd.R_alloc | apply Kd.R_drewN | apply Kd.R_drew)); exact HO_7.out⟩, ⟨by (with_reducible repeat (first | apply Kd.R_alloc | apply Kd.R_drewN | apply Kd.R_drew)); exact HO_31.out⟩, ⟨by (with_reducible repeat (first | apply Kd.R_alloc | apply Kd.R_drewN | apply Kd.R_drew)); exact HO_80.out⟩, ⟨by (with_reducible repeat (first | refine blk_drewN ?_ _ | refine blk_drew ?_ | refine blk_alloc ?_ _)); exact BK264.out⟩, ⟨by repeat (first | (with_reducible first | exact HB.out | apply below_alloc | apply pw_below_drewN | apply below_drew1 | refine below_set ?_ GE264.out) | exact HB.out)⟩⟩
                ·replace c49 := Bool.eq_false_iff.mpr c49
                 subst c49
                 have H1 : (if (rd t269 x82_3) = 39 then (redpenlaw16_TokenWhole.l1 k3 t254 t257 t260 (wrap64 (((rd_T50 t260 x33_1).f1.f0) + ((rd_T50 t260 x33_1).f1.f1))) t260 (t260.length : Int) x33_1 t269 (t269.length : Int) (wrap64 (x82_3 + 1))) else (some false)) = some r := by rw [if_neg (show ¬ (false = true) by decide)] at H; exact H
                 clear H
                 have H := H1
                 clear H1
                 by_cases c50 : (rd t269 x82_3) = 39
                 ·rw [if_pos c50] at H
                  have c50b0 : ((rd t269 x82_3) == 39) = true := beq_iff_eq.mpr c50
                  have c50b1 : ((rd t269 x82_3) != 39) = false := bne_eq_false_iff_eq.mpr c50
                  clear c50
                  have H' := Aside0.mk H
                  clear H
                  have p272 : 0 ≤ (x82_3 : Int) := of_decide_eq_true (by first | (with_reducible assumption) | assumption)
                  have q272 : x82_3 < (t269.length : Int) := of_decide_eq_true (by first | (with_reducible assumption) | assumption)
                  obtain ⟨ad272, e272, hx272_0⟩ := Kd.at_int (Kd.R_reads' HO_80.out).2.2 x82_3 p272 q272
                  cases e272
                  replace p272 := eq_true p272
                  replace q272 := eq_true q272
                  go_wp2_with (first | (go_at_call 13; (with_reducible refine (fold_Letter.calls (rd t269 x82_3) false _ A48.out).mono ?_); rintro e w' ⟨rfl, ⟨nd, rfl⟩⟩; (try first | exact ⟨rfl, _, World.drewN_drewN _ _ _⟩ | exact ⟨rfl, _, Eq.trans (World.drewN_drewN _ _ _) (congrArg (World.drewN _) (Nat.add_assoc _ _ _))⟩)))
                  repeat (go_quiet (first | (go_at_call 13; (with_reducible refine (fold_Letter.calls (rd t269 x82_3) false _ A48.out).mono ?_); rintro e w' ⟨rfl, ⟨nd, rfl⟩⟩; (try first | exact ⟨rfl, _, World.drewN_drewN _ _ _⟩ | exact ⟨rfl, _, Eq.trans (World.drewN_drewN _ _ _) (congrArg (World.drewN _) (Nat.add_assoc _ _ _))⟩))); try go_wp2_with (first | (go_at_call 13; (with_reducible refine (fold_Letter.calls (rd t269 x82_3) false _ A48.out).mono ?_); rintro e w' ⟨rfl, ⟨nd, rfl⟩⟩; (try first | exact ⟨rfl, _, World.drewN_drewN _ _ _⟩ | exact ⟨rfl, _, Eq.trans (World.drewN_drewN _ _ _) (congrArg (World.drewN _) (Nat.add_assoc _ _ _))⟩))))
                  go_roundg k3
                  case measure => have := HK1.out; have := HJ22.out; have := HK3.out; omega
                  case rel => exact ⟨(wrap64 (x82_3 + 1)), (by first | rfl | (simp; done) | (simp [*]; done)), (by first | exact H' | (rw [Nbq31.out]; exact H') | (rw [← Nbq31.out]; exact H')), ⟨by have := HK1.out; have := HJ22.out; have := HK3.out; omega⟩, ⟨by (with_reducible repeat (first | apply Kd.R_alloc | apply Kd.R_drewN | apply Kd.R_drew)); exact HO_5.out⟩, ⟨by (with_reducible repeat (first | apply Kd.R_alloc | apply Kd.R_drewN | apply Kd.R_drew)); exact HO_6.out⟩, ⟨by (with_reducible repeat (first | apply Kd.R_alloc | apply Kd.R_drewN | apply Kd.R_drew)); exact HO_7.out⟩, ⟨by (with_reducible repeat (first | apply Kd.R_alloc | apply Kd.R_drewN | apply Kd.R_drew)); exact HO_31.out⟩, ⟨by (with_reducible repeat (first | apply Kd.R_alloc | apply Kd.R_drewN | apply Kd.R_drew)); exact HO_80.out⟩, ⟨by (with_reducible repeat (first | refine blk_drewN ?_ _ | refine blk_drew ?_ | refine blk_alloc ?_ _)); exact BK264.out⟩, ⟨by repeat (first | (with_reducible first | exact HB.out | apply below_alloc | apply pw_below_drewN | apply below_drew1 | refine below_set ?_ GE264.out) | exact HB.out)⟩⟩
                 ·rw [if_neg c50] at H
                  have c50b0 : ((rd t269 x82_3) == 39) = false := beq_eq_false_iff_ne.mpr c50
                  have c50b1 : ((rd t269 x82_3) != 39) = true := bne_iff_ne.mpr c50
                  have hf_ := Option.some.inj H
                  rw [hr_] at hf_
                  cases hf_
               ·rw [if_neg c47] at H
                exact absurd H (by simp)
              ·rw [if_neg c46] at H
               exact absurd H (by simp)
             ·rw [if_neg c45] at H
              have c45b0 : decide (x82_3 < (t269.length : Int)) = false := decide_eq_false c45
              clear c45
              have H' := Aside0.mk H
              clear H
              go_wp2
              repeat (go_quiet (fail); try go_wp2)
              go_roundg k3
              case measure => have := HK1.out; have := HJ22.out; have := HK3.out; omega
              case rel => exact ⟨((wrap64 (((rd_T50 t260 x33_1).f1.f0) + ((rd_T50 t260 x33_1).f1.f1)))), (wrap64 (x33_1 + 1)), (by first | rfl | (simp; done) | (simp [*]; done)), (by first | rfl | (simp; done) | (simp [*]; done)), (by first | exact H' | (rw [Nbq31.out]; exact H') | (rw [← Nbq31.out]; exact H')), ⟨by have := HK1.out; have := HJ22.out; have := HK3.out; omega⟩, ⟨by (with_reducible repeat (first | apply Kd.R_alloc | apply Kd.R_drewN | apply Kd.R_drew)); exact HO_5.out⟩, ⟨by (with_reducible repeat (first | apply Kd.R_alloc | apply Kd.R_drewN | apply Kd.R_drew)); exact HO_6.out⟩, ⟨by (with_reducible repeat (first | apply Kd.R_alloc | apply Kd.R_drewN | apply Kd.R_drew)); exact Kd.R_mono HO_7.out (fun _ hk => trivial)⟩, ⟨by (with_reducible repeat (first | apply Kd.R_alloc | apply Kd.R_drewN | apply Kd.R_drew)); exact Kd.R_mono HO_31.out (fun _ hk => trivial)⟩, ⟨by repeat (first | (with_reducible first | exact HB.out | apply below_alloc | apply pw_below_drewN | apply below_drew1 | refine below_set ?_ GE264.out) | exact HB.out)⟩⟩
       ·rw [if_neg c22] at H
        exact absurd H (by simp)
      ·rw [if_neg c21] at H
       exact absurd H (by simp)
     ·rw [if_neg c20] at H
      have c20b0 : decide (x33_1 < (t260.length : Int)) = false := decide_eq_false c20
      clear c20
      have H' := Aside0.mk H
      clear H
      go_wp2
      repeat (go_quiet (fail); try go_wp2)
      go_loopg [13, 97] k1 (fun kq v13 v97 w' => ∃ (x13_2 : Int) (x97_2 : Int), v13 = .int .i64 x13_2 ∧ v97 = .int .i64 x97_2 ∧ Aside0 (redpenlaw16_TokenWhole.l2 kq t260 x13_2 t257 (t257.length : Int) x97_2 = some r) ∧ Aside0 (kq ≤ k1) ∧ Aside0 (Kd.R k50 50 w' w.heap.size (fun _ => True) (.slice Ao19 t260.length co19) t260) ∧ Aside0 (Kd.R k53 53 w' w.heap.size (fun _ => True) (.slice Ao17 t257.length co17) t257) ∧ Aside0 (Below w.heap.size w w'))
      case atStart => exact ⟨(0), (0), (by first | rfl | (simp; done) | (simp [*]; done)), (by first | rfl | (simp; done) | (simp [*]; done)), H', ⟨Nat.le_refl _⟩, ⟨by (with_reducible repeat (first | apply Kd.R_alloc | apply Kd.R_drewN | apply Kd.R_drew)); exact HO_7.out⟩, ⟨by (with_reducible repeat (first | apply Kd.R_alloc | apply Kd.R_drewN | apply Kd.R_drew)); exact HO_6.out⟩, ⟨by repeat (first | (with_reducible first | exact HB.out | apply below_alloc | apply pw_below_drewN | apply below_drew1) | exact HB.out)⟩⟩
      case round =>
       clear H'
       try clear c1
       try clear c2
       try clear p2
       try clear q2
       try clear hx2
       try clear c3
       try clear q3
       try clear hcv3
       try clear c4
       try clear c5
       try clear c5b0
       try clear c5b1
       try clear p6
       try clear c7
       try clear c20
       try clear c20b0
       try clear c21
       try clear c21b0
       try clear c22
       try clear c22b0
       try clear p26
       try clear q26
       try clear hx26
       try clear c27
       try clear c27b0
       try clear p27
       try clear q27
       try clear hx27
       try clear c29
       try clear c29b0
       try clear q31
       try clear c32
       try clear c33
       try clear c33b0
       try clear c33b1
       try clear c34
       try clear c34b0
       try clear c34b1
       try clear c35
       try clear c35b0
       try clear c35b1
       try clear c37
       try clear q37
       try clear hcv38
       try clear c40
       try clear c45
       try clear c45b0
       try clear c46
       try clear c46b0
       try clear c47
       try clear c47b0
       try clear c49
       try clear c50
       try clear c50b0
       try clear c50b1
       try clear hcz25_0
       try clear hcz25_1
       try clear hcz25_2
       try clear hcz25_3
       try clear hcz28_0
       try clear hcz28_1
       try clear hcz28_2
       try clear hcz28_3
       try clear hcz30_0
       try clear hcz30_1
       try clear hcz30_2
       try clear hcz30_3
       try clear hcz36_0
       try clear hcz36_1
       try clear hcz36_2
       try clear hcz36_3
       try clear hcz39_0
       try clear hcz39_1
       try clear hcz39_2
       try clear hcz39_3
       try clear hcz42_0
       try clear hcz42_1
       try clear hcz42_2
       try clear hcz42_3
       try clear hfz25_0
       try clear hfz25_1
       try clear hfz25_2
       try clear hfz25_3
       try clear hfz28_0
       try clear hfz28_1
       try clear hfz28_2
       try clear hfz28_3
       try clear hfz30_0
       try clear hfz30_1
       try clear hfz30_2
       try clear hfz30_3
       try clear hfz36_0
       try clear hfz36_1
       try clear hfz36_2
       try clear hfz36_3
       try clear hfz39_0
       try clear hfz39_1
       try clear hfz39_2
       try clear hfz39_3
       try clear hfz42_0
       try clear hfz42_1
       try clear hfz42_2
       try clear hfz42_3
       try clear hx263_0
       try clear hx263_1
       try clear hx263_2
       try clear hx263_3
       try clear hx272_0
       try clear p2
       try clear p26
       try clear p263
       try clear p272
       try clear p6
       try clear q037
       try clear q2
       try clear q26
       try clear q263
       try clear q272
       try clear q3
       try clear q31
       try clear q37
       obtain ⟨x13_2, x97_2, rfl, rfl, HA, HK2, HO_7, HO_95, HB⟩ := hrel
       cases gk with
       | zero => exact absurd HA.out (by simp [redpenlaw16_TokenWhole.l2])
       | succ k2 =>
        have H := HA.out
        clear HA
        simp only [redpenlaw16_TokenWhole.l2] at H
        by_cases c51 : x97_2 < (t257.length : Int)
        ·rw [if_pos c51] at H
         have c51b0 : decide (x97_2 < (t257.length : Int)) = true := decide_eq_true c51
         clear c51
         by_cases c52 : 0 ≤ x97_2
         ·rw [if_pos c52] at H
          have c52b0 : decide (0 ≤ x97_2) = true := decide_eq_true c52
          clear c52
          by_cases c53 : x97_2 < (t257.length : Int)
          ·rw [if_pos c53] at H
           have c53b0 : decide (x97_2 < (t257.length : Int)) = true := decide_eq_true c53
           clear c53
           have HC54 := Aside0.mk H
           clear H
           have p274 : 0 ≤ (x97_2 : Int) := of_decide_eq_true (by first | (with_reducible assumption) | assumption)
           have q274 : x97_2 < (t257.length : Int) := of_decide_eq_true (by first | (with_reducible assumption) | assumption)
           obtain ⟨ad274, e274, hx274_0, hx274_1, hx274_2⟩ := at_T53 (Kd.R_reads' HO_95.out).2.2 x97_2 p274 q274
           cases e274
           replace p274 := eq_true p274
           replace q274 := eq_true q274
           go_upto_block 6 with (first | ((with_reducible refine gate_dst (N := 15) rfl ?_); refine box_event ?hg (N := 15) ?hd (cs := #[.int .i32 0, .int .i64 0, .int .i64 0]) (t := 53) ?hr ?_; (case hd => rfl); (case hg => rfl); (case hr => first | (go_simp; done) | (go_simp; rfl)); intro gb275 hg w55 hbox hb; have n0_ := Aside0.mk (Kd.R_below (by (with_reducible repeat (first | apply Kd.R_alloc | apply Kd.R_drewN | apply Kd.R_drew)); exact HO_7.out) hb); have n1_ := Aside0.mk (Kd.R_below (Kd.R_elderB (by (with_reducible repeat (first | apply Kd.R_alloc | apply Kd.R_drewN | apply Kd.R_drew)); exact HO_95.out) gb275 (Nat.le_of_eq hg.symm)) hb); have n2_ := Aside0.mk (below_step (by repeat (first | (with_reducible first | exact HB.out | apply below_alloc | apply pw_below_drewN | apply below_drew1) | exact HB.out)) hb); have n3_ := Aside0.mk (hbox); have n4_ := Aside0.mk ((by rw [hg]; exact (below_size (by repeat (first | (with_reducible first | exact HB.out | apply below_alloc | apply pw_below_drewN | apply below_drew1) | exact HB.out))) : w.heap.size ≤ gb275)); have n5_ := Aside0.mk ((by rw [hg]; exact (below_size (by repeat (first | (with_reducible first | exact HB.out | apply below_alloc | apply pw_below_drewN | apply below_drew1) | exact HB.out))) : w.heap.size ≤ gb275)); clear HO_7; clear HO_95; clear HB; have HO_7 := n0_; have HO_95 := n1_; have HB := n2_; have BK275 := n3_; have GW275 := n4_; have GE275 := n5_; clear n0_ n1_ n2_ n3_ n4_ n5_; clear hb hbox hg; have hcz56_0 : w55.cell? ⟨gb275, 0, none⟩ = some (.int .i32 0) := (blk_cell BK275.out 0).trans rfl; have hcz56_1 : w55.cell? ⟨gb275, 1, none⟩ = some (.int .i64 0) := (blk_cell BK275.out 1).trans rfl; have hcz56_2 : w55.cell? ⟨gb275, 2, none⟩ = some (.int .i64 0) := (blk_cell BK275.out 2).trans rfl; have hfz56_0 := blk_frozen BK275.out 0; have hfz56_1 := blk_frozen BK275.out 1; have hfz56_2 := blk_frozen BK275.out 2) | ((with_reducible refine gate_store (t := 53) (p := 15) rfl ?_); (try (rw [drewN_self w55]; generalize hq_ : World.drewN w55 _ = w55; have n0_ := Aside0.mk (Kd.R_at hq_ HO_7.out); have n1_ := Aside0.mk (Kd.R_at hq_ HO_95.out); have n2_ := Aside0.mk (blk_at hq_ BK275.out); have n3_ := Aside0.mk (below_at hq_ HB.out); clear hq_ HO_7 HO_95 BK275 HB; have HO_7 := n0_; have HO_95 := n1_; have BK275 := n2_; have HB := n3_; clear n0_ n1_ n2_ n3_)); refine store_event (t := 53) (p := 15) (v := ?vo_w57) (w1 := (((w55.setCell ⟨gb275, 0, none⟩ (.int .i32 ((rd_T53 t257 x97_2).f0))).setCell ⟨gb275, 1, none⟩ (.int .i64 ((rd_T53 t257 x97_2).f1.f0))).setCell ⟨gb275, 2, none⟩ (.int .i64 ((rd_T53 t257 x97_2).f1.f1)))) ?hg ?ho ?hn ?hr ?_; (case ho => rfl); (case hg => rfl); (case hn => rfl); (case hr => first | (go_simp; done) | (go_simp; rfl)); intro w57 hw; have n0_ : Aside0 (Kd.R k50 50 w57 w.heap.size (fun _ => True) (.slice Ao19 t260.length co19) t260) := ⟨(by rw [hw]; exact (by (with_reducible repeat (first | apply Kd.R_alloc | apply Kd.R_drewN | apply Kd.R_drew)); exact Kd.R_mono (Kd.R_far (p := ⟨gb275, 2, none⟩) (Kd.R_far (p := ⟨gb275, 1, none⟩) (Kd.R_far (p := ⟨gb275, 0, none⟩) (Kd.R_types HO_7.out BK275.out (by decide)) (fun _ hk => hk.2) (.int .i32 ((rd_T53 t257 x97_2).f0))) (fun _ hk => hk.2) (.int .i64 ((rd_T53 t257 x97_2).f1.f0))) (fun _ hk => hk.2) (.int .i64 ((rd_T53 t257 x97_2).f1.f1))) (fun _ hk => trivial)))⟩; have n1_ : Aside0 (Kd.R k53 53 w57 w.heap.size (fun k_ => k_ ≠ gb275) (.slice (some ad274) t257.length co17) t257) := ⟨(by rw [hw]; exact (by (with_reducible repeat (first | apply Kd.R_alloc | apply Kd.R_drewN | apply Kd.R_drew)); exact Kd.R_mono (Kd.R_far (p := ⟨gb275, 2, none⟩) (Kd.R_far (p := ⟨gb275, 1, none⟩) (Kd.R_far (p := ⟨gb275, 0, none⟩) (Kd.R_mono HO_95.out (fun k_ hk => (⟨hk, hk.2⟩ : _ ∧ k_ ≠ gb275))) (fun _ hk => hk.2) (.int .i32 ((rd_T53 t257 x97_2).f0))) (fun _ hk => hk.2) (.int .i64 ((rd_T53 t257 x97_2).f1.f0))) (fun _ hk => hk.2) (.int .i64 ((rd_T53 t257 x97_2).f1.f1))) (fun _ hk => hk.1.2)))⟩; have n2_ : Aside0 (w57.heap[gb275]? = some (.cells #[.int .i32 ((rd_T53 t257 x97_2).f0), .int .i64 ((rd_T53 t257 x97_2).f1.f0), .int .i64 ((rd_T53 t257 x97_2).f1.f1)] 53 (0, 0))) := ⟨(by rw [hw]; exact (by (with_reducible repeat (first | refine blk_drewN ?_ _ | refine blk_drew ?_ | refine blk_alloc ?_ _)); refine blk_put (cs := #[.int .i32 ((rd_T53 t257 x97_2).f0), .int .i64 ((rd_T53 t257 x97_2).f1.f0), .int .i64 0]) ?_ 2 _ rfl; (with_reducible repeat (first | refine blk_drewN ?_ _ | refine blk_drew ?_ | refine blk_alloc ?_ _)); refine blk_put (cs := #[.int .i32 ((rd_T53 t257 x97_2).f0), .int .i64 0, .int .i64 0]) ?_ 1 _ rfl; (with_reducible repeat (first | refine blk_drewN ?_ _ | refine blk_drew ?_ | refine blk_alloc ?_ _)); refine blk_put (cs := #[.int .i32 0, .int .i64 0, .int .i64 0]) ?_ 0 _ rfl; (with_reducible repeat (first | refine blk_drewN ?_ _ | refine blk_drew ?_ | refine blk_alloc ?_ _)); exact BK275.out))⟩; have n3_ : Aside0 (Below w.heap.size w w57) := ⟨(by rw [hw]; exact (by repeat (first | (with_reducible first | exact HB.out | apply below_alloc | apply pw_below_drewN | apply below_drew1 | refine below_set ?_ GE275.out) | exact HB.out)))⟩; clear hw; clear HO_7; clear HO_95; clear BK275; clear HB; have HO_7 := n0_; have HO_95 := n1_; have BK275 := n2_; have HB := n3_; clear n0_ n1_ n2_ n3_))
           repeat (go_quiet (first | ((with_reducible refine gate_dst (N := 15) rfl ?_); refine box_event ?hg (N := 15) ?hd (cs := #[.int .i32 0, .int .i64 0, .int .i64 0]) (t := 53) ?hr ?_; (case hd => rfl); (case hg => rfl); (case hr => first | (go_simp; done) | (go_simp; rfl)); intro gb275 hg w55 hbox hb; have n0_ := Aside0.mk (Kd.R_below (by (with_reducible repeat (first | apply Kd.R_alloc | apply Kd.R_drewN | apply Kd.R_drew)); exact HO_7.out) hb); have n1_ := Aside0.mk (Kd.R_below (Kd.R_elderB (by (with_reducible repeat (first | apply Kd.R_alloc | apply Kd.R_drewN | apply Kd.R_drew)); exact HO_95.out) gb275 (Nat.le_of_eq hg.symm)) hb); have n2_ := Aside0.mk (below_step (by repeat (first | (with_reducible first | exact HB.out | apply below_alloc | apply pw_below_drewN | apply below_drew1) | exact HB.out)) hb); have n3_ := Aside0.mk (hbox); have n4_ := Aside0.mk ((by rw [hg]; exact (below_size (by repeat (first | (with_reducible first | exact HB.out | apply below_alloc | apply pw_below_drewN | apply below_drew1) | exact HB.out))) : w.heap.size ≤ gb275)); have n5_ := Aside0.mk ((by rw [hg]; exact (below_size (by repeat (first | (with_reducible first | exact HB.out | apply below_alloc | apply pw_below_drewN | apply below_drew1) | exact HB.out))) : w.heap.size ≤ gb275)); clear HO_7; clear HO_95; clear HB; have HO_7 := n0_; have HO_95 := n1_; have HB := n2_; have BK275 := n3_; have GW275 := n4_; have GE275 := n5_; clear n0_ n1_ n2_ n3_ n4_ n5_; clear hb hbox hg; have hcz56_0 : w55.cell? ⟨gb275, 0, none⟩ = some (.int .i32 0) := (blk_cell BK275.out 0).trans rfl; have hcz56_1 : w55.cell? ⟨gb275, 1, none⟩ = some (.int .i64 0) := (blk_cell BK275.out 1).trans rfl; have hcz56_2 : w55.cell? ⟨gb275, 2, none⟩ = some (.int .i64 0) := (blk_cell BK275.out 2).trans rfl; have hfz56_0 := blk_frozen BK275.out 0; have hfz56_1 := blk_frozen BK275.out 1; have hfz56_2 := blk_frozen BK275.out 2) | ((with_reducible refine gate_store (t := 53) (p := 15) rfl ?_); (try (rw [drewN_self w55]; generalize hq_ : World.drewN w55 _ = w55; have n0_ := Aside0.mk (Kd.R_at hq_ HO_7.out); have n1_ := Aside0.mk (Kd.R_at hq_ HO_95.out); have n2_ := Aside0.mk (blk_at hq_ BK275.out); have n3_ := Aside0.mk (below_at hq_ HB.out); clear hq_ HO_7 HO_95 BK275 HB; have HO_7 := n0_; have HO_95 := n1_; have BK275 := n2_; have HB := n3_; clear n0_ n1_ n2_ n3_)); refine store_event (t := 53) (p := 15) (v := ?vo_w57) (w1 := (((w55.setCell ⟨gb275, 0, none⟩ (.int .i32 ((rd_T53 t257 x97_2).f0))).setCell ⟨gb275, 1, none⟩ (.int .i64 ((rd_T53 t257 x97_2).f1.f0))).setCell ⟨gb275, 2, none⟩ (.int .i64 ((rd_T53 t257 x97_2).f1.f1)))) ?hg ?ho ?hn ?hr ?_; (case ho => rfl); (case hg => rfl); (case hn => rfl); (case hr => first | (go_simp; done) | (go_simp; rfl)); intro w57 hw; have n0_ : Aside0 (Kd.R k50 50 w57 w.heap.size (fun _ => True) (.slice Ao19 t260.length co19) t260) := ⟨(by rw [hw]; exact (by (with_reducible repeat (first | apply Kd.R_alloc | apply Kd.R_drewN | apply Kd.R_drew)); exact Kd.R_mono (Kd.R_far (p := ⟨gb275, 2, none⟩) (Kd.R_far (p := ⟨gb275, 1, none⟩) (Kd.R_far (p := ⟨gb275, 0, none⟩) (Kd.R_types HO_7.out BK275.out (by decide)) (fun _ hk => hk.2) (.int .i32 ((rd_T53 t257 x97_2).f0))) (fun _ hk => hk.2) (.int .i64 ((rd_T53 t257 x97_2).f1.f0))) (fun _ hk => hk.2) (.int .i64 ((rd_T53 t257 x97_2).f1.f1))) (fun _ hk => trivial)))⟩; have n1_ : Aside0 (Kd.R k53 53 w57 w.heap.size (fun k_ => k_ ≠ gb275) (.slice (some ad274) t257.length co17) t257) := ⟨(by rw [hw]; exact (by (with_reducible repeat (first | apply Kd.R_alloc | apply Kd.R_drewN | apply Kd.R_drew)); exact Kd.R_mono (Kd.R_far (p := ⟨gb275, 2, none⟩) (Kd.R_far (p := ⟨gb275, 1, none⟩) (Kd.R_far (p := ⟨gb275, 0, none⟩) (Kd.R_mono HO_95.out (fun k_ hk => (⟨hk, hk.2⟩ : _ ∧ k_ ≠ gb275))) (fun _ hk => hk.2) (.int .i32 ((rd_T53 t257 x97_2).f0))) (fun _ hk => hk.2) (.int .i64 ((rd_T53 t257 x97_2).f1.f0))) (fun _ hk => hk.2) (.int .i64 ((rd_T53 t257 x97_2).f1.f1))) (fun _ hk => hk.1.2)))⟩; have n2_ : Aside0 (w57.heap[gb275]? = some (.cells #[.int .i32 ((rd_T53 t257 x97_2).f0), .int .i64 ((rd_T53 t257 x97_2).f1.f0), .int .i64 ((rd_T53 t257 x97_2).f1.f1)] 53 (0, 0))) := ⟨(by rw [hw]; exact (by (with_reducible repeat (first | refine blk_drewN ?_ _ | refine blk_drew ?_ | refine blk_alloc ?_ _)); refine blk_put (cs := #[.int .i32 ((rd_T53 t257 x97_2).f0), .int .i64 ((rd_T53 t257 x97_2).f1.f0), .int .i64 0]) ?_ 2 _ rfl; (with_reducible repeat (first | refine blk_drewN ?_ _ | refine blk_drew ?_ | refine blk_alloc ?_ _)); refine blk_put (cs := #[.int .i32 ((rd_T53 t257 x97_2).f0), .int .i64 0, .int .i64 0]) ?_ 1 _ rfl; (with_reducible repeat (first | refine blk_drewN ?_ _ | refine blk_drew ?_ | refine blk_alloc ?_ _)); refine blk_put (cs := #[.int .i32 0, .int .i64 0, .int .i64 0]) ?_ 0 _ rfl; (with_reducible repeat (first | refine blk_drewN ?_ _ | refine blk_drew ?_ | refine blk_alloc ?_ _)); exact BK275.out))⟩; have n3_ : Aside0 (Below w.heap.size w w57) := ⟨(by rw [hw]; exact (by repeat (first | (with_reducible first | exact HB.out | apply below_alloc | apply pw_below_drewN | apply below_drew1 | refine below_set ?_ GE275.out) | exact HB.out)))⟩; clear hw; clear HO_7; clear HO_95; clear BK275; clear HB; have HO_7 := n0_; have HO_95 := n1_; have BK275 := n2_; have HB := n3_; clear n0_ n1_ n2_ n3_)); go_upto_block 6 with (first | ((with_reducible refine gate_dst (N := 15) rfl ?_); refine box_event ?hg (N := 15) ?hd (cs := #[.int .i32 0, .int .i64 0, .int .i64 0]) (t := 53) ?hr ?_; (case hd => rfl); (case hg => rfl); (case hr => first | (go_simp; done) | (go_simp; rfl)); intro gb275 hg w55 hbox hb; have n0_ := Aside0.mk (Kd.R_below (by (with_reducible repeat (first | apply Kd.R_alloc | apply Kd.R_drewN | apply Kd.R_drew)); exact HO_7.out) hb); have n1_ := Aside0.mk (Kd.R_below (Kd.R_elderB (by (with_reducible repeat (first | apply Kd.R_alloc | apply Kd.R_drewN | apply Kd.R_drew)); exact HO_95.out) gb275 (Nat.le_of_eq hg.symm)) hb); have n2_ := Aside0.mk (below_step (by repeat (first | (with_reducible first | exact HB.out | apply below_alloc | apply pw_below_drewN | apply below_drew1) | exact HB.out)) hb); have n3_ := Aside0.mk (hbox); have n4_ := Aside0.mk ((by rw [hg]; exact (below_size (by repeat (first | (with_reducible first | exact HB.out | apply below_alloc | apply pw_below_drewN | apply below_drew1) | exact HB.out))) : w.heap.size ≤ gb275)); have n5_ := Aside0.mk ((by rw [hg]; exact (below_size (by repeat (first | (with_reducible first | exact HB.out | apply below_alloc | apply pw_below_drewN | apply below_drew1) | exact HB.out))) : w.heap.size ≤ gb275)); clear HO_7; clear HO_95; clear HB; have HO_7 := n0_; have HO_95 := n1_; have HB := n2_; have BK275 := n3_; have GW275 := n4_; have GE275 := n5_; clear n0_ n1_ n2_ n3_ n4_ n5_; clear hb hbox hg; have hcz56_0 : w55.cell? ⟨gb275, 0, none⟩ = some (.int .i32 0) := (blk_cell BK275.out 0).trans rfl; have hcz56_1 : w55.cell? ⟨gb275, 1, none⟩ = some (.int .i64 0) := (blk_cell BK275.out 1).trans rfl; have hcz56_2 : w55.cell? ⟨gb275, 2, none⟩ = some (.int .i64 0) := (blk_cell BK275.out 2).trans rfl; have hfz56_0 := blk_frozen BK275.out 0; have hfz56_1 := blk_frozen BK275.out 1; have hfz56_2 := blk_frozen BK275.out 2) | ((with_reducible refine gate_store (t := 53) (p := 15) rfl ?_); (try (rw [drewN_self w55]; generalize hq_ : World.drewN w55 _ = w55; have n0_ := Aside0.mk (Kd.R_at hq_ HO_7.out); have n1_ := Aside0.mk (Kd.R_at hq_ HO_95.out); have n2_ := Aside0.mk (blk_at hq_ BK275.out); have n3_ := Aside0.mk (below_at hq_ HB.out); clear hq_ HO_7 HO_95 BK275 HB; have HO_7 := n0_; have HO_95 := n1_; have BK275 := n2_; have HB := n3_; clear n0_ n1_ n2_ n3_)); refine store_event (t := 53) (p := 15) (v := ?vo_w57) (w1 := (((w55.setCell ⟨gb275, 0, none⟩ (.int .i32 ((rd_T53 t257 x97_2).f0))).setCell ⟨gb275, 1, none⟩ (.int .i64 ((rd_T53 t257 x97_2).f1.f0))).setCell ⟨gb275, 2, none⟩ (.int .i64 ((rd_T53 t257 x97_2).f1.f1)))) ?hg ?ho ?hn ?hr ?_; (case ho => rfl); (case hg => rfl); (case hn => rfl); (case hr => first | (go_simp; done) | (go_simp; rfl)); intro w57 hw; have n0_ : Aside0 (Kd.R k50 50 w57 w.heap.size (fun _ => True) (.slice Ao19 t260.length co19) t260) := ⟨(by rw [hw]; exact (by (with_reducible repeat (first | apply Kd.R_alloc | apply Kd.R_drewN | apply Kd.R_drew)); exact Kd.R_mono (Kd.R_far (p := ⟨gb275, 2, none⟩) (Kd.R_far (p := ⟨gb275, 1, none⟩) (Kd.R_far (p := ⟨gb275, 0, none⟩) (Kd.R_types HO_7.out BK275.out (by decide)) (fun _ hk => hk.2) (.int .i32 ((rd_T53 t257 x97_2).f0))) (fun _ hk => hk.2) (.int .i64 ((rd_T53 t257 x97_2).f1.f0))) (fun _ hk => hk.2) (.int .i64 ((rd_T53 t257 x97_2).f1.f1))) (fun _ hk => trivial)))⟩; have n1_ : Aside0 (Kd.R k53 53 w57 w.heap.size (fun k_ => k_ ≠ gb275) (.slice (some ad274) t257.length co17) t257) := ⟨(by rw [hw]; exact (by (with_reducible repeat (first | apply Kd.R_alloc | apply Kd.R_drewN | apply Kd.R_drew)); exact Kd.R_mono (Kd.R_far (p := ⟨gb275, 2, none⟩) (Kd.R_far (p := ⟨gb275, 1, none⟩) (Kd.R_far (p := ⟨gb275, 0, none⟩) (Kd.R_mono HO_95.out (fun k_ hk => (⟨hk, hk.2⟩ : _ ∧ k_ ≠ gb275))) (fun _ hk => hk.2) (.int .i32 ((rd_T53 t257 x97_2).f0))) (fun _ hk => hk.2) (.int .i64 ((rd_T53 t257 x97_2).f1.f0))) (fun _ hk => hk.2) (.int .i64 ((rd_T53 t257 x97_2).f1.f1))) (fun _ hk => hk.1.2)))⟩; have n2_ : Aside0 (w57.heap[gb275]? = some (.cells #[.int .i32 ((rd_T53 t257 x97_2).f0), .int .i64 ((rd_T53 t257 x97_2).f1.f0), .int .i64 ((rd_T53 t257 x97_2).f1.f1)] 53 (0, 0))) := ⟨(by rw [hw]; exact (by (with_reducible repeat (first | refine blk_drewN ?_ _ | refine blk_drew ?_ | refine blk_alloc ?_ _)); refine blk_put (cs := #[.int .i32 ((rd_T53 t257 x97_2).f0), .int .i64 ((rd_T53 t257 x97_2).f1.f0), .int .i64 0]) ?_ 2 _ rfl; (with_reducible repeat (first | refine blk_drewN ?_ _ | refine blk_drew ?_ | refine blk_alloc ?_ _)); refine blk_put (cs := #[.int .i32 ((rd_T53 t257 x97_2).f0), .int .i64 0, .int .i64 0]) ?_ 1 _ rfl; (with_reducible repeat (first | refine blk_drewN ?_ _ | refine blk_drew ?_ | refine blk_alloc ?_ _)); refine blk_put (cs := #[.int .i32 0, .int .i64 0, .int .i64 0]) ?_ 0 _ rfl; (with_reducible repeat (first | refine blk_drewN ?_ _ | refine blk_drew ?_ | refine blk_alloc ?_ _)); exact BK275.out))⟩; have n3_ : Aside0 (Below w.heap.size w w57) := ⟨(by rw [hw]; exact (by repeat (first | (with_reducible first | exact HB.out | apply below_alloc | apply pw_below_drewN | apply below_drew1 | refine below_set ?_ GE275.out) | exact HB.out)))⟩; clear hw; clear HO_7; clear HO_95; clear BK275; clear HB; have HO_7 := n0_; have HO_95 := n1_; have BK275 := n2_; have HB := n3_; clear n0_ n1_ n2_ n3_)))
           (try simp only [Act.put, List.setIfInBounds_toArray, List.set_cons_zero, List.set_cons_succ])
           go_cut [13] (fun v13 wc => ∃ (kq : Nat) (x13_53 : Int), v13 = .int .i64 x13_53 ∧ Aside0 (redpenlaw16_TokenWhole.j5 kq t260 x13_53 t257 (t257.length : Int) x97_2 ((rd_T53 t257 x97_2).f0) ((rd_T53 t257 x97_2).f1.f0) ((rd_T53 t257 x97_2).f1.f1) = some r) ∧ Aside0 (kq ≤ k2) ∧ Aside0 (Kd.R k50 50 wc w.heap.size (fun _ => True) (.slice Ao19 t260.length co19) t260) ∧ Aside0 (Kd.R k53 53 wc w.heap.size (fun k_ => k_ ≠ gb275) (.slice (some ad274) t257.length co17) t257) ∧ Aside0 (wc.heap[gb275]? = some (.cells #[.int .i32 ((rd_T53 t257 x97_2).f0), .int .i64 ((rd_T53 t257 x97_2).f1.f0), .int .i64 ((rd_T53 t257 x97_2).f1.f1)] 53 (0, 0))) ∧ Aside0 (Below w.heap.size w wc))
           case first =>
            have H := HC54.out
            clear HC54
            have H' := Aside0.mk H
            clear H
            go_wp2
            repeat (go_quiet (fail); try go_wp2)
            go_loopg [13] k2 (fun kq v13 w' => ∃ (x13_3 : Int), v13 = .int .i64 x13_3 ∧ Aside0 (redpenlaw16_TokenWhole.l3 kq t260 x13_3 t257 (t257.length : Int) x97_2 ((rd_T53 t257 x97_2).f0) ((rd_T53 t257 x97_2).f1.f0) ((rd_T53 t257 x97_2).f1.f1) = some r) ∧ Aside0 (kq ≤ k2) ∧ Aside0 (Kd.R k50 50 w' w.heap.size (fun _ => True) (.slice Ao19 t260.length co19) t260) ∧ Aside0 (Kd.R k53 53 w' w.heap.size (fun k_ => k_ ≠ gb275) (.slice (some ad274) t257.length co17) t257) ∧ Aside0 (w'.heap[gb275]? = some (.cells #[.int .i32 ((rd_T53 t257 x97_2).f0), .int .i64 ((rd_T53 t257 x97_2).f1.f0), .int .i64 ((rd_T53 t257 x97_2).f1.f1)] 53 (0, 0))) ∧ Aside0 (Below w.heap.size w w'))
            case atStart => exact ⟨(x13_2), (by first | rfl | (simp; done) | (simp [*]; done)), H', ⟨Nat.le_refl _⟩, ⟨by (with_reducible repeat (first | apply Kd.R_alloc | apply Kd.R_drewN | apply Kd.R_drew)); exact HO_7.out⟩, ⟨by (with_reducible repeat (first | apply Kd.R_alloc | apply Kd.R_drewN | apply Kd.R_drew)); exact HO_95.out⟩, ⟨by (with_reducible repeat (first | refine blk_drewN ?_ _ | refine blk_drew ?_ | refine blk_alloc ?_ _)); exact BK275.out⟩, ⟨by repeat (first | (with_reducible first | exact HB.out | apply below_alloc | apply pw_below_drewN | apply below_drew1 | refine below_set ?_ GE275.out) | exact HB.out)⟩⟩
            case round =>
             clear H'
             try clear c1
             try clear c2
             try clear p2
             try clear q2
             try clear hx2
             try clear c3
             try clear q3
             try clear hcv3
             try clear c4
             try clear c5
             try clear c5b0
             try clear c5b1
             try clear p6
             try clear c7
             try clear c20
             try clear c20b0
             try clear c21
             try clear c21b0
             try clear c22
             try clear c22b0
             try clear p26
             try clear q26
             try clear hx26
             try clear c27
             try clear c27b0
             try clear p27
             try clear q27
             try clear hx27
             try clear c29
             try clear c29b0
             try clear q31
             try clear c32
             try clear c33
             try clear c33b0
             try clear c33b1
             try clear c34
             try clear c34b0
             try clear c34b1
             try clear c35
             try clear c35b0
             try clear c35b1
             try clear c37
             try clear q37
             try clear hcv38
             try clear c40
             try clear c45
             try clear c45b0
             try clear c46
             try clear c46b0
             try clear c47
             try clear c47b0
             try clear c49
             try clear c50
             try clear c50b0
             try clear c50b1
             try clear c51
             try clear c51b0
             try clear c52
             try clear c52b0
             try clear c53
             try clear c53b0
             try clear hcz25_0
             try clear hcz25_1
             try clear hcz25_2
             try clear hcz25_3
             try clear hcz28_0
             try clear hcz28_1
             try clear hcz28_2
             try clear hcz28_3
             try clear hcz30_0
             try clear hcz30_1
             try clear hcz30_2
             try clear hcz30_3
             try clear hcz36_0
             try clear hcz36_1
             try clear hcz36_2
             try clear hcz36_3
             try clear hcz39_0
             try clear hcz39_1
             try clear hcz39_2
             try clear hcz39_3
             try clear hcz42_0
             try clear hcz42_1
             try clear hcz42_2
             try clear hcz42_3
             try clear hcz56_0
             try clear hcz56_1
             try clear hcz56_2
             try clear hfz25_0
             try clear hfz25_1
             try clear hfz25_2
             try clear hfz25_3
             try clear hfz28_0
             try clear hfz28_1
             try clear hfz28_2
             try clear hfz28_3
             try clear hfz30_0
             try clear hfz30_1
             try clear hfz30_2
             try clear hfz30_3
             try clear hfz36_0
             try clear hfz36_1
             try clear hfz36_2
             try clear hfz36_3
             try clear hfz39_0
             try clear hfz39_1
             try clear hfz39_2
             try clear hfz39_3
             try clear hfz42_0
             try clear hfz42_1
             try clear hfz42_2
             try clear hfz42_3
             try clear hfz56_0
             try clear hfz56_1
             try clear hfz56_2
             try clear hx263_0
             try clear hx263_1
             try clear hx263_2
             try clear hx263_3
             try clear hx272_0
             try clear hx274_0
             try clear hx274_1
             try clear hx274_2
             try clear p2
             try clear p26
             try clear p263
             try clear p27
             try clear p272
             try clear p274
             try clear p6
             try clear q037
             try clear q2
             try clear q26
             try clear q263
             try clear q27
             try clear q272
             try clear q274
             try clear q3
             try clear q31
             try clear q37
             obtain ⟨x13_3, rfl, HA, HK3, HO_7, HO_95, BK275, HB⟩ := hrel
             cases gk with
             | zero => exact absurd HA.out (by simp [redpenlaw16_TokenWhole.l3])
             | succ k3 =>
              have H := HA.out
              clear HA
              simp only [redpenlaw16_TokenWhole.l3] at H
              by_cases c58 : x13_3 < (t260.length : Int)
              ·rw [if_pos c58] at H
               have c58b0 : decide (x13_3 < (t260.length : Int)) = true := decide_eq_true c58
               clear c58
               (first | rw [c58b0] | (simp only [i64_w, i32_w]; rw [c58b0]) | skip)
               by_cases c59 : 0 ≤ x13_3
               ·rw [if_pos c59] at H
                have c59b0 : decide (0 ≤ x13_3) = true := decide_eq_true c59
                clear c59
                by_cases c60 : (wrap64 (((rd_T50 t260 x13_3).f1.f0) + ((rd_T50 t260 x13_3).f1.f1))) ≤ ((rd_T53 t257 x97_2).f1.f0)
                ·rw [if_pos c60] at H
                 have c60b0 : decide ((wrap64 (((rd_T50 t260 x13_3).f1.f0) + ((rd_T50 t260 x13_3).f1.f1))) ≤ ((rd_T53 t257 x97_2).f1.f0)) = true := decide_eq_true c60
                 clear c60
                 have H' := Aside0.mk H
                 clear H
                 have p276 : 0 ≤ (x13_3 : Int) := of_decide_eq_true (by first | (with_reducible assumption) | assumption)
                 have q276 : x13_3 < (t260.length : Int) := of_decide_eq_true (by first | (with_reducible assumption) | assumption)
                 obtain ⟨ad276, e276, hx276_0, hx276_1, hx276_2, hx276_3⟩ := at_T50 (Kd.R_reads' HO_7.out).2.2 x13_3 p276 q276
                 cases e276
                 replace p276 := eq_true p276
                 replace q276 := eq_true q276
                 have p277 : 0 ≤ (x13_3 : Int) := of_decide_eq_true (by first | (with_reducible assumption) | assumption)
                 have q277 : x13_3 < (t260.length : Int) := of_decide_eq_true (by first | (with_reducible assumption) | assumption)
                 obtain ⟨ad277, e277, hx277_0, hx277_1, hx277_2, hx277_3⟩ := at_T50 (Kd.R_reads' HO_7.out).2.2 x13_3 p277 q277
                 obtain rfl : ad276 = ad277 := (by injection e277)
                 replace p277 := eq_true p277
                 replace q277 := eq_true q277
                 have hcz61_0 : wr.cell? ⟨gb275, 0, none⟩ = some (.int .i32 ((rd_T53 t257 x97_2).f0)) := (blk_cell BK275.out 0).trans rfl
                 have hcz61_1 : wr.cell? ⟨gb275, 1, none⟩ = some (.int .i64 ((rd_T53 t257 x97_2).f1.f0)) := (blk_cell BK275.out 1).trans rfl
                 have hcz61_2 : wr.cell? ⟨gb275, 2, none⟩ = some (.int .i64 ((rd_T53 t257 x97_2).f1.f1)) := (blk_cell BK275.out 2).trans rfl
                 have hfz61_0 := blk_frozen BK275.out 0
                 have hfz61_1 := blk_frozen BK275.out 1
                 have hfz61_2 := blk_frozen BK275.out 2
                 go_wp2
                 repeat (go_quiet (fail); try go_wp2)
                 go_roundg k3
                 case measure => have := HK1.out; have := HK2.out; have := HK3.out; omega
                 case rel => exact ⟨(wrap64 (x13_3 + 1)), (by first | rfl | (simp; done) | (simp [*]; done)), (by first | exact H' | (rw [Nbq31.out]; exact H') | (rw [← Nbq31.out]; exact H')), ⟨by have := HK1.out; have := HK2.out; have := HK3.out; omega⟩, ⟨by (with_reducible repeat (first | apply Kd.R_alloc | apply Kd.R_drewN | apply Kd.R_drew)); exact HO_7.out⟩, ⟨by (with_reducible repeat (first | apply Kd.R_alloc | apply Kd.R_drewN | apply Kd.R_drew)); exact HO_95.out⟩, ⟨by (with_reducible repeat (first | refine blk_drewN ?_ _ | refine blk_drew ?_ | refine blk_alloc ?_ _)); exact BK275.out⟩, ⟨by repeat (first | (with_reducible first | exact HB.out | apply below_alloc | apply pw_below_drewN | apply below_drew1 | refine below_set ?_ GE275.out) | exact HB.out)⟩⟩
                ·rw [if_neg c60] at H
                 have c60b0 : decide ((wrap64 (((rd_T50 t260 x13_3).f1.f0) + ((rd_T50 t260 x13_3).f1.f1))) ≤ ((rd_T53 t257 x97_2).f1.f0)) = false := decide_eq_false c60
                 clear c60
                 have H' := Aside0.mk H
                 clear H
                 have p276 : 0 ≤ (x13_3 : Int) := of_decide_eq_true (by first | (with_reducible assumption) | assumption)
                 have q276 : x13_3 < (t260.length : Int) := of_decide_eq_true (by first | (with_reducible assumption) | assumption)
                 obtain ⟨ad276, e276, hx276_0, hx276_1, hx276_2, hx276_3⟩ := at_T50 (Kd.R_reads' HO_7.out).2.2 x13_3 p276 q276
                 cases e276
                 replace p276 := eq_true p276
                 replace q276 := eq_true q276
                 have p277 : 0 ≤ (x13_3 : Int) := of_decide_eq_true (by first | (with_reducible assumption) | assumption)
                 have q277 : x13_3 < (t260.length : Int) := of_decide_eq_true (by first | (with_reducible assumption) | assumption)
                 obtain ⟨ad277, e277, hx277_0, hx277_1, hx277_2, hx277_3⟩ := at_T50 (Kd.R_reads' HO_7.out).2.2 x13_3 p277 q277
                 obtain rfl : ad276 = ad277 := (by injection e277)
                 replace p277 := eq_true p277
                 replace q277 := eq_true q277
                 have hcz62_0 : wr.cell? ⟨gb275, 0, none⟩ = some (.int .i32 ((rd_T53 t257 x97_2).f0)) := (blk_cell BK275.out 0).trans rfl
                 have hcz62_1 : wr.cell? ⟨gb275, 1, none⟩ = some (.int .i64 ((rd_T53 t257 x97_2).f1.f0)) := (blk_cell BK275.out 1).trans rfl
                 have hcz62_2 : wr.cell? ⟨gb275, 2, none⟩ = some (.int .i64 ((rd_T53 t257 x97_2).f1.f1)) := (blk_cell BK275.out 2).trans rfl
                 have hfz62_0 := blk_frozen BK275.out 0
                 have hfz62_1 := blk_frozen BK275.out 1
                 have hfz62_2 := blk_frozen BK275.out 2
                 go_wp2
                 repeat (go_quiet (fail); try go_wp2)
                 go_meet
                 case rel => exact ⟨_, (x13_3), (by first | rfl | (simp; done) | (simp [*]; done)), (by first | exact H' | (rw [Nbq31.out]; exact H') | (rw [← Nbq31.out]; exact H')), ⟨by have := HK1.out; have := HK2.out; have := HK3.out; first | omega | exact Nat.le_refl _⟩, ⟨by (with_reducible repeat (first | apply Kd.R_alloc | apply Kd.R_drewN | apply Kd.R_drew)); exact HO_7.out⟩, ⟨by (with_reducible repeat (first | apply Kd.R_alloc | apply Kd.R_drewN | apply Kd.R_drew)); exact HO_95.out⟩, ⟨by (with_reducible repeat (first | refine blk_drewN ?_ _ | refine blk_drew ?_ | refine blk_alloc ?_ _)); exact BK275.out⟩, ⟨by repeat (first | (with_reducible first | exact HB.out | apply below_alloc | apply pw_below_drewN | apply below_drew1 | refine below_set ?_ GE275.out) | exact HB.out)⟩⟩
               ·rw [if_neg c59] at H
                exact absurd H (by simp)
              ·rw [if_neg c58] at H
               have c58b0 : decide (x13_3 < (t260.length : Int)) = false := decide_eq_false c58
               clear c58
               (first | rw [c58b0] | (simp only [i64_w, i32_w]; rw [c58b0]) | skip)
               have H' := Aside0.mk H
               clear H
               go_wp2
               repeat (go_quiet (fail); try go_wp2)
               go_meet
               case rel => exact ⟨_, (x13_3), (by first | rfl | (simp; done) | (simp [*]; done)), (by first | exact H' | (rw [Nbq31.out]; exact H') | (rw [← Nbq31.out]; exact H')), ⟨by have := HK1.out; have := HK2.out; have := HK3.out; first | omega | exact Nat.le_refl _⟩, ⟨by (with_reducible repeat (first | apply Kd.R_alloc | apply Kd.R_drewN | apply Kd.R_drew)); exact HO_7.out⟩, ⟨by (with_reducible repeat (first | apply Kd.R_alloc | apply Kd.R_drewN | apply Kd.R_drew)); exact HO_95.out⟩, ⟨by (with_reducible repeat (first | refine blk_drewN ?_ _ | refine blk_drew ?_ | refine blk_alloc ?_ _)); exact BK275.out⟩, ⟨by repeat (first | (with_reducible first | exact HB.out | apply below_alloc | apply pw_below_drewN | apply below_drew1 | refine below_set ?_ GE275.out) | exact HB.out)⟩⟩
           case rest =>
            clear HC54
            try clear c1
            try clear c2
            try clear p2
            try clear q2
            try clear hx2
            try clear c3
            try clear q3
            try clear hcv3
            try clear c4
            try clear c5
            try clear c5b0
            try clear c5b1
            try clear c6
            try clear p6
            try clear c7
            try clear c20
            try clear c20b0
            try clear c21
            try clear c21b0
            try clear c22
            try clear c22b0
            try clear p26
            try clear q26
            try clear hx26
            try clear c27
            try clear c27b0
            try clear p27
            try clear q27
            try clear hx27
            try clear c29
            try clear c29b0
            try clear q31
            try clear c32
            try clear c33
            try clear c33b0
            try clear c33b1
            try clear c34
            try clear c34b0
            try clear c34b1
            try clear c35
            try clear c35b0
            try clear c35b1
            try clear c37
            try clear q37
            try clear hcv38
            try clear c40
            try clear c45
            try clear c45b0
            try clear c46
            try clear c46b0
            try clear c47
            try clear c47b0
            try clear c49
            try clear c50
            try clear c50b0
            try clear c50b1
            try clear c51
            try clear c51b0
            try clear c52
            try clear c52b0
            try clear c53
            try clear c53b0
            try clear c58
            try clear c58b0
            try clear c59
            try clear c59b0
            try clear c60
            try clear c60b0
            try clear hcz25_0
            try clear hcz25_1
            try clear hcz25_2
            try clear hcz25_3
            try clear hcz28_0
            try clear hcz28_1
            try clear hcz28_2
            try clear hcz28_3
            try clear hcz30_0
            try clear hcz30_1
            try clear hcz30_2
            try clear hcz30_3
            try clear hcz36_0
            try clear hcz36_1
            try clear hcz36_2
            try clear hcz36_3
            try clear hcz39_0
            try clear hcz39_1
            try clear hcz39_2
            try clear hcz39_3
            try clear hcz42_0
            try clear hcz42_1
            try clear hcz42_2
            try clear hcz42_3
            try clear hcz56_0
            try clear hcz56_1
            try clear hcz56_2
            try clear hcz61_0
            try clear hcz61_1
            try clear hcz61_2
            try clear hcz62_0
            try clear hcz62_1
            try clear hcz62_2
            try clear hfz25_0
            try clear hfz25_1
            try clear hfz25_2
            try clear hfz25_3
            try clear hfz28_0
            try clear hfz28_1
            try clear hfz28_2
            try clear hfz28_3
            try clear hfz30_0
            try clear hfz30_1
            try clear hfz30_2
            try clear hfz30_3
            try clear hfz36_0
            try clear hfz36_1
            try clear hfz36_2
            try clear hfz36_3
            try clear hfz39_0
            try clear hfz39_1
            try clear hfz39_2
            try clear hfz39_3
            try clear hfz42_0
            try clear hfz42_1
            try clear hfz42_2
            try clear hfz42_3
            try clear hfz56_0
            try clear hfz56_1
            try clear hfz56_2
            try clear hfz61_0
            try clear hfz61_1
            try clear hfz61_2
            try clear hfz62_0
            try clear hfz62_1
            try clear hfz62_2
            try clear hx263_0
            try clear hx263_1
            try clear hx263_2
            try clear hx263_3
            try clear hx272_0
            try clear hx274_0
            try clear hx274_1
            try clear hx274_2
            try clear hx276_0
            try clear hx276_1
            try clear hx276_2
            try clear hx276_3
            try clear hx277_0
            try clear hx277_1
            try clear hx277_2
            try clear hx277_3
            try clear p2
            try clear p26
            try clear p263
            try clear p27
            try clear p272
            try clear p274
            try clear p276
            try clear p277
            try clear p6
            try clear q037
            try clear q2
            try clear q26
            try clear q263
            try clear q27
            try clear q272
            try clear q274
            try clear q276
            try clear q277
            try clear q3
            try clear q31
            try clear q37
            obtain ⟨kq, x13_53, rfl, HA, HJ53, HO_7, HO_95, BK275, HB⟩ := hcut
            cases kq with
            | zero => exact absurd HA.out (by simp [redpenlaw16_TokenWhole.j5])
            | succ kj53 =>
             have H := HA.out
             clear HA
             simp only [redpenlaw16_TokenWhole.j5] at H
             have HC63 := Aside0.mk H
             clear H
             go_upto_region 28 with (fail)
             repeat (go_quiet (fail); go_upto_region 28 with (fail))
             go_cut [16] (fun v16 wc => ∃ (kq : Nat) (x16_62 : Bool), v16 = .bool x16_62 ∧ Aside0 (redpenlaw16_TokenWhole.j6 kq t260 x13_53 x16_62 t257 (t257.length : Int) x97_2 ((rd_T53 t257 x97_2).f0) ((rd_T53 t257 x97_2).f1.f0) ((rd_T53 t257 x97_2).f1.f1) = some r) ∧ Aside0 (kq ≤ kj53) ∧ Aside0 (Kd.R k50 50 wc w.heap.size (fun _ => True) (.slice Ao19 t260.length co19) t260) ∧ Aside0 (Kd.R k53 53 wc w.heap.size (fun k_ => k_ ≠ gb275) (.slice (some ad274) t257.length co17) t257) ∧ Aside0 (wc.heap[gb275]? = some (.cells #[.int .i32 ((rd_T53 t257 x97_2).f0), .int .i64 ((rd_T53 t257 x97_2).f1.f0), .int .i64 ((rd_T53 t257 x97_2).f1.f1)] 53 (0, 0))) ∧ Aside0 (Below w.heap.size w wc))
             case first =>
              have H := HC63.out
              clear HC63
              by_cases c64 : x13_53 < (t260.length : Int)
              ·rw [if_pos c64] at H
               have c64b0 : decide (x13_53 < (t260.length : Int)) = true := decide_eq_true c64
               clear c64
               (first | rw [c64b0] | (simp only [i64_w, i32_w]; rw [c64b0]) | skip)
               by_cases c65 : 0 ≤ x13_53
               ·rw [if_pos c65] at H
                have c65b0 : decide (0 ≤ x13_53) = true := decide_eq_true c65
                clear c65
                have H' := Aside0.mk H
                clear H
                have hcz66_0 : wc.cell? ⟨gb275, 0, none⟩ = some (.int .i32 ((rd_T53 t257 x97_2).f0)) := (blk_cell BK275.out 0).trans rfl
                have hcz66_1 : wc.cell? ⟨gb275, 1, none⟩ = some (.int .i64 ((rd_T53 t257 x97_2).f1.f0)) := (blk_cell BK275.out 1).trans rfl
                have hcz66_2 : wc.cell? ⟨gb275, 2, none⟩ = some (.int .i64 ((rd_T53 t257 x97_2).f1.f1)) := (blk_cell BK275.out 2).trans rfl
                have hfz66_0 := blk_frozen BK275.out 0
                have hfz66_1 := blk_frozen BK275.out 1
                have hfz66_2 := blk_frozen BK275.out 2
                have p278 : 0 ≤ (x13_53 : Int) := of_decide_eq_true (by first | (with_reducible assumption) | assumption)
                have q278 : x13_53 < (t260.length : Int) := of_decide_eq_true (by first | (with_reducible assumption) | assumption)
                obtain ⟨ad278, e278, hx278_0, hx278_1, hx278_2, hx278_3⟩ := at_T50 (Kd.R_reads' HO_7.out).2.2 x13_53 p278 q278
                cases e278
                replace p278 := eq_true p278
                replace q278 := eq_true q278
                go_wp2
                repeat (go_quiet (fail); try go_wp2)
                go_meet
                case rel => exact ⟨_, (decide (((rd_T53 t257 x97_2).f1.f0) ≥ ((rd_T50 t260 x13_53).f1.f0))), (by first | rfl | (simp; done) | (simp [*]; done)), (by first | exact H' | (rw [Nbq31.out]; exact H') | (rw [← Nbq31.out]; exact H')), ⟨by have := HK1.out; have := HK2.out; have := HJ53.out; first | omega | exact Nat.le_refl _⟩, ⟨by (with_reducible repeat (first | apply Kd.R_alloc | apply Kd.R_drewN | apply Kd.R_drew)); exact HO_7.out⟩, ⟨by (with_reducible repeat (first | apply Kd.R_alloc | apply Kd.R_drewN | apply Kd.R_drew)); exact HO_95.out⟩, ⟨by (with_reducible repeat (first | refine blk_drewN ?_ _ | refine blk_drew ?_ | refine blk_alloc ?_ _)); exact BK275.out⟩, ⟨by repeat (first | (with_reducible first | exact HB.out | apply below_alloc | apply pw_below_drewN | apply below_drew1 | refine below_set ?_ GE275.out) | exact HB.out)⟩⟩
               ·rw [if_neg c65] at H
                exact absurd H (by simp)
              ·rw [if_neg c64] at H
               have c64b0 : decide (x13_53 < (t260.length : Int)) = false := decide_eq_false c64
               clear c64
               (first | rw [c64b0] | (simp only [i64_w, i32_w]; rw [c64b0]) | skip)
               have H' := Aside0.mk H
               clear H
               go_wp2
               repeat (go_quiet (fail); try go_wp2)
               go_meet
               case rel => exact ⟨_, (false), (by first | rfl | (simp; done) | (simp [*]; done)), (by first | exact H' | (rw [Nbq31.out]; exact H') | (rw [← Nbq31.out]; exact H')), ⟨by have := HK1.out; have := HK2.out; have := HJ53.out; first | omega | exact Nat.le_refl _⟩, ⟨by (with_reducible repeat (first | apply Kd.R_alloc | apply Kd.R_drewN | apply Kd.R_drew)); exact HO_7.out⟩, ⟨by (with_reducible repeat (first | apply Kd.R_alloc | apply Kd.R_drewN | apply Kd.R_drew)); exact HO_95.out⟩, ⟨by (with_reducible repeat (first | refine blk_drewN ?_ _ | refine blk_drew ?_ | refine blk_alloc ?_ _)); exact BK275.out⟩, ⟨by repeat (first | (with_reducible first | exact HB.out | apply below_alloc | apply pw_below_drewN | apply below_drew1 | refine below_set ?_ GE275.out) | exact HB.out)⟩⟩
             case rest =>
              clear HC63
              try clear c1
              try clear c2
              try clear p2
              try clear q2
              try clear hx2
              try clear c3
              try clear q3
              try clear hcv3
              try clear c4
              try clear c5
              try clear c5b0
              try clear c5b1
              try clear c6
              try clear p6
              try clear c7
              try clear c20
              try clear c20b0
              try clear c21
              try clear c21b0
              try clear c22
              try clear c22b0
              try clear p26
              try clear q26
              try clear hx26
              try clear c27
              try clear c27b0
              try clear p27
              try clear q27
              try clear hx27
              try clear c29
              try clear c29b0
              try clear q31
              try clear c32
              try clear c33
              try clear c33b0
              try clear c33b1
              try clear c34
              try clear c34b0
              try clear c34b1
              try clear c35
              try clear c35b0
              try clear c35b1
              try clear c37
              try clear q37
              try clear hcv38
              try clear c40
              try clear c45
              try clear c45b0
              try clear c46
              try clear c46b0
              try clear c47
              try clear c47b0
              try clear c49
              try clear c50
              try clear c50b0
              try clear c50b1
              try clear c51
              try clear c51b0
              try clear c52
              try clear c52b0
              try clear c53
              try clear c53b0
              try clear c58
              try clear c58b0
              try clear c59
              try clear c59b0
              try clear c60
              try clear c60b0
              try clear c64
              try clear c64b0
              try clear p64
              try clear c65
              try clear c65b0
              try clear hcz25_0
              try clear hcz25_1
              try clear hcz25_2
              try clear hcz25_3
              try clear hcz28_0
              try clear hcz28_1
              try clear hcz28_2
              try clear hcz28_3
              try clear hcz30_0
              try clear hcz30_1
              try clear hcz30_2
              try clear hcz30_3
              try clear hcz36_0
              try clear hcz36_1
              try clear hcz36_2
              try clear hcz36_3
              try clear hcz39_0
              try clear hcz39_1
              try clear hcz39_2
              try clear hcz39_3
              try clear hcz42_0
              try clear hcz42_1
              try clear hcz42_2
              try clear hcz42_3
              try clear hcz56_0
              try clear hcz56_1
              try clear hcz56_2
              try clear hcz61_0
              try clear hcz61_1
              try clear hcz61_2
              try clear hcz62_0
              try clear hcz62_1
              try clear hcz62_2
              try clear hcz66_0
              try clear hcz66_1
              try clear hcz66_2
              try clear hfz25_0
              try clear hfz25_1
              try clear hfz25_2
              try clear hfz25_3
              try clear hfz28_0
              try clear hfz28_1
              try clear hfz28_2
              try clear hfz28_3
              try clear hfz30_0
              try clear hfz30_1
              try clear hfz30_2
              try clear hfz30_3
              try clear hfz36_0
              try clear hfz36_1
              try clear hfz36_2
              try clear hfz36_3
              try clear hfz39_0
              try clear hfz39_1
              try clear hfz39_2
              try clear hfz39_3
              try clear hfz42_0
              try clear hfz42_1
              try clear hfz42_2
              try clear hfz42_3
              try clear hfz56_0
              try clear hfz56_1
              try clear hfz56_2
              try clear hfz61_0
              try clear hfz61_1
              try clear hfz61_2
              try clear hfz62_0
              try clear hfz62_1
              try clear hfz62_2
              try clear hfz66_0
              try clear hfz66_1
              try clear hfz66_2
              try clear hx263_0
              try clear hx263_1
              try clear hx263_2
              try clear hx263_3
              try clear hx272_0
              try clear hx274_0
              try clear hx274_1
              try clear hx274_2
              try clear hx276_0
              try clear hx276_1
              try clear hx276_2
              try clear hx276_3
              try clear hx277_0
              try clear hx277_1
              try clear hx277_2
              try clear hx277_3
              try clear hx278_0
              try clear hx278_1
              try clear hx278_2
              try clear hx278_3
              try clear p2
              try clear p26
              try clear p263
              try clear p27
              try clear p272
              try clear p274
              try clear p276
              try clear p277
              try clear p278
              try clear p6
              try clear q037
              try clear q2
              try clear q26
              try clear q263
              try clear q27
              try clear q272
              try clear q274
              try clear q276
              try clear q277
              try clear q278
              try clear q3
              try clear q31
              try clear q37
              obtain ⟨kq, x16_62, rfl, HA, HJ62, HO_7, HO_95, BK275, HB⟩ := hcut
              cases kq with
              | zero => exact absurd HA.out (by simp [redpenlaw16_TokenWhole.j6])
              | succ kj62 =>
               have H := HA.out
               clear HA
               simp only [redpenlaw16_TokenWhole.j6] at H
               replace H := Option.bind_eq_some_iff.mp H
               obtain ⟨t279, A670, H⟩ := H
               replace H : (if t279 = true then (if x16_62 = true then ((fold_Letter.f ((rd_T53 t257 x97_2).f0)).bind fun t280 => (if t280 = true then (redpenlaw16_TokenWhole.l2 kj62 t260 x13_53 t257 (t257.length : Int) (wrap64 (x97_2 + 1))) else (if ((rd_T53 t257 x97_2).f0) = 39 then (redpenlaw16_TokenWhole.l2 kj62 t260 x13_53 t257 (t257.length : Int) (wrap64 (x97_2 + 1))) else (some false)))) else (some false)) else (if x16_62 = true then ((fold_Letter.f ((rd_T53 t257 x97_2).f0)).bind fun t281 => (if t281 = true then (redpenlaw16_TokenWhole.l2 kj62 t260 x13_53 t257 (t257.length : Int) (wrap64 (x97_2 + 1))) else (if ((rd_T53 t257 x97_2).f0) = 39 then (redpenlaw16_TokenWhole.l2 kj62 t260 x13_53 t257 (t257.length : Int) (wrap64 (x97_2 + 1))) else (some false)))) else (redpenlaw16_TokenWhole.l2 kj62 t260 x13_53 t257 (t257.length : Int) (wrap64 (x97_2 + 1))))) = some r := H
               have A67 := Aside0.mk A670
               clear A670
               by_cases c68 : t279 = true
               ·subst c68
                have H1 : (if x16_62 = true then ((fold_Letter.f ((rd_T53 t257 x97_2).f0)).bind fun t280 => (if t280 = true then (redpenlaw16_TokenWhole.l2 kj62 t260 x13_53 t257 (t257.length : Int) (wrap64 (x97_2 + 1))) else (if ((rd_T53 t257 x97_2).f0) = 39 then (redpenlaw16_TokenWhole.l2 kj62 t260 x13_53 t257 (t257.length : Int) (wrap64 (x97_2 + 1))) else (some false)))) else (some false)) = some r := by rw [if_pos rfl] at H; exact H
                clear H
                have H := H1
                clear H1
                by_cases c69 : x16_62 = true
                ·subst c69
                 have H1 : ((fold_Letter.f ((rd_T53 t257 x97_2).f0)).bind fun t280 => (if t280 = true then (redpenlaw16_TokenWhole.l2 kj62 t260 x13_53 t257 (t257.length : Int) (wrap64 (x97_2 + 1))) else (if ((rd_T53 t257 x97_2).f0) = 39 then (redpenlaw16_TokenWhole.l2 kj62 t260 x13_53 t257 (t257.length : Int) (wrap64 (x97_2 + 1))) else (some false)))) = some r := by rw [if_pos rfl] at H; exact H
                 clear H
                 have H := H1
                 clear H1
                 replace H := Option.bind_eq_some_iff.mp H
                 obtain ⟨t280, A700, H⟩ := H
                 replace H : (if t280 = true then (redpenlaw16_TokenWhole.l2 kj62 t260 x13_53 t257 (t257.length : Int) (wrap64 (x97_2 + 1))) else (if ((rd_T53 t257 x97_2).f0) = 39 then (redpenlaw16_TokenWhole.l2 kj62 t260 x13_53 t257 (t257.length : Int) (wrap64 (x97_2 + 1))) else (some false))) = some r := H
                 have A70 := Aside0.mk A700
                 clear A700
                 by_cases c71 : t280 = true
                 ·subst c71
                  have H1 : (redpenlaw16_TokenWhole.l2 kj62 t260 x13_53 t257 (t257.length : Int) (wrap64 (x97_2 + 1))) = some r := by rw [if_pos rfl] at H; exact H
                  clear H
                  have H := H1
                  clear H1
                  have H' := Aside0.mk H
                  clear H
                  have hcz72_0 : wc.cell? ⟨gb275, 0, none⟩ = some (.int .i32 ((rd_T53 t257 x97_2).f0)) := (blk_cell BK275.out 0).trans rfl
                  have hcz72_1 : wc.cell? ⟨gb275, 1, none⟩ = some (.int .i64 ((rd_T53 t257 x97_2).f1.f0)) := (blk_cell BK275.out 1).trans rfl
                  have hcz72_2 : wc.cell? ⟨gb275, 2, none⟩ = some (.int .i64 ((rd_T53 t257 x97_2).f1.f1)) := (blk_cell BK275.out 2).trans rfl
                  have hfz72_0 := blk_frozen BK275.out 0
                  have hfz72_1 := blk_frozen BK275.out 1
                  have hfz72_2 := blk_frozen BK275.out 2
                  go_wp2_with (first | (go_at_call 13; (with_reducible refine (fold_Letter.calls ((rd_T53 t257 x97_2).f0) true _ A67.out).mono ?_); rintro e w' ⟨rfl, ⟨nd, rfl⟩⟩; (try first | exact ⟨rfl, _, World.drewN_drewN _ _ _⟩ | exact ⟨rfl, _, Eq.trans (World.drewN_drewN _ _ _) (congrArg (World.drewN _) (Nat.add_assoc _ _ _))⟩)) | (go_at_call 13; (with_reducible refine (fold_Letter.calls ((rd_T53 t257 x97_2).f0) true _ A70.out).mono ?_); rintro e w' ⟨rfl, ⟨nd, rfl⟩⟩; (try first | exact ⟨rfl, _, World.drewN_drewN _ _ _⟩ | exact ⟨rfl, _, Eq.trans (World.drewN_drewN _ _ _) (congrArg (World.drewN _) (Nat.add_assoc _ _ _))⟩)))
                  repeat (go_quiet (first | (go_at_call 13; (with_reducible refine (fold_Letter.calls ((rd_T53 t257 x97_2).f0) true _ A67.out).mono ?_); rintro e w' ⟨rfl, ⟨nd, rfl⟩⟩; (try first | exact ⟨rfl, _, World.drewN_drewN _ _ _⟩ | exact ⟨rfl, _, Eq.trans (World.drewN_drewN _ _ _) (congrArg (World.drewN _) (Nat.add_assoc _ _ _))⟩)) | (go_at_call 13; (with_reducible refine (fold_Letter.calls ((rd_T53 t257 x97_2).f0) true _ A70.out).mono ?_); rintro e w' ⟨rfl, ⟨nd, rfl⟩⟩; (try first | exact ⟨rfl, _, World.drewN_drewN _ _ _⟩ | exact ⟨rfl, _, Eq.trans (World.drewN_drewN _ _ _) (congrArg (World.drewN _) (Nat.add_assoc _ _ _))⟩))); try go_wp2_with (first | (go_at_call 13; (with_reducible refine (fold_Letter.calls ((rd_T53 t257 x97_2).f0) true _ A67.out).mono ?_); rintro e w' ⟨rfl, ⟨nd, rfl⟩⟩; (try first | exact ⟨rfl, _, World.drewN_drewN _ _ _⟩ | exact ⟨rfl, _, Eq.trans (World.drewN_drewN _ _ _) (congrArg (World.drewN _) (Nat.add_assoc _ _ _))⟩)) | (go_at_call 13; (with_reducible refine (fold_Letter.calls ((rd_T53 t257 x97_2).f0) true _ A70.out).mono ?_); rintro e w' ⟨rfl, ⟨nd, rfl⟩⟩; (try first | exact ⟨rfl, _, World.drewN_drewN _ _ _⟩ | exact ⟨rfl, _, Eq.trans (World.drewN_drewN _ _ _) (congrArg (World.drewN _) (Nat.add_assoc _ _ _))⟩))))
                  go_roundg kj62
                  case measure => have := HK1.out; have := HK2.out; have := HJ53.out; have := HJ62.out; omega
                  case rel => exact ⟨(x13_53), (wrap64 (x97_2 + 1)), (by first | rfl | (simp; done) | (simp [*]; done)), (by first | rfl | (simp; done) | (simp [*]; done)), (by first | exact H' | (rw [Nbq31.out]; exact H') | (rw [← Nbq31.out]; exact H')), ⟨by have := HK1.out; have := HK2.out; have := HJ53.out; have := HJ62.out; omega⟩, ⟨by (with_reducible repeat (first | apply Kd.R_alloc | apply Kd.R_drewN | apply Kd.R_drew)); exact HO_7.out⟩, ⟨by (with_reducible repeat (first | apply Kd.R_alloc | apply Kd.R_drewN | apply Kd.R_drew)); exact Kd.R_mono HO_95.out (fun _ hk => trivial)⟩, ⟨by repeat (first | (with_reducible first | exact HB.out | apply below_alloc | apply pw_below_drewN | apply below_drew1 | refine below_set ?_ GE275.out) | exact HB.out)⟩⟩
                 ·replace c71 := Bool.eq_false_iff.mpr c71
                  subst c71
                  have H1 : (if ((rd_T53 t257 x97_2).f0) = 39 then (redpenlaw16_TokenWhole.l2 kj62 t260 x13_53 t257 (t257.length : Int) (wrap64 (x97_2 + 1))) else (some false)) = some r := by rw [if_neg (show ¬ (false = true) by decide)] at H; exact H
                  clear H
                  have H := H1
                  clear H1
                  by_cases c73 : ((rd_T53 t257 x97_2).f0) = 39
                  ·rw [if_pos c73] at H
                   have c73b0 : (((rd_T53 t257 x97_2).f0) == 39) = true := beq_iff_eq.mpr c73
                   have c73b1 : (((rd_T53 t257 x97_2).f0) != 39) = false := bne_eq_false_iff_eq.mpr c73
                   clear c73
                   have H' := Aside0.mk H
                   clear H
                   have hcz74_0 : wc.cell? ⟨gb275, 0, none⟩ = some (.int .i32 ((rd_T53 t257 x97_2).f0)) := (blk_cell BK275.out 0).trans rfl
                   have hcz74_1 : wc.cell? ⟨gb275, 1, none⟩ = some (.int .i64 ((rd_T53 t257 x97_2).f1.f0)) := (blk_cell BK275.out 1).trans rfl
                   have hcz74_2 : wc.cell? ⟨gb275, 2, none⟩ = some (.int .i64 ((rd_T53 t257 x97_2).f1.f1)) := (blk_cell BK275.out 2).trans rfl
                   have hfz74_0 := blk_frozen BK275.out 0
                   have hfz74_1 := blk_frozen BK275.out 1
                   have hfz74_2 := blk_frozen BK275.out 2
                   exact absurd (A70.out.symm.trans A67.out) (by decide)
                  ·rw [if_neg c73] at H
                   have c73b0 : (((rd_T53 t257 x97_2).f0) == 39) = false := beq_eq_false_iff_ne.mpr c73
                   have c73b1 : (((rd_T53 t257 x97_2).f0) != 39) = true := bne_iff_ne.mpr c73
                   have hf_ := Option.some.inj H
                   rw [hr_] at hf_
                   cases hf_
                ·replace c69 := Bool.eq_false_iff.mpr c69
                 subst c69
                 have H1 : (some false) = some r := by rw [if_neg (show ¬ (false = true) by decide)] at H; exact H
                 clear H
                 have H := H1
                 clear H1
                 have hf_ := Option.some.inj H
                 rw [hr_] at hf_
                 cases hf_
               ·replace c68 := Bool.eq_false_iff.mpr c68
                subst c68
                have H1 : (if x16_62 = true then ((fold_Letter.f ((rd_T53 t257 x97_2).f0)).bind fun t281 => (if t281 = true then (redpenlaw16_TokenWhole.l2 kj62 t260 x13_53 t257 (t257.length : Int) (wrap64 (x97_2 + 1))) else (if ((rd_T53 t257 x97_2).f0) = 39 then (redpenlaw16_TokenWhole.l2 kj62 t260 x13_53 t257 (t257.length : Int) (wrap64 (x97_2 + 1))) else (some false)))) else (redpenlaw16_TokenWhole.l2 kj62 t260 x13_53 t257 (t257.length : Int) (wrap64 (x97_2 + 1)))) = some r := by rw [if_neg (show ¬ (false = true) by decide)] at H; exact H
                clear H
                have H := H1
                clear H1
                by_cases c75 : x16_62 = true
                ·subst c75
                 have H1 : ((fold_Letter.f ((rd_T53 t257 x97_2).f0)).bind fun t281 => (if t281 = true then (redpenlaw16_TokenWhole.l2 kj62 t260 x13_53 t257 (t257.length : Int) (wrap64 (x97_2 + 1))) else (if ((rd_T53 t257 x97_2).f0) = 39 then (redpenlaw16_TokenWhole.l2 kj62 t260 x13_53 t257 (t257.length : Int) (wrap64 (x97_2 + 1))) else (some false)))) = some r := by rw [if_pos rfl] at H; exact H
                 clear H
                 have H := H1
                 clear H1
                 replace H := Option.bind_eq_some_iff.mp H
                 obtain ⟨t281, A760, H⟩ := H
                 replace H : (if t281 = true then (redpenlaw16_TokenWhole.l2 kj62 t260 x13_53 t257 (t257.length : Int) (wrap64 (x97_2 + 1))) else (if ((rd_T53 t257 x97_2).f0) = 39 then (redpenlaw16_TokenWhole.l2 kj62 t260 x13_53 t257 (t257.length : Int) (wrap64 (x97_2 + 1))) else (some false))) = some r := H
                 have A76 := Aside0.mk A760
                 clear A760
                 by_cases c77 : t281 = true
                 ·subst c77
                  have H1 : (redpenlaw16_TokenWhole.l2 kj62 t260 x13_53 t257 (t257.length : Int) (wrap64 (x97_2 + 1))) = some r := by rw [if_pos rfl] at H; exact H
                  clear H
                  have H := H1
                  clear H1
                  have H' := Aside0.mk H
                  clear H
                  have hcz78_0 : wc.cell? ⟨gb275, 0, none⟩ = some (.int .i32 ((rd_T53 t257 x97_2).f0)) := (blk_cell BK275.out 0).trans rfl
                  have hcz78_1 : wc.cell? ⟨gb275, 1, none⟩ = some (.int .i64 ((rd_T53 t257 x97_2).f1.f0)) := (blk_cell BK275.out 1).trans rfl
                  have hcz78_2 : wc.cell? ⟨gb275, 2, none⟩ = some (.int .i64 ((rd_T53 t257 x97_2).f1.f1)) := (blk_cell BK275.out 2).trans rfl
                  have hfz78_0 := blk_frozen BK275.out 0
                  have hfz78_1 := blk_frozen BK275.out 1
                  have hfz78_2 := blk_frozen BK275.out 2
                  exact absurd (A67.out.symm.trans A76.out) (by decide)
                 ·replace c77 := Bool.eq_false_iff.mpr c77
                  subst c77
                  have H1 : (if ((rd_T53 t257 x97_2).f0) = 39 then (redpenlaw16_TokenWhole.l2 kj62 t260 x13_53 t257 (t257.length : Int) (wrap64 (x97_2 + 1))) else (some false)) = some r := by rw [if_neg (show ¬ (false = true) by decide)] at H; exact H
                  clear H
                  have H := H1
                  clear H1
                  by_cases c79 : ((rd_T53 t257 x97_2).f0) = 39
                  ·rw [if_pos c79] at H
                   have c79b0 : (((rd_T53 t257 x97_2).f0) == 39) = true := beq_iff_eq.mpr c79
                   have c79b1 : (((rd_T53 t257 x97_2).f0) != 39) = false := bne_eq_false_iff_eq.mpr c79
                   clear c79
                   have H' := Aside0.mk H
                   clear H
                   have hcz80_0 : wc.cell? ⟨gb275, 0, none⟩ = some (.int .i32 ((rd_T53 t257 x97_2).f0)) := (blk_cell BK275.out 0).trans rfl
                   have hcz80_1 : wc.cell? ⟨gb275, 1, none⟩ = some (.int .i64 ((rd_T53 t257 x97_2).f1.f0)) := (blk_cell BK275.out 1).trans rfl
                   have hcz80_2 : wc.cell? ⟨gb275, 2, none⟩ = some (.int .i64 ((rd_T53 t257 x97_2).f1.f1)) := (blk_cell BK275.out 2).trans rfl
                   have hfz80_0 := blk_frozen BK275.out 0
                   have hfz80_1 := blk_frozen BK275.out 1
                   have hfz80_2 := blk_frozen BK275.out 2
                   go_wp2_with (first | (go_at_call 13; (with_reducible refine (fold_Letter.calls ((rd_T53 t257 x97_2).f0) false _ A67.out).mono ?_); rintro e w' ⟨rfl, ⟨nd, rfl⟩⟩; (try first | exact ⟨rfl, _, World.drewN_drewN _ _ _⟩ | exact ⟨rfl, _, Eq.trans (World.drewN_drewN _ _ _) (congrArg (World.drewN _) (Nat.add_assoc _ _ _))⟩)) | (go_at_call 13; (with_reducible refine (fold_Letter.calls ((rd_T53 t257 x97_2).f0) false _ A76.out).mono ?_); rintro e w' ⟨rfl, ⟨nd, rfl⟩⟩; (try first | exact ⟨rfl, _, World.drewN_drewN _ _ _⟩ | exact ⟨rfl, _, Eq.trans (World.drewN_drewN _ _ _) (congrArg (World.drewN _) (Nat.add_assoc _ _ _))⟩)))
                   repeat (go_quiet (first | (go_at_call 13; (with_reducible refine (fold_Letter.calls ((rd_T53 t257 x97_2).f0) false _ A67.out).mono ?_); rintro e w' ⟨rfl, ⟨nd, rfl⟩⟩; (try first | exact ⟨rfl, _, World.drewN_drewN _ _ _⟩ | exact ⟨rfl, _, Eq.trans (World.drewN_drewN _ _ _) (congrArg (World.drewN _) (Nat.add_assoc _ _ _))⟩)) | (go_at_call 13; (with_reducible refine (fold_Letter.calls ((rd_T53 t257 x97_2).f0) false _ A76.out).mono ?_); rintro e w' ⟨rfl, ⟨nd, rfl⟩⟩; (try first | exact ⟨rfl, _, World.drewN_drewN _ _ _⟩ | exact ⟨rfl, _, Eq.trans (World.drewN_drewN _ _ _) (congrArg (World.drewN _) (Nat.add_assoc _ _ _))⟩))); try go_wp2_with (first | (go_at_call 13; (with_reducible refine (fold_Letter.calls ((rd_T53 t257 x97_2).f0) false _ A67.out).mono ?_); rintro e w' ⟨rfl, ⟨nd, rfl⟩⟩; (try first | exact ⟨rfl, _, World.drewN_drewN _ _ _⟩ | exact ⟨rfl, _, Eq.trans (World.drewN_drewN _ _ _) (congrArg (World.drewN _) (Nat.add_assoc _ _ _))⟩)) | (go_at_call 13; (with_reducible refine (fold_Letter.calls ((rd_T53 t257 x97_2).f0) false _ A76.out).mono ?_); rintro e w' ⟨rfl, ⟨nd, rfl⟩⟩; (try first | exact ⟨rfl, _, World.drewN_drewN _ _ _⟩ | exact ⟨rfl, _, Eq.trans (World.drewN_drewN _ _ _) (congrArg (World.drewN _) (Nat.add_assoc _ _ _))⟩))))
                   go_roundg kj62
                   case measure => have := HK1.out; have := HK2.out; have := HJ53.out; have := HJ62.out; omega
                   case rel => exact ⟨(x13_53), (wrap64 (x97_2 + 1)), (by first | rfl | (simp; done) | (simp [*]; done)), (by first | rfl | (simp; done) | (simp [*]; done)), (by first | exact H' | (rw [Nbq31.out]; exact H') | (rw [← Nbq31.out]; exact H')), ⟨by have := HK1.out; have := HK2.out; have := HJ53.out; have := HJ62.out; omega⟩, ⟨by (with_reducible repeat (first | apply Kd.R_alloc | apply Kd.R_drewN | apply Kd.R_drew)); exact HO_7.out⟩, ⟨by (with_reducible repeat (first | apply Kd.R_alloc | apply Kd.R_drewN | apply Kd.R_drew)); exact Kd.R_mono HO_95.out (fun _ hk => trivial)⟩, ⟨by repeat (first | (with_reducible first | exact HB.out | apply below_alloc | apply pw_below_drewN | apply below_drew1 | refine below_set ?_ GE275.out) | exact HB.out)⟩⟩
                  ·rw [if_neg c79] at H
                   have c79b0 : (((rd_T53 t257 x97_2).f0) == 39) = false := beq_eq_false_iff_ne.mpr c79
                   have c79b1 : (((rd_T53 t257 x97_2).f0) != 39) = true := bne_iff_ne.mpr c79
                   have hf_ := Option.some.inj H
                   rw [hr_] at hf_
                   cases hf_
                ·replace c75 := Bool.eq_false_iff.mpr c75
                 subst c75
                 have H1 : (redpenlaw16_TokenWhole.l2 kj62 t260 x13_53 t257 (t257.length : Int) (wrap64 (x97_2 + 1))) = some r := by rw [if_neg (show ¬ (false = true) by decide)] at H; exact H
                 clear H
                 have H := H1
                 clear H1
                 have H' := Aside0.mk H
                 clear H
                 have hcz81_0 : wc.cell? ⟨gb275, 0, none⟩ = some (.int .i32 ((rd_T53 t257 x97_2).f0)) := (blk_cell BK275.out 0).trans rfl
                 have hcz81_1 : wc.cell? ⟨gb275, 1, none⟩ = some (.int .i64 ((rd_T53 t257 x97_2).f1.f0)) := (blk_cell BK275.out 1).trans rfl
                 have hcz81_2 : wc.cell? ⟨gb275, 2, none⟩ = some (.int .i64 ((rd_T53 t257 x97_2).f1.f1)) := (blk_cell BK275.out 2).trans rfl
                 have hfz81_0 := blk_frozen BK275.out 0
                 have hfz81_1 := blk_frozen BK275.out 1
                 have hfz81_2 := blk_frozen BK275.out 2
                 go_wp2_with (first | (go_at_call 13; (with_reducible refine (fold_Letter.calls ((rd_T53 t257 x97_2).f0) false _ A67.out).mono ?_); rintro e w' ⟨rfl, ⟨nd, rfl⟩⟩; (try first | exact ⟨rfl, _, World.drewN_drewN _ _ _⟩ | exact ⟨rfl, _, Eq.trans (World.drewN_drewN _ _ _) (congrArg (World.drewN _) (Nat.add_assoc _ _ _))⟩)))
                 repeat (go_quiet (first | (go_at_call 13; (with_reducible refine (fold_Letter.calls ((rd_T53 t257 x97_2).f0) false _ A67.out).mono ?_); rintro e w' ⟨rfl, ⟨nd, rfl⟩⟩; (try first | exact ⟨rfl, _, World.drewN_drewN _ _ _⟩ | exact ⟨rfl, _, Eq.trans (World.drewN_drewN _ _ _) (congrArg (World.drewN _) (Nat.add_assoc _ _ _))⟩))); try go_wp2_with (first | (go_at_call 13; (with_reducible refine (fold_Letter.calls ((rd_T53 t257 x97_2).f0) false _ A67.out).mono ?_); rintro e w' ⟨rfl, ⟨nd, rfl⟩⟩; (try first | exact ⟨rfl, _, World.drewN_drewN _ _ _⟩ | exact ⟨rfl, _, Eq.trans (World.drewN_drewN _ _ _) (congrArg (World.drewN _) (Nat.add_assoc _ _ _))⟩))))
                 go_roundg kj62
                 case measure => have := HK1.out; have := HK2.out; have := HJ53.out; have := HJ62.out; omega
                 case rel => exact ⟨(x13_53), (wrap64 (x97_2 + 1)), (by first | rfl | (simp; done) | (simp [*]; done)), (by first | rfl | (simp; done) | (simp [*]; done)), (by first | exact H' | (rw [Nbq31.out]; exact H') | (rw [← Nbq31.out]; exact H')), ⟨by have := HK1.out; have := HK2.out; have := HJ53.out; have := HJ62.out; omega⟩, ⟨by (with_reducible repeat (first | apply Kd.R_alloc | apply Kd.R_drewN | apply Kd.R_drew)); exact HO_7.out⟩, ⟨by (with_reducible repeat (first | apply Kd.R_alloc | apply Kd.R_drewN | apply Kd.R_drew)); exact Kd.R_mono HO_95.out (fun _ hk => trivial)⟩, ⟨by repeat (first | (with_reducible first | exact HB.out | apply below_alloc | apply pw_below_drewN | apply below_drew1 | refine below_set ?_ GE275.out) | exact HB.out)⟩⟩
          ·rw [if_neg c53] at H
           exact absurd H (by simp)
         ·rw [if_neg c52] at H
          exact absurd H (by simp)
        ·rw [if_neg c51] at H
         have c51b0 : decide (x97_2 < (t257.length : Int)) = false := decide_eq_false c51
         clear c51
         obtain rfl := Option.some.inj H
         go_wp2
         repeat (go_quiet (fail); try go_wp2)
         go_ret
         exact ⟨by first | rfl | (simp [errW_none, errW_some] <;> rfl) | (simp [*, errW_none, errW_some] <;> rfl), by repeat (first | (with_reducible first | exact HB.out | apply below_alloc | apply pw_below_drewN | apply below_drew1) | exact HB.out)⟩
 ·replace c4 := Bool.eq_false_iff.mpr c4
  subst c4
  have H1 : (some false) = some r := by rw [if_neg (show ¬ (false = true) by decide)] at H; exact H
  clear H
  have H := H1
  clear H1
  have hf_ := Option.some.inj H
  rw [hr_] at hf_
  cases hf_

/-- THE ONE PURE STATEMENT of redpenlaw16_TokenWhole: yours. -/
def redpenlaw16_TokenWhole.Pure : Prop := ∀ (l0 : List Int) (l1 : List Int), l0.length ≤ maxLen → l0.length * 1 ≤ 140737488351232 → (∀ x ∈ l0, (Lit.int .u8 x).wf = true) → l1.length ≤ maxLen → l1.length * 1 ≤ 140737488351232 → (∀ x ∈ l1, (Lit.int .u8 x).wf = true) → ∃ k, redpenlaw16_TokenWhole.f k l0 l1 = some true
theorem redpenlaw16_TokenWhole.walk (P : redpenlaw16_TokenWhole.Pure) (a0 : Option Addr) (len0 cap0 : Nat) (z0 : List Int) (a1 : Option Addr) (len1 cap1 : Nat) (z1 : List Int) (w : World) (w0 : (a0 = none ∧ len0 = 0 ∧ cap0 = 0 ∧ z0 = []) ∨ ∃ x, a0 = some x ∧ len0 ≤ cap0 ∧ cap0 ≤ maxLen ∧ z0.length = cap0 ∧ (∀ i, i < z0.length → w.cell? (x.add i) = some (.int .u8 (z0.getD i 0))) ∧ ∀ n ∈ z0, (Lit.int .u8 n).wf = true) (y0 : len0 * 1 ≤ 140737488351232) (w1 : (a1 = none ∧ len1 = 0 ∧ cap1 = 0 ∧ z1 = []) ∨ ∃ x, a1 = some x ∧ len1 ≤ cap1 ∧ cap1 ≤ maxLen ∧ z1.length = cap1 ∧ (∀ i, i < z1.length → w.cell? (x.add i) = some (.int .u8 (z1.getD i 0))) ∧ ∀ n ∈ z1, (Lit.int .u8 n).wf = true) (y1 : len1 * 1 ≤ 140737488351232) :
  Calls Try.prog 7 #[.slice a0 len0 cap0, .slice a1 len1 cap1] w fun e w' => e = .returned (.bool true) ∧ Below w.heap.size w w' := by
 obtain ⟨l0, rfl, hr0, hm0, hw0, hc0⟩ := ReadsInt.ofRowC w0
 obtain ⟨l1, rfl, hr1, hm1, hw1, hc1⟩ := ReadsInt.ofRowC w1
 obtain ⟨k, h⟩ := P l0 l1 hm0 y0 hw0 hm1 y1 hw1
 refine (redpenlaw16_TokenWhole.calls k _ _ l0 _ _ l1 true w (Kd.C_of_reads (d := (0 : Int)) (h1 := fun _ => rfl) hr0) hc0 (Kd.C_of_reads (d := (0 : Int)) (h1 := fun _ => rfl) hr1) hc1 h rfl).mono ?_
 rintro e w' ⟨rfl, hd⟩
 exact ⟨rfl, hd⟩

end Go.Proofs.Ytmnohlmdckcdeaa.PTokenWhole
