-- x
import Derived.Test.YtkflgnhcfhmkdaaDoorPPragmaReadsx0
import Derived.Test.YtkflgnhcfhmkdaaDoorXSq
import Derived.Test.YtkflgnhcfhmkdaaDoorPPragmaReadsx7
import Derived.Test.YtkflgnhcfhmkdaaDoorPPragmaReadsx11
namespace Go.Proofs.YtkflgnhcfhmkdaaDoor.PPragmaReads
open Go.RowKit Go.Proofs.YtkflgnhcfhmkdaaDoor.X Go.Proofs.YtkflgnhcfhmkdaaDoorW.PrintWords Go.Proofs.YtkflgnhcfhmkdaaDoorW.PrintLast Go.Proofs.YtkflgnhcfhmkdaaDoorW.PrintMore
attribute [local go_sem] max2_int min2_int max_two min_two max_three min_three max_four min_four   -- for this text's walks alone
set_option linter.unusedVariables false
set_option linter.unusedSimpArgs false
mutual
def redpenref15_Read.l0 : Nat → List ByteArray → Bool → Bool → Int → Int → List (S40) → List ByteArray → Option ((List (S40)) × List ByteArray)
 | 0, _, _, _, _, _, _, _ => none
 | k + 1, x4, x5, x6, x7, x8, x335000, x335001 => if x8 < (x4.length : Int) then (if 0 ≤ x8 then (if x5 = true then (redpenref15_Read.j1 k x4 x5 x7 x8 (rdOf ByteArray.empty x4 x8) true x335000 x335001) else (redpenref15_Read.j1 k x4 x5 x7 x8 (rdOf ByteArray.empty x4 x8) x6 x335000 x335001)) else (none)) else (some (x335000, x335001))
def redpenref15_Read.j1 : Nat → List ByteArray → Bool → Int → Int → ByteArray → Bool → List (S40) → List ByteArray → Option ((List (S40)) × List ByteArray)
 | 0, _, _, _, _, _, _, _, _ => none
 | k + 1, x4, x5, x7, x8, x9, x10, x335000, x335001 => redpenref15_Read.l1 k x4 x5 false x7 x8 x9 x10 0 x335000 x335001
def redpenref15_Read.l1 : Nat → List ByteArray → Bool → Bool → Int → Int → ByteArray → Bool → Int → List (S40) → List ByteArray → Option ((List (S40)) × List ByteArray)
 | 0, _, _, _, _, _, _, _, _, _, _ => none
 | k + 1, x4, x5, x6, x7, x8, x9, x10, x11, x335000, x335001 => if (wrap64 (x11 + 6)) ≤ (x9.size : Int) then (if 0 ≤ x11 then (if x11 ≤ (wrap64 (x11 + 6)) then (if (x9.extract (x11 : Int).toNat ((wrap64 (x11 + 6)) : Int).toNat).toList = ([115, 112, 101, 108, 108, 58] : List UInt8) then (redpenref15_Read.l2 k x4 x5 x6 x7 x8 x9 x10 x11 (wrap64 (x11 + 6)) x335000 x335001) else (redpenref15_Read.l1 k x4 x5 x6 x7 x8 x9 x10 (wrap64 (x11 + 1)) x335000 x335001)) else (none)) else (none)) else (if x10 = true then (if x335000.length < 8796093022208 then (redpenref15_Read.l0 k x4 x5 x6 (wrap64 (x7 + (x9.size : Int))) (wrap64 (x8 + 1)) (x335000 ++ [(⟨x7, (x9.size : Int)⟩ : S40)]) x335001) else (none)) else (redpenref15_Read.l0 k x4 x5 x6 (wrap64 (x7 + (x9.size : Int))) (wrap64 (x8 + 1)) x335000 x335001))
def redpenref15_Read.j4 : Nat → List ByteArray → Bool → Bool → Int → Int → ByteArray → Bool → Int → Int → List (S40) → List ByteArray → Option ((List (S40)) × List ByteArray)
 | 0, _, _, _, _, _, _, _, _, _, _, _ => none
 | k + 1, x4, x5, x6, x7, x8, x9, x10, x11, x12, x335000, x335001 => if 0 ≤ (wrap64 (x11 + 6)) then (if (wrap64 (x11 + 6)) ≤ x12 then (if x12 ≤ (x9.size : Int) then (if (x9.extract ((wrap64 (x11 + 6)) : Int).toNat (x12 : Int).toNat).toList = ([111, 102, 102] : List UInt8) then (redpenref15_Read.l1 k x4 true x6 x7 x8 x9 true (wrap64 ((wrap64 (x12 - 1)) + 1)) x335000 x335001) else (if (x9.extract ((wrap64 (x11 + 6)) : Int).toNat (x12 : Int).toNat).toList = ([108, 105, 110, 101] : List UInt8) then (redpenref15_Read.l1 k x4 x5 x6 x7 x8 x9 true (wrap64 ((wrap64 (x12 - 1)) + 1)) x335000 x335001) else (if (x9.extract ((wrap64 (x11 + 6)) : Int).toNat (x12 : Int).toNat).toList = ([111, 110] : List UInt8) then (redpenref15_Read.l1 k x4 false x6 x7 x8 x9 x10 (wrap64 ((wrap64 (x12 - 1)) + 1)) x335000 x335001) else (if (x9.extract ((wrap64 (x11 + 6)) : Int).toNat (x12 : Int).toNat).toList = ([110, 101, 120, 116] : List UInt8) then (redpenref15_Read.l1 k x4 x5 true x7 x8 x9 x10 (wrap64 ((wrap64 (x12 - 1)) + 1)) x335000 x335001) else (if (x9.extract ((wrap64 (x11 + 6)) : Int).toNat (x12 : Int).toNat).toList = ([119, 111, 114, 100, 115] : List UInt8) then (if 0 ≤ x12 then ((redpenref15_words.f k (x9.extract (x12 : Int).toNat x9.size)).bind fun t342 => (if x335001.length + t342.length < 8796093022208 then (redpenref15_Read.l1 k x4 x5 x6 x7 x8 x9 x10 (wrap64 ((wrap64 (x12 - 1)) + 1)) x335000 (x335001 ++ t342)) else (none))) else (none)) else (redpenref15_Read.l1 k x4 x5 x6 x7 x8 x9 x10 (wrap64 ((wrap64 (x12 - 1)) + 1)) x335000 x335001)))))) else (none)) else (none)) else (none)
def redpenref15_Read.l2 : Nat → List ByteArray → Bool → Bool → Int → Int → ByteArray → Bool → Int → Int → List (S40) → List ByteArray → Option ((List (S40)) × List ByteArray)
 | 0, _, _, _, _, _, _, _, _, _, _, _ => none
 | k + 1, x4, x5, x6, x7, x8, x9, x10, x11, x12, x335000, x335001 => if x12 < (x9.size : Int) then (if 0 ≤ x12 then (if (bt x9 x12) ≥ 97 then (if (bt x9 x12) ≤ 122 then (redpenref15_Read.l2 k x4 x5 x6 x7 x8 x9 x10 x11 (wrap64 (x12 + 1)) x335000 x335001) else (redpenref15_Read.j4 k x4 x5 x6 x7 x8 x9 x10 x11 x12 x335000 x335001)) else (redpenref15_Read.j4 k x4 x5 x6 x7 x8 x9 x10 x11 x12 x335000 x335001)) else (none)) else (redpenref15_Read.j4 k x4 x5 x6 x7 x8 x9 x10 x11 x12 x335000 x335001)
end
def redpenref15_Read.f (k : Nat) (l0 : List Int) : Option ((List (S40)) × List ByteArray) := (redpenref01_Lines.f k l0).bind fun t335 => (redpenref15_Read.l0 k t335 false false 0 0 ([] : List (S40)) ([] : List ByteArray))
theorem redpenref15_Read.mono_l : ∀ k, (∀ y0 y1 y2 y3 y4 y5 y6, LeO (redpenref15_Read.l0 k y0 y1 y2 y3 y4 y5 y6) (redpenref15_Read.l0 (k + 1) y0 y1 y2 y3 y4 y5 y6)) ∧ (∀ y0 y1 y2 y3 y4 y5 y6 y7, LeO (redpenref15_Read.j1 k y0 y1 y2 y3 y4 y5 y6 y7) (redpenref15_Read.j1 (k + 1) y0 y1 y2 y3 y4 y5 y6 y7)) ∧ (∀ y0 y1 y2 y3 y4 y5 y6 y7 y8 y9, LeO (redpenref15_Read.l1 k y0 y1 y2 y3 y4 y5 y6 y7 y8 y9) (redpenref15_Read.l1 (k + 1) y0 y1 y2 y3 y4 y5 y6 y7 y8 y9)) ∧ (∀ y0 y1 y2 y3 y4 y5 y6 y7 y8 y9 y10, LeO (redpenref15_Read.j4 k y0 y1 y2 y3 y4 y5 y6 y7 y8 y9 y10) (redpenref15_Read.j4 (k + 1) y0 y1 y2 y3 y4 y5 y6 y7 y8 y9 y10)) ∧ (∀ y0 y1 y2 y3 y4 y5 y6 y7 y8 y9 y10, LeO (redpenref15_Read.l2 k y0 y1 y2 y3 y4 y5 y6 y7 y8 y9 y10) (redpenref15_Read.l2 (k + 1) y0 y1 y2 y3 y4 y5 y6 y7 y8 y9 y10))
 | 0 => ⟨fun _ _ _ _ _ _ _ r h => by simp [redpenref15_Read.l0] at h, fun _ _ _ _ _ _ _ _ r h => by simp [redpenref15_Read.j1] at h, fun _ _ _ _ _ _ _ _ _ _ r h => by simp [redpenref15_Read.l1] at h, fun _ _ _ _ _ _ _ _ _ _ _ r h => by simp [redpenref15_Read.j4] at h, fun _ _ _ _ _ _ _ _ _ _ _ r h => by simp [redpenref15_Read.l2] at h⟩
 | k + 1 => by
  obtain ⟨ih0, ih1, ih2, ih3, ih4⟩ := redpenref15_Read.mono_l k
  refine ⟨?_, ?_, ?_, ?_, ?_⟩
  ·intro y0 y1 y2 y3 y4 y5 y6
   unfold redpenref15_Read.l0
   repeat' first
   | (with_reducible exact ih0 _ _ _ _ _ _ _)
   | (with_reducible exact ih1 _ _ _ _ _ _ _ _)
   | (with_reducible exact ih2 _ _ _ _ _ _ _ _ _ _)
   | (with_reducible exact ih3 _ _ _ _ _ _ _ _ _ _ _)
   | (with_reducible exact ih4 _ _ _ _ _ _ _ _ _ _ _)
   | (with_reducible exact redpenref01_Lines.mono _ _)
   | (with_reducible exact redpenref15_words.mono _ _)
   | (with_reducible exact LeO.refl _)
   | (with_reducible exact LeO.none _)
   | (with_reducible refine LeO.ite ?_ ?_)
   | (with_reducible refine LeO.bind ?_ (fun _ => ?_))
  ·intro y0 y1 y2 y3 y4 y5 y6 y7
   unfold redpenref15_Read.j1
   repeat' first
   | (with_reducible exact ih0 _ _ _ _ _ _ _)
   | (with_reducible exact ih1 _ _ _ _ _ _ _ _)
   | (with_reducible exact ih2 _ _ _ _ _ _ _ _ _ _)
   | (with_reducible exact ih3 _ _ _ _ _ _ _ _ _ _ _)
   | (with_reducible exact ih4 _ _ _ _ _ _ _ _ _ _ _)
   | (with_reducible exact redpenref01_Lines.mono _ _)
   | (with_reducible exact redpenref15_words.mono _ _)
   | (with_reducible exact LeO.refl _)
   | (with_reducible exact LeO.none _)
   | (with_reducible refine LeO.ite ?_ ?_)
   | (with_reducible refine LeO.bind ?_ (fun _ => ?_))
  ·intro y0 y1 y2 y3 y4 y5 y6 y7 y8 y9
   unfold redpenref15_Read.l1
   repeat' first
   | (with_reducible exact ih0 _ _ _ _ _ _ _)
   | (with_reducible exact ih1 _ _ _ _ _ _ _ _)
   | (with_reducible exact ih2 _ _ _ _ _ _ _ _ _ _)
   | (with_reducible exact ih3 _ _ _ _ _ _ _ _ _ _ _)
   | (with_reducible exact ih4 _ _ _ _ _ _ _ _ _ _ _)
   | (with_reducible exact redpenref01_Lines.mono _ _)
   | (with_reducible exact redpenref15_words.mono _ _)
   | (with_reducible exact LeO.refl _)
   | (with_reducible exact LeO.none _)
   | (with_reducible refine LeO.ite ?_ ?_)
   | (with_reducible refine LeO.bind ?_ (fun _ => ?_))
  ·intro y0 y1 y2 y3 y4 y5 y6 y7 y8 y9 y10
   unfold redpenref15_Read.j4
   repeat' first
   | (with_reducible exact ih0 _ _ _ _ _ _ _)
   | (with_reducible exact ih1 _ _ _ _ _ _ _ _)
   | (with_reducible exact ih2 _ _ _ _ _ _ _ _ _ _)
   | (with_reducible exact ih3 _ _ _ _ _ _ _ _ _ _ _)
   | (with_reducible exact ih4 _ _ _ _ _ _ _ _ _ _ _)
   | (with_reducible exact redpenref01_Lines.mono _ _)
   | (with_reducible exact redpenref15_words.mono _ _)
   | (with_reducible exact LeO.refl _)
   | (with_reducible exact LeO.none _)
   | (with_reducible refine LeO.ite ?_ ?_)
   | (with_reducible refine LeO.bind ?_ (fun _ => ?_))
  ·intro y0 y1 y2 y3 y4 y5 y6 y7 y8 y9 y10
   unfold redpenref15_Read.l2
   repeat' first
   | (with_reducible exact ih0 _ _ _ _ _ _ _)
   | (with_reducible exact ih1 _ _ _ _ _ _ _ _)
   | (with_reducible exact ih2 _ _ _ _ _ _ _ _ _ _)
   | (with_reducible exact ih3 _ _ _ _ _ _ _ _ _ _ _)
   | (with_reducible exact ih4 _ _ _ _ _ _ _ _ _ _ _)
   | (with_reducible exact redpenref01_Lines.mono _ _)
   | (with_reducible exact redpenref15_words.mono _ _)
   | (with_reducible exact LeO.refl _)
   | (with_reducible exact LeO.none _)
   | (with_reducible refine LeO.ite ?_ ?_)
   | (with_reducible refine LeO.bind ?_ (fun _ => ?_))
theorem redpenref15_Read.mono : ∀ a0 k, LeO (redpenref15_Read.f k a0) (redpenref15_Read.f (k + 1) a0) := by
 intro a0 k
 obtain ⟨ih0, ih1, ih2, ih3, ih4⟩ := redpenref15_Read.mono_l k
 unfold redpenref15_Read.f
 repeat' first
   | (with_reducible exact ih0 _ _ _ _ _ _ _)
   | (with_reducible exact ih1 _ _ _ _ _ _ _ _)
   | (with_reducible exact ih2 _ _ _ _ _ _ _ _ _ _)
   | (with_reducible exact ih3 _ _ _ _ _ _ _ _ _ _ _)
   | (with_reducible exact ih4 _ _ _ _ _ _ _ _ _ _ _)
   | (with_reducible exact redpenref01_Lines.mono _ _)
   | (with_reducible exact redpenref15_words.mono _ _)
   | (with_reducible exact LeO.refl _)
   | (with_reducible exact LeO.none _)
   | (with_reducible refine LeO.ite ?_ ?_)
   | (with_reducible refine LeO.bind ?_ (fun _ => ?_))
def redpenref15_Read.T29 : Bool × List (List Nat × List Nat) := (true, [([], []), ([0], [0]), ([], []), ([], []), ([2, 3], [2, 3]), ([4], [4]), ([1, 5, 5], [1, 5]), ([0, 1, 2, 3, 4, 5, 6], []), ([7, 6, 6, 0, 1, 2, 3, 4, 5, 6], [6, 7])])
def redpenref15_Read.B29 : List Nat := [0, 1, 0, 0, 12, 28, 63, 127, 255]
theorem redpenref15_Read.tab29 : rtab .any (opsOf Tryd.f14 29) = redpenref15_Read.T29 := by kernel_rfl
theorem redpenref15_Read.bits29 : waitsOk redpenref15_Read.T29.2 redpenref15_Read.B29 = true := by kernel_rfl
set_option maxHeartbeats 8000000 in
set_option maxRecDepth 100000 in
theorem redpenref15_Read.calls (k : Nat) (A0 : Option Addr) (c0 : Nat) (l0 : List Int) (r1 : List (S40)) (r2 : List ByteArray) (w : World) (hr0 : Kd.C (Kd.int .u8) w A0 l0.length l0) (hc0 : l0.length ≤ c0) (h : redpenref15_Read.f k l0 = some (r1, r2)) :
  Calls Tryd.prog 14 #[.slice A0 l0.length c0] w fun e w' => ∃ v0_ v1_ : Value, e = .returned (.agg #[v0_, v1_]) ∧ Kd.R k40 40 w' w.heap.size (fun _ => True) v0_ r1 ∧ Kd.R Kd.string 9 w' w.heap.size (fun _ => True) v1_ r2 ∧ Below w.heap.size w w' := by
 have hu37 := Tryd.underlying37
 have hu40 := Tryd.underlying40
 have HR0 := Aside0.mk hr0
 have HC0 := Aside0.mk hc0
 clear hr0 hc0
 have HB := Aside0.mk (Below.refl w.heap.size w)
 have H : ((redpenref01_Lines.f k l0).bind fun t335 => (redpenref15_Read.l0 k t335 false false 0 0 ([] : List (S40)) ([] : List ByteArray))) = some (r1, r2) := h
 clear h
 replace H := Option.bind_eq_some_iff.mp H
 obtain ⟨t335, A20, H⟩ := H
 replace H : (redpenref15_Read.l0 k t335 false false 0 0 ([] : List (S40)) ([] : List ByteArray)) = some (r1, r2) := H
 have A2 := Aside0.mk A20
 clear A20
 have H' := Aside0.mk H
 clear H
 go_enter Tryd.func14, Tryd.ntmps14
 go_wp2_with (first | ((with_reducible refine gate_dst (N := 2) rfl ?_); refine box_event ?hg (N := 2) ?hd (cs := #[.slice none 0 0, .slice none 0 0]) (t := 37) ?hr ?_; (case hd => rfl); (case hg => rfl); (case hr => first | (go_simp; done) | (go_simp; rfl)); intro gb333 hg w3 hbox hb; have n0_ := Aside0.mk (below_step (by repeat (first | (with_reducible first | exact HB.out | apply below_alloc | apply pw_below_drewN | apply below_drew1) | exact HB.out)) hb); have n1_ := Aside0.mk (hbox); have n2_ := Aside0.mk ((by rw [hg]; exact (below_size (by repeat (first | (with_reducible first | exact HB.out | apply below_alloc | apply pw_below_drewN | apply below_drew1) | exact HB.out))) : w.heap.size ≤ gb333)); have n3_ := Aside0.mk ((by rw [hg]; exact (below_size (by repeat (first | (with_reducible first | exact HB.out | apply below_alloc | apply pw_below_drewN | apply below_drew1) | exact HB.out))) : w.heap.size ≤ gb333)); clear HB; have HB := n0_; have BK333 := n1_; have GW333 := n2_; have GE333 := n3_; clear n0_ n1_ n2_ n3_; clear hb hbox hg) | ((with_reducible refine gate_dst (N := 3) rfl ?_); refine box_event ?hg (N := 3) ?hd (cs := #[.slice none 0 0, .slice none 0 0]) (t := 37) ?hr ?_; (case hd => rfl); (case hg => rfl); (case hr => first | (go_simp; done) | (go_simp; rfl)); intro gb334 hg w4 hbox hb; have n0_ := Aside0.mk (blk_below (g := gb333) (o := .cells #[.slice none 0 0, .slice none 0 0] 37 (0, 0)) (by (with_reducible repeat (first | refine blk_drewN ?_ _ | refine blk_drew ?_ | refine blk_alloc ?_ _)); exact BK333.out) hb); have n1_ := Aside0.mk (below_step (by repeat (first | (with_reducible first | exact HB.out | apply below_alloc | apply pw_below_drewN | apply below_drew1 | refine below_set ?_ GE333.out) | exact HB.out)) hb); have n2_ := Aside0.mk (hbox); have n3_ := Aside0.mk ((by rw [hg]; exact (below_size (by repeat (first | (with_reducible first | exact HB.out | apply below_alloc | apply pw_below_drewN | apply below_drew1 | refine below_set ?_ GE333.out) | exact HB.out))) : w.heap.size ≤ gb334)); have n4_ := Aside0.mk ((by rw [hg]; exact (below_size (by repeat (first | (with_reducible first | exact HB.out | apply below_alloc | apply pw_below_drewN | apply below_drew1 | refine below_set ?_ GE333.out) | exact HB.out))) : w.heap.size ≤ gb334)); have n5_ := Aside0.mk ((by rw [hg]; exact Nat.ne_of_lt (blk_lt (g := gb333) (o := .cells #[.slice none 0 0, .slice none 0 0] 37 (0, 0)) (by (with_reducible repeat (first | refine blk_drewN ?_ _ | refine blk_drew ?_ | refine blk_alloc ?_ _)); exact BK333.out)) : gb333 ≠ gb334)); have n6_ := Aside0.mk ((by rw [hg]; exact Nat.ne_of_gt (blk_lt (g := gb333) (o := .cells #[.slice none 0 0, .slice none 0 0] 37 (0, 0)) (by (with_reducible repeat (first | refine blk_drewN ?_ _ | refine blk_drew ?_ | refine blk_alloc ?_ _)); exact BK333.out)) : gb334 ≠ gb333)); clear BK333; clear HB; have BK333 := n0_; have HB := n1_; have BK334 := n2_; have GW334 := n3_; have GE334 := n4_; have NB333_334 := n5_; have NB334_333 := n6_; clear n0_ n1_ n2_ n3_ n4_ n5_ n6_; clear hb hbox hg) | ((with_reducible refine gate_callee (f := 23) rfl ?_); refine goesL_ (some 14) rfl rfl Tryd.func23 (by kernel_rfl) rfl #[.slice A0 l0.length c0] rfl (by (try simp only [List.map_toArray, List.map_cons, List.map_nil]); first | done | rfl | (simp only [List.length_drop, List.length_take]; rfl)) ?_; (with_reducible refine (redpenref01_Lines.calls k _ _ l0 t335 _ ?side1 ?side2 A2.out).mono ?_); (case side1 => repeat (first | exact (Kd.C_below HR0.out HB.out) | (with_reducible refine Kd.C_alloc ?_ _) | (with_reducible refine Kd.C_drewN ?_ _) | (with_reducible refine Kd.C_drew ?_))); (case side2 => exact HC0.out); rintro e w5 ⟨v336, rfl, ho0, hb⟩; refine ⟨_, rfl, ?_⟩; have n0_ := Aside0.mk (Kd.R_lower ho0 (below_size (by repeat (first | (with_reducible first | exact HB.out | apply below_alloc | apply pw_below_drewN | apply below_drew1 | refine below_set ?_ GE333.out | refine below_set ?_ GE334.out) | exact HB.out)))); have n1_ := Aside0.mk (blk_below (g := gb333) (o := .cells #[.slice none 0 0, .slice none 0 0] 37 (0, 0)) (by (with_reducible repeat (first | refine blk_drewN ?_ _ | refine blk_drew ?_ | refine blk_alloc ?_ _)); exact BK333.out) hb); have n2_ := Aside0.mk (blk_below (g := gb334) (o := .cells #[.slice none 0 0, .slice none 0 0] 37 (0, 0)) (by (with_reducible repeat (first | refine blk_drewN ?_ _ | refine blk_drew ?_ | refine blk_alloc ?_ _)); exact BK334.out) hb); have n3_ := Aside0.mk (below_step (by repeat (first | (with_reducible first | exact HB.out | apply below_alloc | apply pw_below_drewN | apply below_drew1 | refine below_set ?_ GE333.out | refine below_set ?_ GE334.out) | exact HB.out)) hb); clear BK333; clear BK334; clear HB; have HO337 := n0_; have BK333 := n1_; have BK334 := n2_; have HB := n3_; clear n0_ n1_ n2_ n3_; (try clear hb); (try clear hb2); (try clear hk); (try clear hi); (try clear ho0)))
 go_loopg [5, 6, 7, 8] k (fun kq v5 v6 v7 v8 w' => ∃ (x5_1 : Bool) (x6_1 : Bool) (x7_1 : Int) (x8_1 : Int) (x335000_1 : List (S40)) (x335001_1 : List ByteArray) (u335000 : Value) (u335001 : Value), v5 = .bool x5_1 ∧ v6 = .bool x6_1 ∧ v7 = .int .i64 x7_1 ∧ v8 = .int .i64 x8_1 ∧ Aside0 (redpenref15_Read.l0 kq t335 x5_1 x6_1 x7_1 x8_1 x335000_1 x335001_1 = some (r1, r2)) ∧ Aside0 (kq ≤ k) ∧ Aside0 (Kd.R Kd.string 9 w' w.heap.size (fun k_ => some k_ ≠ (u335001 : Value).ownBlock) v336 t335) ∧ Aside0 (Kd.R k40 40 w' w.heap.size (fun _ => True) u335000 x335000_1) ∧ Aside0 (Kd.R Kd.string 9 w' w.heap.size (fun k_ => some k_ ≠ (v336 : Value).ownBlock) u335001 x335001_1) ∧ Aside0 (w'.heap[gb333]? = some (.cells #[(.slice none 0 0), (.slice none 0 0)] 37 (0, 0))) ∧ Aside0 (w'.heap[gb334]? = some (.cells #[u335000, u335001] 37 (0, 0))) ∧ Aside0 (Below w.heap.size w w'))
 case atStart => exact ⟨(false), (false), (0), (0), (([] : List (S40))), (([] : List ByteArray)), (.slice none 0 0), (.slice none 0 0), (by first | rfl | (simp; done) | (simp [*]; done) | (simp [wrap64, wrap32]; done)), (by first | rfl | (simp; done) | (simp [*]; done) | (simp [wrap64, wrap32]; done)), (by first | rfl | (simp; done) | (simp [*]; done) | (simp [wrap64, wrap32]; done)), (by first | rfl | (simp; done) | (simp [*]; done) | (simp [wrap64, wrap32]; done)), H', ⟨Nat.le_refl _⟩, ⟨by (with_reducible repeat (first | apply Kd.R_alloc | apply Kd.R_drewN | apply Kd.R_drew)); exact Kd.R_mono HO337.out (fun _ hk => (by simp [Value.ownBlock]))⟩, ⟨by first | exact Kd.R_nil _ _ _ _ _ | exact Kd.N_nil _ _ _ _ _ | exact Kd.V_nil _ _ _ _ _ | exact Kd.Q_nil _ _ _ _ _ | exact Kd.S_nil _ _ _ _ _⟩, ⟨by first | exact Kd.R_nil _ _ _ _ _ | exact Kd.N_nil _ _ _ _ _ | exact Kd.V_nil _ _ _ _ _ | exact Kd.Q_nil _ _ _ _ _ | exact Kd.S_nil _ _ _ _ _⟩, ⟨by (with_reducible repeat (first | refine blk_drewN ?_ _ | refine blk_drew ?_ | refine blk_alloc ?_ _)); exact BK333.out⟩, ⟨by (with_reducible repeat (first | refine blk_drewN ?_ _ | refine blk_drew ?_ | refine blk_alloc ?_ _)); exact BK334.out⟩, ⟨by repeat (first | (with_reducible first | exact HB.out | apply below_alloc | apply pw_below_drewN | apply below_drew1 | refine below_set ?_ GE333.out | refine below_set ?_ GE334.out) | exact HB.out)⟩⟩
 case round =>
  clear H'
  (try clear c1); (try clear c2); (try clear p2)
  obtain ⟨x5_1, x6_1, x7_1, x8_1, x335000_1, x335001_1, u335000, u335001, rfl, rfl, rfl, rfl, HA, HK1, HO_4, HO_335000, HO_335001, BK333, BK334, HB⟩ := hrel
  cases gk with
  | zero => exact absurd HA.out (by simp [redpenref15_Read.l0])
  | succ k1 =>
   have H := HA.out
   clear HA
   simp only [redpenref15_Read.l0] at H
   by_cases c6 : x8_1 < (t335.length : Int)
   ·rw [if_pos c6] at H
    have c6b0 : decide (x8_1 < (t335.length : Int)) = true := decide_eq_true c6
    clear c6
    by_cases c7 : 0 ≤ x8_1
    ·rw [if_pos c7] at H
     have c7b0 : decide (0 ≤ x8_1) = true := decide_eq_true c7
     clear c7
     have HC8 := Aside0.mk H
     clear H
     obtain ⟨Ao9, co9, eo9⟩ := Kd.R_slice HO_4.out
     subst eo9
     have p338 : 0 ≤ (x8_1 : Int) := of_decide_eq_true (by first | (with_reducible assumption) | assumption)
     have q338 : x8_1 < (t335.length : Int) := of_decide_eq_true (by first | (with_reducible assumption) | assumption)
     obtain ⟨ad338, e338, hx338_0⟩ := Kd.at_string (Kd.R_reads' HO_4.out).2.2 x8_1 p338 q338
     cases e338
     replace p338 := eq_true p338
     replace q338 := eq_true q338
     go_upto_region 9 with (fail)
     go_cut [10] (fun v10 wc => ∃ (kq : Nat) (x10_7 : Bool), v10 = .bool x10_7 ∧ Aside0 (redpenref15_Read.j1 kq t335 x5_1 x7_1 x8_1 (rdOf ByteArray.empty t335 x8_1) x10_7 x335000_1 x335001_1 = some (r1, r2)) ∧ Aside0 (kq ≤ k1) ∧ Aside0 (Kd.R Kd.string 9 wc w.heap.size (fun k_ => some k_ ≠ (u335001 : Value).ownBlock) (.slice (some ad338) t335.length co9) t335) ∧ Aside0 (Kd.R k40 40 wc w.heap.size (fun _ => True) u335000 x335000_1) ∧ Aside0 (Kd.R Kd.string 9 wc w.heap.size (fun k_ => some k_ ≠ ((.slice (some ad338) t335.length co9) : Value).ownBlock) u335001 x335001_1) ∧ Aside0 (wc.heap[gb333]? = some (.cells #[(.slice none 0 0), (.slice none 0 0)] 37 (0, 0))) ∧ Aside0 (wc.heap[gb334]? = some (.cells #[u335000, u335001] 37 (0, 0))) ∧ Aside0 (Below w.heap.size w wc))
     case first =>
      have H := HC8.out
      clear HC8
      by_cases c10 : x5_1 = true
      ·subst c10
       have H1 : (redpenref15_Read.j1 k1 t335 true x7_1 x8_1 (rdOf ByteArray.empty t335 x8_1) true x335000_1 x335001_1) = some (r1, r2) := by rw [if_pos rfl] at H; exact H
       clear H
       have H := H1
       clear H1
       have H' := Aside0.mk H
       clear H
       go_wp2
       go_meet
       case rel => exact ⟨_, (true), (by first | rfl | (simp; done) | (simp [*]; done) | (simp [wrap64, wrap32]; done)), H', ⟨by have := HK1.out; first | omega | exact Nat.le_refl _⟩, ⟨by (with_reducible repeat (first | apply Kd.R_alloc | apply Kd.R_drewN | apply Kd.R_drew)); exact HO_4.out⟩, ⟨by (with_reducible repeat (first | apply Kd.R_alloc | apply Kd.R_drewN | apply Kd.R_drew)); exact HO_335000.out⟩, ⟨by (with_reducible repeat (first | apply Kd.R_alloc | apply Kd.R_drewN | apply Kd.R_drew)); exact HO_335001.out⟩, ⟨by (with_reducible repeat (first | refine blk_drewN ?_ _ | refine blk_drew ?_ | refine blk_alloc ?_ _)); exact BK333.out⟩, ⟨by (with_reducible repeat (first | refine blk_drewN ?_ _ | refine blk_drew ?_ | refine blk_alloc ?_ _)); exact BK334.out⟩, ⟨by repeat (first | (with_reducible first | exact HB.out | apply below_alloc | apply pw_below_drewN | apply below_drew1 | refine below_set ?_ GE333.out | refine below_set ?_ GE334.out) | exact HB.out)⟩⟩
      ·replace c10 := Bool.eq_false_iff.mpr c10
       subst c10
       have H1 : (redpenref15_Read.j1 k1 t335 false x7_1 x8_1 (rdOf ByteArray.empty t335 x8_1) x6_1 x335000_1 x335001_1) = some (r1, r2) := by rw [if_neg (show ¬ (false = true) by decide)] at H; exact H
       clear H
       have H := H1
       clear H1
       have H' := Aside0.mk H
       clear H
       go_wp2
       go_meet
       case rel => exact ⟨_, (x6_1), (by first | rfl | (simp; done) | (simp [*]; done) | (simp [wrap64, wrap32]; done)), H', ⟨by have := HK1.out; first | omega | exact Nat.le_refl _⟩, ⟨by (with_reducible repeat (first | apply Kd.R_alloc | apply Kd.R_drewN | apply Kd.R_drew)); exact HO_4.out⟩, ⟨by (with_reducible repeat (first | apply Kd.R_alloc | apply Kd.R_drewN | apply Kd.R_drew)); exact HO_335000.out⟩, ⟨by (with_reducible repeat (first | apply Kd.R_alloc | apply Kd.R_drewN | apply Kd.R_drew)); exact HO_335001.out⟩, ⟨by (with_reducible repeat (first | refine blk_drewN ?_ _ | refine blk_drew ?_ | refine blk_alloc ?_ _)); exact BK333.out⟩, ⟨by (with_reducible repeat (first | refine blk_drewN ?_ _ | refine blk_drew ?_ | refine blk_alloc ?_ _)); exact BK334.out⟩, ⟨by repeat (first | (with_reducible first | exact HB.out | apply below_alloc | apply pw_below_drewN | apply below_drew1 | refine below_set ?_ GE333.out | refine below_set ?_ GE334.out) | exact HB.out)⟩⟩
     case rest =>
      clear HC8
      (try clear c1); (try clear c2); (try clear p2); (try clear p3); (try clear q3); (try clear hx3); (try clear c6); (try clear c6b0); (try clear c7); (try clear c7b0); (try clear c10); (try clear hx338_0); (try clear p2); (try clear p338); (try clear q338)
      obtain ⟨kq, x10_7, rfl, HA, HJ7, HO_4, HO_335000, HO_335001, BK333, BK334, HB⟩ := hcut
      cases kq with
      | zero => exact absurd HA.out (by simp [redpenref15_Read.j1])
      | succ kj7 =>
       have H := HA.out
       clear HA
       simp only [redpenref15_Read.j1] at H
       have H' := Aside0.mk H
       clear H
       go_wp2
       go_loopg [5, 6, 10, 11] kj7 (fun kq v5 v6 v10 v11 w' => ∃ (x5_3 : Bool) (x6_3 : Bool) (x10_3 : Bool) (x11_3 : Int) (x335001_3 : List ByteArray) (u335001 : Value), v5 = .bool x5_3 ∧ v6 = .bool x6_3 ∧ v10 = .bool x10_3 ∧ v11 = .int .i64 x11_3 ∧ Aside0 (redpenref15_Read.l1 kq t335 x5_3 x6_3 x7_1 x8_1 (rdOf ByteArray.empty t335 x8_1) x10_3 x11_3 x335000_1 x335001_3 = some (r1, r2)) ∧ Aside0 (kq ≤ kj7) ∧ Aside0 (Kd.R Kd.string 9 w' w.heap.size (fun k_ => some k_ ≠ (u335001 : Value).ownBlock) (.slice (some ad338) t335.length co9) t335) ∧ Aside0 (Kd.R k40 40 w' w.heap.size (fun _ => True) u335000 x335000_1) ∧ Aside0 (Kd.R Kd.string 9 w' w.heap.size (fun k_ => some k_ ≠ ((.slice (some ad338) t335.length co9) : Value).ownBlock) u335001 x335001_3) ∧ Aside0 (w'.heap[gb333]? = some (.cells #[(.slice none 0 0), (.slice none 0 0)] 37 (0, 0))) ∧ Aside0 (w'.heap[gb334]? = some (.cells #[u335000, u335001] 37 (0, 0))) ∧ Aside0 (Below w.heap.size w w'))
       case atStart => exact ⟨(x5_1), (false), (x10_7), (0), (x335001_1), (u335001), (by first | rfl | (simp; done) | (simp [*]; done) | (simp [wrap64, wrap32]; done)), (by first | rfl | (simp; done) | (simp [*]; done) | (simp [wrap64, wrap32]; done)), (by first | rfl | (simp; done) | (simp [*]; done) | (simp [wrap64, wrap32]; done)), (by first | rfl | (simp; done) | (simp [*]; done) | (simp [wrap64, wrap32]; done)), H', ⟨Nat.le_refl _⟩, ⟨by (with_reducible repeat (first | apply Kd.R_alloc | apply Kd.R_drewN | apply Kd.R_drew)); exact HO_4.out⟩, ⟨by (with_reducible repeat (first | apply Kd.R_alloc | apply Kd.R_drewN | apply Kd.R_drew)); exact HO_335000.out⟩, ⟨by (with_reducible repeat (first | apply Kd.R_alloc | apply Kd.R_drewN | apply Kd.R_drew)); exact HO_335001.out⟩, ⟨by (with_reducible repeat (first | refine blk_drewN ?_ _ | refine blk_drew ?_ | refine blk_alloc ?_ _)); exact BK333.out⟩, ⟨by (with_reducible repeat (first | refine blk_drewN ?_ _ | refine blk_drew ?_ | refine blk_alloc ?_ _)); exact BK334.out⟩, ⟨by repeat (first | (with_reducible first | exact HB.out | apply below_alloc | apply pw_below_drewN | apply below_drew1 | refine below_set ?_ GE333.out | refine below_set ?_ GE334.out) | exact HB.out)⟩⟩
       case round =>
        clear H'
        (try clear c1); (try clear c2); (try clear p2); (try clear p3); (try clear q3); (try clear hx3); (try clear c6); (try clear c6b0); (try clear c7); (try clear c7b0); (try clear c10); (try clear hx338_0); (try clear p2); (try clear p3); (try clear p338); (try clear q3); (try clear q338)
        obtain ⟨x5_3, x6_3, x10_3, x11_3, x335001_3, u335001, rfl, rfl, rfl, rfl, HA, HK3, HO_4, HO_335000, HO_335001, BK333, BK334, HB⟩ := hrel
        cases gk with
        | zero => exact absurd HA.out (by simp [redpenref15_Read.l1])
        | succ k3 =>
         have H := HA.out
         clear HA
         simp only [redpenref15_Read.l1] at H
         by_cases c11 : (wrap64 (x11_3 + 6)) ≤ ((rdOf ByteArray.empty t335 x8_1).size : Int)
         ·rw [if_pos c11] at H
          have c11b0 : decide ((wrap64 (x11_3 + 6)) ≤ ((rdOf ByteArray.empty t335 x8_1).size : Int)) = true := decide_eq_true c11
          clear c11
          by_cases c12 : 0 ≤ x11_3
          ·rw [if_pos c12] at H
           have c12b0 := eq_true c12
           have c12b1 : decide (0 ≤ x11_3) = true := decide_eq_true c12
           clear c12
           by_cases c13 : x11_3 ≤ (wrap64 (x11_3 + 6))
           ·rw [if_pos c13] at H
            have c13b0 := eq_true c13
            have c13b1 : decide (x11_3 ≤ (wrap64 (x11_3 + 6))) = true := decide_eq_true c13
            have c14b0 := eq_true (of_decide_eq_true (by first | (with_reducible assumption) | assumption) : (wrap64 (x11_3 + 6)) ≤ ((rdOf ByteArray.empty t335 x8_1).size : Int))
            by_cases c15 : ((rdOf ByteArray.empty t335 x8_1).extract (x11_3 : Int).toNat ((wrap64 (x11_3 + 6)) : Int).toNat).toList = ([115, 112, 101, 108, 108, 58] : List UInt8)
            ·rw [if_pos c15] at H
             have c15b0 : (((rdOf ByteArray.empty t335 x8_1).extract (x11_3 : Int).toNat ((wrap64 (x11_3 + 6)) : Int).toNat).toList == ([115, 112, 101, 108, 108, 58] : List UInt8)) = true := beq_iff_eq.mpr c15
             have c15b1 : (((rdOf ByteArray.empty t335 x8_1).extract (x11_3 : Int).toNat ((wrap64 (x11_3 + 6)) : Int).toNat).toList != ([115, 112, 101, 108, 108, 58] : List UInt8)) = false := bne_eq_false_iff_eq.mpr c15
             clear c15
             have HC16 := Aside0.mk H
             clear H
             go_upto_block 4 with (fail)
             go_cut [12] (fun v12 wc => ∃ (kq : Nat) (x12_15 : Int), v12 = .int .i64 x12_15 ∧ Aside0 (redpenref15_Read.j4 kq t335 x5_3 x6_3 x7_1 x8_1 (rdOf ByteArray.empty t335 x8_1) x10_3 x11_3 x12_15 x335000_1 x335001_3 = some (r1, r2)) ∧ Aside0 (kq ≤ k3) ∧ Aside0 (Kd.R Kd.string 9 wc w.heap.size (fun k_ => some k_ ≠ (u335001 : Value).ownBlock) (.slice (some ad338) t335.length co9) t335) ∧ Aside0 (Kd.R k40 40 wc w.heap.size (fun _ => True) u335000 x335000_1) ∧ Aside0 (Kd.R Kd.string 9 wc w.heap.size (fun k_ => some k_ ≠ ((.slice (some ad338) t335.length co9) : Value).ownBlock) u335001 x335001_3) ∧ Aside0 (wc.heap[gb333]? = some (.cells #[(.slice none 0 0), (.slice none 0 0)] 37 (0, 0))) ∧ Aside0 (wc.heap[gb334]? = some (.cells #[u335000, u335001] 37 (0, 0))) ∧ Aside0 (Below w.heap.size w wc))
             case first =>
              have H := HC16.out
              clear HC16
              have H' := Aside0.mk H
              clear H
              go_wp2
              go_loopg [12] k3 (fun kq v12 w' => ∃ (x12_4 : Int), v12 = .int .i64 x12_4 ∧ Aside0 (redpenref15_Read.l2 kq t335 x5_3 x6_3 x7_1 x8_1 (rdOf ByteArray.empty t335 x8_1) x10_3 x11_3 x12_4 x335000_1 x335001_3 = some (r1, r2)) ∧ Aside0 (kq ≤ k3) ∧ Aside0 (Kd.R Kd.string 9 w' w.heap.size (fun k_ => some k_ ≠ (u335001 : Value).ownBlock) (.slice (some ad338) t335.length co9) t335) ∧ Aside0 (Kd.R k40 40 w' w.heap.size (fun _ => True) u335000 x335000_1) ∧ Aside0 (Kd.R Kd.string 9 w' w.heap.size (fun k_ => some k_ ≠ ((.slice (some ad338) t335.length co9) : Value).ownBlock) u335001 x335001_3) ∧ Aside0 (w'.heap[gb333]? = some (.cells #[(.slice none 0 0), (.slice none 0 0)] 37 (0, 0))) ∧ Aside0 (w'.heap[gb334]? = some (.cells #[u335000, u335001] 37 (0, 0))) ∧ Aside0 (Below w.heap.size w w'))
              case atStart => exact ⟨(wrap64 (x11_3 + 6)), (by first | rfl | (simp; done) | (simp [*]; done) | (simp [wrap64, wrap32]; done)), H', ⟨Nat.le_refl _⟩, ⟨by (with_reducible repeat (first | apply Kd.R_alloc | apply Kd.R_drewN | apply Kd.R_drew)); exact HO_4.out⟩, ⟨by (with_reducible repeat (first | apply Kd.R_alloc | apply Kd.R_drewN | apply Kd.R_drew)); exact HO_335000.out⟩, ⟨by (with_reducible repeat (first | apply Kd.R_alloc | apply Kd.R_drewN | apply Kd.R_drew)); exact HO_335001.out⟩, ⟨by (with_reducible repeat (first | refine blk_drewN ?_ _ | refine blk_drew ?_ | refine blk_alloc ?_ _)); exact BK333.out⟩, ⟨by (with_reducible repeat (first | refine blk_drewN ?_ _ | refine blk_drew ?_ | refine blk_alloc ?_ _)); exact BK334.out⟩, ⟨by repeat (first | (with_reducible first | exact HB.out | apply below_alloc | apply pw_below_drewN | apply below_drew1 | refine below_set ?_ GE333.out | refine below_set ?_ GE334.out) | exact HB.out)⟩⟩
              case round =>
               clear H'
               (try clear c1); (try clear c2); (try clear p2); (try clear p3); (try clear q3); (try clear hx3); (try clear c6); (try clear c6b0); (try clear p6); (try clear c7); (try clear c7b0); (try clear c10); (try clear c11); (try clear c11b0); (try clear c12); (try clear c12b0); (try clear c12b1); (try clear c13); (try clear c13b0); (try clear c13b1); (try clear c14); (try clear c14b0); (try clear c15); (try clear c15b0); (try clear c15b1); (try clear hx338_0); (try clear p2); (try clear p3); (try clear p338); (try clear q3); (try clear q338)
               obtain ⟨x12_4, rfl, HA, HK4, HO_4, HO_335000, HO_335001, BK333, BK334, HB⟩ := hrel
               cases gk with
               | zero => exact absurd HA.out (by simp [redpenref15_Read.l2])
               | succ k4 =>
                have H := HA.out
                clear HA
                simp only [redpenref15_Read.l2] at H
                by_cases c17 : x12_4 < ((rdOf ByteArray.empty t335 x8_1).size : Int)
                ·rw [if_pos c17] at H
                 have c17b0 : decide (x12_4 < ((rdOf ByteArray.empty t335 x8_1).size : Int)) = true := decide_eq_true c17
                 clear c17
                 (first | rw [c17b0] | (simp only [i64_w, i32_w]; rw [c17b0]) | skip)
                 by_cases c18 : 0 ≤ x12_4
                 ·rw [if_pos c18] at H
                  have c18b0 : decide (0 ≤ x12_4) = true := decide_eq_true c18
                  clear c18
                  by_cases c20 : (bt (rdOf ByteArray.empty t335 x8_1) x12_4) ≥ 97
                  ·rw [if_pos c20] at H
                   have c20b0 : decide (97 ≤ (bt (rdOf ByteArray.empty t335 x8_1) x12_4)) = true := decide_eq_true c20
                   clear c20
                   by_cases c22 : (bt (rdOf ByteArray.empty t335 x8_1) x12_4) ≤ 122
                   ·rw [if_pos c22] at H
                    have c22b0 : decide ((bt (rdOf ByteArray.empty t335 x8_1) x12_4) ≤ 122) = true := decide_eq_true c22
                    clear c22
                    have H' := Aside0.mk H
                    clear H
                    have p19 : 0 ≤ (x12_4 : Int) := of_decide_eq_true (by first | (with_reducible assumption) | assumption)
                    have q19 : x12_4 < ((rdOf ByteArray.empty t335 x8_1).size : Int) := of_decide_eq_true (by first | (with_reducible assumption) | assumption)
                    have hx19 := bt_at (rdOf ByteArray.empty t335 x8_1) x12_4
                    replace p19 := eq_true p19
                    replace q19 := eq_true q19
                    have p21 : 0 ≤ (x12_4 : Int) := of_decide_eq_true (by first | (with_reducible assumption) | assumption)
                    have q21 : x12_4 < ((rdOf ByteArray.empty t335 x8_1).size : Int) := of_decide_eq_true (by first | (with_reducible assumption) | assumption)
                    have hx21 := bt_at (rdOf ByteArray.empty t335 x8_1) x12_4
                    replace p21 := eq_true p21
                    replace q21 := eq_true q21
                    go_wp2
                    go_roundg k4
                    case measure => have := HK1.out; have := HJ7.out; have := HK3.out; have := HK4.out; omega
                    case rel => exact ⟨(wrap64 (x12_4 + 1)), (by first | rfl | (simp; done) | (simp [*]; done) | (simp [wrap64, wrap32]; done)), H', ⟨by have := HK1.out; have := HJ7.out; have := HK3.out; have := HK4.out; omega⟩, ⟨by (with_reducible repeat (first | apply Kd.R_alloc | apply Kd.R_drewN | apply Kd.R_drew)); exact HO_4.out⟩, ⟨by (with_reducible repeat (first | apply Kd.R_alloc | apply Kd.R_drewN | apply Kd.R_drew)); exact HO_335000.out⟩, ⟨by (with_reducible repeat (first | apply Kd.R_alloc | apply Kd.R_drewN | apply Kd.R_drew)); exact HO_335001.out⟩, ⟨by (with_reducible repeat (first | refine blk_drewN ?_ _ | refine blk_drew ?_ | refine blk_alloc ?_ _)); exact BK333.out⟩, ⟨by (with_reducible repeat (first | refine blk_drewN ?_ _ | refine blk_drew ?_ | refine blk_alloc ?_ _)); exact BK334.out⟩, ⟨by repeat (first | (with_reducible first | exact HB.out | apply below_alloc | apply pw_below_drewN | apply below_drew1 | refine below_set ?_ GE333.out | refine below_set ?_ GE334.out) | exact HB.out)⟩⟩
                   ·rw [if_neg c22] at H
                    have c22b0 : decide ((bt (rdOf ByteArray.empty t335 x8_1) x12_4) ≤ 122) = false := decide_eq_false c22
                    clear c22
                    have H' := Aside0.mk H
                    clear H
                    have p19 : 0 ≤ (x12_4 : Int) := of_decide_eq_true (by first | (with_reducible assumption) | assumption)
                    have q19 : x12_4 < ((rdOf ByteArray.empty t335 x8_1).size : Int) := of_decide_eq_true (by first | (with_reducible assumption) | assumption)
                    have hx19 := bt_at (rdOf ByteArray.empty t335 x8_1) x12_4
                    replace p19 := eq_true p19
                    replace q19 := eq_true q19
                    have p21 : 0 ≤ (x12_4 : Int) := of_decide_eq_true (by first | (with_reducible assumption) | assumption)
                    have q21 : x12_4 < ((rdOf ByteArray.empty t335 x8_1).size : Int) := of_decide_eq_true (by first | (with_reducible assumption) | assumption)
                    have hx21 := bt_at (rdOf ByteArray.empty t335 x8_1) x12_4
                    replace p21 := eq_true p21
                    replace q21 := eq_true q21
                    go_wp2
                    go_meet
                    case rel => exact ⟨_, (x12_4), (by first | rfl | (simp; done) | (simp [*]; done) | (simp [wrap64, wrap32]; done)), H', ⟨by have := HK1.out; have := HJ7.out; have := HK3.out; have := HK4.out; first | omega | exact Nat.le_refl _⟩, ⟨by (with_reducible repeat (first | apply Kd.R_alloc | apply Kd.R_drewN | apply Kd.R_drew)); exact HO_4.out⟩, ⟨by (with_reducible repeat (first | apply Kd.R_alloc | apply Kd.R_drewN | apply Kd.R_drew)); exact HO_335000.out⟩, ⟨by (with_reducible repeat (first | apply Kd.R_alloc | apply Kd.R_drewN | apply Kd.R_drew)); exact HO_335001.out⟩, ⟨by (with_reducible repeat (first | refine blk_drewN ?_ _ | refine blk_drew ?_ | refine blk_alloc ?_ _)); exact BK333.out⟩, ⟨by (with_reducible repeat (first | refine blk_drewN ?_ _ | refine blk_drew ?_ | refine blk_alloc ?_ _)); exact BK334.out⟩, ⟨by repeat (first | (with_reducible first | exact HB.out | apply below_alloc | apply pw_below_drewN | apply below_drew1 | refine below_set ?_ GE333.out | refine below_set ?_ GE334.out) | exact HB.out)⟩⟩
                  ·rw [if_neg c20] at H
                   have c20b0 : decide (97 ≤ (bt (rdOf ByteArray.empty t335 x8_1) x12_4)) = false := decide_eq_false c20
                   clear c20
                   have H' := Aside0.mk H
                   clear H
                   have p19 : 0 ≤ (x12_4 : Int) := of_decide_eq_true (by first | (with_reducible assumption) | assumption)
                   have q19 : x12_4 < ((rdOf ByteArray.empty t335 x8_1).size : Int) := of_decide_eq_true (by first | (with_reducible assumption) | assumption)
                   have hx19 := bt_at (rdOf ByteArray.empty t335 x8_1) x12_4
                   replace p19 := eq_true p19
                   replace q19 := eq_true q19
                   go_wp2
                   go_meet
                   case rel => exact ⟨_, (x12_4), (by first | rfl | (simp; done) | (simp [*]; done) | (simp [wrap64, wrap32]; done)), H', ⟨by have := HK1.out; have := HJ7.out; have := HK3.out; have := HK4.out; first | omega | exact Nat.le_refl _⟩, ⟨by (with_reducible repeat (first | apply Kd.R_alloc | apply Kd.R_drewN | apply Kd.R_drew)); exact HO_4.out⟩, ⟨by (with_reducible repeat (first | apply Kd.R_alloc | apply Kd.R_drewN | apply Kd.R_drew)); exact HO_335000.out⟩, ⟨by (with_reducible repeat (first | apply Kd.R_alloc | apply Kd.R_drewN | apply Kd.R_drew)); exact HO_335001.out⟩, ⟨by (with_reducible repeat (first | refine blk_drewN ?_ _ | refine blk_drew ?_ | refine blk_alloc ?_ _)); exact BK333.out⟩, ⟨by (with_reducible repeat (first | refine blk_drewN ?_ _ | refine blk_drew ?_ | refine blk_alloc ?_ _)); exact BK334.out⟩, ⟨by repeat (first | (with_reducible first | exact HB.out | apply below_alloc | apply pw_below_drewN | apply below_drew1 | refine below_set ?_ GE333.out | refine below_set ?_ GE334.out) | exact HB.out)⟩⟩
                 ·rw [if_neg c18] at H
                  exact absurd H (by simp)
                ·rw [if_neg c17] at H
                 have c17b0 : decide (x12_4 < ((rdOf ByteArray.empty t335 x8_1).size : Int)) = false := decide_eq_false c17
                 clear c17
                 (first | rw [c17b0] | (simp only [i64_w, i32_w]; rw [c17b0]) | skip)
                 have H' := Aside0.mk H
                 clear H
                 go_wp2
                 go_meet
                 case rel => exact ⟨_, (x12_4), (by first | rfl | (simp; done) | (simp [*]; done) | (simp [wrap64, wrap32]; done)), H', ⟨by have := HK1.out; have := HJ7.out; have := HK3.out; have := HK4.out; first | omega | exact Nat.le_refl _⟩, ⟨by (with_reducible repeat (first | apply Kd.R_alloc | apply Kd.R_drewN | apply Kd.R_drew)); exact HO_4.out⟩, ⟨by (with_reducible repeat (first | apply Kd.R_alloc | apply Kd.R_drewN | apply Kd.R_drew)); exact HO_335000.out⟩, ⟨by (with_reducible repeat (first | apply Kd.R_alloc | apply Kd.R_drewN | apply Kd.R_drew)); exact HO_335001.out⟩, ⟨by (with_reducible repeat (first | refine blk_drewN ?_ _ | refine blk_drew ?_ | refine blk_alloc ?_ _)); exact BK333.out⟩, ⟨by (with_reducible repeat (first | refine blk_drewN ?_ _ | refine blk_drew ?_ | refine blk_alloc ?_ _)); exact BK334.out⟩, ⟨by repeat (first | (with_reducible first | exact HB.out | apply below_alloc | apply pw_below_drewN | apply below_drew1 | refine below_set ?_ GE333.out | refine below_set ?_ GE334.out) | exact HB.out)⟩⟩
             case rest =>
              clear HC16
              (try clear c1); (try clear p1); (try clear q1); (try clear hx1); (try clear c2); (try clear p2); (try clear q2); (try clear hx2); (try clear p3); (try clear q3); (try clear hx3); (try clear c6); (try clear c6b0); (try clear p6); (try clear c7); (try clear c7b0); (try clear c10); (try clear c11); (try clear c11b0); (try clear c12); (try clear c12b0); (try clear c12b1); (try clear c13); (try clear c13b0); (try clear c13b1); (try clear c14); (try clear c14b0); (try clear c15); (try clear c15b0); (try clear c15b1); (try clear c17); (try clear c17b0); (try clear c18); (try clear c18b0); (try clear p19); (try clear q19); (try clear hx19); (try clear c20); (try clear c20b0); (try clear p21); (try clear q21); (try clear hx21); (try clear c22); (try clear c22b0); (try clear hx338_0); (try clear p19); (try clear p2); (try clear p21); (try clear p3); (try clear p338); (try clear p6); (try clear q19); (try clear q21); (try clear q3); (try clear q338)
              obtain ⟨kq, x12_15, rfl, HA, HJ15, HO_4, HO_335000, HO_335001, BK333, BK334, HB⟩ := hcut
              cases kq with
              | zero => exact absurd HA.out (by simp [redpenref15_Read.j4])
              | succ kj15 =>
               have H := HA.out
               clear HA
               simp only [redpenref15_Read.j4] at H
               obtain ⟨ji23, hji23⟩ : ∃ j_ : Int, (wrap64 (x11_3 + 6)) = j_ := ⟨_, rfl⟩
               replace H : (if 0 ≤ (ji23) then (if (ji23) ≤ x12_15 then (if x12_15 ≤ ((rdOf ByteArray.empty t335 x8_1).size : Int) then (if ((rdOf ByteArray.empty t335 x8_1).extract ((ji23) : Int).toNat (x12_15 : Int).toNat).toList = ([111, 102, 102] : List UInt8) then (redpenref15_Read.l1 kj15 t335 true x6_3 x7_1 x8_1 (rdOf ByteArray.empty t335 x8_1) true (wrap64 ((wrap64 (x12_15 - 1)) + 1)) x335000_1 x335001_3) else (if ((rdOf ByteArray.empty t335 x8_1).extract ((ji23) : Int).toNat (x12_15 : Int).toNat).toList = ([108, 105, 110, 101] : List UInt8) then (redpenref15_Read.l1 kj15 t335 x5_3 x6_3 x7_1 x8_1 (rdOf ByteArray.empty t335 x8_1) true (wrap64 ((wrap64 (x12_15 - 1)) + 1)) x335000_1 x335001_3) else (if ((rdOf ByteArray.empty t335 x8_1).extract ((ji23) : Int).toNat (x12_15 : Int).toNat).toList = ([111, 110] : List UInt8) then (redpenref15_Read.l1 kj15 t335 false x6_3 x7_1 x8_1 (rdOf ByteArray.empty t335 x8_1) x10_3 (wrap64 ((wrap64 (x12_15 - 1)) + 1)) x335000_1 x335001_3) else (if ((rdOf ByteArray.empty t335 x8_1).extract ((ji23) : Int).toNat (x12_15 : Int).toNat).toList = ([110, 101, 120, 116] : List UInt8) then (redpenref15_Read.l1 kj15 t335 x5_3 true x7_1 x8_1 (rdOf ByteArray.empty t335 x8_1) x10_3 (wrap64 ((wrap64 (x12_15 - 1)) + 1)) x335000_1 x335001_3) else (if ((rdOf ByteArray.empty t335 x8_1).extract ((ji23) : Int).toNat (x12_15 : Int).toNat).toList = ([119, 111, 114, 100, 115] : List UInt8) then (if 0 ≤ x12_15 then ((redpenref15_words.f kj15 ((rdOf ByteArray.empty t335 x8_1).extract (x12_15 : Int).toNat (rdOf ByteArray.empty t335 x8_1).size)).bind fun t342 => (if x335001_3.length + t342.length < 8796093022208 then (redpenref15_Read.l1 kj15 t335 x5_3 x6_3 x7_1 x8_1 (rdOf ByteArray.empty t335 x8_1) x10_3 (wrap64 ((wrap64 (x12_15 - 1)) + 1)) x335000_1 (x335001_3 ++ t342)) else (none))) else (none)) else (redpenref15_Read.l1 kj15 t335 x5_3 x6_3 x7_1 x8_1 (rdOf ByteArray.empty t335 x8_1) x10_3 (wrap64 ((wrap64 (x12_15 - 1)) + 1)) x335000_1 x335001_3)))))) else (none)) else (none)) else (none)) = some (r1, r2) := by first | (rw [hji23] at H; exact H) | (simp only [hji23] at H ⊢; exact H)
               (try rw [hji23] at c11b0)
               (try rw [hji23] at c13b0)
               (try rw [hji23] at c13b1)
               (try rw [hji23] at c13)
               (try rw [hji23] at c15b0)
               (try rw [hji23] at c15b1)
               have hji23w : (IntKind.i64.wrap (x11_3 + 6)) = ji23 := (i64_w _).trans hji23
               by_cases c24 : 0 ≤ (ji23)
               ·rw [if_pos c24] at H
                have c24b0 := eq_true c24
                have c24b1 : decide (0 ≤ (ji23)) = true := decide_eq_true c24
                clear c24
                by_cases c25 : (ji23) ≤ x12_15
                ·rw [if_pos c25] at H
                 have c25b0 := eq_true c25
                 have c25b1 : decide ((ji23) ≤ x12_15) = true := decide_eq_true c25
                 clear c25
                 by_cases c26 : x12_15 ≤ ((rdOf ByteArray.empty t335 x8_1).size : Int)
                 ·rw [if_pos c26] at H
                  have c26b0 := eq_true c26
                  have c26b1 : decide (x12_15 ≤ ((rdOf ByteArray.empty t335 x8_1).size : Int)) = true := decide_eq_true c26
                  clear c26
                  by_cases c27 : ((rdOf ByteArray.empty t335 x8_1).extract ((ji23) : Int).toNat (x12_15 : Int).toNat).toList = ([111, 102, 102] : List UInt8)
                  ·rw [if_pos c27] at H
                   have c27b0 : (((rdOf ByteArray.empty t335 x8_1).extract ((ji23) : Int).toNat (x12_15 : Int).toNat).toList == ([111, 102, 102] : List UInt8)) = true := beq_iff_eq.mpr c27
                   have c27b1 : (((rdOf ByteArray.empty t335 x8_1).extract ((ji23) : Int).toNat (x12_15 : Int).toNat).toList != ([111, 102, 102] : List UInt8)) = false := bne_eq_false_iff_eq.mpr c27
                   clear c27
                   have H' := Aside0.mk H
                   clear H
                   go_wp2
                   go_roundg kj15
                   case measure => have := HK1.out; have := HJ7.out; have := HK3.out; have := HJ15.out; omega
                   case rel => exact ⟨(true), (x6_3), (true), (wrap64 ((wrap64 (x12_15 - 1)) + 1)), (x335001_3), (u335001), (by first | rfl | (simp; done) | (simp [*]; done) | (simp [wrap64, wrap32]; done)), (by first | rfl | (simp; done) | (simp [*]; done) | (simp [wrap64, wrap32]; done)), (by first | rfl | (simp; done) | (simp [*]; done) | (simp [wrap64, wrap32]; done)), (by first | rfl | (simp; done) | (simp [*]; done) | (simp [wrap64, wrap32]; done)), H', ⟨by have := HK1.out; have := HJ7.out; have := HK3.out; have := HJ15.out; omega⟩, ⟨by (with_reducible repeat (first | apply Kd.R_alloc | apply Kd.R_drewN | apply Kd.R_drew)); exact HO_4.out⟩, ⟨by (with_reducible repeat (first | apply Kd.R_alloc | apply Kd.R_drewN | apply Kd.R_drew)); exact HO_335000.out⟩, ⟨by (with_reducible repeat (first | apply Kd.R_alloc | apply Kd.R_drewN | apply Kd.R_drew)); exact HO_335001.out⟩, ⟨by (with_reducible repeat (first | refine blk_drewN ?_ _ | refine blk_drew ?_ | refine blk_alloc ?_ _)); exact BK333.out⟩, ⟨by (with_reducible repeat (first | refine blk_drewN ?_ _ | refine blk_drew ?_ | refine blk_alloc ?_ _)); exact BK334.out⟩, ⟨by repeat (first | (with_reducible first | exact HB.out | apply below_alloc | apply pw_below_drewN | apply below_drew1 | refine below_set ?_ GE333.out | refine below_set ?_ GE334.out) | exact HB.out)⟩⟩
                  ·rw [if_neg c27] at H
                   have c27b0 : (((rdOf ByteArray.empty t335 x8_1).extract ((ji23) : Int).toNat (x12_15 : Int).toNat).toList == ([111, 102, 102] : List UInt8)) = false := beq_eq_false_iff_ne.mpr c27
                   have c27b1 : (((rdOf ByteArray.empty t335 x8_1).extract ((ji23) : Int).toNat (x12_15 : Int).toNat).toList != ([111, 102, 102] : List UInt8)) = true := bne_iff_ne.mpr c27
                   by_cases c28 : ((rdOf ByteArray.empty t335 x8_1).extract ((ji23) : Int).toNat (x12_15 : Int).toNat).toList = ([108, 105, 110, 101] : List UInt8)
                   ·rw [if_pos c28] at H
                    have c28b0 : (((rdOf ByteArray.empty t335 x8_1).extract ((ji23) : Int).toNat (x12_15 : Int).toNat).toList == ([108, 105, 110, 101] : List UInt8)) = true := beq_iff_eq.mpr c28
                    have c28b1 : (((rdOf ByteArray.empty t335 x8_1).extract ((ji23) : Int).toNat (x12_15 : Int).toNat).toList != ([108, 105, 110, 101] : List UInt8)) = false := bne_eq_false_iff_eq.mpr c28
                    clear c28
                    have H' := Aside0.mk H
                    clear H
                    go_wp2
                    go_roundg kj15
                    case measure => have := HK1.out; have := HJ7.out; have := HK3.out; have := HJ15.out; omega
                    case rel => exact ⟨(x5_3), (x6_3), (true), (wrap64 ((wrap64 (x12_15 - 1)) + 1)), (x335001_3), (u335001), (by first | rfl | (simp; done) | (simp [*]; done) | (simp [wrap64, wrap32]; done)), (by first | rfl | (simp; done) | (simp [*]; done) | (simp [wrap64, wrap32]; done)), (by first | rfl | (simp; done) | (simp [*]; done) | (simp [wrap64, wrap32]; done)), (by first | rfl | (simp; done) | (simp [*]; done) | (simp [wrap64, wrap32]; done)), H', ⟨by have := HK1.out; have := HJ7.out; have := HK3.out; have := HJ15.out; omega⟩, ⟨by (with_reducible repeat (first | apply Kd.R_alloc | apply Kd.R_drewN | apply Kd.R_drew)); exact HO_4.out⟩, ⟨by (with_reducible repeat (first | apply Kd.R_alloc | apply Kd.R_drewN | apply Kd.R_drew)); exact HO_335000.out⟩, ⟨by (with_reducible repeat (first | apply Kd.R_alloc | apply Kd.R_drewN | apply Kd.R_drew)); exact HO_335001.out⟩, ⟨by (with_reducible repeat (first | refine blk_drewN ?_ _ | refine blk_drew ?_ | refine blk_alloc ?_ _)); exact BK333.out⟩, ⟨by (with_reducible repeat (first | refine blk_drewN ?_ _ | refine blk_drew ?_ | refine blk_alloc ?_ _)); exact BK334.out⟩, ⟨by repeat (first | (with_reducible first | exact HB.out | apply below_alloc | apply pw_below_drewN | apply below_drew1 | refine below_set ?_ GE333.out | refine below_set ?_ GE334.out) | exact HB.out)⟩⟩
                   ·rw [if_neg c28] at H
                    have c28b0 : (((rdOf ByteArray.empty t335 x8_1).extract ((ji23) : Int).toNat (x12_15 : Int).toNat).toList == ([108, 105, 110, 101] : List UInt8)) = false := beq_eq_false_iff_ne.mpr c28
                    have c28b1 : (((rdOf ByteArray.empty t335 x8_1).extract ((ji23) : Int).toNat (x12_15 : Int).toNat).toList != ([108, 105, 110, 101] : List UInt8)) = true := bne_iff_ne.mpr c28
                    by_cases c29 : ((rdOf ByteArray.empty t335 x8_1).extract ((ji23) : Int).toNat (x12_15 : Int).toNat).toList = ([111, 110] : List UInt8)
                    ·rw [if_pos c29] at H
                     have c29b0 : (((rdOf ByteArray.empty t335 x8_1).extract ((ji23) : Int).toNat (x12_15 : Int).toNat).toList == ([111, 110] : List UInt8)) = true := beq_iff_eq.mpr c29
                     have c29b1 : (((rdOf ByteArray.empty t335 x8_1).extract ((ji23) : Int).toNat (x12_15 : Int).toNat).toList != ([111, 110] : List UInt8)) = false := bne_eq_false_iff_eq.mpr c29
                     clear c29
                     have H' := Aside0.mk H
                     clear H
                     go_wp2
                     go_roundg kj15
                     case measure => have := HK1.out; have := HJ7.out; have := HK3.out; have := HJ15.out; omega
                     case rel => exact ⟨(false), (x6_3), (x10_3), (wrap64 ((wrap64 (x12_15 - 1)) + 1)), (x335001_3), (u335001), (by first | rfl | (simp; done) | (simp [*]; done) | (simp [wrap64, wrap32]; done)), (by first | rfl | (simp; done) | (simp [*]; done) | (simp [wrap64, wrap32]; done)), (by first | rfl | (simp; done) | (simp [*]; done) | (simp [wrap64, wrap32]; done)), (by first | rfl | (simp; done) | (simp [*]; done) | (simp [wrap64, wrap32]; done)), H', ⟨by have := HK1.out; have := HJ7.out; have := HK3.out; have := HJ15.out; omega⟩, ⟨by (with_reducible repeat (first | apply Kd.R_alloc | apply Kd.R_drewN | apply Kd.R_drew)); exact HO_4.out⟩, ⟨by (with_reducible repeat (first | apply Kd.R_alloc | apply Kd.R_drewN | apply Kd.R_drew)); exact HO_335000.out⟩, ⟨by (with_reducible repeat (first | apply Kd.R_alloc | apply Kd.R_drewN | apply Kd.R_drew)); exact HO_335001.out⟩, ⟨by (with_reducible repeat (first | refine blk_drewN ?_ _ | refine blk_drew ?_ | refine blk_alloc ?_ _)); exact BK333.out⟩, ⟨by (with_reducible repeat (first | refine blk_drewN ?_ _ | refine blk_drew ?_ | refine blk_alloc ?_ _)); exact BK334.out⟩, ⟨by repeat (first | (with_reducible first | exact HB.out | apply below_alloc | apply pw_below_drewN | apply below_drew1 | refine below_set ?_ GE333.out | refine below_set ?_ GE334.out) | exact HB.out)⟩⟩
                    ·rw [if_neg c29] at H
                     have c29b0 : (((rdOf ByteArray.empty t335 x8_1).extract ((ji23) : Int).toNat (x12_15 : Int).toNat).toList == ([111, 110] : List UInt8)) = false := beq_eq_false_iff_ne.mpr c29
                     have c29b1 : (((rdOf ByteArray.empty t335 x8_1).extract ((ji23) : Int).toNat (x12_15 : Int).toNat).toList != ([111, 110] : List UInt8)) = true := bne_iff_ne.mpr c29
                     by_cases c30 : ((rdOf ByteArray.empty t335 x8_1).extract ((ji23) : Int).toNat (x12_15 : Int).toNat).toList = ([110, 101, 120, 116] : List UInt8)
                     ·rw [if_pos c30] at H
                      have c30b0 : (((rdOf ByteArray.empty t335 x8_1).extract ((ji23) : Int).toNat (x12_15 : Int).toNat).toList == ([110, 101, 120, 116] : List UInt8)) = true := beq_iff_eq.mpr c30
                      have c30b1 : (((rdOf ByteArray.empty t335 x8_1).extract ((ji23) : Int).toNat (x12_15 : Int).toNat).toList != ([110, 101, 120, 116] : List UInt8)) = false := bne_eq_false_iff_eq.mpr c30
                      clear c30
                      have H' := Aside0.mk H
                      clear H
                      go_wp2
                      go_roundg kj15
                      case measure => have := HK1.out; have := HJ7.out; have := HK3.out; have := HJ15.out; omega
                      case rel => exact ⟨(x5_3), (true), (x10_3), (wrap64 ((wrap64 (x12_15 - 1)) + 1)), (x335001_3), (u335001), (by first | rfl | (simp; done) | (simp [*]; done) | (simp [wrap64, wrap32]; done)), (by first | rfl | (simp; done) | (simp [*]; done) | (simp [wrap64, wrap32]; done)), (by first | rfl | (simp; done) | (simp [*]; done) | (simp [wrap64, wrap32]; done)), (by first | rfl | (simp; done) | (simp [*]; done) | (simp [wrap64, wrap32]; done)), H', ⟨by have := HK1.out; have := HJ7.out; have := HK3.out; have := HJ15.out; omega⟩, ⟨by (with_reducible repeat (first | apply Kd.R_alloc | apply Kd.R_drewN | apply Kd.R_drew)); exact HO_4.out⟩, ⟨by (with_reducible repeat (first | apply Kd.R_alloc | apply Kd.R_drewN | apply Kd.R_drew)); exact HO_335000.out⟩, ⟨by (with_reducible repeat (first | apply Kd.R_alloc | apply Kd.R_drewN | apply Kd.R_drew)); exact HO_335001.out⟩, ⟨by (with_reducible repeat (first | refine blk_drewN ?_ _ | refine blk_drew ?_ | refine blk_alloc ?_ _)); exact BK333.out⟩, ⟨by (with_reducible repeat (first | refine blk_drewN ?_ _ | refine blk_drew ?_ | refine blk_alloc ?_ _)); exact BK334.out⟩, ⟨by repeat (first | (with_reducible first | exact HB.out | apply below_alloc | apply pw_below_drewN | apply below_drew1 | refine below_set ?_ GE333.out | refine below_set ?_ GE334.out) | exact HB.out)⟩⟩
                     ·rw [if_neg c30] at H
                      have c30b0 : (((rdOf ByteArray.empty t335 x8_1).extract ((ji23) : Int).toNat (x12_15 : Int).toNat).toList == ([110, 101, 120, 116] : List UInt8)) = false := beq_eq_false_iff_ne.mpr c30
                      have c30b1 : (((rdOf ByteArray.empty t335 x8_1).extract ((ji23) : Int).toNat (x12_15 : Int).toNat).toList != ([110, 101, 120, 116] : List UInt8)) = true := bne_iff_ne.mpr c30
                      by_cases c31 : ((rdOf ByteArray.empty t335 x8_1).extract ((ji23) : Int).toNat (x12_15 : Int).toNat).toList = ([119, 111, 114, 100, 115] : List UInt8)
                      ·rw [if_pos c31] at H
                       have c31b0 : (((rdOf ByteArray.empty t335 x8_1).extract ((ji23) : Int).toNat (x12_15 : Int).toNat).toList == ([119, 111, 114, 100, 115] : List UInt8)) = true := beq_iff_eq.mpr c31
                       have c31b1 : (((rdOf ByteArray.empty t335 x8_1).extract ((ji23) : Int).toNat (x12_15 : Int).toNat).toList != ([119, 111, 114, 100, 115] : List UInt8)) = false := bne_eq_false_iff_eq.mpr c31
                       clear c31
                       by_cases c32 : 0 ≤ x12_15
                       ·rw [if_pos c32] at H
                        have c32b0 := eq_true c32
                        have c32b1 : decide (0 ≤ x12_15) = true := decide_eq_true c32
                        clear c32
                        have c33b0 := eq_true (of_decide_eq_true (by first | (with_reducible assumption) | assumption) : x12_15 ≤ ((rdOf ByteArray.empty t335 x8_1).size : Int))
                        replace H := Option.bind_eq_some_iff.mp H
                        obtain ⟨t342, A340, H⟩ := H
                        replace H : (if x335001_3.length + t342.length < 8796093022208 then (redpenref15_Read.l1 kj15 t335 x5_3 x6_3 x7_1 x8_1 (rdOf ByteArray.empty t335 x8_1) x10_3 (wrap64 ((wrap64 (x12_15 - 1)) + 1)) x335000_1 (x335001_3 ++ t342)) else (none)) = some (r1, r2) := H
                        have A34 := Aside0.mk A340
                        clear A340
                        by_cases c35 : x335001_3.length + t342.length < 8796093022208
                        ·rw [if_pos c35] at H
                         have LMc35 := Aside0.mk c35
                         clear c35
                         obtain ⟨y345, hy345⟩ : ∃ y_ : List ByteArray, y_ = (x335001_3 ++ t342) := ⟨_, rfl⟩
                         replace H : (redpenref15_Read.l1 kj15 t335 x5_3 x6_3 x7_1 x8_1 (rdOf ByteArray.empty t335 x8_1) x10_3 (wrap64 ((wrap64 (x12_15 - 1)) + 1)) x335000_1 y345) = some (r1, r2) := by first | (rw [hy345]; with_reducible exact H) | (have H2_ := (Option.bind_some _ _).symm.trans H; rw [hy345]; with_reducible exact H2_) | (have H2_ := (Option.bind_some _ _).symm.trans H; with_reducible exact H2_) | with_reducible exact H | (rw [hy345]; exact H) | exact H
                         have Ny345 := Aside0.mk hy345
                         clear hy345
                         have H' := Aside0.mk H
                         clear H
                         try go_wp2
                         have n0_ := Aside0.mk (Kd.R_drew HO_4.out)
                         have n1_ := Aside0.mk (Kd.R_drew HO_335000.out)
                         have n2_ := Aside0.mk (Kd.R_drew HO_335001.out)
                         have n3_ := Aside0.mk (blk_drew BK333.out)
                         have n4_ := Aside0.mk (blk_drew BK334.out)
                         have n5_ := Aside0.mk (below_drew1 HB.out)
                         clear HO_4
                         clear HO_335000
                         clear HO_335001
                         clear BK333
                         clear BK334
                         clear HB
                         have HO_4 := n0_
                         have HO_335000 := n1_
                         have HO_335001 := n2_
                         have BK333 := n3_
                         have BK334 := n4_
                         have HB := n5_
                         clear n0_ n1_ n2_ n3_ n4_ n5_
                         refine start_ (n := 9) (S := fun w' => w'.cell? ⟨gb334, 0, none⟩ = some (u335000) ∧ w'.cell? ⟨gb334, 1, none⟩ = some (u335001)) (ds := [8]) (bs 9 0) (by kernel_rfl) rfl rfl ⟨(blk_cell BK334.out 0).trans rfl, (blk_cell BK334.out 1).trans rfl⟩ (fun hHeld => ?_); refine with_tabW redpenref15_Read.tab29 redpenref15_Read.bits29 (fun HT_ HW_ => ?_)
                         generalize wc.drew = w36 at HO_4 HO_335000 HO_335001 BK333 BK334 HB hHeld ⊢
                         refine pu_ 0 (some 77) ?_ (bs 9 1) HT_.out (by kernel_rfl) rfl rfl (fun _ _ _ h => h) (Or.inl ⟨by rfl, ?_⟩) ?_ ?_ ?_; rotate_left; (· intro w'; go_simp; with_reducible rfl); rotate_left; (· simp only [Act.put, sit, scz, scs, i64_w, i32_w]; rfl)
                         refine pu_ 2 (some 79) ?_ (bs 9 5) HT_.out (by kernel_rfl) rfl rfl (fun _ _ _ h => h) (Or.inl ⟨by rfl, ?_⟩) ?_ ?_ ?_; rotate_left; (· intro w'; go_simp; with_reducible rfl); rotate_left; (· simp only [Act.put, sit, scz, scs, i64_w, i32_w]; rfl)
                         refine pu_ 3 (some 80) ?_ (bs 9 13) HT_.out (by kernel_rfl) rfl rfl (fun _ _ _ h => h) (Or.inl ⟨by rfl, ?_⟩) ?_ ?_ ?_; rotate_left; (· intro w'; go_simp; with_reducible rfl); rotate_left; (· simp only [Act.put, sit, scz, scs, i64_w, i32_w]; rfl)
                         refine pu_ 4 (some 81) ?_ (bs 9 29) HT_.out (by kernel_rfl) rfl rfl (fun _ _ _ h => h) (Or.inl ⟨by rfl, ?_⟩) ?_ ?_ ?_; rotate_left; (· intro w'; go_simp; with_reducible rfl); rotate_left; (· simp only [Act.put, sit, scz, scs, i64_w, i32_w]; rfl)
                         refine take_ (i := 1) (N := some 78) (v := ?_) (a' := ?_) (bs 9 31) rfl rfl (take_ofW HT_.out HW_.out (by kernel_rfl)) (fun _ _ _ h => h) (Or.inl ⟨by rfl, ?_⟩) hHeld ?_ ?_; rotate_left; (· rintro w' ⟨s0, s1⟩; go_simp; with_reducible rfl); rotate_left; (· simp only [Act.put, sit, scz, scs, i64_w, i32_w]; rfl)
                         refine one_ (i := 5) (N := some 82) (bs 9 63) rfl rfl (one_of HT_.out (by kernel_rfl)) (by decide) (fun K hK => ?_)
                         refine goes_ Tryd.func24 (by kernel_rfl) rfl #[.string ((rdOf ByteArray.empty t335 x8_1).extract (x12_15 : Int).toNat (rdOf ByteArray.empty t335 x8_1).size)] (by rfl) rfl rfl (by (try simp only [List.map_toArray, List.map_cons, List.map_nil]); first | done | rfl | (simp only [List.length_drop, List.length_take]; rfl)) ?_
                         with_reducible refine (redpenref15_words.calls kj15 ((rdOf ByteArray.empty t335 x8_1).extract (x12_15 : Int).toNat (rdOf ByteArray.empty t335 x8_1).size) t342 _ A34.out).mono ?_
                         rintro e w37 ⟨v343, rfl, ho0, hb⟩
                         refine ⟨_, rfl, ?_⟩
                         have n0_ := Aside0.mk (Kd.R_elder' (by (with_reducible repeat (first | apply Kd.R_alloc | apply Kd.R_drewN | apply Kd.R_drew)); exact HO_4.out) (Kd.R_base ho0) hb)
                         have n1_ := Aside0.mk (Kd.R_below (by (with_reducible repeat (first | apply Kd.R_alloc | apply Kd.R_drewN | apply Kd.R_drew)); exact HO_335000.out) hb)
                         have n2_ := Aside0.mk (Kd.R_elder' (by (with_reducible repeat (first | apply Kd.R_alloc | apply Kd.R_drewN | apply Kd.R_drew)); exact HO_335001.out) (Kd.R_base ho0) hb)
                         have n3_ := Aside0.mk (Kd.R_lower (Kd.R_new' (Kd.R_new' ho0 (Kd.R_lt (by (with_reducible repeat (first | apply Kd.R_alloc | apply Kd.R_drewN | apply Kd.R_drew)); exact HO_4.out))) (Kd.R_lt (by (with_reducible repeat (first | apply Kd.R_alloc | apply Kd.R_drewN | apply Kd.R_drew)); exact HO_335001.out))) (below_size (by repeat (first | (with_reducible first | exact HB.out | apply below_alloc | apply pw_below_drewN | apply below_drew1 | refine below_set ?_ GE333.out | refine below_set ?_ GE334.out) | exact HB.out))))
                         have n4_ := Aside0.mk (blk_below (g := gb333) (o := .cells #[.slice none 0 0, .slice none 0 0] 37 (0, 0)) (by (with_reducible repeat (first | refine blk_drewN ?_ _ | refine blk_drew ?_ | refine blk_alloc ?_ _)); exact BK333.out) hb)
                         have n5_ := Aside0.mk (blk_below (g := gb334) (o := .cells #[u335000, u335001] 37 (0, 0)) (by (with_reducible repeat (first | refine blk_drewN ?_ _ | refine blk_drew ?_ | refine blk_alloc ?_ _)); exact BK334.out) hb)
                         have n6_ := Aside0.mk (below_step (by repeat (first | (with_reducible first | exact HB.out | apply below_alloc | apply pw_below_drewN | apply below_drew1 | refine below_set ?_ GE333.out | refine below_set ?_ GE334.out) | exact HB.out)) hb)
                         clear HO_4
                         clear HO_335000
                         clear HO_335001
                         clear BK333
                         clear BK334
                         clear HB
                         have HO_4 := n0_
                         have HO_335000 := n1_
                         have HO_335001 := n2_
                         have HO344 := n3_
                         have BK333 := n4_
                         have BK334 := n5_
                         have HB := n6_
                         clear n0_ n1_ n2_ n3_ n4_ n5_ n6_
                         (try clear hb)
                         (try clear hb2)
                         (try clear hk)
                         (try clear hi)
                         (try clear ho0)
                         obtain ⟨Ao39, co39, eo39⟩ := Kd.R_slice HO344.out
                         (first | subst eo39 | (injection eo39 with f1_ f2_ f3_; have f4_ := f1_.symm; have f5_ := f3_.symm; clear f1_ f2_ f3_; subst f4_; subst f5_))
                         refine hK.out _ _ ⟨(blk_cell BK334.out 0).trans rfl, (blk_cell BK334.out 1).trans rfl⟩ (fun hHeld => ?_)
                         clear hK K
                         refine norm_ (a' := ?_) ?_ ?_
                         rotate_left
                         ·show Act.put _ (some 82) _ = _
                          simp only [Act.put, List.setIfInBounds_toArray, List.set_cons_zero, List.set_cons_succ, i64_w, i32_w]
                          rfl
                         refine one_ (i := 6) (N := some 83) (bs 9 127) rfl rfl (one_of HT_.out (by kernel_rfl)) (by decide) (fun K hK => ?_)
                         refine Kd.R_append_rows_step Kd.string (w0 := w) w.heap.size (by rfl) (.tmp 78) (.tmp 82) 33 9 (.string ⟨#[]⟩) 16 rfl Tryd.underlying33 info9 rfl (by decide) (by omega) u335001 x335001_3 t342 _ _ _ (fun k_ => some k_ ≠ (.slice (some ad338) t335.length co9 : Value).ownBlock ∧ some k_ ≠ (.slice Ao39 t342.length co39 : Value).ownBlock) (fun _ => False) rfl rfl ?aO ?aR (fun _ _ h => h) (fun _ h => h.elim) ?aF ?aB ?aS ?aL ?_
                         (case aR => repeat (first | exact (Kd.R_reads' HO344.out).2.2 | (with_reducible refine Kd.C_alloc ?_ _) | (with_reducible refine Kd.C_drewN ?_ _) | (with_reducible refine Kd.C_drew ?_)))
                         (case aB => exact (by repeat (first | (with_reducible first | exact HB.out | apply below_alloc | apply pw_below_drewN | apply below_drew1 | refine below_set ?_ GE333.out | refine below_set ?_ GE334.out) | exact HB.out)))
                         (case aF => exact (fun k_ hk => ⟨Kd.fresh' (Kd.R_lt (by (with_reducible repeat (first | apply Kd.R_alloc | apply Kd.R_drewN | apply Kd.R_drew)); exact HO_4.out)) k_ hk, Kd.fresh' (Kd.R_lt (by (with_reducible repeat (first | apply Kd.R_alloc | apply Kd.R_drewN | apply Kd.R_drew)); exact HO344.out)) k_ hk⟩))
                         (case aO => exact (by (with_reducible repeat (first | apply Kd.R_alloc | apply Kd.R_drewN | apply Kd.R_drew)); exact HO_335001.out))
                         (case aS => exact (below_size (by repeat (first | (with_reducible first | exact HB.out | apply below_alloc | apply pw_below_drewN | apply below_drew1 | refine below_set ?_ GE333.out | refine below_set ?_ GE334.out) | exact HB.out))))
                         (case aL => have := LMc35.out; omega)
                         intro v346 w38 ho hb hg hat
                         rw [← Ny345.out] at ho
                         have n0_ := Aside0.mk (Kd.R_after (ok := (fun k_ => some k_ ≠ (.slice Ao39 t342.length co39 : Value).ownBlock)) (by (with_reducible repeat (first | apply Kd.R_alloc | apply Kd.R_drewN | apply Kd.R_drew)); exact Kd.R_mono HO_4.out (fun _ hk => ⟨hk.2, hk.1⟩)) hg hat)
                         have n1_ := Aside0.mk (Kd.R_over' (by (with_reducible repeat (first | apply Kd.R_alloc | apply Kd.R_drewN | apply Kd.R_drew)); exact HO_335000.out) (Kd.R_typed (by (with_reducible repeat (first | apply Kd.R_alloc | apply Kd.R_drewN | apply Kd.R_drew)); exact HO_335001.out)) (by decide) hg)
                         have n2_ := Aside0.mk (blk_grown (g := gb333) (o := .cells #[.slice none 0 0, .slice none 0 0] 37 (0, 0)) (by (with_reducible repeat (first | refine blk_drewN ?_ _ | refine blk_drew ?_ | refine blk_alloc ?_ _)); exact BK333.out) hg (Kd.R_ne HO_335001.out BK333.out (by decide)))
                         have n3_ := Aside0.mk (blk_grown (g := gb334) (o := .cells #[u335000, u335001] 37 (0, 0)) (by (with_reducible repeat (first | refine blk_drewN ?_ _ | refine blk_drew ?_ | refine blk_alloc ?_ _)); exact BK334.out) hg (Kd.R_ne HO_335001.out BK334.out (by decide)))
                         have n4_ := Aside0.mk (Kd.R_after (ok := (fun k_ => some k_ ≠ (.slice (some ad338) t335.length co9 : Value).ownBlock)) (by (with_reducible repeat (first | apply Kd.R_alloc | apply Kd.R_drewN | apply Kd.R_drew)); exact Kd.R_mono HO344.out (fun _ hk => ⟨hk.1.2, hk.2⟩)) hg hat)
                         have n5_ := Aside0.mk (hb)
                         have n6_ := Aside0.mk (ho)
                         clear HO_4
                         clear HO_335000
                         clear BK333
                         clear BK334
                         clear HO344
                         clear HB
                         clear HO_335001
                         have HO_4 := n0_
                         have HO_335000 := n1_
                         have BK333 := n2_
                         have BK334 := n3_
                         have HO344 := n4_
                         have HB := n5_
                         have HO347 := n6_
                         clear n0_ n1_ n2_ n3_ n4_ n5_ n6_
                         clear ho hb hg hat
                         obtain ⟨Ao40, co40, eo40⟩ := Kd.R_slice HO347.out
                         (first | subst eo40 | (injection eo40 with f1_ f2_ f3_; have f4_ := f1_.symm; have f5_ := f3_.symm; clear f1_ f2_ f3_; subst f4_; subst f5_))
                         refine hK.out _ _ ⟨(blk_cell BK334.out 0).trans rfl, (blk_cell BK334.out 1).trans rfl⟩ (fun hHeld => ?_)
                         clear hK K
                         refine norm_ (a' := ?_) ?_ ?_
                         rotate_left
                         ·show Act.put _ (some 83) _ = _
                          simp only [Act.put, List.setIfInBounds_toArray, List.set_cons_zero, List.set_cons_succ, i64_w, i32_w]
                          rfl
                         refine pu_ 7 (some 84) ?_ (bs 9 255) HT_.out (by kernel_rfl) rfl rfl (fun _ _ _ h => h) (Or.inl ⟨by rfl, ?_⟩) ?_ ?_ ?_; rotate_left; (· intro w'; go_simp; with_reducible rfl); rotate_left; (· simp only [Act.put, sit, scz, scs, i64_w, i32_w]; rfl)
                         refine last_ (i := 8) (N := none) (bs 9 511) rfl rfl (one_of HT_.out (by kernel_rfl)) (by decide) (fun K hK => ?_)
                         have hs41 : w38.cell? ⟨gb334, 1, none⟩ = some (u335001) := (blk_cell BK334.out 1).trans rfl
                         have hfs41 := blk_frozen BK334.out 1
                         have hns41_0 := NB333_334.out
                         have hms41_0 := NB334_333.out
                         refine skip_ (w1 := ?_) (by rfl) rfl ?_ ?_
                         rotate_left
                         ·go_simp
                          rfl
                         refine hK.out _ _ ?_
                         clear hK K
                         refine done_ (done_of HT_.out (by kernel_rfl)) ?_
                         try go_wp2
                         go_roundg kj15
                         case measure => have := HK1.out; have := HJ7.out; have := HK3.out; have := HJ15.out; omega
                         case rel => exact ⟨(x5_3), (x6_3), (x10_3), (wrap64 ((wrap64 (x12_15 - 1)) + 1)), (y345), (.slice Ao40 y345.length co40), (by first | rfl | (simp; done) | (simp [*]; done) | (simp [wrap64, wrap32]; done)), (by first | rfl | (simp; done) | (simp [*]; done) | (simp [wrap64, wrap32]; done)), (by first | rfl | (simp; done) | (simp [*]; done) | (simp [wrap64, wrap32]; done)), (by first | rfl | (simp; done) | (simp [*]; done) | (simp [wrap64, wrap32]; done)), H', ⟨by have := HK1.out; have := HJ7.out; have := HK3.out; have := HJ15.out; omega⟩, ⟨by (with_reducible repeat (first | apply Kd.R_alloc | apply Kd.R_drewN | apply Kd.R_drew)); exact Kd.R_mono (Kd.R_far (p := ⟨gb334, 1, none⟩) (Kd.R_types HO_4.out BK334.out (by decide)) (fun _ hk => hk.2) (.slice Ao40 y345.length co40)) (fun _ hk => hk.1.2)⟩, ⟨by (with_reducible repeat (first | apply Kd.R_alloc | apply Kd.R_drewN | apply Kd.R_drew)); exact Kd.R_mono (Kd.R_far (p := ⟨gb334, 1, none⟩) (Kd.R_types HO_335000.out BK334.out (by decide)) (fun _ hk => hk.2) (.slice Ao40 y345.length co40)) (fun _ hk => trivial)⟩, ⟨by (with_reducible repeat (first | apply Kd.R_alloc | apply Kd.R_drewN | apply Kd.R_drew)); exact Kd.R_mono (Kd.R_far (p := ⟨gb334, 1, none⟩) (Kd.R_types HO347.out BK334.out (by decide)) (fun _ hk => hk.2) (.slice Ao40 y345.length co40)) (fun _ hk => hk.1.1)⟩, ⟨by (with_reducible repeat (first | refine blk_drewN ?_ _ | refine blk_drew ?_ | refine blk_alloc ?_ _)); refine blk_far ?_ NB333_334.out _; (with_reducible repeat (first | refine blk_drewN ?_ _ | refine blk_drew ?_ | refine blk_alloc ?_ _)); exact BK333.out⟩, ⟨by (with_reducible repeat (first | refine blk_drewN ?_ _ | refine blk_drew ?_ | refine blk_alloc ?_ _)); refine blk_put (cs := #[u335000, u335001]) ?_ 1 _ rfl; (with_reducible repeat (first | refine blk_drewN ?_ _ | refine blk_drew ?_ | refine blk_alloc ?_ _)); exact BK334.out⟩, ⟨by repeat (first | (with_reducible first | exact HB.out | apply below_alloc | apply pw_below_drewN | apply below_drew1 | refine below_set ?_ GE333.out | refine below_set ?_ GE334.out) | exact HB.out)⟩⟩
                        ·rw [if_neg c35] at H
                         exact absurd H (by simp)
                       ·rw [if_neg c32] at H
                        exact absurd H (by simp)
                      ·rw [if_neg c31] at H
                       have c31b0 : (((rdOf ByteArray.empty t335 x8_1).extract ((ji23) : Int).toNat (x12_15 : Int).toNat).toList == ([119, 111, 114, 100, 115] : List UInt8)) = false := beq_eq_false_iff_ne.mpr c31
                       have c31b1 : (((rdOf ByteArray.empty t335 x8_1).extract ((ji23) : Int).toNat (x12_15 : Int).toNat).toList != ([119, 111, 114, 100, 115] : List UInt8)) = true := bne_iff_ne.mpr c31
                       have H' := Aside0.mk H
                       clear H
                       go_wp2
                       go_roundg kj15
                       case measure => have := HK1.out; have := HJ7.out; have := HK3.out; have := HJ15.out; omega
                       case rel => exact ⟨(x5_3), (x6_3), (x10_3), (wrap64 ((wrap64 (x12_15 - 1)) + 1)), (x335001_3), (u335001), (by first | rfl | (simp; done) | (simp [*]; done) | (simp [wrap64, wrap32]; done)), (by first | rfl | (simp; done) | (simp [*]; done) | (simp [wrap64, wrap32]; done)), (by first | rfl | (simp; done) | (simp [*]; done) | (simp [wrap64, wrap32]; done)), (by first | rfl | (simp; done) | (simp [*]; done) | (simp [wrap64, wrap32]; done)), H', ⟨by have := HK1.out; have := HJ7.out; have := HK3.out; have := HJ15.out; omega⟩, ⟨by (with_reducible repeat (first | apply Kd.R_alloc | apply Kd.R_drewN | apply Kd.R_drew)); exact HO_4.out⟩, ⟨by (with_reducible repeat (first | apply Kd.R_alloc | apply Kd.R_drewN | apply Kd.R_drew)); exact HO_335000.out⟩, ⟨by (with_reducible repeat (first | apply Kd.R_alloc | apply Kd.R_drewN | apply Kd.R_drew)); exact HO_335001.out⟩, ⟨by (with_reducible repeat (first | refine blk_drewN ?_ _ | refine blk_drew ?_ | refine blk_alloc ?_ _)); exact BK333.out⟩, ⟨by (with_reducible repeat (first | refine blk_drewN ?_ _ | refine blk_drew ?_ | refine blk_alloc ?_ _)); exact BK334.out⟩, ⟨by repeat (first | (with_reducible first | exact HB.out | apply below_alloc | apply pw_below_drewN | apply below_drew1 | refine below_set ?_ GE333.out | refine below_set ?_ GE334.out) | exact HB.out)⟩⟩
                 ·rw [if_neg c26] at H
                  exact absurd H (by simp)
                ·rw [if_neg c25] at H
                 exact absurd H (by simp)
               ·rw [if_neg c24] at H
                exact absurd H (by simp)
            ·rw [if_neg c15] at H
             have c15b0 : (((rdOf ByteArray.empty t335 x8_1).extract (x11_3 : Int).toNat ((wrap64 (x11_3 + 6)) : Int).toNat).toList == ([115, 112, 101, 108, 108, 58] : List UInt8)) = false := beq_eq_false_iff_ne.mpr c15
             have c15b1 : (((rdOf ByteArray.empty t335 x8_1).extract (x11_3 : Int).toNat ((wrap64 (x11_3 + 6)) : Int).toNat).toList != ([115, 112, 101, 108, 108, 58] : List UInt8)) = true := bne_iff_ne.mpr c15
             have H' := Aside0.mk H
             clear H
             go_wp2
             go_roundg k3
             case measure => have := HK1.out; have := HJ7.out; have := HK3.out; omega
             case rel => exact ⟨(x5_3), (x6_3), (x10_3), (wrap64 (x11_3 + 1)), (x335001_3), (u335001), (by first | rfl | (simp; done) | (simp [*]; done) | (simp [wrap64, wrap32]; done)), (by first | rfl | (simp; done) | (simp [*]; done) | (simp [wrap64, wrap32]; done)), (by first | rfl | (simp; done) | (simp [*]; done) | (simp [wrap64, wrap32]; done)), (by first | rfl | (simp; done) | (simp [*]; done) | (simp [wrap64, wrap32]; done)), H', ⟨by have := HK1.out; have := HJ7.out; have := HK3.out; omega⟩, ⟨by (with_reducible repeat (first | apply Kd.R_alloc | apply Kd.R_drewN | apply Kd.R_drew)); exact HO_4.out⟩, ⟨by (with_reducible repeat (first | apply Kd.R_alloc | apply Kd.R_drewN | apply Kd.R_drew)); exact HO_335000.out⟩, ⟨by (with_reducible repeat (first | apply Kd.R_alloc | apply Kd.R_drewN | apply Kd.R_drew)); exact HO_335001.out⟩, ⟨by (with_reducible repeat (first | refine blk_drewN ?_ _ | refine blk_drew ?_ | refine blk_alloc ?_ _)); exact BK333.out⟩, ⟨by (with_reducible repeat (first | refine blk_drewN ?_ _ | refine blk_drew ?_ | refine blk_alloc ?_ _)); exact BK334.out⟩, ⟨by repeat (first | (with_reducible first | exact HB.out | apply below_alloc | apply pw_below_drewN | apply below_drew1 | refine below_set ?_ GE333.out | refine below_set ?_ GE334.out) | exact HB.out)⟩⟩
           ·rw [if_neg c13] at H
            exact absurd H (by simp)
          ·rw [if_neg c12] at H
           exact absurd H (by simp)
         ·rw [if_neg c11] at H
          have c11b0 : decide ((wrap64 (x11_3 + 6)) ≤ ((rdOf ByteArray.empty t335 x8_1).size : Int)) = false := decide_eq_false c11
          clear c11
          by_cases c42 : x10_3 = true
          ·subst c42
           have H1 : (if x335000_1.length < 8796093022208 then (redpenref15_Read.l0 k3 t335 x5_3 x6_3 (wrap64 (x7_1 + ((rdOf ByteArray.empty t335 x8_1).size : Int))) (wrap64 (x8_1 + 1)) (x335000_1 ++ [(⟨x7_1, ((rdOf ByteArray.empty t335 x8_1).size : Int)⟩ : S40)]) x335001_3) else (none)) = some (r1, r2) := by rw [if_pos rfl] at H; exact H
           clear H
           have H := H1
           clear H1
           by_cases c43 : x335000_1.length < 8796093022208
           ·rw [if_pos c43] at H
            have LMc43 := Aside0.mk c43
            clear c43
            obtain ⟨y339, hy339⟩ : ∃ y_ : List (S40), y_ = (x335000_1 ++ [(⟨x7_1, ((rdOf ByteArray.empty t335 x8_1).size : Int)⟩ : S40)]) := ⟨_, rfl⟩
            replace H : (redpenref15_Read.l0 k3 t335 x5_3 x6_3 (wrap64 (x7_1 + ((rdOf ByteArray.empty t335 x8_1).size : Int))) (wrap64 (x8_1 + 1)) y339 x335001_3) = some (r1, r2) := by first | (rw [hy339]; with_reducible exact H) | (have H2_ := (Option.bind_some _ _).symm.trans H; rw [hy339]; with_reducible exact H2_) | (have H2_ := (Option.bind_some _ _).symm.trans H; with_reducible exact H2_) | with_reducible exact H | (rw [hy339]; exact H) | exact H
            have Ny339 := Aside0.mk hy339
            clear hy339
            have H' := Aside0.mk H
            clear H
            have hnb44 := NB334_333.out
            have hnc44 := NB333_334.out
            have hcz45_0 : wr.cell? ⟨gb334, 0, none⟩ = some (u335000) := (blk_cell BK334.out 0).trans rfl
            have hcz45_1 : wr.cell? ⟨gb334, 1, none⟩ = some (u335001) := (blk_cell BK334.out 1).trans rfl
            have hfz45_0 := blk_frozen BK334.out 0
            have hfz45_1 := blk_frozen BK334.out 1
            go_wp2_with (first | ((with_reducible refine gate_builtin (b := .append) (xs := #[.tmp 89, .tmp 94]) rfl ?_); at_builtin; refine Kd.R_append k40 (w0 := w) w.heap.size rfl (.tmp 89) (.tmp 94) 29 40 (.agg #[(.int .i64 0), (.int .i64 0)]) 16 rfl Tryd.underlying29 info40 rfl (by decide) (by omega) u335000 x335000_1 (⟨x7_1, ((rdOf ByteArray.empty t335 x8_1).size : Int)⟩ : S40) [.int .i64 x7_1, .int .i64 ((rdOf ByteArray.empty t335 x8_1).size : Int)] (fun _ => True) (fun _ => False) rfl rfl ?aP (fun _ hk => hk.elim) ?aF ?aO ?aB ?aS ?aL ?_; (case aP => exact k40_mkM _ _ _ (⟨x7_1, ((rdOf ByteArray.empty t335 x8_1).size : Int)⟩ : S40)); (case aB => exact (by repeat (first | (with_reducible first | exact HB.out | apply below_alloc | apply pw_below_drewN | apply below_drew1 | refine below_set ?_ GE333.out | refine below_set ?_ GE334.out) | exact HB.out))); (case aF => exact (fun _ _ => trivial)); (case aO => exact (by (with_reducible repeat (first | apply Kd.R_alloc | apply Kd.R_drewN | apply Kd.R_drew)); exact HO_335000.out)); (case aS => exact (below_size (by repeat (first | (with_reducible first | exact HB.out | apply below_alloc | apply pw_below_drewN | apply below_drew1 | refine below_set ?_ GE333.out | refine below_set ?_ GE334.out) | exact HB.out)))); (case aL => have := LMc43.out; omega); intro v340 w46 ho hb hg hat; rw [← Ny339.out] at ho; have n0_ := Aside0.mk (Kd.R_over' (by (with_reducible repeat (first | apply Kd.R_alloc | apply Kd.R_drewN | apply Kd.R_drew)); exact HO_4.out) (Kd.R_typed (by (with_reducible repeat (first | apply Kd.R_alloc | apply Kd.R_drewN | apply Kd.R_drew)); exact HO_335000.out)) (by decide) hg); have n1_ := Aside0.mk (Kd.R_over' (by (with_reducible repeat (first | apply Kd.R_alloc | apply Kd.R_drewN | apply Kd.R_drew)); exact HO_335001.out) (Kd.R_typed (by (with_reducible repeat (first | apply Kd.R_alloc | apply Kd.R_drewN | apply Kd.R_drew)); exact HO_335000.out)) (by decide) hg); have n2_ := Aside0.mk (blk_grown (g := gb333) (o := .cells #[.slice none 0 0, .slice none 0 0] 37 (0, 0)) (by (with_reducible repeat (first | refine blk_drewN ?_ _ | refine blk_drew ?_ | refine blk_alloc ?_ _)); exact BK333.out) hg (Kd.R_ne HO_335000.out BK333.out (by decide))); have n3_ := Aside0.mk (blk_grown (g := gb334) (o := .cells #[u335000, u335001] 37 (0, 0)) (by (with_reducible repeat (first | refine blk_drewN ?_ _ | refine blk_drew ?_ | refine blk_alloc ?_ _)); exact BK334.out) hg (Kd.R_ne HO_335000.out BK334.out (by decide))); have n4_ := Aside0.mk (hb); have n5_ := Aside0.mk (ho); clear HO_4; clear HO_335001; clear BK333; clear BK334; clear HB; clear HO_335000; have HO_4 := n0_; have HO_335001 := n1_; have BK333 := n2_; have BK334 := n3_; have HB := n4_; have HO341 := n5_; clear n0_ n1_ n2_ n3_ n4_ n5_; clear ho hb hg hat; obtain ⟨Ao47, co47, eo47⟩ := Kd.R_slice HO341.out; subst eo47; have hcz48_0 : w46.cell? ⟨gb334, 0, none⟩ = some (u335000) := (blk_cell BK334.out 0).trans rfl; have hcz48_1 : w46.cell? ⟨gb334, 1, none⟩ = some (u335001) := (blk_cell BK334.out 1).trans rfl; have hfz48_0 := blk_frozen BK334.out 0; have hfz48_1 := blk_frozen BK334.out 1))
            go_roundg k3
            case measure => have := HK1.out; have := HJ7.out; have := HK3.out; omega
            case rel => exact ⟨(x5_3), (x6_3), (wrap64 (x7_1 + ((rdOf ByteArray.empty t335 x8_1).size : Int))), (wrap64 (x8_1 + 1)), (y339), (x335001_3), (.slice Ao47 y339.length co47), (u335001), (by first | rfl | (simp; done) | (simp [*]; done) | (simp [wrap64, wrap32]; done)), (by first | rfl | (simp; done) | (simp [*]; done) | (simp [wrap64, wrap32]; done)), (by first | rfl | (simp; done) | (simp [*]; done) | (simp [wrap64, wrap32]; done)), (by first | rfl | (simp; done) | (simp [*]; done) | (simp [wrap64, wrap32]; done)), H', ⟨by have := HK1.out; have := HJ7.out; have := HK3.out; omega⟩, ⟨by (with_reducible repeat (first | apply Kd.R_alloc | apply Kd.R_drewN | apply Kd.R_drew)); exact Kd.R_mono (Kd.R_far (p := ⟨gb334, 0, none⟩) (Kd.R_types HO_4.out BK334.out (by decide)) (fun _ hk => hk.2) (.slice Ao47 y339.length co47)) (fun _ hk => hk.1)⟩, ⟨by (with_reducible repeat (first | apply Kd.R_alloc | apply Kd.R_drewN | apply Kd.R_drew)); exact Kd.R_mono (Kd.R_far (p := ⟨gb334, 0, none⟩) (Kd.R_types HO341.out BK334.out (by decide)) (fun _ hk => hk.2) (.slice Ao47 y339.length co47)) (fun _ hk => trivial)⟩, ⟨by (with_reducible repeat (first | apply Kd.R_alloc | apply Kd.R_drewN | apply Kd.R_drew)); exact Kd.R_mono (Kd.R_far (p := ⟨gb334, 0, none⟩) (Kd.R_types HO_335001.out BK334.out (by decide)) (fun _ hk => hk.2) (.slice Ao47 y339.length co47)) (fun _ hk => hk.1)⟩, ⟨by (with_reducible repeat (first | refine blk_drewN ?_ _ | refine blk_drew ?_ | refine blk_alloc ?_ _)); refine blk_far ?_ NB333_334.out _; (with_reducible repeat (first | refine blk_drewN ?_ _ | refine blk_drew ?_ | refine blk_alloc ?_ _)); exact BK333.out⟩, ⟨by (with_reducible repeat (first | refine blk_drewN ?_ _ | refine blk_drew ?_ | refine blk_alloc ?_ _)); refine blk_put (cs := #[u335000, u335001]) ?_ 0 _ rfl; (with_reducible repeat (first | refine blk_drewN ?_ _ | refine blk_drew ?_ | refine blk_alloc ?_ _)); exact BK334.out⟩, ⟨by repeat (first | (with_reducible first | exact HB.out | apply below_alloc | apply pw_below_drewN | apply below_drew1 | refine below_set ?_ GE333.out | refine below_set ?_ GE334.out) | exact HB.out)⟩⟩
           ·rw [if_neg c43] at H
            exact absurd H (by simp)
          ·replace c42 := Bool.eq_false_iff.mpr c42
           subst c42
           have H1 : (redpenref15_Read.l0 k3 t335 x5_3 x6_3 (wrap64 (x7_1 + ((rdOf ByteArray.empty t335 x8_1).size : Int))) (wrap64 (x8_1 + 1)) x335000_1 x335001_3) = some (r1, r2) := by rw [if_neg (show ¬ (false = true) by decide)] at H; exact H
           clear H
           have H := H1
           clear H1
           have H' := Aside0.mk H
           clear H
           go_wp2
           go_roundg k3
           case measure => have := HK1.out; have := HJ7.out; have := HK3.out; omega
           case rel => exact ⟨(x5_3), (x6_3), (wrap64 (x7_1 + ((rdOf ByteArray.empty t335 x8_1).size : Int))), (wrap64 (x8_1 + 1)), (x335000_1), (x335001_3), (u335000), (u335001), (by first | rfl | (simp; done) | (simp [*]; done) | (simp [wrap64, wrap32]; done)), (by first | rfl | (simp; done) | (simp [*]; done) | (simp [wrap64, wrap32]; done)), (by first | rfl | (simp; done) | (simp [*]; done) | (simp [wrap64, wrap32]; done)), (by first | rfl | (simp; done) | (simp [*]; done) | (simp [wrap64, wrap32]; done)), H', ⟨by have := HK1.out; have := HJ7.out; have := HK3.out; omega⟩, ⟨by (with_reducible repeat (first | apply Kd.R_alloc | apply Kd.R_drewN | apply Kd.R_drew)); exact HO_4.out⟩, ⟨by (with_reducible repeat (first | apply Kd.R_alloc | apply Kd.R_drewN | apply Kd.R_drew)); exact HO_335000.out⟩, ⟨by (with_reducible repeat (first | apply Kd.R_alloc | apply Kd.R_drewN | apply Kd.R_drew)); exact HO_335001.out⟩, ⟨by (with_reducible repeat (first | refine blk_drewN ?_ _ | refine blk_drew ?_ | refine blk_alloc ?_ _)); exact BK333.out⟩, ⟨by (with_reducible repeat (first | refine blk_drewN ?_ _ | refine blk_drew ?_ | refine blk_alloc ?_ _)); exact BK334.out⟩, ⟨by repeat (first | (with_reducible first | exact HB.out | apply below_alloc | apply pw_below_drewN | apply below_drew1 | refine below_set ?_ GE333.out | refine below_set ?_ GE334.out) | exact HB.out)⟩⟩
    ·rw [if_neg c7] at H
     exact absurd H (by simp)
   ·rw [if_neg c6] at H
    have c6b0 : decide (x8_1 < (t335.length : Int)) = false := decide_eq_false c6
    clear c6
    simp only [Option.some.injEq, Prod.mk.injEq] at H
    obtain ⟨rfl, rfl⟩ := H
    obtain ⟨Ao49, co49, eo49⟩ := Kd.R_slice HO_4.out
    subst eo49
    have hnb50 := NB334_333.out
    have hnc50 := NB333_334.out
    have hcz51_0 : wr.cell? ⟨gb334, 0, none⟩ = some (u335000) := (blk_cell BK334.out 0).trans rfl
    have hcz51_1 : wr.cell? ⟨gb334, 1, none⟩ = some (u335001) := (blk_cell BK334.out 1).trans rfl
    have hfz51_0 := blk_frozen BK334.out 0
    have hfz51_1 := blk_frozen BK334.out 1
    obtain ⟨Ao52, co52, eo52⟩ := Kd.R_slice HO_335000.out
    subst eo52
    have hcz53_0 : wr.cell? ⟨gb333, 0, none⟩ = some (.slice none 0 0) := (blk_cell BK333.out 0).trans rfl
    have hcz53_1 : wr.cell? ⟨gb333, 1, none⟩ = some (.slice none 0 0) := (blk_cell BK333.out 1).trans rfl
    have hfz53_0 := blk_frozen BK333.out 0
    have hfz53_1 := blk_frozen BK333.out 1
    obtain ⟨Ao54, co54, eo54⟩ := Kd.R_slice HO_335001.out
    subst eo54
    go_wp2
    refine bodyPost_ret (results_cell_row rfl _ _ gb333 37 #[.slice Ao52 x335000_1.length co52, .slice Ao54 x335001_1.length co54] (0, 0) _ rfl (by (with_reducible repeat (first | refine blk_drewN ?_ _ | refine blk_drew ?_ | refine blk_alloc ?_ _)); refine blk_put (cs := #[.slice Ao52 x335000_1.length co52, .slice none 0 0]) ?_ 1 _ rfl; (with_reducible repeat (first | refine blk_drewN ?_ _ | refine blk_drew ?_ | refine blk_alloc ?_ _)); refine blk_put (cs := #[.slice none 0 0, .slice none 0 0]) ?_ 0 _ rfl; (with_reducible repeat (first | refine blk_drewN ?_ _ | refine blk_drew ?_ | refine blk_alloc ?_ _)); exact BK333.out) Tryd.underlying37 rfl (by kernel_rfl)) rfl ?_
    exact ⟨_, _, by first | rfl | (simp [errW_none, errW_some] <;> rfl) | (simp [*, errW_none, errW_some] <;> rfl), by (with_reducible repeat (first | apply Kd.R_alloc | apply Kd.R_drewN | apply Kd.R_drew)); exact Kd.R_mono (Kd.R_far (p := ⟨gb333, 1, none⟩) (Kd.R_far (p := ⟨gb333, 0, none⟩) (Kd.R_types HO_335000.out BK333.out (by decide)) (fun _ hk => hk.2) (.slice Ao52 x335000_1.length co52)) (fun _ hk => hk.2) (.slice Ao54 x335001_1.length co54)) (fun _ hk => trivial), by (with_reducible repeat (first | apply Kd.R_alloc | apply Kd.R_drewN | apply Kd.R_drew)); exact Kd.R_mono (Kd.R_far (p := ⟨gb333, 1, none⟩) (Kd.R_far (p := ⟨gb333, 0, none⟩) (Kd.R_types HO_335001.out BK333.out (by decide)) (fun _ hk => hk.2) (.slice Ao52 x335000_1.length co52)) (fun _ hk => hk.2) (.slice Ao54 x335001_1.length co54)) (fun _ hk => trivial), by repeat (first | (with_reducible first | exact HB.out | apply below_alloc | apply pw_below_drewN | apply below_drew1 | refine below_set ?_ GE333.out | refine below_set ?_ GE334.out) | exact HB.out)⟩
end Go.Proofs.YtkflgnhcfhmkdaaDoor.PPragmaReads
