-- x
import Derived.Test.YtjabpbnlpljlkaaDoorPShowMadex0
import Derived.Test.YtjabpbnlpljlkaaDoorPShowMadex4
namespace Go.Proofs.YtjabpbnlpljlkaaDoor.PShowMade
open Go.RowKit Go.Proofs.YtjabpbnlpljlkaaDoor.X Go.Proofs.YtjabpbnlpljlkaaDoorW.PrintWords Go.Proofs.YtjabpbnlpljlkaaDoorW.PrintLast Go.Proofs.YtjabpbnlpljlkaaDoorW.PrintMore
attribute [local go_sem] max2_int min2_int max_two min_two max_three min_three max_four min_four   -- for this text's walks alone
set_option linter.unusedVariables false
set_option linter.unusedSimpArgs false

/-! ### hunks_Changes: function 37 -/
mutual
def hunks_Changes.j1 : Nat → List ByteArray → List ByteArray → Int → Option ((List (S82)))
 | 0, _, _, _ => none
 | k + 1, x0, x1, x162000 => if 0 ≤ x162000 then (if x162000 ≤ (x0.length : Int) then (if x162000 ≤ (x1.length : Int) then (hunks_Changes.l1 k (x0.drop (x162000 : Int).toNat) (x1.drop (x162000 : Int).toNat) x162000) else (none)) else (none)) else (none)
def hunks_Changes.j3 : Nat → List ByteArray → List ByteArray → Int → Option ((List (S82)))
 | 0, _, _, _ => none
 | k + 1, x6, x7, x162000 => if (x6.length : Int) > 1000 then (hunks_Changes.j4 k x6 x7 true x162000) else (hunks_Changes.j4 k x6 x7 (decide ((x7.length : Int) > 1000)) x162000)
def hunks_Changes.j4 : Nat → List ByteArray → List ByteArray → Bool → Int → Option ((List (S82)))
 | 0, _, _, _, _ => none
 | k + 1, x6, x7, x83, x162000 => if x83 = true then (some (([(⟨x162000, (x6.length : Int), x162000, (x7.length : Int)⟩ : S82)] : List (S82)))) else ((hunks_table.f k x6 x7).bind fun t189 => (hunks_Changes.l2 k x6 x7 t189 0 0 x162000 ([] : List (S82)) (wrap64 x162000) 0 (wrap64 x162000) 0))
def hunks_Changes.l2 : Nat → List ByteArray → List ByteArray → List (List Int) → Int → Int → Int → List (S82) → Int → Int → Int → Int → Option ((List (S82)))
 | 0, _, _, _, _, _, _, _, _, _, _, _ => none
 | k + 1, x6, x7, x8, x12, x13, x162000, x193000, x194000, x194001, x194002, x194003 => if x12 < (x6.length : Int) then (hunks_Changes.j6 k x6 x7 x8 x12 x13 true x162000 x193000 x194000 x194001 x194002 x194003) else (hunks_Changes.j6 k x6 x7 x8 x12 x13 (decide (x13 < (x7.length : Int))) x162000 x193000 x194000 x194001 x194002 x194003)
def hunks_Changes.j6 : Nat → List ByteArray → List ByteArray → List (List Int) → Int → Int → Bool → Int → List (S82) → Int → Int → Int → Int → Option ((List (S82)))
 | 0, _, _, _, _, _, _, _, _, _, _, _, _ => none
 | k + 1, x6, x7, x8, x12, x13, x108, x162000, x193000, x194000, x194001, x194002, x194003 => if x108 = true then (if x12 < (x6.length : Int) then (if x13 < (x7.length : Int) then (if 0 ≤ x12 then (if 0 ≤ x13 then (hunks_Changes.j7 k x6 x7 x8 x12 x13 ((rdOf ByteArray.empty x6 x12).toList == (rdOf ByteArray.empty x7 x13).toList) x162000 x193000 x194000 x194001 x194002 x194003) else (none)) else (none)) else (hunks_Changes.j7 k x6 x7 x8 x12 x13 false x162000 x193000 x194000 x194001 x194002 x194003)) else (hunks_Changes.j7 k x6 x7 x8 x12 x13 false x162000 x193000 x194000 x194001 x194002 x194003)) else (if (wrap64 (x194001 + x194003)) > 0 then (if x193000.length < 4398046511104 then (some (x193000 ++ [(⟨x194000, x194001, x194002, x194003⟩ : S82)])) else (none)) else (some x193000))
def hunks_Changes.j7 : Nat → List ByteArray → List ByteArray → List (List Int) → Int → Int → Bool → Int → List (S82) → Int → Int → Int → Int → Option ((List (S82)))
 | 0, _, _, _, _, _, _, _, _, _, _, _, _ => none
 | k + 1, x6, x7, x8, x12, x13, x115, x162000, x193000, x194000, x194001, x194002, x194003 => if x115 = true then (if (wrap64 (x194001 + x194003)) > 0 then (if x193000.length < 4398046511104 then (hunks_Changes.l2 k x6 x7 x8 (wrap64 (x12 + 1)) (wrap64 (x13 + 1)) x162000 (x193000 ++ [(⟨x194000, x194001, x194002, x194003⟩ : S82)]) (wrap64 (x162000 + (wrap64 (x12 + 1)))) 0 (wrap64 (x162000 + (wrap64 (x13 + 1)))) 0) else (none)) else (hunks_Changes.l2 k x6 x7 x8 (wrap64 (x12 + 1)) (wrap64 (x13 + 1)) x162000 x193000 (wrap64 (x162000 + (wrap64 (x12 + 1)))) 0 (wrap64 (x162000 + (wrap64 (x13 + 1)))) 0)) else (if x12 < (x6.length : Int) then (if x13 = (x7.length : Int) then (hunks_Changes.l2 k x6 x7 x8 (wrap64 (x12 + 1)) x13 x162000 x193000 x194000 (wrap64 (x194001 + 1)) x194002 x194003) else (if 0 ≤ (wrap64 (x12 + 1)) then (if (wrap64 (x12 + 1)) < (x8.length : Int) then (if 0 ≤ x13 then (if x13 < ((rd_L10 x8 (wrap64 (x12 + 1))).length : Int) then (if 0 ≤ x12 then (if x12 < (x8.length : Int) then (if 0 ≤ (wrap64 (x13 + 1)) then (if (wrap64 (x13 + 1)) < ((rd_L10 x8 x12).length : Int) then (if (rd (rd_L10 x8 (wrap64 (x12 + 1))) x13) ≥ (rd (rd_L10 x8 x12) (wrap64 (x13 + 1))) then (hunks_Changes.l2 k x6 x7 x8 (wrap64 (x12 + 1)) x13 x162000 x193000 x194000 (wrap64 (x194001 + 1)) x194002 x194003) else (hunks_Changes.l2 k x6 x7 x8 x12 (wrap64 (x13 + 1)) x162000 x193000 x194000 x194001 x194002 (wrap64 (x194003 + 1)))) else (none)) else (none)) else (none)) else (none)) else (none)) else (none)) else (none)) else (none))) else (hunks_Changes.l2 k x6 x7 x8 x12 (wrap64 (x13 + 1)) x162000 x193000 x194000 x194001 x194002 (wrap64 (x194003 + 1))))
def hunks_Changes.l1 : Nat → List ByteArray → List ByteArray → Int → Option ((List (S82)))
 | 0, _, _, _ => none
 | k + 1, x6, x7, x162000 => if (x6.length : Int) > 0 then (if (x7.length : Int) > 0 then (if 0 ≤ (wrap64 ((x6.length : Int) - 1)) then (if (wrap64 ((x6.length : Int) - 1)) < (x6.length : Int) then (if 0 ≤ (wrap64 ((x7.length : Int) - 1)) then (if (wrap64 ((x7.length : Int) - 1)) < (x7.length : Int) then (if (rdOf ByteArray.empty x6 (wrap64 ((x6.length : Int) - 1))).toList = (rdOf ByteArray.empty x7 (wrap64 ((x7.length : Int) - 1))).toList then (if (wrap64 ((x6.length : Int) - 1)) ≤ (x6.length : Int) then (if (wrap64 ((x7.length : Int) - 1)) ≤ (x7.length : Int) then (hunks_Changes.l1 k (x6.take ((wrap64 ((x6.length : Int) - 1)) : Int).toNat) (x7.take ((wrap64 ((x7.length : Int) - 1)) : Int).toNat) x162000) else (none)) else (none)) else (hunks_Changes.j3 k x6 x7 x162000)) else (none)) else (none)) else (none)) else (none)) else (hunks_Changes.j3 k x6 x7 x162000)) else (hunks_Changes.j3 k x6 x7 x162000)
def hunks_Changes.l0 : Nat → List ByteArray → List ByteArray → Int → Option ((List (S82)))
 | 0, _, _, _ => none
 | k + 1, x0, x1, x162000 => if x162000 < (x0.length : Int) then (if x162000 < (x1.length : Int) then (if 0 ≤ x162000 then (if (rdOf ByteArray.empty x0 x162000).toList = (rdOf ByteArray.empty x1 x162000).toList then (hunks_Changes.l0 k x0 x1 (wrap64 (x162000 + 1))) else (hunks_Changes.j1 k x0 x1 x162000)) else (none)) else (hunks_Changes.j1 k x0 x1 x162000)) else (hunks_Changes.j1 k x0 x1 x162000)
end
def hunks_Changes.f (k : Nat) (l0 : List ByteArray) (l1 : List ByteArray) : Option ((List (S82))) := hunks_Changes.l0 k l0 l1 0
theorem hunks_Changes.mono_l : ∀ k, (∀ y0 y1 y2, LeO (hunks_Changes.j1 k y0 y1 y2) (hunks_Changes.j1 (k + 1) y0 y1 y2)) ∧ (∀ y0 y1 y2, LeO (hunks_Changes.j3 k y0 y1 y2) (hunks_Changes.j3 (k + 1) y0 y1 y2)) ∧ (∀ y0 y1 y2 y3, LeO (hunks_Changes.j4 k y0 y1 y2 y3) (hunks_Changes.j4 (k + 1) y0 y1 y2 y3)) ∧ (∀ y0 y1 y2 y3 y4 y5 y6 y7 y8 y9 y10, LeO (hunks_Changes.l2 k y0 y1 y2 y3 y4 y5 y6 y7 y8 y9 y10) (hunks_Changes.l2 (k + 1) y0 y1 y2 y3 y4 y5 y6 y7 y8 y9 y10)) ∧ (∀ y0 y1 y2 y3 y4 y5 y6 y7 y8 y9 y10 y11, LeO (hunks_Changes.j6 k y0 y1 y2 y3 y4 y5 y6 y7 y8 y9 y10 y11) (hunks_Changes.j6 (k + 1) y0 y1 y2 y3 y4 y5 y6 y7 y8 y9 y10 y11)) ∧ (∀ y0 y1 y2 y3 y4 y5 y6 y7 y8 y9 y10 y11, LeO (hunks_Changes.j7 k y0 y1 y2 y3 y4 y5 y6 y7 y8 y9 y10 y11) (hunks_Changes.j7 (k + 1) y0 y1 y2 y3 y4 y5 y6 y7 y8 y9 y10 y11)) ∧ (∀ y0 y1 y2, LeO (hunks_Changes.l1 k y0 y1 y2) (hunks_Changes.l1 (k + 1) y0 y1 y2)) ∧ (∀ y0 y1 y2, LeO (hunks_Changes.l0 k y0 y1 y2) (hunks_Changes.l0 (k + 1) y0 y1 y2))
 | 0 => ⟨fun _ _ _ r h => by simp [hunks_Changes.j1] at h, fun _ _ _ r h => by simp [hunks_Changes.j3] at h, fun _ _ _ _ r h => by simp [hunks_Changes.j4] at h, fun _ _ _ _ _ _ _ _ _ _ _ r h => by simp [hunks_Changes.l2] at h, fun _ _ _ _ _ _ _ _ _ _ _ _ r h => by simp [hunks_Changes.j6] at h, fun _ _ _ _ _ _ _ _ _ _ _ _ r h => by simp [hunks_Changes.j7] at h, fun _ _ _ r h => by simp [hunks_Changes.l1] at h, fun _ _ _ r h => by simp [hunks_Changes.l0] at h⟩
 | k + 1 => by
  obtain ⟨ih0, ih1, ih2, ih3, ih4, ih5, ih6, ih7⟩ := hunks_Changes.mono_l k
  refine ⟨?_, ?_, ?_, ?_, ?_, ?_, ?_, ?_⟩
  ·intro y0 y1 y2
   unfold hunks_Changes.j1
   repeat' first
   | (with_reducible exact ih0 _ _ _)
   | (with_reducible exact ih1 _ _ _)
   | (with_reducible exact ih2 _ _ _ _)
   | (with_reducible exact ih3 _ _ _ _ _ _ _ _ _ _ _)
   | (with_reducible exact ih4 _ _ _ _ _ _ _ _ _ _ _ _)
   | (with_reducible exact ih5 _ _ _ _ _ _ _ _ _ _ _ _)
   | (with_reducible exact ih6 _ _ _)
   | (with_reducible exact ih7 _ _ _)
   | (with_reducible exact hunks_table.mono _ _ _)
   | (with_reducible exact LeO.refl _)
   | (with_reducible exact LeO.none _)
   | (with_reducible refine LeO.ite ?_ ?_)
   | (with_reducible refine LeO.bind ?_ (fun _ => ?_))
  ·intro y0 y1 y2
   unfold hunks_Changes.j3
   repeat' first
   | (with_reducible exact ih0 _ _ _)
   | (with_reducible exact ih1 _ _ _)
   | (with_reducible exact ih2 _ _ _ _)
   | (with_reducible exact ih3 _ _ _ _ _ _ _ _ _ _ _)
   | (with_reducible exact ih4 _ _ _ _ _ _ _ _ _ _ _ _)
   | (with_reducible exact ih5 _ _ _ _ _ _ _ _ _ _ _ _)
   | (with_reducible exact ih6 _ _ _)
   | (with_reducible exact ih7 _ _ _)
   | (with_reducible exact hunks_table.mono _ _ _)
   | (with_reducible exact LeO.refl _)
   | (with_reducible exact LeO.none _)
   | (with_reducible refine LeO.ite ?_ ?_)
   | (with_reducible refine LeO.bind ?_ (fun _ => ?_))
  ·intro y0 y1 y2 y3
   unfold hunks_Changes.j4
   repeat' first
   | (with_reducible exact ih0 _ _ _)
   | (with_reducible exact ih1 _ _ _)
   | (with_reducible exact ih2 _ _ _ _)
   | (with_reducible exact ih3 _ _ _ _ _ _ _ _ _ _ _)
   | (with_reducible exact ih4 _ _ _ _ _ _ _ _ _ _ _ _)
   | (with_reducible exact ih5 _ _ _ _ _ _ _ _ _ _ _ _)
   | (with_reducible exact ih6 _ _ _)
   | (with_reducible exact ih7 _ _ _)
   | (with_reducible exact hunks_table.mono _ _ _)
   | (with_reducible exact LeO.refl _)
   | (with_reducible exact LeO.none _)
   | (with_reducible refine LeO.ite ?_ ?_)
   | (with_reducible refine LeO.bind ?_ (fun _ => ?_))
  ·intro y0 y1 y2 y3 y4 y5 y6 y7 y8 y9 y10
   unfold hunks_Changes.l2
   repeat' first
   | (with_reducible exact ih0 _ _ _)
   | (with_reducible exact ih1 _ _ _)
   | (with_reducible exact ih2 _ _ _ _)
   | (with_reducible exact ih3 _ _ _ _ _ _ _ _ _ _ _)
   | (with_reducible exact ih4 _ _ _ _ _ _ _ _ _ _ _ _)
   | (with_reducible exact ih5 _ _ _ _ _ _ _ _ _ _ _ _)
   | (with_reducible exact ih6 _ _ _)
   | (with_reducible exact ih7 _ _ _)
   | (with_reducible exact hunks_table.mono _ _ _)
   | (with_reducible exact LeO.refl _)
   | (with_reducible exact LeO.none _)
   | (with_reducible refine LeO.ite ?_ ?_)
   | (with_reducible refine LeO.bind ?_ (fun _ => ?_))
  ·intro y0 y1 y2 y3 y4 y5 y6 y7 y8 y9 y10 y11
   unfold hunks_Changes.j6
   repeat' first
   | (with_reducible exact ih0 _ _ _)
   | (with_reducible exact ih1 _ _ _)
   | (with_reducible exact ih2 _ _ _ _)
   | (with_reducible exact ih3 _ _ _ _ _ _ _ _ _ _ _)
   | (with_reducible exact ih4 _ _ _ _ _ _ _ _ _ _ _ _)
   | (with_reducible exact ih5 _ _ _ _ _ _ _ _ _ _ _ _)
   | (with_reducible exact ih6 _ _ _)
   | (with_reducible exact ih7 _ _ _)
   | (with_reducible exact hunks_table.mono _ _ _)
   | (with_reducible exact LeO.refl _)
   | (with_reducible exact LeO.none _)
   | (with_reducible refine LeO.ite ?_ ?_)
   | (with_reducible refine LeO.bind ?_ (fun _ => ?_))
  ·intro y0 y1 y2 y3 y4 y5 y6 y7 y8 y9 y10 y11
   unfold hunks_Changes.j7
   repeat' first
   | (with_reducible exact ih0 _ _ _)
   | (with_reducible exact ih1 _ _ _)
   | (with_reducible exact ih2 _ _ _ _)
   | (with_reducible exact ih3 _ _ _ _ _ _ _ _ _ _ _)
   | (with_reducible exact ih4 _ _ _ _ _ _ _ _ _ _ _ _)
   | (with_reducible exact ih5 _ _ _ _ _ _ _ _ _ _ _ _)
   | (with_reducible exact ih6 _ _ _)
   | (with_reducible exact ih7 _ _ _)
   | (with_reducible exact hunks_table.mono _ _ _)
   | (with_reducible exact LeO.refl _)
   | (with_reducible exact LeO.none _)
   | (with_reducible refine LeO.ite ?_ ?_)
   | (with_reducible refine LeO.bind ?_ (fun _ => ?_))
  ·intro y0 y1 y2
   unfold hunks_Changes.l1
   repeat' first
   | (with_reducible exact ih0 _ _ _)
   | (with_reducible exact ih1 _ _ _)
   | (with_reducible exact ih2 _ _ _ _)
   | (with_reducible exact ih3 _ _ _ _ _ _ _ _ _ _ _)
   | (with_reducible exact ih4 _ _ _ _ _ _ _ _ _ _ _ _)
   | (with_reducible exact ih5 _ _ _ _ _ _ _ _ _ _ _ _)
   | (with_reducible exact ih6 _ _ _)
   | (with_reducible exact ih7 _ _ _)
   | (with_reducible exact hunks_table.mono _ _ _)
   | (with_reducible exact LeO.refl _)
   | (with_reducible exact LeO.none _)
   | (with_reducible refine LeO.ite ?_ ?_)
   | (with_reducible refine LeO.bind ?_ (fun _ => ?_))
  ·intro y0 y1 y2
   unfold hunks_Changes.l0
   repeat' first
   | (with_reducible exact ih0 _ _ _)
   | (with_reducible exact ih1 _ _ _)
   | (with_reducible exact ih2 _ _ _ _)
   | (with_reducible exact ih3 _ _ _ _ _ _ _ _ _ _ _)
   | (with_reducible exact ih4 _ _ _ _ _ _ _ _ _ _ _ _)
   | (with_reducible exact ih5 _ _ _ _ _ _ _ _ _ _ _ _)
   | (with_reducible exact ih6 _ _ _)
   | (with_reducible exact ih7 _ _ _)
   | (with_reducible exact hunks_table.mono _ _ _)
   | (with_reducible exact LeO.refl _)
   | (with_reducible exact LeO.none _)
   | (with_reducible refine LeO.ite ?_ ?_)
   | (with_reducible refine LeO.bind ?_ (fun _ => ?_))
theorem hunks_Changes.mono : ∀ a0 a1 k, LeO (hunks_Changes.f k a0 a1) (hunks_Changes.f (k + 1) a0 a1) := by
 intro a0 a1 k
 obtain ⟨ih0, ih1, ih2, ih3, ih4, ih5, ih6, ih7⟩ := hunks_Changes.mono_l k
 unfold hunks_Changes.f
 repeat' first
   | (with_reducible exact ih0 _ _ _)
   | (with_reducible exact ih1 _ _ _)
   | (with_reducible exact ih2 _ _ _ _)
   | (with_reducible exact ih3 _ _ _ _ _ _ _ _ _ _ _)
   | (with_reducible exact ih4 _ _ _ _ _ _ _ _ _ _ _ _)
   | (with_reducible exact ih5 _ _ _ _ _ _ _ _ _ _ _ _)
   | (with_reducible exact ih6 _ _ _)
   | (with_reducible exact ih7 _ _ _)
   | (with_reducible exact hunks_table.mono _ _ _)
   | (with_reducible exact LeO.refl _)
   | (with_reducible exact LeO.none _)
   | (with_reducible refine LeO.ite ?_ ?_)
   | (with_reducible refine LeO.bind ?_ (fun _ => ?_))
set_option maxHeartbeats 8000000 in
set_option maxRecDepth 100000 in
theorem hunks_Changes.calls (k : Nat) (P0_ : Nat → Prop) (A0 : Option Addr) (c0 : Nat) (l0 : List ByteArray) (P1_ : Nat → Prop) (A1 : Option Addr) (c1 : Nat) (l1 : List ByteArray) (r : List (S82)) (w : World) (hs0 : Kd.V Kd.string 9 w w.heap.size (fun k_ => P0_ k_) (.slice A0 l0.length c0) l0) (hs1 : Kd.V Kd.string 9 w w.heap.size (fun k_ => P1_ k_) (.slice A1 l1.length c1) l1) (h : hunks_Changes.f k l0 l1 = some r) :
  Calls Tryd.prog 37 #[.slice A0 l0.length c0, .slice A1 l1.length c1] w fun e w' => ∃ v0_ : Value, e = .returned (v0_) ∧ Kd.R k82 82 w' w.heap.size (fun k_ => (w.heap.size ≤ k_)) v0_ r ∧ Below w.heap.size w w' := by
 have hu82 := Tryd.underlying82
 have HO0 := Aside0.mk (show Kd.V Kd.string 9 w w.heap.size (fun k_ => ((P0_ k_ ∨ P1_ k_) ∨ w.heap.size ≤ k_)) (.slice A0 l0.length c0) l0 from Kd.V_mono hs0 (fun k_ hk => .inl (.inl hk)))
 have HO1 := Aside0.mk (show Kd.V Kd.string 9 w w.heap.size (fun k_ => ((P0_ k_ ∨ P1_ k_) ∨ w.heap.size ≤ k_)) (.slice A1 l1.length c1) l1 from Kd.V_mono hs1 (fun k_ hk => .inl (.inr hk)))
 have HB := Aside0.mk (Below.refl w.heap.size w)
 have H : (hunks_Changes.l0 k l0 l1 0) = some r := h
 clear h
 have HC3 := Aside0.mk H
 clear H
 go_enter Tryd.func37, Tryd.ntmps37
 go_upto_block 0 with (first | ((with_reducible refine gate_dst (N := 5) rfl ?_); (try (refine gate_guard (by rfl) ?_; dsimp only)); refine box_event ?hg (N := 5) ?hd (cs := #[.int .i64 0]) (t := 3) ?hr ?_; (case hd => rfl); (case hg => rfl); (case hr => first | (go_simp; done) | (go_simp; rfl)); intro gb161 hg w4 hbox hb; have n0_ := Aside0.mk (Kd.V_below (Kd.V_elderB (by (with_reducible repeat (first | apply Kd.V_alloc | apply Kd.V_drewN | apply Kd.V_drew)); exact HO0.out) gb161 (Nat.le_of_eq hg.symm)) hb); have n1_ := Aside0.mk (Kd.V_below (Kd.V_elderB (by (with_reducible repeat (first | apply Kd.V_alloc | apply Kd.V_drewN | apply Kd.V_drew)); exact HO1.out) gb161 (Nat.le_of_eq hg.symm)) hb); have n2_ := Aside0.mk (below_step (by repeat (first | (with_reducible first | exact HB.out | apply below_alloc | apply pw_below_drewN | apply below_drew1) | exact HB.out)) hb); have n3_ := Aside0.mk (hbox); have n4_ := Aside0.mk ((by rw [hg]; exact (below_size (by repeat (first | (with_reducible first | exact HB.out | apply below_alloc | apply pw_below_drewN | apply below_drew1) | exact HB.out))) : w.heap.size ≤ gb161)); have n5_ := Aside0.mk ((by rw [hg]; exact (below_size (by repeat (first | (with_reducible first | exact HB.out | apply below_alloc | apply pw_below_drewN | apply below_drew1) | exact HB.out))) : w.heap.size ≤ gb161)); clear HO0; clear HO1; clear HB; have HO0 := n0_; have HO1 := n1_; have HB := n2_; have BK161 := n3_; have GW161 := n4_; have GE161 := n5_; clear n0_ n1_ n2_ n3_ n4_ n5_; clear hb hbox hg; have hcz5_0 : w4.cell? ⟨gb161, 0, none⟩ = some (.int .i64 0) := (blk_cell BK161.out 0).trans rfl; have hfz5_0 := blk_frozen BK161.out 0))
 repeat (go_quiet (fail); go_upto_block 0 with (first | ((with_reducible refine gate_dst (N := 5) rfl ?_); (try (refine gate_guard (by rfl) ?_; dsimp only)); refine box_event ?hg (N := 5) ?hd (cs := #[.int .i64 0]) (t := 3) ?hr ?_; (case hd => rfl); (case hg => rfl); (case hr => first | (go_simp; done) | (go_simp; rfl)); intro gb161 hg w4 hbox hb; have n0_ := Aside0.mk (Kd.V_below (Kd.V_elderB (by (with_reducible repeat (first | apply Kd.V_alloc | apply Kd.V_drewN | apply Kd.V_drew)); exact HO0.out) gb161 (Nat.le_of_eq hg.symm)) hb); have n1_ := Aside0.mk (Kd.V_below (Kd.V_elderB (by (with_reducible repeat (first | apply Kd.V_alloc | apply Kd.V_drewN | apply Kd.V_drew)); exact HO1.out) gb161 (Nat.le_of_eq hg.symm)) hb); have n2_ := Aside0.mk (below_step (by repeat (first | (with_reducible first | exact HB.out | apply below_alloc | apply pw_below_drewN | apply below_drew1) | exact HB.out)) hb); have n3_ := Aside0.mk (hbox); have n4_ := Aside0.mk ((by rw [hg]; exact (below_size (by repeat (first | (with_reducible first | exact HB.out | apply below_alloc | apply pw_below_drewN | apply below_drew1) | exact HB.out))) : w.heap.size ≤ gb161)); have n5_ := Aside0.mk ((by rw [hg]; exact (below_size (by repeat (first | (with_reducible first | exact HB.out | apply below_alloc | apply pw_below_drewN | apply below_drew1) | exact HB.out))) : w.heap.size ≤ gb161)); clear HO0; clear HO1; clear HB; have HO0 := n0_; have HO1 := n1_; have HB := n2_; have BK161 := n3_; have GW161 := n4_; have GE161 := n5_; clear n0_ n1_ n2_ n3_ n4_ n5_; clear hb hbox hg; have hcz5_0 : w4.cell? ⟨gb161, 0, none⟩ = some (.int .i64 0) := (blk_cell BK161.out 0).trans rfl; have hfz5_0 := blk_frozen BK161.out 0)))
 (try simp only [Act.put, List.setIfInBounds_toArray, List.set_cons_zero, List.set_cons_succ])
 go_cut [] (fun wc => ∃ (kq : Nat) (x162000_2 : Int), Aside0 (hunks_Changes.j1 kq l0 l1 x162000_2 = some r) ∧ Aside0 (kq ≤ k) ∧ Aside0 (Kd.V Kd.string 9 wc w.heap.size (fun k_ => ((P0_ k_ ∨ P1_ k_) ∨ w.heap.size ≤ k_) ∧ k_ ≠ gb161) (.slice A0 l0.length c0) l0) ∧ Aside0 (Kd.V Kd.string 9 wc w.heap.size (fun k_ => ((P0_ k_ ∨ P1_ k_) ∨ w.heap.size ≤ k_) ∧ k_ ≠ gb161) (.slice A1 l1.length c1) l1) ∧ Aside0 (wc.heap[gb161]? = some (.cells #[.int .i64 x162000_2] 3 (0, 0))) ∧ Aside0 (Below w.heap.size w wc))
 case first =>
  have H := HC3.out
  clear HC3
  have H' := Aside0.mk H
  clear H
  go_wp2
  repeat (go_quiet (fail); try go_wp2)
  go_loopg [] k (fun kq w' => ∃ (x162000_1 : Int), Aside0 (hunks_Changes.l0 kq l0 l1 x162000_1 = some r) ∧ Aside0 (kq ≤ k) ∧ Aside0 (Kd.V Kd.string 9 w' w.heap.size (fun k_ => ((P0_ k_ ∨ P1_ k_) ∨ w.heap.size ≤ k_) ∧ k_ ≠ gb161) (.slice A0 l0.length c0) l0) ∧ Aside0 (Kd.V Kd.string 9 w' w.heap.size (fun k_ => ((P0_ k_ ∨ P1_ k_) ∨ w.heap.size ≤ k_) ∧ k_ ≠ gb161) (.slice A1 l1.length c1) l1) ∧ Aside0 (w'.heap[gb161]? = some (.cells #[.int .i64 x162000_1] 3 (0, 0))) ∧ Aside0 (Below w.heap.size w w'))
  case atStart => exact ⟨(0), H', ⟨Nat.le_refl _⟩, ⟨by (with_reducible repeat (first | apply Kd.V_alloc | apply Kd.V_drewN | apply Kd.V_drew)); exact Kd.V_mono (Kd.V_far (p := ⟨gb161, 0, none⟩) (Kd.V_mono HO0.out (fun k_ hk => (⟨hk, hk.2⟩ : _ ∧ k_ ≠ gb161))) (fun _ hk => hk.2) (.int .i64 0)) (fun _ hk => ⟨hk.1.1, hk.1.2⟩)⟩, ⟨by (with_reducible repeat (first | apply Kd.V_alloc | apply Kd.V_drewN | apply Kd.V_drew)); exact Kd.V_mono (Kd.V_far (p := ⟨gb161, 0, none⟩) (Kd.V_mono HO1.out (fun k_ hk => (⟨hk, hk.2⟩ : _ ∧ k_ ≠ gb161))) (fun _ hk => hk.2) (.int .i64 0)) (fun _ hk => ⟨hk.1.1, hk.1.2⟩)⟩, ⟨by (with_reducible repeat (first | refine blk_drewN ?_ _ | refine blk_drew ?_ | refine blk_alloc ?_ _)); refine blk_put (cs := #[.int .i64 0]) ?_ 0 _ rfl; (with_reducible repeat (first | refine blk_drewN ?_ _ | refine blk_drew ?_ | refine blk_alloc ?_ _)); exact BK161.out⟩, ⟨by repeat (first | (with_reducible first | exact HB.out | apply below_alloc | apply pw_below_drewN | apply below_drew1 | refine below_set ?_ GE161.out) | exact HB.out)⟩⟩
  case round =>
   clear H'
   (try clear c1); (try clear p2); (try clear c3); (try clear hcz5_0); (try clear hfz5_0)
   obtain ⟨x162000_1, HA, HK1, HO_0, HO_1, BK161, HB⟩ := hrel
   cases gk with
   | zero => exact absurd HA.out (by simp [hunks_Changes.l0])
   | succ k1 =>
    have H := HA.out
    clear HA
    simp only [hunks_Changes.l0] at H
    by_cases c6 : x162000_1 < (l0.length : Int)
    ·rw [if_pos c6] at H
     have c6b0 : decide (x162000_1 < (l0.length : Int)) = true := decide_eq_true c6
     clear c6
     (first | rw [c6b0] | (simp only [i64_w, i32_w]; rw [c6b0]) | skip)
     by_cases c7 : x162000_1 < (l1.length : Int)
     ·rw [if_pos c7] at H
      have c7b0 : decide (x162000_1 < (l1.length : Int)) = true := decide_eq_true c7
      clear c7
      by_cases c8 : 0 ≤ x162000_1
      ·rw [if_pos c8] at H
       have c8b0 : decide (0 ≤ x162000_1) = true := decide_eq_true c8
       clear c8
       by_cases c9 : (rdOf ByteArray.empty l0 x162000_1).toList = (rdOf ByteArray.empty l1 x162000_1).toList
       ·rw [if_pos c9] at H
        have c9b0 : ((rdOf ByteArray.empty l0 x162000_1).toList == (rdOf ByteArray.empty l1 x162000_1).toList) = true := beq_iff_eq.mpr c9
        have c9b1 : ((rdOf ByteArray.empty l0 x162000_1).toList != (rdOf ByteArray.empty l1 x162000_1).toList) = false := bne_eq_false_iff_eq.mpr c9
        clear c9
        have H' := Aside0.mk H
        clear H
        have hcz10_0 : wr.cell? ⟨gb161, 0, none⟩ = some (.int .i64 x162000_1) := (blk_cell BK161.out 0).trans rfl
        have hfz10_0 := blk_frozen BK161.out 0
        have p162 : 0 ≤ (x162000_1 : Int) := of_decide_eq_true (by first | (with_reducible assumption) | assumption)
        have q162 : x162000_1 < (l0.length : Int) := of_decide_eq_true (by first | (with_reducible assumption) | assumption)
        obtain ⟨ad162, e162, hx162_0⟩ := Kd.at_string (Kd.V_reads' HO_0.out).2.2 x162000_1 p162 q162
        cases e162
        replace p162 := eq_true p162
        replace q162 := eq_true q162
        have p163 : 0 ≤ (x162000_1 : Int) := of_decide_eq_true (by first | (with_reducible assumption) | assumption)
        have q163 : x162000_1 < (l1.length : Int) := of_decide_eq_true (by first | (with_reducible assumption) | assumption)
        obtain ⟨ad163, e163, hx163_0⟩ := Kd.at_string (Kd.V_reads' HO_1.out).2.2 x162000_1 p163 q163
        cases e163
        replace p163 := eq_true p163
        replace q163 := eq_true q163
        go_wp2
        repeat (go_quiet (fail); try go_wp2)
        go_roundg k1
        case measure => have := HK1.out; omega
        case rel => exact ⟨(wrap64 (x162000_1 + 1)), H', ⟨by have := HK1.out; omega⟩, ⟨by (with_reducible repeat (first | apply Kd.V_alloc | apply Kd.V_drewN | apply Kd.V_drew)); exact Kd.V_mono (Kd.V_far (p := ⟨gb161, 0, none⟩) (Kd.V_mono HO_0.out (fun k_ hk => (⟨hk, hk.2⟩ : _ ∧ k_ ≠ gb161))) (fun _ hk => hk.2) (.int .i64 (wrap64 (x162000_1 + 1)))) (fun _ hk => ⟨hk.1.1, hk.1.2⟩)⟩, ⟨by (with_reducible repeat (first | apply Kd.V_alloc | apply Kd.V_drewN | apply Kd.V_drew)); exact Kd.V_mono (Kd.V_far (p := ⟨gb161, 0, none⟩) (Kd.V_mono HO_1.out (fun k_ hk => (⟨hk, hk.2⟩ : _ ∧ k_ ≠ gb161))) (fun _ hk => hk.2) (.int .i64 (wrap64 (x162000_1 + 1)))) (fun _ hk => ⟨hk.1.1, hk.1.2⟩)⟩, ⟨by (with_reducible repeat (first | refine blk_drewN ?_ _ | refine blk_drew ?_ | refine blk_alloc ?_ _)); refine blk_put (cs := #[.int .i64 x162000_1]) ?_ 0 _ rfl; (with_reducible repeat (first | refine blk_drewN ?_ _ | refine blk_drew ?_ | refine blk_alloc ?_ _)); exact BK161.out⟩, ⟨by repeat (first | (with_reducible first | exact HB.out | apply below_alloc | apply pw_below_drewN | apply below_drew1 | refine below_set ?_ GE161.out) | exact HB.out)⟩⟩
       ·rw [if_neg c9] at H
        have c9b0 : ((rdOf ByteArray.empty l0 x162000_1).toList == (rdOf ByteArray.empty l1 x162000_1).toList) = false := beq_eq_false_iff_ne.mpr c9
        have c9b1 : ((rdOf ByteArray.empty l0 x162000_1).toList != (rdOf ByteArray.empty l1 x162000_1).toList) = true := bne_iff_ne.mpr c9
        have H' := Aside0.mk H
        clear H
        have hcz11_0 : wr.cell? ⟨gb161, 0, none⟩ = some (.int .i64 x162000_1) := (blk_cell BK161.out 0).trans rfl
        have hfz11_0 := blk_frozen BK161.out 0
        have p162 : 0 ≤ (x162000_1 : Int) := of_decide_eq_true (by first | (with_reducible assumption) | assumption)
        have q162 : x162000_1 < (l0.length : Int) := of_decide_eq_true (by first | (with_reducible assumption) | assumption)
        obtain ⟨ad162, e162, hx162_0⟩ := Kd.at_string (Kd.V_reads' HO_0.out).2.2 x162000_1 p162 q162
        cases e162
        replace p162 := eq_true p162
        replace q162 := eq_true q162
        have p163 : 0 ≤ (x162000_1 : Int) := of_decide_eq_true (by first | (with_reducible assumption) | assumption)
        have q163 : x162000_1 < (l1.length : Int) := of_decide_eq_true (by first | (with_reducible assumption) | assumption)
        obtain ⟨ad163, e163, hx163_0⟩ := Kd.at_string (Kd.V_reads' HO_1.out).2.2 x162000_1 p163 q163
        cases e163
        replace p163 := eq_true p163
        replace q163 := eq_true q163
        go_wp2
        repeat (go_quiet (fail); try go_wp2)
        go_meet
        case rel => exact ⟨_, (x162000_1), H', ⟨by have := HK1.out; first | omega | exact Nat.le_refl _⟩, ⟨by (with_reducible repeat (first | apply Kd.V_alloc | apply Kd.V_drewN | apply Kd.V_drew)); exact HO_0.out⟩, ⟨by (with_reducible repeat (first | apply Kd.V_alloc | apply Kd.V_drewN | apply Kd.V_drew)); exact HO_1.out⟩, ⟨by (with_reducible repeat (first | refine blk_drewN ?_ _ | refine blk_drew ?_ | refine blk_alloc ?_ _)); exact BK161.out⟩, ⟨by repeat (first | (with_reducible first | exact HB.out | apply below_alloc | apply pw_below_drewN | apply below_drew1 | refine below_set ?_ GE161.out) | exact HB.out)⟩⟩
      ·rw [if_neg c8] at H
       exact absurd H (by simp)
     ·rw [if_neg c7] at H
      have c7b0 : decide (x162000_1 < (l1.length : Int)) = false := decide_eq_false c7
      clear c7
      have H' := Aside0.mk H
      clear H
      have hcz12_0 : wr.cell? ⟨gb161, 0, none⟩ = some (.int .i64 x162000_1) := (blk_cell BK161.out 0).trans rfl
      have hfz12_0 := blk_frozen BK161.out 0
      go_wp2
      repeat (go_quiet (fail); try go_wp2)
      go_meet
      case rel => exact ⟨_, (x162000_1), H', ⟨by have := HK1.out; first | omega | exact Nat.le_refl _⟩, ⟨by (with_reducible repeat (first | apply Kd.V_alloc | apply Kd.V_drewN | apply Kd.V_drew)); exact HO_0.out⟩, ⟨by (with_reducible repeat (first | apply Kd.V_alloc | apply Kd.V_drewN | apply Kd.V_drew)); exact HO_1.out⟩, ⟨by (with_reducible repeat (first | refine blk_drewN ?_ _ | refine blk_drew ?_ | refine blk_alloc ?_ _)); exact BK161.out⟩, ⟨by repeat (first | (with_reducible first | exact HB.out | apply below_alloc | apply pw_below_drewN | apply below_drew1 | refine below_set ?_ GE161.out) | exact HB.out)⟩⟩
    ·rw [if_neg c6] at H
     have c6b0 : decide (x162000_1 < (l0.length : Int)) = false := decide_eq_false c6
     clear c6
     (first | rw [c6b0] | (simp only [i64_w, i32_w]; rw [c6b0]) | skip)
     have H' := Aside0.mk H
     clear H
     have hcz13_0 : wr.cell? ⟨gb161, 0, none⟩ = some (.int .i64 x162000_1) := (blk_cell BK161.out 0).trans rfl
     have hfz13_0 := blk_frozen BK161.out 0
     go_wp2
     repeat (go_quiet (fail); try go_wp2)
     go_meet
     case rel => exact ⟨_, (x162000_1), H', ⟨by have := HK1.out; first | omega | exact Nat.le_refl _⟩, ⟨by (with_reducible repeat (first | apply Kd.V_alloc | apply Kd.V_drewN | apply Kd.V_drew)); exact HO_0.out⟩, ⟨by (with_reducible repeat (first | apply Kd.V_alloc | apply Kd.V_drewN | apply Kd.V_drew)); exact HO_1.out⟩, ⟨by (with_reducible repeat (first | refine blk_drewN ?_ _ | refine blk_drew ?_ | refine blk_alloc ?_ _)); exact BK161.out⟩, ⟨by repeat (first | (with_reducible first | exact HB.out | apply below_alloc | apply pw_below_drewN | apply below_drew1 | refine below_set ?_ GE161.out) | exact HB.out)⟩⟩
 case rest =>
  clear HC3
  (try clear c1); (try clear p1); (try clear q1); (try clear hx1); (try clear p2); (try clear c3); (try clear c6); (try clear c6b0); (try clear p6); (try clear c7); (try clear c7b0); (try clear c8); (try clear c8b0); (try clear c9); (try clear c9b0); (try clear c9b1); (try clear hcz10_0); (try clear hcz11_0); (try clear hcz12_0); (try clear hcz13_0); (try clear hcz5_0); (try clear hfz10_0); (try clear hfz11_0); (try clear hfz12_0); (try clear hfz13_0); (try clear hfz5_0); (try clear hx162_0); (try clear hx163_0); (try clear p162); (try clear p163); (try clear p2); (try clear q162); (try clear q163)
  obtain ⟨kq, x162000_2, HA, HJ2, HO_0, HO_1, BK161, HB⟩ := hcut
  cases kq with
  | zero => exact absurd HA.out (by simp [hunks_Changes.j1])
  | succ kj2 =>
   have H := HA.out
   clear HA
   simp only [hunks_Changes.j1] at H
   by_cases c14 : 0 ≤ x162000_2
   ·rw [if_pos c14] at H
    have c14b0 := eq_true c14
    have c14b1 : decide (0 ≤ x162000_2) = true := decide_eq_true c14
    clear c14
    by_cases c15 : x162000_2 ≤ (l0.length : Int)
    ·rw [if_pos c15] at H
     have c15b0 := eq_true c15
     have c15b1 : decide (x162000_2 ≤ (l0.length : Int)) = true := decide_eq_true c15
     clear c15
     obtain ⟨y164, hy164⟩ : ∃ y_ : List ByteArray, y_ = (l0.drop (x162000_2 : Int).toNat) := ⟨_, rfl⟩
     replace H : (if x162000_2 ≤ (l1.length : Int) then (hunks_Changes.l1 kj2 y164 (l1.drop (x162000_2 : Int).toNat) x162000_2) else (none)) = some r := by first | (rw [hy164]; with_reducible exact H) | (have H2_ := (Option.bind_some _ _).symm.trans H; rw [hy164]; with_reducible exact H2_) | (have H2_ := (Option.bind_some _ _).symm.trans H; with_reducible exact H2_) | with_reducible exact H | (rw [hy164]; exact H) | exact H
     have Ny164 := Aside0.mk hy164
     clear hy164
     have c16b0 := eq_true (of_decide_eq_true (by first | (with_reducible assumption) | assumption) : 0 ≤ x162000_2)
     by_cases c17 : x162000_2 ≤ (l1.length : Int)
     ·rw [if_pos c17] at H
      have c17b0 := eq_true c17
      have c17b1 : decide (x162000_2 ≤ (l1.length : Int)) = true := decide_eq_true c17
      clear c17
      obtain ⟨y169, hy169⟩ : ∃ y_ : List ByteArray, y_ = (l1.drop (x162000_2 : Int).toNat) := ⟨_, rfl⟩
      replace H : (hunks_Changes.l1 kj2 y164 y169 x162000_2) = some r := by first | (rw [hy169]; with_reducible exact H) | (have H2_ := (Option.bind_some _ _).symm.trans H; rw [hy169]; with_reducible exact H2_) | (have H2_ := (Option.bind_some _ _).symm.trans H; with_reducible exact H2_) | with_reducible exact H | (rw [hy169]; exact H) | exact H
      have Ny169 := Aside0.mk hy169
      clear hy169
      have HC18 := Aside0.mk H
      clear H
      have hcz19_0 : wc.cell? ⟨gb161, 0, none⟩ = some (.int .i64 x162000_2) := (blk_cell BK161.out 0).trans rfl
      have hfz19_0 := blk_frozen BK161.out 0
      have q20 : (x162000_2 : Int) ≤ ((l0.length : Int) : Int) := of_decide_eq_true (by first | (with_reducible assumption) | assumption)
      obtain ⟨i020, hi020, _, hsz20, _⟩ := info_parts info9
      have hroom20 : l0.length ≤ c0 := (Kd.V_reads' HO_0.out).2.1
      have hC20 : Kd.F Kd.string _ _ A0 l0.length l0 := (Kd.V_at (base := w.heap.size) HO_0.out).2.2
      have q020 : (0 : Int) ≤ (x162000_2 : Int) := of_decide_eq_true (by first | (with_reducible assumption) | assumption)
      have hcut20 := cut_from (P := Tryd.prog) 77 9 .i64 Tryd.underlying77 hi020 1 hsz20 A0 l0.length c0 x162000_2 q020 q20
      have hr20 := Kd.F_cut (m := (x162000_2 : Int).toNat) (c := c0) hC20 (by omega) hroom20
      obtain ⟨A20, hA20⟩ : ∃ A1z_, A1z_ = (if c0 = (x162000_2 : Int).toNat then A0 else (A0 : Option Addr).map (·.add ((x162000_2 : Int).toNat * 1))) := ⟨_, rfl⟩
      obtain ⟨c20, hc20⟩ : ∃ c1z_, c1z_ = c0 - (x162000_2 : Int).toNat := ⟨_, rfl⟩
      have hy20 : y164.length = l0.length - (x162000_2 : Int).toNat := (by rw [Ny164.out, List.length_drop] <;> omega)
      rw [show (l0).drop (x162000_2 : Int).toNat = y164 from Ny164.out.symm] at hr20
      replace hr20 : Kd.F Kd.string _ _ A20 y164.length y164 := (by rw [hA20]; exact hr20)
      rw [← hy20, ← hA20, ← hc20] at hcut20
      have HO168 := Aside0.mk (show Kd.V Kd.string 9 _ w.heap.size _ (.slice A20 y164.length c20) y164 from Kd.V_mk (by rw [hy20, hc20]; exact Nat.sub_le_sub_right hroom20 _) hr20)
      have HC168 := Aside0.mk (show y164.length ≤ c20 from by rw [hy20, hc20]; exact Nat.sub_le_sub_right hroom20 _)
      clear hr20 hC20 hroom20 hi020 hsz20 hc20
      have KY20 := Aside0.mk hy20
      have KA20 := Aside0.mk hA20
      clear hy20 hA20
      replace q20 := eq_true q20
      have q21 : (x162000_2 : Int) ≤ ((l1.length : Int) : Int) := of_decide_eq_true (by first | (with_reducible assumption) | assumption)
      obtain ⟨i021, hi021, _, hsz21, _⟩ := info_parts info9
      have hroom21 : l1.length ≤ c1 := (Kd.V_reads' HO_1.out).2.1
      have hC21 : Kd.F Kd.string _ _ A1 l1.length l1 := (Kd.V_at (base := w.heap.size) HO_1.out).2.2
      have q021 : (0 : Int) ≤ (x162000_2 : Int) := of_decide_eq_true (by first | (with_reducible assumption) | assumption)
      have hcut21 := cut_from (P := Tryd.prog) 77 9 .i64 Tryd.underlying77 hi021 1 hsz21 A1 l1.length c1 x162000_2 q021 q21
      have hr21 := Kd.F_cut (m := (x162000_2 : Int).toNat) (c := c1) hC21 (by omega) hroom21
      obtain ⟨A21, hA21⟩ : ∃ A1z_, A1z_ = (if c1 = (x162000_2 : Int).toNat then A1 else (A1 : Option Addr).map (·.add ((x162000_2 : Int).toNat * 1))) := ⟨_, rfl⟩
      obtain ⟨c21, hc21⟩ : ∃ c1z_, c1z_ = c1 - (x162000_2 : Int).toNat := ⟨_, rfl⟩
      have hy21 : y169.length = l1.length - (x162000_2 : Int).toNat := (by rw [Ny169.out, List.length_drop] <;> omega)
      rw [show (l1).drop (x162000_2 : Int).toNat = y169 from Ny169.out.symm] at hr21
      replace hr21 : Kd.F Kd.string _ _ A21 y169.length y169 := (by rw [hA21]; exact hr21)
      rw [← hy21, ← hA21, ← hc21] at hcut21
      have HO173 := Aside0.mk (show Kd.V Kd.string 9 _ w.heap.size _ (.slice A21 y169.length c21) y169 from Kd.V_mk (by rw [hy21, hc21]; exact Nat.sub_le_sub_right hroom21 _) hr21)
      have HC173 := Aside0.mk (show y169.length ≤ c21 from by rw [hy21, hc21]; exact Nat.sub_le_sub_right hroom21 _)
      clear hr21 hC21 hroom21 hi021 hsz21 hc21
      have KY21 := Aside0.mk hy21
      have KA21 := Aside0.mk hA21
      clear hy21 hA21
      replace q21 := eq_true q21
      go_upto_block 2 with (fail)
      repeat (go_quiet (fail); go_upto_block 2 with (fail))
      go_cut [6, 7] (fun v6 v7 wc => ∃ (kq : Nat) (x6_17 : List ByteArray) (x7_17 : List ByteArray), Aside0 (hunks_Changes.j3 kq x6_17 x7_17 x162000_2 = some r) ∧ Aside0 (kq ≤ kj2) ∧ Aside0 (Kd.V Kd.string 9 wc w.heap.size (fun k_ => ((P0_ k_ ∨ P1_ k_) ∨ w.heap.size ≤ k_) ∧ k_ ≠ gb161) v6 x6_17) ∧ Aside0 (Kd.V Kd.string 9 wc w.heap.size (fun k_ => ((P0_ k_ ∨ P1_ k_) ∨ w.heap.size ≤ k_) ∧ k_ ≠ gb161) v7 x7_17) ∧ Aside0 (wc.heap[gb161]? = some (.cells #[.int .i64 x162000_2] 3 (0, 0))) ∧ Aside0 (Below w.heap.size w wc))
      case first =>
       have H := HC18.out
       clear HC18
       have H' := Aside0.mk H
       clear H
       go_wp2
       repeat (go_quiet (fail); try go_wp2)
       go_loopg [6, 7] kj2 (fun kq v6 v7 w' => ∃ (x6_2 : List ByteArray) (x7_2 : List ByteArray), Aside0 (hunks_Changes.l1 kq x6_2 x7_2 x162000_2 = some r) ∧ Aside0 (kq ≤ kj2) ∧ Aside0 (Kd.V Kd.string 9 w' w.heap.size (fun k_ => ((P0_ k_ ∨ P1_ k_) ∨ w.heap.size ≤ k_) ∧ k_ ≠ gb161) v6 x6_2) ∧ Aside0 (Kd.V Kd.string 9 w' w.heap.size (fun k_ => ((P0_ k_ ∨ P1_ k_) ∨ w.heap.size ≤ k_) ∧ k_ ≠ gb161) v7 x7_2) ∧ Aside0 (w'.heap[gb161]? = some (.cells #[.int .i64 x162000_2] 3 (0, 0))) ∧ Aside0 (Below w.heap.size w w'))
       case atStart => exact ⟨(y164), (y169), H', ⟨Nat.le_refl _⟩, ⟨by (with_reducible repeat (first | apply Kd.V_alloc | apply Kd.V_drewN | apply Kd.V_drew)); exact HO168.out⟩, ⟨by (with_reducible repeat (first | apply Kd.V_alloc | apply Kd.V_drewN | apply Kd.V_drew)); exact HO173.out⟩, ⟨by (with_reducible repeat (first | refine blk_drewN ?_ _ | refine blk_drew ?_ | refine blk_alloc ?_ _)); exact BK161.out⟩, ⟨by repeat (first | (with_reducible first | exact HB.out | apply below_alloc | apply pw_below_drewN | apply below_drew1 | refine below_set ?_ GE161.out) | exact HB.out)⟩⟩
       case round =>
        clear H'
        (try clear c1); (try clear p1); (try clear q1); (try clear hx1); (try clear c2); (try clear p2); (try clear q2); (try clear c3); (try clear c6); (try clear c6b0); (try clear p6); (try clear c7); (try clear c7b0); (try clear c8); (try clear c8b0); (try clear c9); (try clear c9b0); (try clear c9b1); (try clear c14); (try clear c14b0); (try clear c14b1); (try clear c15); (try clear c15b0); (try clear c15b1); (try clear c16); (try clear c16b0); (try clear p16); (try clear q16); (try clear hx16); (try clear c17); (try clear c17b0); (try clear c17b1); (try clear c20); (try clear q20); (try clear c21); (try clear q21); (try clear hcz10_0); (try clear hcz11_0); (try clear hcz12_0); (try clear hcz13_0); (try clear hcz19_0); (try clear hcz5_0); (try clear hfz10_0); (try clear hfz11_0); (try clear hfz12_0); (try clear hfz13_0); (try clear hfz19_0); (try clear hfz5_0); (try clear hx162_0); (try clear hx163_0); (try clear p1); (try clear p162); (try clear p163); (try clear p2); (try clear p6); (try clear q020); (try clear q021); (try clear q1); (try clear q162); (try clear q163); (try clear q20); (try clear q21)
        obtain ⟨x6_2, x7_2, HA, HK2, HO_6, HO_7, BK161, HB⟩ := hrel
        cases gk with
        | zero => exact absurd HA.out (by simp [hunks_Changes.l1])
        | succ k2 =>
         have H := HA.out
         clear HA
         simp only [hunks_Changes.l1] at H
         by_cases c22 : (x6_2.length : Int) > 0
         ·rw [if_pos c22] at H
          have c22b0 : decide (0 < (x6_2.length : Int)) = true := decide_eq_true c22
          have c22b1 : decide (0 < x6_2.length) = true := decide_eq_true (by omega)
          clear c22
          (first | rw [c22b0] | (simp only [i64_w, i32_w]; rw [c22b0]) | skip)
          by_cases c23 : (x7_2.length : Int) > 0
          ·rw [if_pos c23] at H
           have c23b0 : decide (0 < (x7_2.length : Int)) = true := decide_eq_true c23
           have c23b1 : decide (0 < x7_2.length) = true := decide_eq_true (by omega)
           clear c23
           obtain ⟨ji24, hji24⟩ : ∃ j_ : Int, (wrap64 ((x6_2.length : Int) - 1)) = j_ := ⟨_, rfl⟩
           replace H : (if 0 ≤ (ji24) then (if (ji24) < (x6_2.length : Int) then (if 0 ≤ (wrap64 ((x7_2.length : Int) - 1)) then (if (wrap64 ((x7_2.length : Int) - 1)) < (x7_2.length : Int) then (if (rdOf ByteArray.empty x6_2 (ji24)).toList = (rdOf ByteArray.empty x7_2 (wrap64 ((x7_2.length : Int) - 1))).toList then (if (ji24) ≤ (x6_2.length : Int) then (if (wrap64 ((x7_2.length : Int) - 1)) ≤ (x7_2.length : Int) then (hunks_Changes.l1 k2 (x6_2.take ((ji24) : Int).toNat) (x7_2.take ((wrap64 ((x7_2.length : Int) - 1)) : Int).toNat) x162000_2) else (none)) else (none)) else (hunks_Changes.j3 k2 x6_2 x7_2 x162000_2)) else (none)) else (none)) else (none)) else (none)) = some r := by first | (rw [hji24] at H; exact H) | (simp only [hji24] at H ⊢; exact H)
           have hji24w : (IntKind.i64.wrap ((x6_2.length : Int) - 1)) = ji24 := (i64_w _).trans hji24
           by_cases c25 : 0 ≤ (ji24)
           ·rw [if_pos c25] at H
            have c25b0 : decide (0 ≤ (ji24)) = true := decide_eq_true c25
            clear c25
            by_cases c26 : (ji24) < (x6_2.length : Int)
            ·rw [if_pos c26] at H
             have c26b0 : decide ((ji24) < (x6_2.length : Int)) = true := decide_eq_true c26
             clear c26
             obtain ⟨ji27, hji27⟩ : ∃ j_ : Int, (wrap64 ((x7_2.length : Int) - 1)) = j_ := ⟨_, rfl⟩
             replace H : (if 0 ≤ (ji27) then (if (ji27) < (x7_2.length : Int) then (if (rdOf ByteArray.empty x6_2 (ji24)).toList = (rdOf ByteArray.empty x7_2 (ji27)).toList then (if (ji24) ≤ (x6_2.length : Int) then (if (ji27) ≤ (x7_2.length : Int) then (hunks_Changes.l1 k2 (x6_2.take ((ji24) : Int).toNat) (x7_2.take ((ji27) : Int).toNat) x162000_2) else (none)) else (none)) else (hunks_Changes.j3 k2 x6_2 x7_2 x162000_2)) else (none)) else (none)) = some r := by first | (rw [hji27] at H; exact H) | (simp only [hji27] at H ⊢; exact H)
             have hji27w : (IntKind.i64.wrap ((x7_2.length : Int) - 1)) = ji27 := (i64_w _).trans hji27
             by_cases c28 : 0 ≤ (ji27)
             ·rw [if_pos c28] at H
              have c28b0 : decide (0 ≤ (ji27)) = true := decide_eq_true c28
              clear c28
              by_cases c29 : (ji27) < (x7_2.length : Int)
              ·rw [if_pos c29] at H
               have c29b0 : decide ((ji27) < (x7_2.length : Int)) = true := decide_eq_true c29
               clear c29
               by_cases c30 : (rdOf ByteArray.empty x6_2 (ji24)).toList = (rdOf ByteArray.empty x7_2 (ji27)).toList
               ·rw [if_pos c30] at H
                have c30b0 : ((rdOf ByteArray.empty x6_2 (ji24)).toList == (rdOf ByteArray.empty x7_2 (ji27)).toList) = true := beq_iff_eq.mpr c30
                have c30b1 : ((rdOf ByteArray.empty x6_2 (ji24)).toList != (rdOf ByteArray.empty x7_2 (ji27)).toList) = false := bne_eq_false_iff_eq.mpr c30
                clear c30
                have c31b0 := eq_true (of_decide_eq_true (by first | (with_reducible assumption) | assumption) : 0 ≤ (ji24))
                by_cases c32 : (ji24) ≤ (x6_2.length : Int)
                ·rw [if_pos c32] at H
                 have c32b0 := eq_true c32
                 have c32b1 : decide ((ji24) ≤ (x6_2.length : Int)) = true := decide_eq_true c32
                 clear c32
                 obtain ⟨y176, hy176⟩ : ∃ y_ : List ByteArray, y_ = (x6_2.take ((ji24) : Int).toNat) := ⟨_, rfl⟩
                 replace H : (if (ji27) ≤ (x7_2.length : Int) then (hunks_Changes.l1 k2 y176 (x7_2.take ((ji27) : Int).toNat) x162000_2) else (none)) = some r := by first | (rw [hy176]; with_reducible exact H) | (have H2_ := (Option.bind_some _ _).symm.trans H; rw [hy176]; with_reducible exact H2_) | (have H2_ := (Option.bind_some _ _).symm.trans H; with_reducible exact H2_) | with_reducible exact H | (rw [hy176]; exact H) | exact H
                 have Ny176 := Aside0.mk hy176
                 clear hy176
                 have c33b0 := eq_true (of_decide_eq_true (by first | (with_reducible assumption) | assumption) : 0 ≤ (ji27))
                 by_cases c34 : (ji27) ≤ (x7_2.length : Int)
                 ·rw [if_pos c34] at H
                  have c34b0 := eq_true c34
                  have c34b1 : decide ((ji27) ≤ (x7_2.length : Int)) = true := decide_eq_true c34
                  clear c34
                  obtain ⟨y181, hy181⟩ : ∃ y_ : List ByteArray, y_ = (x7_2.take ((ji27) : Int).toNat) := ⟨_, rfl⟩
                  replace H : (hunks_Changes.l1 k2 y176 y181 x162000_2) = some r := by first | (rw [hy181]; with_reducible exact H) | (have H2_ := (Option.bind_some _ _).symm.trans H; rw [hy181]; with_reducible exact H2_) | (have H2_ := (Option.bind_some _ _).symm.trans H; with_reducible exact H2_) | with_reducible exact H | (rw [hy181]; exact H) | exact H
                  have Ny181 := Aside0.mk hy181
                  clear hy181
                  have H' := Aside0.mk H
                  clear H
                  obtain ⟨Ao35, co35, eo35⟩ := Kd.V_slice HO_6.out
                  subst eo35
                  obtain ⟨Ao36, co36, eo36⟩ := Kd.V_slice HO_7.out
                  subst eo36
                  have p174 : 0 ≤ ((ji24) : Int) := of_decide_eq_true (by first | (with_reducible assumption) | assumption)
                  have q174 : (ji24) < (x6_2.length : Int) := of_decide_eq_true (by first | (with_reducible assumption) | assumption)
                  obtain ⟨ad174, e174, hx174_0⟩ := Kd.at_string (Kd.V_reads' HO_6.out).2.2 (ji24) p174 q174
                  cases e174
                  replace p174 := eq_true p174
                  replace q174 := eq_true q174
                  have p175 : 0 ≤ ((ji27) : Int) := of_decide_eq_true (by first | (with_reducible assumption) | assumption)
                  have q175 : (ji27) < (x7_2.length : Int) := of_decide_eq_true (by first | (with_reducible assumption) | assumption)
                  obtain ⟨ad175, e175, hx175_0⟩ := Kd.at_string (Kd.V_reads' HO_7.out).2.2 (ji27) p175 q175
                  cases e175
                  replace p175 := eq_true p175
                  replace q175 := eq_true q175
                  have q37 : ((ji24) : Int) ≤ ((x6_2.length : Int) : Int) := of_decide_eq_true (by first | (with_reducible assumption) | assumption)
                  obtain ⟨i037, hi037, _, hsz37, _⟩ := info_parts info9
                  have hroom37 : x6_2.length ≤ co35 := (Kd.V_reads' HO_6.out).2.1
                  have hC37 : Kd.F Kd.string _ _ (some ad174) x6_2.length x6_2 := (Kd.V_at (base := w.heap.size) HO_6.out).2.2
                  have hcut37 := cut_to (P := Tryd.prog) 77 9 .i64 Tryd.underlying77 hi037 (some ad174) x6_2.length co35 (ji24) (of_decide_eq_true (by first | (with_reducible assumption) | assumption)) q37 hroom37
                  have hr37 := Kd.F_take (m := ((ji24) : Int).toNat) hC37 (by omega)
                  have hy37 : y176.length = ((ji24) : Int).toNat := (by rw [Ny176.out, List.length_take]; omega)
                  rw [← Ny176.out] at hr37
                  rw [← hy37] at hcut37
                  have HO180 := Aside0.mk (show Kd.V Kd.string 9 _ w.heap.size _ (.slice (some ad174) y176.length co35) y176 from Kd.V_mk (by omega) hr37)
                  have HC180 := Aside0.mk (show y176.length ≤ co35 from by omega)
                  clear hr37 hC37 hroom37 hi037 hsz37
                  have KY37 := Aside0.mk hy37
                  clear hy37
                  replace q37 := eq_true q37
                  have q38 : ((ji27) : Int) ≤ ((x7_2.length : Int) : Int) := of_decide_eq_true (by first | (with_reducible assumption) | assumption)
                  obtain ⟨i038, hi038, _, hsz38, _⟩ := info_parts info9
                  have hroom38 : x7_2.length ≤ co36 := (Kd.V_reads' HO_7.out).2.1
                  have hC38 : Kd.F Kd.string _ _ (some ad175) x7_2.length x7_2 := (Kd.V_at (base := w.heap.size) HO_7.out).2.2
                  have hcut38 := cut_to (P := Tryd.prog) 77 9 .i64 Tryd.underlying77 hi038 (some ad175) x7_2.length co36 (ji27) (of_decide_eq_true (by first | (with_reducible assumption) | assumption)) q38 hroom38
                  have hr38 := Kd.F_take (m := ((ji27) : Int).toNat) hC38 (by omega)
                  have hy38 : y181.length = ((ji27) : Int).toNat := (by rw [Ny181.out, List.length_take]; omega)
                  rw [← Ny181.out] at hr38
                  rw [← hy38] at hcut38
                  have HO185 := Aside0.mk (show Kd.V Kd.string 9 _ w.heap.size _ (.slice (some ad175) y181.length co36) y181 from Kd.V_mk (by omega) hr38)
                  have HC185 := Aside0.mk (show y181.length ≤ co36 from by omega)
                  clear hr38 hC38 hroom38 hi038 hsz38
                  have KY38 := Aside0.mk hy38
                  clear hy38
                  replace q38 := eq_true q38
                  go_wp2
                  repeat (go_quiet (fail); try go_wp2)
                  go_roundg k2
                  case measure => have := HJ2.out; have := HK2.out; omega
                  case rel => exact ⟨(y176), (y181), H', ⟨by have := HJ2.out; have := HK2.out; omega⟩, ⟨by (with_reducible repeat (first | apply Kd.V_alloc | apply Kd.V_drewN | apply Kd.V_drew)); exact HO180.out⟩, ⟨by (with_reducible repeat (first | apply Kd.V_alloc | apply Kd.V_drewN | apply Kd.V_drew)); exact HO185.out⟩, ⟨by (with_reducible repeat (first | refine blk_drewN ?_ _ | refine blk_drew ?_ | refine blk_alloc ?_ _)); exact BK161.out⟩, ⟨by repeat (first | (with_reducible first | exact HB.out | apply below_alloc | apply pw_below_drewN | apply below_drew1 | refine below_set ?_ GE161.out) | exact HB.out)⟩⟩
                 ·rw [if_neg c34] at H
                  exact absurd H (by simp)
                ·rw [if_neg c32] at H
                 exact absurd H (by simp)
               ·rw [if_neg c30] at H
                have c30b0 : ((rdOf ByteArray.empty x6_2 (ji24)).toList == (rdOf ByteArray.empty x7_2 (ji27)).toList) = false := beq_eq_false_iff_ne.mpr c30
                have c30b1 : ((rdOf ByteArray.empty x6_2 (ji24)).toList != (rdOf ByteArray.empty x7_2 (ji27)).toList) = true := bne_iff_ne.mpr c30
                have H' := Aside0.mk H
                clear H
                obtain ⟨Ao39, co39, eo39⟩ := Kd.V_slice HO_6.out
                subst eo39
                obtain ⟨Ao40, co40, eo40⟩ := Kd.V_slice HO_7.out
                subst eo40
                have p174 : 0 ≤ ((ji24) : Int) := of_decide_eq_true (by first | (with_reducible assumption) | assumption)
                have q174 : (ji24) < (x6_2.length : Int) := of_decide_eq_true (by first | (with_reducible assumption) | assumption)
                obtain ⟨ad174, e174, hx174_0⟩ := Kd.at_string (Kd.V_reads' HO_6.out).2.2 (ji24) p174 q174
                cases e174
                replace p174 := eq_true p174
                replace q174 := eq_true q174
                have p175 : 0 ≤ ((ji27) : Int) := of_decide_eq_true (by first | (with_reducible assumption) | assumption)
                have q175 : (ji27) < (x7_2.length : Int) := of_decide_eq_true (by first | (with_reducible assumption) | assumption)
                obtain ⟨ad175, e175, hx175_0⟩ := Kd.at_string (Kd.V_reads' HO_7.out).2.2 (ji27) p175 q175
                cases e175
                replace p175 := eq_true p175
                replace q175 := eq_true q175
                go_wp2
                repeat (go_quiet (fail); try go_wp2)
                go_meet
                case rel => exact ⟨_, (x6_2), (x7_2), H', ⟨by have := HJ2.out; have := HK2.out; first | omega | exact Nat.le_refl _⟩, ⟨by (with_reducible repeat (first | apply Kd.V_alloc | apply Kd.V_drewN | apply Kd.V_drew)); exact HO_6.out⟩, ⟨by (with_reducible repeat (first | apply Kd.V_alloc | apply Kd.V_drewN | apply Kd.V_drew)); exact HO_7.out⟩, ⟨by (with_reducible repeat (first | refine blk_drewN ?_ _ | refine blk_drew ?_ | refine blk_alloc ?_ _)); exact BK161.out⟩, ⟨by repeat (first | (with_reducible first | exact HB.out | apply below_alloc | apply pw_below_drewN | apply below_drew1 | refine below_set ?_ GE161.out) | exact HB.out)⟩⟩
              ·rw [if_neg c29] at H
               exact absurd H (by simp)
             ·rw [if_neg c28] at H
              exact absurd H (by simp)
            ·rw [if_neg c26] at H
             exact absurd H (by simp)
           ·rw [if_neg c25] at H
            exact absurd H (by simp)
          ·rw [if_neg c23] at H
           have c23b0 : decide (0 < (x7_2.length : Int)) = false := decide_eq_false c23
           have c23b1 : decide (0 < x7_2.length) = false := decide_eq_false (by omega)
           clear c23
           have H' := Aside0.mk H
           clear H
           obtain ⟨Ao41, co41, eo41⟩ := Kd.V_slice HO_6.out
           subst eo41
           obtain ⟨Ao42, co42, eo42⟩ := Kd.V_slice HO_7.out
           subst eo42
           go_wp2
           repeat (go_quiet (fail); try go_wp2)
           go_meet
           case rel => exact ⟨_, (x6_2), (x7_2), H', ⟨by have := HJ2.out; have := HK2.out; first | omega | exact Nat.le_refl _⟩, ⟨by (with_reducible repeat (first | apply Kd.V_alloc | apply Kd.V_drewN | apply Kd.V_drew)); exact HO_6.out⟩, ⟨by (with_reducible repeat (first | apply Kd.V_alloc | apply Kd.V_drewN | apply Kd.V_drew)); exact HO_7.out⟩, ⟨by (with_reducible repeat (first | refine blk_drewN ?_ _ | refine blk_drew ?_ | refine blk_alloc ?_ _)); exact BK161.out⟩, ⟨by repeat (first | (with_reducible first | exact HB.out | apply below_alloc | apply pw_below_drewN | apply below_drew1 | refine below_set ?_ GE161.out) | exact HB.out)⟩⟩
         ·rw [if_neg c22] at H
          have c22b0 : decide (0 < (x6_2.length : Int)) = false := decide_eq_false c22
          have c22b1 : decide (0 < x6_2.length) = false := decide_eq_false (by omega)
          clear c22
          (first | rw [c22b0] | (simp only [i64_w, i32_w]; rw [c22b0]) | skip)
          have H' := Aside0.mk H
          clear H
          obtain ⟨Ao43, co43, eo43⟩ := Kd.V_slice HO_6.out
          subst eo43
          go_wp2
          repeat (go_quiet (fail); try go_wp2)
          go_meet
          case rel => exact ⟨_, (x6_2), (x7_2), H', ⟨by have := HJ2.out; have := HK2.out; first | omega | exact Nat.le_refl _⟩, ⟨by (with_reducible repeat (first | apply Kd.V_alloc | apply Kd.V_drewN | apply Kd.V_drew)); exact HO_6.out⟩, ⟨by (with_reducible repeat (first | apply Kd.V_alloc | apply Kd.V_drewN | apply Kd.V_drew)); exact HO_7.out⟩, ⟨by (with_reducible repeat (first | refine blk_drewN ?_ _ | refine blk_drew ?_ | refine blk_alloc ?_ _)); exact BK161.out⟩, ⟨by repeat (first | (with_reducible first | exact HB.out | apply below_alloc | apply pw_below_drewN | apply below_drew1 | refine below_set ?_ GE161.out) | exact HB.out)⟩⟩
      case rest =>
       clear HC18
       (try clear c1); (try clear p1); (try clear q1); (try clear hx1); (try clear c2); (try clear p2); (try clear q2); (try clear c3); (try clear q3); (try clear c6); (try clear c6b0); (try clear p6); (try clear c7); (try clear c7b0); (try clear c8); (try clear c8b0); (try clear c9); (try clear c9b0); (try clear c9b1); (try clear c14); (try clear c14b0); (try clear c14b1); (try clear c15); (try clear c15b0); (try clear c15b1); (try clear c16); (try clear c16b0); (try clear p16); (try clear q16); (try clear hx16); (try clear c17); (try clear c17b0); (try clear c17b1); (try clear p17); (try clear q17); (try clear hx17); (try clear c20); (try clear q20); (try clear c21); (try clear q21); (try clear c22); (try clear c22b0); (try clear c22b1); (try clear c23); (try clear c23b0); (try clear c23b1); (try clear c25); (try clear c25b0); (try clear c26); (try clear c26b0); (try clear c28); (try clear c28b0); (try clear c29); (try clear c29b0); (try clear c30); (try clear c30b0); (try clear c30b1); (try clear c31); (try clear c31b0); (try clear c32); (try clear c32b0); (try clear c32b1); (try clear c33); (try clear c33b0); (try clear c34); (try clear c34b0); (try clear c34b1); (try clear c37); (try clear q37); (try clear q38); (try clear hcz10_0); (try clear hcz11_0); (try clear hcz12_0); (try clear hcz13_0); (try clear hcz19_0); (try clear hcz5_0); (try clear hfz10_0); (try clear hfz11_0); (try clear hfz12_0); (try clear hfz13_0); (try clear hfz19_0); (try clear hfz5_0); (try clear hx162_0); (try clear hx163_0); (try clear hx174_0); (try clear hx175_0); (try clear p1); (try clear p16); (try clear p162); (try clear p163); (try clear p174); (try clear p175); (try clear p2); (try clear p6); (try clear q020); (try clear q021); (try clear q1); (try clear q16); (try clear q162); (try clear q163); (try clear q174); (try clear q175); (try clear q2); (try clear q20); (try clear q21); (try clear q37); (try clear q38)
       obtain ⟨kq, x6_17, x7_17, HA, HJ17, HO_6, HO_7, BK161, HB⟩ := hcut
       cases kq with
       | zero => exact absurd HA.out (by simp [hunks_Changes.j3])
       | succ kj17 =>
        have H := HA.out
        clear HA
        simp only [hunks_Changes.j3] at H
        have HC44 := Aside0.mk H
        clear H
        go_upto_region 7 with (fail)
        repeat (go_quiet (fail); go_upto_region 7 with (fail))
        go_cut [83] (fun v83 wc => ∃ (kq : Nat) (x83_43 : Bool), v83 = .bool x83_43 ∧ Aside0 (hunks_Changes.j4 kq x6_17 x7_17 x83_43 x162000_2 = some r) ∧ Aside0 (kq ≤ kj17) ∧ Aside0 (Kd.V Kd.string 9 wc w.heap.size (fun k_ => ((P0_ k_ ∨ P1_ k_) ∨ w.heap.size ≤ k_) ∧ k_ ≠ gb161) u6 x6_17) ∧ Aside0 (Kd.V Kd.string 9 wc w.heap.size (fun k_ => ((P0_ k_ ∨ P1_ k_) ∨ w.heap.size ≤ k_) ∧ k_ ≠ gb161) u7 x7_17) ∧ Aside0 (wc.heap[gb161]? = some (.cells #[.int .i64 x162000_2] 3 (0, 0))) ∧ Aside0 (Below w.heap.size w wc))
        case first =>
         have H := HC44.out
         clear HC44
         by_cases c45 : (x6_17.length : Int) > 1000
         ·rw [if_pos c45] at H
          have c45b0 : decide (1000 < (x6_17.length : Int)) = true := decide_eq_true c45
          have c45b1 : decide (1000 < x6_17.length) = true := decide_eq_true (by omega)
          clear c45
          (first | rw [c45b0] | (simp only [i64_w, i32_w]; rw [c45b0]) | skip)
          have H' := Aside0.mk H
          clear H
          obtain ⟨Ao46, co46, eo46⟩ := Kd.V_slice HO_6.out
          subst eo46
          go_wp2
          repeat (go_quiet (fail); try go_wp2)
          go_meet
          case rel => exact ⟨_, (true), (by first | rfl | (simp; done) | (simp [*]; done) | (simp [wrap64, wrap32]; done)), H', ⟨by have := HJ2.out; have := HJ17.out; first | omega | exact Nat.le_refl _⟩, ⟨by (with_reducible repeat (first | apply Kd.V_alloc | apply Kd.V_drewN | apply Kd.V_drew)); exact HO_6.out⟩, ⟨by (with_reducible repeat (first | apply Kd.V_alloc | apply Kd.V_drewN | apply Kd.V_drew)); exact HO_7.out⟩, ⟨by (with_reducible repeat (first | refine blk_drewN ?_ _ | refine blk_drew ?_ | refine blk_alloc ?_ _)); exact BK161.out⟩, ⟨by repeat (first | (with_reducible first | exact HB.out | apply below_alloc | apply pw_below_drewN | apply below_drew1 | refine below_set ?_ GE161.out) | exact HB.out)⟩⟩
         ·rw [if_neg c45] at H
          have c45b0 : decide (1000 < (x6_17.length : Int)) = false := decide_eq_false c45
          have c45b1 : decide (1000 < x6_17.length) = false := decide_eq_false (by omega)
          clear c45
          (first | rw [c45b0] | (simp only [i64_w, i32_w]; rw [c45b0]) | skip)
          have H' := Aside0.mk H
          clear H
          obtain ⟨Ao47, co47, eo47⟩ := Kd.V_slice HO_6.out
          subst eo47
          obtain ⟨Ao48, co48, eo48⟩ := Kd.V_slice HO_7.out
          subst eo48
          go_wp2
          repeat (go_quiet (fail); try go_wp2)
          go_meet
          case rel => exact ⟨_, (decide ((x7_17.length : Int) > 1000)), (by first | rfl | (simp; done) | (simp [*]; done) | (simp [wrap64, wrap32]; done)), H', ⟨by have := HJ2.out; have := HJ17.out; first | omega | exact Nat.le_refl _⟩, ⟨by (with_reducible repeat (first | apply Kd.V_alloc | apply Kd.V_drewN | apply Kd.V_drew)); exact HO_6.out⟩, ⟨by (with_reducible repeat (first | apply Kd.V_alloc | apply Kd.V_drewN | apply Kd.V_drew)); exact HO_7.out⟩, ⟨by (with_reducible repeat (first | refine blk_drewN ?_ _ | refine blk_drew ?_ | refine blk_alloc ?_ _)); exact BK161.out⟩, ⟨by repeat (first | (with_reducible first | exact HB.out | apply below_alloc | apply pw_below_drewN | apply below_drew1 | refine below_set ?_ GE161.out) | exact HB.out)⟩⟩
        case rest =>
         clear HC44
         (try clear c1); (try clear p1); (try clear q1); (try clear hx1); (try clear c2); (try clear p2); (try clear q2); (try clear c3); (try clear q3); (try clear c4); (try clear c6); (try clear c6b0); (try clear p6); (try clear c7); (try clear c7b0); (try clear c8); (try clear c8b0); (try clear c9); (try clear c9b0); (try clear c9b1); (try clear c14); (try clear c14b0); (try clear c14b1); (try clear c15); (try clear c15b0); (try clear c15b1); (try clear c16); (try clear c16b0); (try clear p16); (try clear q16); (try clear hx16); (try clear c17); (try clear c17b0); (try clear c17b1); (try clear p17); (try clear q17); (try clear hx17); (try clear c20); (try clear q20); (try clear c21); (try clear q21); (try clear c22); (try clear c22b0); (try clear c22b1); (try clear c23); (try clear c23b0); (try clear c23b1); (try clear c25); (try clear c25b0); (try clear c26); (try clear c26b0); (try clear c28); (try clear c28b0); (try clear c29); (try clear c29b0); (try clear c30); (try clear c30b0); (try clear c30b1); (try clear c31); (try clear c31b0); (try clear c32); (try clear c32b0); (try clear c32b1); (try clear c33); (try clear c33b0); (try clear c34); (try clear c34b0); (try clear c34b1); (try clear c37); (try clear q37); (try clear q38); (try clear c45); (try clear c45b0); (try clear c45b1); (try clear hcz10_0); (try clear hcz11_0); (try clear hcz12_0); (try clear hcz13_0); (try clear hcz19_0); (try clear hcz5_0); (try clear hfz10_0); (try clear hfz11_0); (try clear hfz12_0); (try clear hfz13_0); (try clear hfz19_0); (try clear hfz5_0); (try clear hx162_0); (try clear hx163_0); (try clear hx174_0); (try clear hx175_0); (try clear p1); (try clear p16); (try clear p162); (try clear p163); (try clear p17); (try clear p174); (try clear p175); (try clear p2); (try clear p6); (try clear q020); (try clear q021); (try clear q1); (try clear q16); (try clear q162); (try clear q163); (try clear q17); (try clear q174); (try clear q175); (try clear q2); (try clear q20); (try clear q21); (try clear q3); (try clear q37); (try clear q38)
         obtain ⟨kq, x83_43, rfl, HA, HJ43, HO_6, HO_7, BK161, HB⟩ := hcut
         cases kq with
         | zero => exact absurd HA.out (by simp [hunks_Changes.j4])
         | succ kj43 =>
          have H := HA.out
          clear HA
          simp only [hunks_Changes.j4] at H
          by_cases c49 : x83_43 = true
          ·subst c49
           have H1 : (some (([(⟨x162000_2, (x6_17.length : Int), x162000_2, (x7_17.length : Int)⟩ : S82)] : List (S82)))) = some r := by rw [if_pos rfl] at H; exact H
           clear H
           have H := H1
           clear H1
           obtain ⟨y186, hy186⟩ : ∃ y_ : List (S82), y_ = (([(⟨x162000_2, (x6_17.length : Int), x162000_2, (x7_17.length : Int)⟩ : S82)] : List (S82))) := ⟨_, rfl⟩
           replace H : (some y186) = some r := by first | (rw [hy186]; with_reducible exact H) | (have H2_ := (Option.bind_some _ _).symm.trans H; rw [hy186]; with_reducible exact H2_) | (have H2_ := (Option.bind_some _ _).symm.trans H; with_reducible exact H2_) | with_reducible exact H | (rw [hy186]; exact H) | exact H
           have Ny186 := Aside0.mk hy186
           clear hy186
           obtain rfl := Option.some.inj H
           have hcz50_0 : wc.cell? ⟨gb161, 0, none⟩ = some (.int .i64 x162000_2) := (blk_cell BK161.out 0).trans rfl
           have hfz50_0 := blk_frozen BK161.out 0
           obtain ⟨Ao51, co51, eo51⟩ := Kd.V_slice HO_6.out
           subst eo51
           obtain ⟨Ao52, co52, eo52⟩ := Kd.V_slice HO_7.out
           subst eo52
           go_wp2_with (first | ((with_reducible refine gate_dst (N := 91) rfl ?_); (try (refine gate_guard (by rfl) ?_; dsimp only)); refine Kd.R_lit k82 _ 82 ?hg (N := 91) ?hd (xs := ([(⟨x162000_2, (x6_17.length : Int), x162000_2, (x7_17.length : Int)⟩ : S82)] : List (S82))) (inner := [.int .i64 x162000_2, .int .i64 (x6_17.length : Int), .int .i64 x162000_2, .int .i64 (x7_17.length : Int)]) (ok := fun _ => True) (okp := fun _ => True) ?hr ?hp (fun _ hk => hk) trivial (Below.refl _ _) (Nat.le_refl _) (by simp) ?_; (case hd => rfl); (case hg => rfl); (case hr => first | (go_simp; done) | (go_simp; rfl)); (case hp => exact (Reps.c4 (show Kd.M k82 _ _ _ (⟨x162000_2, (x6_17.length : Int), x162000_2, (x7_17.length : Int)⟩ : S82) [.int .i64 x162000_2, .int .i64 (x6_17.length : Int), .int .i64 x162000_2, .int .i64 (x7_17.length : Int)] from (k82_mkM _ _ _ (⟨x162000_2, (x6_17.length : Int), x162000_2, (x7_17.length : Int)⟩ : S82) )) (Reps.none _ _))); intro v187 w53 ho54 hb hg_ hnew_; clear hg_ hnew_; (first | rw [← Ny186.out] at ho54 | (simp only [Int.reduceToNat] at ho54; rw [← Ny186.out] at ho54)); have n0_ := Aside0.mk (Kd.V_elder' (by (with_reducible repeat (first | apply Kd.V_alloc | apply Kd.V_drewN | apply Kd.V_drew)); exact HO_6.out) (Kd.R_base ho54) hb); have n1_ := Aside0.mk (Kd.V_elder' (by (with_reducible repeat (first | apply Kd.V_alloc | apply Kd.V_drewN | apply Kd.V_drew)); exact HO_7.out) (Kd.R_base ho54) hb); have n2_ := Aside0.mk (Kd.R_lower (Kd.R_newM (M := fun k_ => (w.heap.size ≤ k_)) ho54 (below_size (by repeat (first | (with_reducible first | exact HB.out | apply below_alloc | apply pw_below_drewN | apply below_drew1 | refine below_set ?_ GE161.out) | exact HB.out))) (fun k_ h_ => h_)) (below_size (by repeat (first | (with_reducible first | exact HB.out | apply below_alloc | apply pw_below_drewN | apply below_drew1 | refine below_set ?_ GE161.out) | exact HB.out)))); have n3_ := Aside0.mk (blk_below (g := gb161) (o := .cells #[.int .i64 x162000_2] 3 (0, 0)) (by (with_reducible repeat (first | refine blk_drewN ?_ _ | refine blk_drew ?_ | refine blk_alloc ?_ _)); exact BK161.out) hb); have n4_ := Aside0.mk (below_step (by repeat (first | (with_reducible first | exact HB.out | apply below_alloc | apply pw_below_drewN | apply below_drew1 | refine below_set ?_ GE161.out) | exact HB.out)) hb); clear HO_6; clear HO_7; clear BK161; clear HB; have HO_6 := n0_; have HO_7 := n1_; have HO188 := n2_; have BK161 := n3_; have HB := n4_; clear n0_ n1_ n2_ n3_ n4_; clear hb ho54))
           repeat (go_quiet (fail); try go_wp2_with (fail))
           go_ret
           exact ⟨_, by first | rfl | (simp [errW_none, errW_some] <;> rfl) | (simp [*, errW_none, errW_some] <;> rfl), by (with_reducible repeat (first | apply Kd.R_alloc | apply Kd.R_drewN | apply Kd.R_drew)); exact Kd.R_mono HO188.out (fun _ hk => hk.1), by repeat (first | (with_reducible first | exact HB.out | apply below_alloc | apply pw_below_drewN | apply below_drew1 | refine below_set ?_ GE161.out) | exact HB.out)⟩
          ·replace c49 := Bool.eq_false_iff.mpr c49
           subst c49
           have H1 : ((hunks_table.f kj43 x6_17 x7_17).bind fun t189 => (hunks_Changes.l2 kj43 x6_17 x7_17 t189 0 0 x162000_2 ([] : List (S82)) (wrap64 x162000_2) 0 (wrap64 x162000_2) 0)) = some r := by rw [if_neg (show ¬ (false = true) by decide)] at H; exact H
           clear H
           have H := H1
           clear H1
           replace H := Option.bind_eq_some_iff.mp H
           obtain ⟨t189, A550, H⟩ := H
           replace H : (hunks_Changes.l2 kj43 x6_17 x7_17 t189 0 0 x162000_2 ([] : List (S82)) (wrap64 x162000_2) 0 (wrap64 x162000_2) 0) = some r := H
           have A55 := Aside0.mk A550
           clear A550
           have H' := Aside0.mk H
           clear H
           obtain ⟨Ao56, co56, eo56⟩ := Kd.V_slice HO_6.out
           subst eo56
           obtain ⟨Ao57, co57, eo57⟩ := Kd.V_slice HO_7.out
           subst eo57
           go_wp2_with (first | (go_at_call 61; (with_reducible refine (hunks_table.calls kj43 _ _ x6_17 _ _ x7_17 t189 _ ?side1 ?side2 ?side3 ?side4 A55.out).mono ?_); (case side1 => repeat (first | exact (Kd.V_reads' HO_6.out).2.2 | (with_reducible refine Kd.C_alloc ?_ _) | (with_reducible refine Kd.C_drewN ?_ _) | (with_reducible refine Kd.C_drew ?_))); (case side2 => exact (Kd.V_reads' HO_6.out).2.1); (case side3 => repeat (first | exact (Kd.V_reads' HO_7.out).2.2 | (with_reducible refine Kd.C_alloc ?_ _) | (with_reducible refine Kd.C_drewN ?_ _) | (with_reducible refine Kd.C_drew ?_))); (case side4 => exact (Kd.V_reads' HO_7.out).2.1); rintro e w58 ⟨v190, rfl, ho0, hb⟩; have n0_ := Aside0.mk (Kd.V_elder' (by (with_reducible repeat (first | apply Kd.V_alloc | apply Kd.V_drewN | apply Kd.V_drew)); exact HO_6.out) (Kd.S_base ho0) hb); have n1_ := Aside0.mk (Kd.V_elder' (by (with_reducible repeat (first | apply Kd.V_alloc | apply Kd.V_drewN | apply Kd.V_drew)); exact HO_7.out) (Kd.S_base ho0) hb); have n2_ := Aside0.mk (Kd.S_lower (Kd.S_newB (Kd.S_newM (M := fun k_ => (w.heap.size ≤ k_)) ho0 (below_size (by repeat (first | (with_reducible first | exact HB.out | apply below_alloc | apply pw_below_drewN | apply below_drew1 | refine below_set ?_ GE161.out) | exact HB.out))) (fun k_ h_ => h_)) (g := gb161) (o := .cells #[.int .i64 x162000_2] 3 (0, 0)) (by (with_reducible repeat (first | refine blk_drewN ?_ _ | refine blk_drew ?_ | refine blk_alloc ?_ _)); exact BK161.out)) (below_size (by repeat (first | (with_reducible first | exact HB.out | apply below_alloc | apply pw_below_drewN | apply below_drew1 | refine below_set ?_ GE161.out) | exact HB.out)))); have n3_ := Aside0.mk (blk_below (g := gb161) (o := .cells #[.int .i64 x162000_2] 3 (0, 0)) (by (with_reducible repeat (first | refine blk_drewN ?_ _ | refine blk_drew ?_ | refine blk_alloc ?_ _)); exact BK161.out) hb); have n4_ := Aside0.mk (below_step (by repeat (first | (with_reducible first | exact HB.out | apply below_alloc | apply pw_below_drewN | apply below_drew1 | refine below_set ?_ GE161.out) | exact HB.out)) hb); clear HO_6; clear HO_7; clear BK161; clear HB; have HO_6 := n0_; have HO_7 := n1_; have HO191 := n2_; have BK161 := n3_; have HB := n4_; clear n0_ n1_ n2_ n3_ n4_; (try clear hb); (try clear hb2); (try clear hk); (try clear hi); (try clear ho0)) | ((with_reducible refine gate_dst (N := 9) rfl ?_); (try (refine gate_guard (by rfl) ?_; dsimp only)); refine box_event ?hg (N := 9) ?hd (cs := #[.slice none 0 0]) (t := 79) ?hr ?_; (case hd => rfl); (case hg => rfl); (case hr => first | (go_simp; done) | (go_simp; rfl)); intro gb192 hg w59 hbox hb; have n0_ := Aside0.mk (Kd.V_below (Kd.V_elderB (by (with_reducible repeat (first | apply Kd.V_alloc | apply Kd.V_drewN | apply Kd.V_drew)); exact HO_6.out) gb192 (Nat.le_of_eq hg.symm)) hb); have n1_ := Aside0.mk (Kd.V_below (Kd.V_elderB (by (with_reducible repeat (first | apply Kd.V_alloc | apply Kd.V_drewN | apply Kd.V_drew)); exact HO_7.out) gb192 (Nat.le_of_eq hg.symm)) hb); have n2_ := Aside0.mk (Kd.S_below (by (with_reducible repeat (first | apply Kd.S_alloc | apply Kd.S_drewN | apply Kd.S_drew)); exact HO191.out) hb); have n3_ := Aside0.mk (blk_below (g := gb161) (o := .cells #[.int .i64 x162000_2] 3 (0, 0)) (by (with_reducible repeat (first | refine blk_drewN ?_ _ | refine blk_drew ?_ | refine blk_alloc ?_ _)); exact BK161.out) hb); have n4_ := Aside0.mk (below_step (by repeat (first | (with_reducible first | exact HB.out | apply below_alloc | apply pw_below_drewN | apply below_drew1 | refine below_set ?_ GE161.out) | exact HB.out)) hb); have n5_ := Aside0.mk (hbox); have n6_ := Aside0.mk ((by rw [hg]; exact (below_size (by repeat (first | (with_reducible first | exact HB.out | apply below_alloc | apply pw_below_drewN | apply below_drew1 | refine below_set ?_ GE161.out) | exact HB.out))) : w.heap.size ≤ gb192)); have n7_ := Aside0.mk ((by rw [hg]; exact (below_size (by repeat (first | (with_reducible first | exact HB.out | apply below_alloc | apply pw_below_drewN | apply below_drew1 | refine below_set ?_ GE161.out) | exact HB.out))) : w.heap.size ≤ gb192)); have n8_ := Aside0.mk ((by rw [hg]; exact Nat.ne_of_lt (blk_lt (g := gb161) (o := .cells #[.int .i64 x162000_2] 3 (0, 0)) (by (with_reducible repeat (first | refine blk_drewN ?_ _ | refine blk_drew ?_ | refine blk_alloc ?_ _)); exact BK161.out)) : gb161 ≠ gb192)); have n9_ := Aside0.mk ((by rw [hg]; exact Nat.ne_of_gt (blk_lt (g := gb161) (o := .cells #[.int .i64 x162000_2] 3 (0, 0)) (by (with_reducible repeat (first | refine blk_drewN ?_ _ | refine blk_drew ?_ | refine blk_alloc ?_ _)); exact BK161.out)) : gb192 ≠ gb161)); clear HO_6; clear HO_7; clear HO191; clear BK161; clear HB; have HO_6 := n0_; have HO_7 := n1_; have HO191 := n2_; have BK161 := n3_; have HB := n4_; have BK192 := n5_; have GW192 := n6_; have GE192 := n7_; have NB161_192 := n8_; have NB192_161 := n9_; clear n0_ n1_ n2_ n3_ n4_ n5_ n6_ n7_ n8_ n9_; clear hb hbox hg) | ((with_reducible refine gate_dst (N := 10) rfl ?_); (try (refine gate_guard (by rfl) ?_; dsimp only)); refine box_event ?hg (N := 10) ?hd (cs := #[.int .i64 0, .int .i64 0, .int .i64 0, .int .i64 0]) (t := 82) ?hr ?_; (case hd => rfl); (case hg => rfl); (case hr => first | (go_simp; done) | (go_simp; rfl)); intro gb193 hg w60 hbox hb; have n0_ := Aside0.mk (Kd.V_below (Kd.V_elderB (by (with_reducible repeat (first | apply Kd.V_alloc | apply Kd.V_drewN | apply Kd.V_drew)); exact HO_6.out) gb193 (Nat.le_of_eq hg.symm)) hb); have n1_ := Aside0.mk (Kd.V_below (Kd.V_elderB (by (with_reducible repeat (first | apply Kd.V_alloc | apply Kd.V_drewN | apply Kd.V_drew)); exact HO_7.out) gb193 (Nat.le_of_eq hg.symm)) hb); have n2_ := Aside0.mk (Kd.S_below (by (with_reducible repeat (first | apply Kd.S_alloc | apply Kd.S_drewN | apply Kd.S_drew)); exact HO191.out) hb); have n3_ := Aside0.mk (blk_below (g := gb161) (o := .cells #[.int .i64 x162000_2] 3 (0, 0)) (by (with_reducible repeat (first | refine blk_drewN ?_ _ | refine blk_drew ?_ | refine blk_alloc ?_ _)); exact BK161.out) hb); have n4_ := Aside0.mk (blk_below (g := gb192) (o := .cells #[.slice none 0 0] 79 (0, 0)) (by (with_reducible repeat (first | refine blk_drewN ?_ _ | refine blk_drew ?_ | refine blk_alloc ?_ _)); exact BK192.out) hb); have n5_ := Aside0.mk (below_step (by repeat (first | (with_reducible first | exact HB.out | apply below_alloc | apply pw_below_drewN | apply below_drew1 | refine below_set ?_ GE161.out | refine below_set ?_ GE192.out) | exact HB.out)) hb); have n6_ := Aside0.mk (hbox); have n7_ := Aside0.mk ((by rw [hg]; exact (below_size (by repeat (first | (with_reducible first | exact HB.out | apply below_alloc | apply pw_below_drewN | apply below_drew1 | refine below_set ?_ GE161.out | refine below_set ?_ GE192.out) | exact HB.out))) : w.heap.size ≤ gb193)); have n8_ := Aside0.mk ((by rw [hg]; exact (below_size (by repeat (first | (with_reducible first | exact HB.out | apply below_alloc | apply pw_below_drewN | apply below_drew1 | refine below_set ?_ GE161.out | refine below_set ?_ GE192.out) | exact HB.out))) : w.heap.size ≤ gb193)); have n9_ := Aside0.mk ((by rw [hg]; exact Nat.ne_of_lt (blk_lt (g := gb161) (o := .cells #[.int .i64 x162000_2] 3 (0, 0)) (by (with_reducible repeat (first | refine blk_drewN ?_ _ | refine blk_drew ?_ | refine blk_alloc ?_ _)); exact BK161.out)) : gb161 ≠ gb193)); have n10_ := Aside0.mk ((by rw [hg]; exact Nat.ne_of_gt (blk_lt (g := gb161) (o := .cells #[.int .i64 x162000_2] 3 (0, 0)) (by (with_reducible repeat (first | refine blk_drewN ?_ _ | refine blk_drew ?_ | refine blk_alloc ?_ _)); exact BK161.out)) : gb193 ≠ gb161)); have n11_ := Aside0.mk ((by rw [hg]; exact Nat.ne_of_lt (blk_lt (g := gb192) (o := .cells #[.slice none 0 0] 79 (0, 0)) (by (with_reducible repeat (first | refine blk_drewN ?_ _ | refine blk_drew ?_ | refine blk_alloc ?_ _)); exact BK192.out)) : gb192 ≠ gb193)); have n12_ := Aside0.mk ((by rw [hg]; exact Nat.ne_of_gt (blk_lt (g := gb192) (o := .cells #[.slice none 0 0] 79 (0, 0)) (by (with_reducible repeat (first | refine blk_drewN ?_ _ | refine blk_drew ?_ | refine blk_alloc ?_ _)); exact BK192.out)) : gb193 ≠ gb192)); clear HO_6; clear HO_7; clear HO191; clear BK161; clear BK192; clear HB; have HO_6 := n0_; have HO_7 := n1_; have HO191 := n2_; have BK161 := n3_; have BK192 := n4_; have HB := n5_; have BK193 := n6_; have GW193 := n7_; have GE193 := n8_; have NB161_193 := n9_; have NB193_161 := n10_; have NB192_193 := n11_; have NB193_192 := n12_; clear n0_ n1_ n2_ n3_ n4_ n5_ n6_ n7_ n8_ n9_ n10_ n11_ n12_; clear hb hbox hg; have hnb61 := NB193_161.out; have hnc61 := NB161_193.out; have hnb62 := NB193_192.out; have hnc62 := NB192_193.out; have hcz63_0 : w60.cell? ⟨gb193, 0, none⟩ = some (.int .i64 0) := (blk_cell BK193.out 0).trans rfl; have hcz63_1 : w60.cell? ⟨gb193, 1, none⟩ = some (.int .i64 0) := (blk_cell BK193.out 1).trans rfl; have hcz63_2 : w60.cell? ⟨gb193, 2, none⟩ = some (.int .i64 0) := (blk_cell BK193.out 2).trans rfl; have hcz63_3 : w60.cell? ⟨gb193, 3, none⟩ = some (.int .i64 0) := (blk_cell BK193.out 3).trans rfl; have hfz63_0 := blk_frozen BK193.out 0; have hfz63_1 := blk_frozen BK193.out 1; have hfz63_2 := blk_frozen BK193.out 2; have hfz63_3 := blk_frozen BK193.out 3; have hnb64 := NB161_192.out; have hnc64 := NB192_161.out; have hcz65_0 : w60.cell? ⟨gb161, 0, none⟩ = some (.int .i64 x162000_2) := (blk_cell BK161.out 0).trans rfl; have hfz65_0 := blk_frozen BK161.out 0) | go_in)
           repeat (go_quiet (fail); try go_wp2_with (fail))
           (try (refine bodyPost_end (results_none rfl _ _ _) rfl ?_; (try dsimp only); (try go_wp2); repeat (go_quiet (fail); try go_wp2)))
           go_loopg [12, 13] kj43 (fun kq v12 v13 w' => ∃ (x12_4 : Int) (x13_4 : Int) (x193000_4 : List (S82)) (x194000_4 : Int) (x194001_4 : Int) (x194002_4 : Int) (x194003_4 : Int) (u193000 : Value), v12 = .int .i64 x12_4 ∧ v13 = .int .i64 x13_4 ∧ Aside0 (hunks_Changes.l2 kq x6_17 x7_17 t189 x12_4 x13_4 x162000_2 x193000_4 x194000_4 x194001_4 x194002_4 x194003_4 = some r) ∧ Aside0 (kq ≤ kj43) ∧ Aside0 (Kd.V Kd.string 9 w' w.heap.size (fun k_ => ((P0_ k_ ∨ P1_ k_) ∨ w.heap.size ≤ k_) ∧ some k_ ≠ (v190 : Value).ownBlock ∧ some k_ ≠ (u193000 : Value).ownBlock ∧ k_ ≠ gb161 ∧ k_ ≠ gb192 ∧ k_ ≠ gb193) (.slice Ao56 x6_17.length co56) x6_17) ∧ Aside0 (Kd.V Kd.string 9 w' w.heap.size (fun k_ => ((P0_ k_ ∨ P1_ k_) ∨ w.heap.size ≤ k_) ∧ some k_ ≠ (v190 : Value).ownBlock ∧ some k_ ≠ (u193000 : Value).ownBlock ∧ k_ ≠ gb161 ∧ k_ ≠ gb192 ∧ k_ ≠ gb193) (.slice Ao57 x7_17.length co57) x7_17) ∧ Aside0 (Kd.S (Kd.slice 3 (Kd.int .i64)) 47 w' w.heap.size (fun k_ => (w.heap.size ≤ k_) ∧ k_ ≠ gb161) v190 t189) ∧ Aside0 (Kd.R k82 82 w' w.heap.size (fun k_ => (w.heap.size ≤ k_) ∧ k_ ≠ gb193) u193000 x193000_4) ∧ Aside0 (w'.heap[gb161]? = some (.cells #[.int .i64 x162000_2] 3 (0, 0))) ∧ Aside0 (w'.heap[gb192]? = some (.cells #[u193000] 79 (0, 0))) ∧ Aside0 (w'.heap[gb193]? = some (.cells #[.int .i64 x194000_4, .int .i64 x194001_4, .int .i64 x194002_4, .int .i64 x194003_4] 82 (0, 0))) ∧ Aside0 (Below w.heap.size w w'))
           case atStart => exact ⟨(0), (0), (([] : List (S82))), (wrap64 x162000_2), (0), (wrap64 x162000_2), (0), (.slice none 0 0), (by first | rfl | (simp; done) | (simp [*]; done) | (simp [wrap64, wrap32]; done)), (by first | rfl | (simp; done) | (simp [*]; done) | (simp [wrap64, wrap32]; done)), H', ⟨Nat.le_refl _⟩, ⟨by (with_reducible repeat (first | apply Kd.V_alloc | apply Kd.V_drewN | apply Kd.V_drew)); exact Kd.V_mono (Kd.V_far (p := ⟨gb193, 3, none⟩) (Kd.V_far (p := ⟨gb193, 2, none⟩) (Kd.V_far (p := ⟨gb193, 1, none⟩) (Kd.V_far (p := ⟨gb193, 0, none⟩) (Kd.V_far (p := ⟨gb193, 3, none⟩) (Kd.V_far (p := ⟨gb193, 2, none⟩) (Kd.V_far (p := ⟨gb193, 1, none⟩) (Kd.V_far (p := ⟨gb193, 0, none⟩) (Kd.V_mono HO_6.out (fun k_ hk => (⟨hk, hk.2⟩ : _ ∧ k_ ≠ gb193))) (fun _ hk => hk.2) (.int .i64 0)) (fun _ hk => hk.2) (.int .i64 0)) (fun _ hk => hk.2) (.int .i64 0)) (fun _ hk => hk.2) (.int .i64 0)) (fun _ hk => hk.2) (.int .i64 (wrap64 x162000_2))) (fun _ hk => hk.2) (.int .i64 0)) (fun _ hk => hk.2) (.int .i64 (wrap64 x162000_2))) (fun _ hk => hk.2) (.int .i64 0)) (fun _ hk => ⟨hk.1.1.1.1.1, ⟨hk.1.1.1.2, ⟨(by simp [Value.ownBlock]), ⟨hk.1.1.1.1.2, ⟨hk.1.1.2, hk.1.2⟩⟩⟩⟩⟩)⟩, ⟨by (with_reducible repeat (first | apply Kd.V_alloc | apply Kd.V_drewN | apply Kd.V_drew)); exact Kd.V_mono (Kd.V_far (p := ⟨gb193, 3, none⟩) (Kd.V_far (p := ⟨gb193, 2, none⟩) (Kd.V_far (p := ⟨gb193, 1, none⟩) (Kd.V_far (p := ⟨gb193, 0, none⟩) (Kd.V_far (p := ⟨gb193, 3, none⟩) (Kd.V_far (p := ⟨gb193, 2, none⟩) (Kd.V_far (p := ⟨gb193, 1, none⟩) (Kd.V_far (p := ⟨gb193, 0, none⟩) (Kd.V_mono HO_7.out (fun k_ hk => (⟨hk, hk.2⟩ : _ ∧ k_ ≠ gb193))) (fun _ hk => hk.2) (.int .i64 0)) (fun _ hk => hk.2) (.int .i64 0)) (fun _ hk => hk.2) (.int .i64 0)) (fun _ hk => hk.2) (.int .i64 0)) (fun _ hk => hk.2) (.int .i64 (wrap64 x162000_2))) (fun _ hk => hk.2) (.int .i64 0)) (fun _ hk => hk.2) (.int .i64 (wrap64 x162000_2))) (fun _ hk => hk.2) (.int .i64 0)) (fun _ hk => ⟨hk.1.1.1.1.1, ⟨hk.1.1.1.2, ⟨(by simp [Value.ownBlock]), ⟨hk.1.1.1.1.2, ⟨hk.1.1.2, hk.1.2⟩⟩⟩⟩⟩)⟩, ⟨by (with_reducible repeat (first | apply Kd.S_alloc | apply Kd.S_drewN | apply Kd.S_drew)); exact Kd.S_mono (Kd.S_far (p := ⟨gb193, 3, none⟩) (Kd.S_far (p := ⟨gb193, 2, none⟩) (Kd.S_far (p := ⟨gb193, 1, none⟩) (Kd.S_far (p := ⟨gb193, 0, none⟩) (Kd.S_far (p := ⟨gb193, 3, none⟩) (Kd.S_far (p := ⟨gb193, 2, none⟩) (Kd.S_far (p := ⟨gb193, 1, none⟩) (Kd.S_far (p := ⟨gb193, 0, none⟩) (Kd.S_types HO191.out BK193.out (by decide)) (fun _ hk => hk.2) (.int .i64 0)) (fun _ hk => hk.2) (.int .i64 0)) (fun _ hk => hk.2) (.int .i64 0)) (fun _ hk => hk.2) (.int .i64 0)) (fun _ hk => hk.2) (.int .i64 (wrap64 x162000_2))) (fun _ hk => hk.2) (.int .i64 0)) (fun _ hk => hk.2) (.int .i64 (wrap64 x162000_2))) (fun _ hk => hk.2) (.int .i64 0)) (fun _ hk => ⟨hk.1.1.1, hk.1.2⟩)⟩, ⟨by first | exact Kd.R_nil _ _ _ _ _ | exact Kd.N_nil _ _ _ _ _ | exact Kd.V_nil _ _ _ _ _ | exact Kd.Q_nil _ _ _ _ _ | exact Kd.S_nil _ _ _ _ _⟩, ⟨by (with_reducible repeat (first | refine blk_drewN ?_ _ | refine blk_drew ?_ | refine blk_alloc ?_ _)); refine blk_far ?_ NB161_193.out _; (with_reducible repeat (first | refine blk_drewN ?_ _ | refine blk_drew ?_ | refine blk_alloc ?_ _)); refine blk_far ?_ NB161_193.out _; (with_reducible repeat (first | refine blk_drewN ?_ _ | refine blk_drew ?_ | refine blk_alloc ?_ _)); refine blk_far ?_ NB161_193.out _; (with_reducible repeat (first | refine blk_drewN ?_ _ | refine blk_drew ?_ | refine blk_alloc ?_ _)); refine blk_far ?_ NB161_193.out _; (with_reducible repeat (first | refine blk_drewN ?_ _ | refine blk_drew ?_ | refine blk_alloc ?_ _)); refine blk_far ?_ NB161_193.out _; (with_reducible repeat (first | refine blk_drewN ?_ _ | refine blk_drew ?_ | refine blk_alloc ?_ _)); refine blk_far ?_ NB161_193.out _; (with_reducible repeat (first | refine blk_drewN ?_ _ | refine blk_drew ?_ | refine blk_alloc ?_ _)); refine blk_far ?_ NB161_193.out _; (with_reducible repeat (first | refine blk_drewN ?_ _ | refine blk_drew ?_ | refine blk_alloc ?_ _)); refine blk_far ?_ NB161_193.out _; (with_reducible repeat (first | refine blk_drewN ?_ _ | refine blk_drew ?_ | refine blk_alloc ?_ _)); exact BK161.out⟩, ⟨by (with_reducible repeat (first | refine blk_drewN ?_ _ | refine blk_drew ?_ | refine blk_alloc ?_ _)); refine blk_far ?_ NB192_193.out _; (with_reducible repeat (first | refine blk_drewN ?_ _ | refine blk_drew ?_ | refine blk_alloc ?_ _)); refine blk_far ?_ NB192_193.out _; (with_reducible repeat (first | refine blk_drewN ?_ _ | refine blk_drew ?_ | refine blk_alloc ?_ _)); refine blk_far ?_ NB192_193.out _; (with_reducible repeat (first | refine blk_drewN ?_ _ | refine blk_drew ?_ | refine blk_alloc ?_ _)); refine blk_far ?_ NB192_193.out _; (with_reducible repeat (first | refine blk_drewN ?_ _ | refine blk_drew ?_ | refine blk_alloc ?_ _)); refine blk_far ?_ NB192_193.out _; (with_reducible repeat (first | refine blk_drewN ?_ _ | refine blk_drew ?_ | refine blk_alloc ?_ _)); refine blk_far ?_ NB192_193.out _; (with_reducible repeat (first | refine blk_drewN ?_ _ | refine blk_drew ?_ | refine blk_alloc ?_ _)); refine blk_far ?_ NB192_193.out _; (with_reducible repeat (first | refine blk_drewN ?_ _ | refine blk_drew ?_ | refine blk_alloc ?_ _)); refine blk_far ?_ NB192_193.out _; (with_reducible repeat (first | refine blk_drewN ?_ _ | refine blk_drew ?_ | refine blk_alloc ?_ _)); exact BK192.out⟩, ⟨by (with_reducible repeat (first | refine blk_drewN ?_ _ | refine blk_drew ?_ | refine blk_alloc ?_ _)); refine blk_put (cs := #[.int .i64 (wrap64 x162000_2), .int .i64 0, .int .i64 (wrap64 x162000_2), .int .i64 0]) ?_ 3 _ rfl; (with_reducible repeat (first | refine blk_drewN ?_ _ | refine blk_drew ?_ | refine blk_alloc ?_ _)); refine blk_put (cs := #[.int .i64 (wrap64 x162000_2), .int .i64 0, .int .i64 0, .int .i64 0]) ?_ 2 _ rfl; (with_reducible repeat (first | refine blk_drewN ?_ _ | refine blk_drew ?_ | refine blk_alloc ?_ _)); refine blk_put (cs := #[.int .i64 (wrap64 x162000_2), .int .i64 0, .int .i64 0, .int .i64 0]) ?_ 1 _ rfl; (with_reducible repeat (first | refine blk_drewN ?_ _ | refine blk_drew ?_ | refine blk_alloc ?_ _)); refine blk_put (cs := #[.int .i64 0, .int .i64 0, .int .i64 0, .int .i64 0]) ?_ 0 _ rfl; (with_reducible repeat (first | refine blk_drewN ?_ _ | refine blk_drew ?_ | refine blk_alloc ?_ _)); refine blk_put (cs := #[.int .i64 0, .int .i64 0, .int .i64 0, .int .i64 0]) ?_ 3 _ rfl; (with_reducible repeat (first | refine blk_drewN ?_ _ | refine blk_drew ?_ | refine blk_alloc ?_ _)); refine blk_put (cs := #[.int .i64 0, .int .i64 0, .int .i64 0, .int .i64 0]) ?_ 2 _ rfl; (with_reducible repeat (first | refine blk_drewN ?_ _ | refine blk_drew ?_ | refine blk_alloc ?_ _)); refine blk_put (cs := #[.int .i64 0, .int .i64 0, .int .i64 0, .int .i64 0]) ?_ 1 _ rfl; (with_reducible repeat (first | refine blk_drewN ?_ _ | refine blk_drew ?_ | refine blk_alloc ?_ _)); refine blk_put (cs := #[.int .i64 0, .int .i64 0, .int .i64 0, .int .i64 0]) ?_ 0 _ rfl; (with_reducible repeat (first | refine blk_drewN ?_ _ | refine blk_drew ?_ | refine blk_alloc ?_ _)); exact BK193.out⟩, ⟨by repeat (first | (with_reducible first | exact HB.out | apply below_alloc | apply pw_below_drewN | apply below_drew1 | refine below_set ?_ GE161.out | refine below_set ?_ GE192.out | refine below_set ?_ GE193.out) | exact HB.out)⟩⟩
           case round =>
            clear H'
            (try clear c1); (try clear p1); (try clear q1); (try clear hx1); (try clear c2); (try clear p2); (try clear q2); (try clear c3); (try clear q3); (try clear c4); (try clear c6); (try clear c6b0); (try clear p6); (try clear c7); (try clear c7b0); (try clear c8); (try clear c8b0); (try clear c9); (try clear c9b0); (try clear c9b1); (try clear c14); (try clear c14b0); (try clear c14b1); (try clear c15); (try clear c15b0); (try clear c15b1); (try clear c16); (try clear c16b0); (try clear p16); (try clear q16); (try clear hx16); (try clear c17); (try clear c17b0); (try clear c17b1); (try clear p17); (try clear q17); (try clear hx17); (try clear c20); (try clear q20); (try clear c21); (try clear q21); (try clear c22); (try clear c22b0); (try clear c22b1); (try clear c23); (try clear c23b0); (try clear c23b1); (try clear c25); (try clear c25b0); (try clear c26); (try clear c26b0); (try clear c28); (try clear c28b0); (try clear c29); (try clear c29b0); (try clear c30); (try clear c30b0); (try clear c30b1); (try clear c31); (try clear c31b0); (try clear c32); (try clear c32b0); (try clear c32b1); (try clear c33); (try clear c33b0); (try clear c34); (try clear c34b0); (try clear c34b1); (try clear c37); (try clear q37); (try clear q38); (try clear c45); (try clear c45b0); (try clear c45b1); (try clear c49); (try clear c61); (try clear c62); (try clear c64); (try clear p64); (try clear hcz10_0); (try clear hcz11_0); (try clear hcz12_0); (try clear hcz13_0); (try clear hcz19_0); (try clear hcz50_0); (try clear hcz5_0); (try clear hcz63_0); (try clear hcz63_1); (try clear hcz63_2); (try clear hcz63_3); (try clear hcz65_0); (try clear hfz10_0); (try clear hfz11_0); (try clear hfz12_0); (try clear hfz13_0); (try clear hfz19_0); (try clear hfz50_0); (try clear hfz5_0); (try clear hfz63_0); (try clear hfz63_1); (try clear hfz63_2); (try clear hfz63_3); (try clear hfz65_0); (try clear hx162_0); (try clear hx163_0); (try clear hx174_0); (try clear hx175_0); (try clear p1); (try clear p16); (try clear p162); (try clear p163); (try clear p17); (try clear p174); (try clear p175); (try clear p2); (try clear p6); (try clear q020); (try clear q021); (try clear q1); (try clear q16); (try clear q162); (try clear q163); (try clear q17); (try clear q174); (try clear q175); (try clear q2); (try clear q20); (try clear q21); (try clear q3); (try clear q37); (try clear q38)
            obtain ⟨x12_4, x13_4, x193000_4, x194000_4, x194001_4, x194002_4, x194003_4, u193000, rfl, rfl, HA, HK4, HO_6, HO_7, HO_8, HO_193000, BK161, BK192, BK193, HB⟩ := hrel
            cases gk with
            | zero => exact absurd HA.out (by simp [hunks_Changes.l2])
            | succ k4 =>
             have H := HA.out
             clear HA
             simp only [hunks_Changes.l2] at H
             have HC66 := Aside0.mk H
             clear H
             go_upto_region 15 with (fail)
             repeat (go_quiet (fail); go_upto_region 15 with (fail))
             (try (refine bodyPost_end (results_none rfl _ _ _) rfl ?_; (try dsimp only); (try go_wp2); repeat (go_quiet (fail); try go_wp2)))
             go_cut [108] (fun v108 wc => ∃ (kq : Nat) (x108_65 : Bool), v108 = .bool x108_65 ∧ Aside0 (hunks_Changes.j6 kq x6_17 x7_17 t189 x12_4 x13_4 x108_65 x162000_2 x193000_4 x194000_4 x194001_4 x194002_4 x194003_4 = some r) ∧ Aside0 (kq ≤ k4) ∧ Aside0 (Kd.V Kd.string 9 wc w.heap.size (fun k_ => ((P0_ k_ ∨ P1_ k_) ∨ w.heap.size ≤ k_) ∧ some k_ ≠ (v190 : Value).ownBlock ∧ some k_ ≠ (u193000 : Value).ownBlock ∧ k_ ≠ gb161 ∧ k_ ≠ gb192 ∧ k_ ≠ gb193) (.slice Ao56 x6_17.length co56) x6_17) ∧ Aside0 (Kd.V Kd.string 9 wc w.heap.size (fun k_ => ((P0_ k_ ∨ P1_ k_) ∨ w.heap.size ≤ k_) ∧ some k_ ≠ (v190 : Value).ownBlock ∧ some k_ ≠ (u193000 : Value).ownBlock ∧ k_ ≠ gb161 ∧ k_ ≠ gb192 ∧ k_ ≠ gb193) (.slice Ao57 x7_17.length co57) x7_17) ∧ Aside0 (Kd.S (Kd.slice 3 (Kd.int .i64)) 47 wc w.heap.size (fun k_ => (w.heap.size ≤ k_) ∧ k_ ≠ gb161) v190 t189) ∧ Aside0 (Kd.R k82 82 wc w.heap.size (fun k_ => (w.heap.size ≤ k_) ∧ k_ ≠ gb193) u193000 x193000_4) ∧ Aside0 (wc.heap[gb161]? = some (.cells #[.int .i64 x162000_2] 3 (0, 0))) ∧ Aside0 (wc.heap[gb192]? = some (.cells #[u193000] 79 (0, 0))) ∧ Aside0 (wc.heap[gb193]? = some (.cells #[.int .i64 x194000_4, .int .i64 x194001_4, .int .i64 x194002_4, .int .i64 x194003_4] 82 (0, 0))) ∧ Aside0 (Below w.heap.size w wc))
             case first =>
              have H := HC66.out
              clear HC66
              by_cases c67 : x12_4 < (x6_17.length : Int)
              ·rw [if_pos c67] at H
               have c67b0 : decide (x12_4 < (x6_17.length : Int)) = true := decide_eq_true c67
               clear c67
               (first | rw [c67b0] | (simp only [i64_w, i32_w]; rw [c67b0]) | skip)
               have H' := Aside0.mk H
               clear H
               go_wp2
               repeat (go_quiet (fail); try go_wp2)
               (try (refine bodyPost_end (results_none rfl _ _ _) rfl ?_; (try dsimp only); (try go_wp2); repeat (go_quiet (fail); try go_wp2)))
               go_meet
               case rel => exact ⟨_, (true), (by first | rfl | (simp; done) | (simp [*]; done) | (simp [wrap64, wrap32]; done)), H', ⟨by have := HJ2.out; have := HJ17.out; have := HJ43.out; have := HK4.out; first | omega | exact Nat.le_refl _⟩, ⟨by (with_reducible repeat (first | apply Kd.V_alloc | apply Kd.V_drewN | apply Kd.V_drew)); exact HO_6.out⟩, ⟨by (with_reducible repeat (first | apply Kd.V_alloc | apply Kd.V_drewN | apply Kd.V_drew)); exact HO_7.out⟩, ⟨by (with_reducible repeat (first | apply Kd.S_alloc | apply Kd.S_drewN | apply Kd.S_drew)); exact HO_8.out⟩, ⟨by (with_reducible repeat (first | apply Kd.R_alloc | apply Kd.R_drewN | apply Kd.R_drew)); exact HO_193000.out⟩, ⟨by (with_reducible repeat (first | refine blk_drewN ?_ _ | refine blk_drew ?_ | refine blk_alloc ?_ _)); exact BK161.out⟩, ⟨by (with_reducible repeat (first | refine blk_drewN ?_ _ | refine blk_drew ?_ | refine blk_alloc ?_ _)); exact BK192.out⟩, ⟨by (with_reducible repeat (first | refine blk_drewN ?_ _ | refine blk_drew ?_ | refine blk_alloc ?_ _)); exact BK193.out⟩, ⟨by repeat (first | (with_reducible first | exact HB.out | apply below_alloc | apply pw_below_drewN | apply below_drew1 | refine below_set ?_ GE161.out | refine below_set ?_ GE192.out | refine below_set ?_ GE193.out) | exact HB.out)⟩⟩
              ·rw [if_neg c67] at H
               have c67b0 : decide (x12_4 < (x6_17.length : Int)) = false := decide_eq_false c67
               clear c67
               (first | rw [c67b0] | (simp only [i64_w, i32_w]; rw [c67b0]) | skip)
               have H' := Aside0.mk H
               clear H
               go_wp2
               repeat (go_quiet (fail); try go_wp2)
               (try (refine bodyPost_end (results_none rfl _ _ _) rfl ?_; (try dsimp only); (try go_wp2); repeat (go_quiet (fail); try go_wp2)))
               go_meet
               case rel => exact ⟨_, (decide (x13_4 < (x7_17.length : Int))), (by first | rfl | (simp; done) | (simp [*]; done) | (simp [wrap64, wrap32]; done)), H', ⟨by have := HJ2.out; have := HJ17.out; have := HJ43.out; have := HK4.out; first | omega | exact Nat.le_refl _⟩, ⟨by (with_reducible repeat (first | apply Kd.V_alloc | apply Kd.V_drewN | apply Kd.V_drew)); exact HO_6.out⟩, ⟨by (with_reducible repeat (first | apply Kd.V_alloc | apply Kd.V_drewN | apply Kd.V_drew)); exact HO_7.out⟩, ⟨by (with_reducible repeat (first | apply Kd.S_alloc | apply Kd.S_drewN | apply Kd.S_drew)); exact HO_8.out⟩, ⟨by (with_reducible repeat (first | apply Kd.R_alloc | apply Kd.R_drewN | apply Kd.R_drew)); exact HO_193000.out⟩, ⟨by (with_reducible repeat (first | refine blk_drewN ?_ _ | refine blk_drew ?_ | refine blk_alloc ?_ _)); exact BK161.out⟩, ⟨by (with_reducible repeat (first | refine blk_drewN ?_ _ | refine blk_drew ?_ | refine blk_alloc ?_ _)); exact BK192.out⟩, ⟨by (with_reducible repeat (first | refine blk_drewN ?_ _ | refine blk_drew ?_ | refine blk_alloc ?_ _)); exact BK193.out⟩, ⟨by repeat (first | (with_reducible first | exact HB.out | apply below_alloc | apply pw_below_drewN | apply below_drew1 | refine below_set ?_ GE161.out | refine below_set ?_ GE192.out | refine below_set ?_ GE193.out) | exact HB.out)⟩⟩
             case rest =>
              clear HC66
              (try clear c1); (try clear p1); (try clear q1); (try clear hx1); (try clear c2); (try clear p2); (try clear q2); (try clear c3); (try clear q3); (try clear c4); (try clear c6); (try clear c6b0); (try clear p6); (try clear c7); (try clear c7b0); (try clear c8); (try clear c8b0); (try clear c9); (try clear c9b0); (try clear c9b1); (try clear c14); (try clear c14b0); (try clear c14b1); (try clear c15); (try clear c15b0); (try clear c15b1); (try clear c16); (try clear c16b0); (try clear p16); (try clear q16); (try clear hx16); (try clear c17); (try clear c17b0); (try clear c17b1); (try clear p17); (try clear q17); (try clear hx17); (try clear c20); (try clear q20); (try clear c21); (try clear q21); (try clear c22); (try clear c22b0); (try clear c22b1); (try clear c23); (try clear c23b0); (try clear c23b1); (try clear c25); (try clear c25b0); (try clear c26); (try clear c26b0); (try clear c28); (try clear c28b0); (try clear c29); (try clear c29b0); (try clear c30); (try clear c30b0); (try clear c30b1); (try clear c31); (try clear c31b0); (try clear c32); (try clear c32b0); (try clear c32b1); (try clear c33); (try clear c33b0); (try clear c34); (try clear c34b0); (try clear c34b1); (try clear c37); (try clear q37); (try clear q38); (try clear c45); (try clear c45b0); (try clear c45b1); (try clear c49); (try clear c61); (try clear c62); (try clear c64); (try clear p64); (try clear c67); (try clear c67b0); (try clear hcz10_0); (try clear hcz11_0); (try clear hcz12_0); (try clear hcz13_0); (try clear hcz19_0); (try clear hcz50_0); (try clear hcz5_0); (try clear hcz63_0); (try clear hcz63_1); (try clear hcz63_2); (try clear hcz63_3); (try clear hcz65_0); (try clear hfz10_0); (try clear hfz11_0); (try clear hfz12_0); (try clear hfz13_0); (try clear hfz19_0); (try clear hfz50_0); (try clear hfz5_0); (try clear hfz63_0); (try clear hfz63_1); (try clear hfz63_2); (try clear hfz63_3); (try clear hfz65_0); (try clear hx162_0); (try clear hx163_0); (try clear hx174_0); (try clear hx175_0); (try clear p1); (try clear p16); (try clear p162); (try clear p163); (try clear p17); (try clear p174); (try clear p175); (try clear p2); (try clear p6); (try clear p64); (try clear q020); (try clear q021); (try clear q1); (try clear q16); (try clear q162); (try clear q163); (try clear q17); (try clear q174); (try clear q175); (try clear q2); (try clear q20); (try clear q21); (try clear q3); (try clear q37); (try clear q38)
              obtain ⟨kq, x108_65, rfl, HA, HJ65, HO_6, HO_7, HO_8, HO_193000, BK161, BK192, BK193, HB⟩ := hcut
              cases kq with
              | zero => exact absurd HA.out (by simp [hunks_Changes.j6])
              | succ kj65 =>
               have H := HA.out
               clear HA
               simp only [hunks_Changes.j6] at H
               by_cases c68 : x108_65 = true
               ·subst c68
                have H1 : (if x12_4 < (x6_17.length : Int) then (if x13_4 < (x7_17.length : Int) then (if 0 ≤ x12_4 then (if 0 ≤ x13_4 then (hunks_Changes.j7 kj65 x6_17 x7_17 t189 x12_4 x13_4 ((rdOf ByteArray.empty x6_17 x12_4).toList == (rdOf ByteArray.empty x7_17 x13_4).toList) x162000_2 x193000_4 x194000_4 x194001_4 x194002_4 x194003_4) else (none)) else (none)) else (hunks_Changes.j7 kj65 x6_17 x7_17 t189 x12_4 x13_4 false x162000_2 x193000_4 x194000_4 x194001_4 x194002_4 x194003_4)) else (hunks_Changes.j7 kj65 x6_17 x7_17 t189 x12_4 x13_4 false x162000_2 x193000_4 x194000_4 x194001_4 x194002_4 x194003_4)) = some r := by rw [if_pos rfl] at H; exact H
                clear H
                have H := H1
                clear H1
                have HC69 := Aside0.mk H
                clear H
                go_upto_region 18 with (fail)
                repeat (go_quiet (fail); go_upto_region 18 with (fail))
                (try (refine bodyPost_end (results_none rfl _ _ _) rfl ?_; (try dsimp only); (try go_wp2); repeat (go_quiet (fail); try go_wp2)))
                go_cut [115] (fun v115 wc => ∃ (kq : Nat) (x115_68 : Bool), v115 = .bool x115_68 ∧ Aside0 (hunks_Changes.j7 kq x6_17 x7_17 t189 x12_4 x13_4 x115_68 x162000_2 x193000_4 x194000_4 x194001_4 x194002_4 x194003_4 = some r) ∧ Aside0 (kq ≤ kj65) ∧ Aside0 (Kd.V Kd.string 9 wc w.heap.size (fun k_ => ((P0_ k_ ∨ P1_ k_) ∨ w.heap.size ≤ k_) ∧ some k_ ≠ (v190 : Value).ownBlock ∧ some k_ ≠ (u193000 : Value).ownBlock ∧ k_ ≠ gb161 ∧ k_ ≠ gb192 ∧ k_ ≠ gb193) (.slice Ao56 x6_17.length co56) x6_17) ∧ Aside0 (Kd.V Kd.string 9 wc w.heap.size (fun k_ => ((P0_ k_ ∨ P1_ k_) ∨ w.heap.size ≤ k_) ∧ some k_ ≠ (v190 : Value).ownBlock ∧ some k_ ≠ (u193000 : Value).ownBlock ∧ k_ ≠ gb161 ∧ k_ ≠ gb192 ∧ k_ ≠ gb193) (.slice Ao57 x7_17.length co57) x7_17) ∧ Aside0 (Kd.S (Kd.slice 3 (Kd.int .i64)) 47 wc w.heap.size (fun k_ => (w.heap.size ≤ k_) ∧ k_ ≠ gb161) v190 t189) ∧ Aside0 (Kd.R k82 82 wc w.heap.size (fun k_ => (w.heap.size ≤ k_) ∧ k_ ≠ gb193) u193000 x193000_4) ∧ Aside0 (wc.heap[gb161]? = some (.cells #[.int .i64 x162000_2] 3 (0, 0))) ∧ Aside0 (wc.heap[gb192]? = some (.cells #[u193000] 79 (0, 0))) ∧ Aside0 (wc.heap[gb193]? = some (.cells #[.int .i64 x194000_4, .int .i64 x194001_4, .int .i64 x194002_4, .int .i64 x194003_4] 82 (0, 0))) ∧ Aside0 (Below w.heap.size w wc))
                case first =>
                 have H := HC69.out
                 clear HC69
                 by_cases c70 : x12_4 < (x6_17.length : Int)
                 ·rw [if_pos c70] at H
                  have c70b0 : decide (x12_4 < (x6_17.length : Int)) = true := decide_eq_true c70
                  clear c70
                  (first | rw [c70b0] | (simp only [i64_w, i32_w]; rw [c70b0]) | skip)
                  by_cases c71 : x13_4 < (x7_17.length : Int)
                  ·rw [if_pos c71] at H
                   have c71b0 : decide (x13_4 < (x7_17.length : Int)) = true := decide_eq_true c71
                   clear c71
                   by_cases c72 : 0 ≤ x12_4
                   ·rw [if_pos c72] at H
                    have c72b0 : decide (0 ≤ x12_4) = true := decide_eq_true c72
                    clear c72
                    by_cases c73 : 0 ≤ x13_4
                    ·rw [if_pos c73] at H
                     have c73b0 : decide (0 ≤ x13_4) = true := decide_eq_true c73
                     clear c73
                     have H' := Aside0.mk H
                     clear H
                     have p197 : 0 ≤ (x12_4 : Int) := of_decide_eq_true (by first | (with_reducible assumption) | assumption)
                     have q197 : x12_4 < (x6_17.length : Int) := of_decide_eq_true (by first | (with_reducible assumption) | assumption)
                     obtain ⟨ad197, e197, hx197_0⟩ := Kd.at_string (Kd.V_reads' HO_6.out).2.2 x12_4 p197 q197
                     cases e197
                     replace p197 := eq_true p197
                     replace q197 := eq_true q197
                     have p198 : 0 ≤ (x13_4 : Int) := of_decide_eq_true (by first | (with_reducible assumption) | assumption)
                     have q198 : x13_4 < (x7_17.length : Int) := of_decide_eq_true (by first | (with_reducible assumption) | assumption)
                     obtain ⟨ad198, e198, hx198_0⟩ := Kd.at_string (Kd.V_reads' HO_7.out).2.2 x13_4 p198 q198
                     cases e198
                     replace p198 := eq_true p198
                     replace q198 := eq_true q198
                     go_wp2
                     repeat (go_quiet (fail); try go_wp2)
                     (try (refine bodyPost_end (results_none rfl _ _ _) rfl ?_; (try dsimp only); (try go_wp2); repeat (go_quiet (fail); try go_wp2)))
                     go_meet
                     case rel => exact ⟨_, (((rdOf ByteArray.empty x6_17 x12_4).toList == (rdOf ByteArray.empty x7_17 x13_4).toList)), (by first | rfl | (simp; done) | (simp [*]; done) | (simp [wrap64, wrap32]; done)), H', ⟨by have := HJ2.out; have := HJ17.out; have := HJ43.out; have := HK4.out; have := HJ65.out; first | omega | exact Nat.le_refl _⟩, ⟨by (with_reducible repeat (first | apply Kd.V_alloc | apply Kd.V_drewN | apply Kd.V_drew)); exact HO_6.out⟩, ⟨by (with_reducible repeat (first | apply Kd.V_alloc | apply Kd.V_drewN | apply Kd.V_drew)); exact HO_7.out⟩, ⟨by (with_reducible repeat (first | apply Kd.S_alloc | apply Kd.S_drewN | apply Kd.S_drew)); exact HO_8.out⟩, ⟨by (with_reducible repeat (first | apply Kd.R_alloc | apply Kd.R_drewN | apply Kd.R_drew)); exact HO_193000.out⟩, ⟨by (with_reducible repeat (first | refine blk_drewN ?_ _ | refine blk_drew ?_ | refine blk_alloc ?_ _)); exact BK161.out⟩, ⟨by (with_reducible repeat (first | refine blk_drewN ?_ _ | refine blk_drew ?_ | refine blk_alloc ?_ _)); exact BK192.out⟩, ⟨by (with_reducible repeat (first | refine blk_drewN ?_ _ | refine blk_drew ?_ | refine blk_alloc ?_ _)); exact BK193.out⟩, ⟨by repeat (first | (with_reducible first | exact HB.out | apply below_alloc | apply pw_below_drewN | apply below_drew1 | refine below_set ?_ GE161.out | refine below_set ?_ GE192.out | refine below_set ?_ GE193.out) | exact HB.out)⟩⟩
                    ·rw [if_neg c73] at H
                     exact absurd H (by simp)
                   ·rw [if_neg c72] at H
                    exact absurd H (by simp)
                  ·rw [if_neg c71] at H
                   have c71b0 : decide (x13_4 < (x7_17.length : Int)) = false := decide_eq_false c71
                   clear c71
                   have H' := Aside0.mk H
                   clear H
                   go_wp2
                   repeat (go_quiet (fail); try go_wp2)
                   (try (refine bodyPost_end (results_none rfl _ _ _) rfl ?_; (try dsimp only); (try go_wp2); repeat (go_quiet (fail); try go_wp2)))
                   go_meet
                   case rel => exact ⟨_, (false), (by first | rfl | (simp; done) | (simp [*]; done) | (simp [wrap64, wrap32]; done)), H', ⟨by have := HJ2.out; have := HJ17.out; have := HJ43.out; have := HK4.out; have := HJ65.out; first | omega | exact Nat.le_refl _⟩, ⟨by (with_reducible repeat (first | apply Kd.V_alloc | apply Kd.V_drewN | apply Kd.V_drew)); exact HO_6.out⟩, ⟨by (with_reducible repeat (first | apply Kd.V_alloc | apply Kd.V_drewN | apply Kd.V_drew)); exact HO_7.out⟩, ⟨by (with_reducible repeat (first | apply Kd.S_alloc | apply Kd.S_drewN | apply Kd.S_drew)); exact HO_8.out⟩, ⟨by (with_reducible repeat (first | apply Kd.R_alloc | apply Kd.R_drewN | apply Kd.R_drew)); exact HO_193000.out⟩, ⟨by (with_reducible repeat (first | refine blk_drewN ?_ _ | refine blk_drew ?_ | refine blk_alloc ?_ _)); exact BK161.out⟩, ⟨by (with_reducible repeat (first | refine blk_drewN ?_ _ | refine blk_drew ?_ | refine blk_alloc ?_ _)); exact BK192.out⟩, ⟨by (with_reducible repeat (first | refine blk_drewN ?_ _ | refine blk_drew ?_ | refine blk_alloc ?_ _)); exact BK193.out⟩, ⟨by repeat (first | (with_reducible first | exact HB.out | apply below_alloc | apply pw_below_drewN | apply below_drew1 | refine below_set ?_ GE161.out | refine below_set ?_ GE192.out | refine below_set ?_ GE193.out) | exact HB.out)⟩⟩
                 ·rw [if_neg c70] at H
                  have c70b0 : decide (x12_4 < (x6_17.length : Int)) = false := decide_eq_false c70
                  clear c70
                  (first | rw [c70b0] | (simp only [i64_w, i32_w]; rw [c70b0]) | skip)
                  have H' := Aside0.mk H
                  clear H
                  go_wp2
                  repeat (go_quiet (fail); try go_wp2)
                  (try (refine bodyPost_end (results_none rfl _ _ _) rfl ?_; (try dsimp only); (try go_wp2); repeat (go_quiet (fail); try go_wp2)))
                  go_meet
                  case rel => exact ⟨_, (false), (by first | rfl | (simp; done) | (simp [*]; done) | (simp [wrap64, wrap32]; done)), H', ⟨by have := HJ2.out; have := HJ17.out; have := HJ43.out; have := HK4.out; have := HJ65.out; first | omega | exact Nat.le_refl _⟩, ⟨by (with_reducible repeat (first | apply Kd.V_alloc | apply Kd.V_drewN | apply Kd.V_drew)); exact HO_6.out⟩, ⟨by (with_reducible repeat (first | apply Kd.V_alloc | apply Kd.V_drewN | apply Kd.V_drew)); exact HO_7.out⟩, ⟨by (with_reducible repeat (first | apply Kd.S_alloc | apply Kd.S_drewN | apply Kd.S_drew)); exact HO_8.out⟩, ⟨by (with_reducible repeat (first | apply Kd.R_alloc | apply Kd.R_drewN | apply Kd.R_drew)); exact HO_193000.out⟩, ⟨by (with_reducible repeat (first | refine blk_drewN ?_ _ | refine blk_drew ?_ | refine blk_alloc ?_ _)); exact BK161.out⟩, ⟨by (with_reducible repeat (first | refine blk_drewN ?_ _ | refine blk_drew ?_ | refine blk_alloc ?_ _)); exact BK192.out⟩, ⟨by (with_reducible repeat (first | refine blk_drewN ?_ _ | refine blk_drew ?_ | refine blk_alloc ?_ _)); exact BK193.out⟩, ⟨by repeat (first | (with_reducible first | exact HB.out | apply below_alloc | apply pw_below_drewN | apply below_drew1 | refine below_set ?_ GE161.out | refine below_set ?_ GE192.out | refine below_set ?_ GE193.out) | exact HB.out)⟩⟩
                case rest =>
                 clear HC69
                 (try clear c1); (try clear p1); (try clear q1); (try clear hx1); (try clear c2); (try clear p2); (try clear q2); (try clear c3); (try clear q3); (try clear c4); (try clear c6); (try clear c6b0); (try clear p6); (try clear c7); (try clear c7b0); (try clear c8); (try clear c8b0); (try clear c9); (try clear c9b0); (try clear c9b1); (try clear c14); (try clear c14b0); (try clear c14b1); (try clear c15); (try clear c15b0); (try clear c15b1); (try clear c16); (try clear c16b0); (try clear p16); (try clear q16); (try clear hx16); (try clear c17); (try clear c17b0); (try clear c17b1); (try clear p17); (try clear q17); (try clear hx17); (try clear p19); (try clear q19); (try clear hx19); (try clear c20); (try clear q20); (try clear c21); (try clear q21); (try clear c22); (try clear c22b0); (try clear c22b1); (try clear c23); (try clear c23b0); (try clear c23b1); (try clear c25); (try clear c25b0); (try clear c26); (try clear c26b0); (try clear c28); (try clear c28b0); (try clear c29); (try clear c29b0); (try clear c30); (try clear c30b0); (try clear c30b1); (try clear c31); (try clear c31b0); (try clear c32); (try clear c32b0); (try clear c32b1); (try clear c33); (try clear c33b0); (try clear c34); (try clear c34b0); (try clear c34b1); (try clear c37); (try clear q37); (try clear q38); (try clear c45); (try clear c45b0); (try clear c45b1); (try clear c49); (try clear c61); (try clear c62); (try clear c64); (try clear p64); (try clear c67); (try clear c67b0); (try clear c68); (try clear c70); (try clear c70b0); (try clear c71); (try clear c71b0); (try clear c72); (try clear c72b0); (try clear c73); (try clear c73b0); (try clear hcz10_0); (try clear hcz11_0); (try clear hcz12_0); (try clear hcz13_0); (try clear hcz19_0); (try clear hcz50_0); (try clear hcz5_0); (try clear hcz63_0); (try clear hcz63_1); (try clear hcz63_2); (try clear hcz63_3); (try clear hcz65_0); (try clear hfz10_0); (try clear hfz11_0); (try clear hfz12_0); (try clear hfz13_0); (try clear hfz19_0); (try clear hfz50_0); (try clear hfz5_0); (try clear hfz63_0); (try clear hfz63_1); (try clear hfz63_2); (try clear hfz63_3); (try clear hfz65_0); (try clear hx162_0); (try clear hx163_0); (try clear hx174_0); (try clear hx175_0); (try clear hx197_0); (try clear hx198_0); (try clear p1); (try clear p16); (try clear p162); (try clear p163); (try clear p17); (try clear p174); (try clear p175); (try clear p197); (try clear p198); (try clear p2); (try clear p6); (try clear p64); (try clear q020); (try clear q021); (try clear q1); (try clear q16); (try clear q162); (try clear q163); (try clear q17); (try clear q174); (try clear q175); (try clear q197); (try clear q198); (try clear q2); (try clear q20); (try clear q21); (try clear q3); (try clear q37); (try clear q38)
                 obtain ⟨kq, x115_68, rfl, HA, HJ68, HO_6, HO_7, HO_8, HO_193000, BK161, BK192, BK193, HB⟩ := hcut
                 cases kq with
                 | zero => exact absurd HA.out (by simp [hunks_Changes.j7])
                 | succ kj68 =>
                  have H := HA.out
                  clear HA
                  simp only [hunks_Changes.j7] at H
                  by_cases c74 : x115_68 = true
                  ·subst c74
                   have H1 : (if (wrap64 (x194001_4 + x194003_4)) > 0 then (if x193000_4.length < 4398046511104 then (hunks_Changes.l2 kj68 x6_17 x7_17 t189 (wrap64 (x12_4 + 1)) (wrap64 (x13_4 + 1)) x162000_2 (x193000_4 ++ [(⟨x194000_4, x194001_4, x194002_4, x194003_4⟩ : S82)]) (wrap64 (x162000_2 + (wrap64 (x12_4 + 1)))) 0 (wrap64 (x162000_2 + (wrap64 (x13_4 + 1)))) 0) else (none)) else (hunks_Changes.l2 kj68 x6_17 x7_17 t189 (wrap64 (x12_4 + 1)) (wrap64 (x13_4 + 1)) x162000_2 x193000_4 (wrap64 (x162000_2 + (wrap64 (x12_4 + 1)))) 0 (wrap64 (x162000_2 + (wrap64 (x13_4 + 1)))) 0)) = some r := by rw [if_pos rfl] at H; exact H
                   clear H
                   have H := H1
                   clear H1
                   by_cases c75 : (wrap64 (x194001_4 + x194003_4)) > 0
                   ·rw [if_pos c75] at H
                    have c75b0 : decide (0 < (wrap64 (x194001_4 + x194003_4))) = true := decide_eq_true c75
                    clear c75
                    by_cases c76 : x193000_4.length < 4398046511104
                    ·rw [if_pos c76] at H
                     have LMc76 := Aside0.mk c76
                     clear c76
                     obtain ⟨y199, hy199⟩ : ∃ y_ : List (S82), y_ = (x193000_4 ++ [(⟨x194000_4, x194001_4, x194002_4, x194003_4⟩ : S82)]) := ⟨_, rfl⟩
                     replace H : (hunks_Changes.l2 kj68 x6_17 x7_17 t189 (wrap64 (x12_4 + 1)) (wrap64 (x13_4 + 1)) x162000_2 y199 (wrap64 (x162000_2 + (wrap64 (x12_4 + 1)))) 0 (wrap64 (x162000_2 + (wrap64 (x13_4 + 1)))) 0) = some r := by first | (rw [hy199]; with_reducible exact H) | (have H2_ := (Option.bind_some _ _).symm.trans H; rw [hy199]; with_reducible exact H2_) | (have H2_ := (Option.bind_some _ _).symm.trans H; with_reducible exact H2_) | with_reducible exact H | (rw [hy199]; exact H) | exact H
                     have Ny199 := Aside0.mk hy199
                     clear hy199
                     have H' := Aside0.mk H
                     clear H
                     have hnb77 := NB193_161.out
                     have hnc77 := NB161_193.out
                     have hnb78 := NB193_192.out
                     have hnc78 := NB192_193.out
                     have hcz79_0 : wc.cell? ⟨gb193, 0, none⟩ = some (.int .i64 x194000_4) := (blk_cell BK193.out 0).trans rfl
                     have hcz79_1 : wc.cell? ⟨gb193, 1, none⟩ = some (.int .i64 x194001_4) := (blk_cell BK193.out 1).trans rfl
                     have hcz79_2 : wc.cell? ⟨gb193, 2, none⟩ = some (.int .i64 x194002_4) := (blk_cell BK193.out 2).trans rfl
                     have hcz79_3 : wc.cell? ⟨gb193, 3, none⟩ = some (.int .i64 x194003_4) := (blk_cell BK193.out 3).trans rfl
                     have hfz79_0 := blk_frozen BK193.out 0
                     have hfz79_1 := blk_frozen BK193.out 1
                     have hfz79_2 := blk_frozen BK193.out 2
                     have hfz79_3 := blk_frozen BK193.out 3
                     have hnb80 := NB192_161.out
                     have hnc80 := NB161_192.out
                     have hcz81_0 : wc.cell? ⟨gb192, 0, none⟩ = some (u193000) := (blk_cell BK192.out 0).trans rfl
                     have hfz81_0 := blk_frozen BK192.out 0
                     go_wp2_with (first | ((with_reducible refine gate_builtin (b := .append) (xs := #[.tmp 13, .tmp 15]) rfl ?_); (try (refine gate_guard (by rfl) ?_; dsimp only)); at_builtin; refine Kd.R_append k82 (w0 := w) w.heap.size rfl (.tmp 13) (.tmp 15) 79 82 (.agg #[(.int .i64 0), (.int .i64 0), (.int .i64 0), (.int .i64 0)]) 32 rfl Tryd.underlying79 info82 rfl (by decide) (by omega) u193000 x193000_4 (⟨x194000_4, x194001_4, x194002_4, x194003_4⟩ : S82) [.int .i64 x194000_4, .int .i64 x194001_4, .int .i64 x194002_4, .int .i64 x194003_4] (fun k_ => (w.heap.size ≤ k_) ∧ k_ ≠ gb193) (fun _ => False) rfl rfl ?aP (fun _ hk => hk.elim) ?aF ?aO ?aB ?aS ?aL ?_; (case aP => exact k82_mkM _ _ _ (⟨x194000_4, x194001_4, x194002_4, x194003_4⟩ : S82)); (case aB => exact (by repeat (first | (with_reducible first | exact HB.out | apply below_alloc | apply pw_below_drewN | apply below_drew1 | refine below_set ?_ GE161.out | refine below_set ?_ GE192.out | refine below_set ?_ GE193.out) | exact HB.out))); (case aF => exact (fun k_ hk => ⟨(Nat.le_trans (below_size (by repeat (first | (with_reducible first | exact HB.out | apply below_alloc | apply pw_below_drewN | apply below_drew1 | refine below_set ?_ GE161.out | refine below_set ?_ GE192.out | refine below_set ?_ GE193.out) | exact HB.out))) hk), Kd.freshB (g := gb193) (o := .cells #[.int .i64 x194000_4, .int .i64 x194001_4, .int .i64 x194002_4, .int .i64 x194003_4] 82 (0, 0)) (by (with_reducible repeat (first | refine blk_drewN ?_ _ | refine blk_drew ?_ | refine blk_alloc ?_ _)); exact BK193.out) k_ hk⟩)); (case aO => exact (by (with_reducible repeat (first | apply Kd.R_alloc | apply Kd.R_drewN | apply Kd.R_drew)); exact HO_193000.out)); (case aS => exact (below_size (by repeat (first | (with_reducible first | exact HB.out | apply below_alloc | apply pw_below_drewN | apply below_drew1 | refine below_set ?_ GE161.out | refine below_set ?_ GE192.out | refine below_set ?_ GE193.out) | exact HB.out)))); (case aL => have := LMc76.out; omega); intro v200 w82 ho hb hg hat; rw [← Ny199.out] at ho; have n0_ := Aside0.mk (Kd.V_afterv (ok := (fun k_ => ((P0_ k_ ∨ P1_ k_) ∨ w.heap.size ≤ k_) ∧ some k_ ≠ (v190 : Value).ownBlock ∧ k_ ≠ gb161 ∧ k_ ≠ gb192 ∧ k_ ≠ gb193)) (by (with_reducible repeat (first | apply Kd.V_alloc | apply Kd.V_drewN | apply Kd.V_drew)); exact Kd.V_mono HO_6.out (fun _ hk => ⟨⟨hk.1, ⟨hk.2.1, ⟨hk.2.2.2.1, ⟨hk.2.2.2.2.1, hk.2.2.2.2.2⟩⟩⟩⟩, hk.2.2.1⟩)) hg hat); have n1_ := Aside0.mk (Kd.V_afterv (ok := (fun k_ => ((P0_ k_ ∨ P1_ k_) ∨ w.heap.size ≤ k_) ∧ some k_ ≠ (v190 : Value).ownBlock ∧ k_ ≠ gb161 ∧ k_ ≠ gb192 ∧ k_ ≠ gb193)) (by (with_reducible repeat (first | apply Kd.V_alloc | apply Kd.V_drewN | apply Kd.V_drew)); exact Kd.V_mono HO_7.out (fun _ hk => ⟨⟨hk.1, ⟨hk.2.1, ⟨hk.2.2.2.1, ⟨hk.2.2.2.2.1, hk.2.2.2.2.2⟩⟩⟩⟩, hk.2.2.1⟩)) hg hat); have n2_ := Aside0.mk (Kd.S_over' (by (with_reducible repeat (first | apply Kd.S_alloc | apply Kd.S_drewN | apply Kd.S_drew)); exact HO_8.out) (Kd.R_typed (by (with_reducible repeat (first | apply Kd.R_alloc | apply Kd.R_drewN | apply Kd.R_drew)); exact HO_193000.out)) (by decide) hg); have n3_ := Aside0.mk (blk_grown (g := gb161) (o := .cells #[.int .i64 x162000_2] 3 (0, 0)) (by (with_reducible repeat (first | refine blk_drewN ?_ _ | refine blk_drew ?_ | refine blk_alloc ?_ _)); exact BK161.out) hg (Kd.R_ne HO_193000.out BK161.out (by decide))); have n4_ := Aside0.mk (blk_grown (g := gb192) (o := .cells #[u193000] 79 (0, 0)) (by (with_reducible repeat (first | refine blk_drewN ?_ _ | refine blk_drew ?_ | refine blk_alloc ?_ _)); exact BK192.out) hg (Kd.R_ne HO_193000.out BK192.out (by decide))); have n5_ := Aside0.mk (blk_grown (g := gb193) (o := .cells #[.int .i64 x194000_4, .int .i64 x194001_4, .int .i64 x194002_4, .int .i64 x194003_4] 82 (0, 0)) (by (with_reducible repeat (first | refine blk_drewN ?_ _ | refine blk_drew ?_ | refine blk_alloc ?_ _)); exact BK193.out) hg (Kd.R_away HO_193000.out (fun _ hk => hk.2))); have n6_ := Aside0.mk (hb); have n7_ := Aside0.mk (ho); clear HO_6; clear HO_7; clear HO_8; clear BK161; clear BK192; clear BK193; clear HB; clear HO_193000; have HO_6 := n0_; have HO_7 := n1_; have HO_8 := n2_; have BK161 := n3_; have BK192 := n4_; have BK193 := n5_; have HB := n6_; have HO201 := n7_; clear n0_ n1_ n2_ n3_ n4_ n5_ n6_ n7_; clear ho hb hg hat; obtain ⟨Ao83, co83, eo83⟩ := Kd.R_slice HO201.out; subst eo83; have hcz84_0 : w82.cell? ⟨gb192, 0, none⟩ = some (u193000) := (blk_cell BK192.out 0).trans rfl; have hfz84_0 := blk_frozen BK192.out 0; have hcz85_0 : w82.cell? ⟨gb161, 0, none⟩ = some (.int .i64 x162000_2) := (blk_cell BK161.out 0).trans rfl; have hfz85_0 := blk_frozen BK161.out 0; have hcz86_0 : w82.cell? ⟨gb193, 0, none⟩ = some (.int .i64 x194000_4) := (blk_cell BK193.out 0).trans rfl; have hcz86_1 : w82.cell? ⟨gb193, 1, none⟩ = some (.int .i64 x194001_4) := (blk_cell BK193.out 1).trans rfl; have hcz86_2 : w82.cell? ⟨gb193, 2, none⟩ = some (.int .i64 x194002_4) := (blk_cell BK193.out 2).trans rfl; have hcz86_3 : w82.cell? ⟨gb193, 3, none⟩ = some (.int .i64 x194003_4) := (blk_cell BK193.out 3).trans rfl; have hfz86_0 := blk_frozen BK193.out 0; have hfz86_1 := blk_frozen BK193.out 1; have hfz86_2 := blk_frozen BK193.out 2; have hfz86_3 := blk_frozen BK193.out 3) | go_in)
                     repeat (go_quiet (fail); try go_wp2_with (fail))
                     (try (refine bodyPost_end (results_none rfl _ _ _) rfl ?_; (try dsimp only); (try go_wp2); repeat (go_quiet (fail); try go_wp2)))
                     go_roundg kj68
                     case measure => have := HJ2.out; have := HJ17.out; have := HJ43.out; have := HK4.out; have := HJ65.out; have := HJ68.out; omega
                     case rel => exact ⟨(wrap64 (x12_4 + 1)), (wrap64 (x13_4 + 1)), (y199), (wrap64 (x162000_2 + (wrap64 (x12_4 + 1)))), (0), (wrap64 (x162000_2 + (wrap64 (x13_4 + 1)))), (0), (.slice Ao83 y199.length co83), (by first | rfl | (simp; done) | (simp [*]; done) | (simp [wrap64, wrap32]; done)), (by first | rfl | (simp; done) | (simp [*]; done) | (simp [wrap64, wrap32]; done)), H', ⟨by have := HJ2.out; have := HJ17.out; have := HJ43.out; have := HK4.out; have := HJ65.out; have := HJ68.out; omega⟩, ⟨by (with_reducible repeat (first | apply Kd.V_alloc | apply Kd.V_drewN | apply Kd.V_drew)); exact Kd.V_mono (Kd.V_far (p := ⟨gb193, 3, none⟩) (Kd.V_far (p := ⟨gb193, 2, none⟩) (Kd.V_far (p := ⟨gb193, 1, none⟩) (Kd.V_far (p := ⟨gb193, 0, none⟩) (Kd.V_far (p := ⟨gb192, 0, none⟩) (Kd.V_mono (Kd.V_mono HO_6.out (fun k_ hk => (⟨hk, hk.1.2.2.2.1⟩ : _ ∧ k_ ≠ gb192))) (fun k_ hk => (⟨hk, hk.1.1.2.2.2.2⟩ : _ ∧ k_ ≠ gb193))) (fun _ hk => hk.1.2) (.slice Ao83 y199.length co83)) (fun _ hk => hk.2) (.int .i64 (wrap64 (x162000_2 + (wrap64 (x12_4 + 1)))))) (fun _ hk => hk.2) (.int .i64 0)) (fun _ hk => hk.2) (.int .i64 (wrap64 (x162000_2 + (wrap64 (x13_4 + 1)))))) (fun _ hk => hk.2) (.int .i64 0)) (fun _ hk => ⟨hk.1.1.1.1, ⟨hk.1.1.1.2.1, ⟨hk.1.1.2, ⟨hk.1.1.1.2.2.1, ⟨hk.1.1.1.2.2.2.1, hk.1.1.1.2.2.2.2⟩⟩⟩⟩⟩)⟩, ⟨by (with_reducible repeat (first | apply Kd.V_alloc | apply Kd.V_drewN | apply Kd.V_drew)); exact Kd.V_mono (Kd.V_far (p := ⟨gb193, 3, none⟩) (Kd.V_far (p := ⟨gb193, 2, none⟩) (Kd.V_far (p := ⟨gb193, 1, none⟩) (Kd.V_far (p := ⟨gb193, 0, none⟩) (Kd.V_far (p := ⟨gb192, 0, none⟩) (Kd.V_mono (Kd.V_mono HO_7.out (fun k_ hk => (⟨hk, hk.1.2.2.2.1⟩ : _ ∧ k_ ≠ gb192))) (fun k_ hk => (⟨hk, hk.1.1.2.2.2.2⟩ : _ ∧ k_ ≠ gb193))) (fun _ hk => hk.1.2) (.slice Ao83 y199.length co83)) (fun _ hk => hk.2) (.int .i64 (wrap64 (x162000_2 + (wrap64 (x12_4 + 1)))))) (fun _ hk => hk.2) (.int .i64 0)) (fun _ hk => hk.2) (.int .i64 (wrap64 (x162000_2 + (wrap64 (x13_4 + 1)))))) (fun _ hk => hk.2) (.int .i64 0)) (fun _ hk => ⟨hk.1.1.1.1, ⟨hk.1.1.1.2.1, ⟨hk.1.1.2, ⟨hk.1.1.1.2.2.1, ⟨hk.1.1.1.2.2.2.1, hk.1.1.1.2.2.2.2⟩⟩⟩⟩⟩)⟩, ⟨by (with_reducible repeat (first | apply Kd.S_alloc | apply Kd.S_drewN | apply Kd.S_drew)); exact Kd.S_mono (Kd.S_far (p := ⟨gb193, 3, none⟩) (Kd.S_far (p := ⟨gb193, 2, none⟩) (Kd.S_far (p := ⟨gb193, 1, none⟩) (Kd.S_far (p := ⟨gb193, 0, none⟩) (Kd.S_far (p := ⟨gb192, 0, none⟩) (Kd.S_types (Kd.S_types HO_8.out BK192.out (by decide)) BK193.out (by decide)) (fun _ hk => hk.1.2) (.slice Ao83 y199.length co83)) (fun _ hk => hk.2) (.int .i64 (wrap64 (x162000_2 + (wrap64 (x12_4 + 1)))))) (fun _ hk => hk.2) (.int .i64 0)) (fun _ hk => hk.2) (.int .i64 (wrap64 (x162000_2 + (wrap64 (x13_4 + 1)))))) (fun _ hk => hk.2) (.int .i64 0)) (fun _ hk => ⟨hk.1.1.1, hk.1.1.2⟩)⟩, ⟨by (with_reducible repeat (first | apply Kd.R_alloc | apply Kd.R_drewN | apply Kd.R_drew)); exact Kd.R_mono (Kd.R_far (p := ⟨gb193, 3, none⟩) (Kd.R_far (p := ⟨gb193, 2, none⟩) (Kd.R_far (p := ⟨gb193, 1, none⟩) (Kd.R_far (p := ⟨gb193, 0, none⟩) (Kd.R_far (p := ⟨gb192, 0, none⟩) (Kd.R_mono (Kd.R_types HO201.out BK192.out (by decide)) (fun k_ hk => (⟨hk, hk.1.2⟩ : _ ∧ k_ ≠ gb193))) (fun _ hk => hk.1.2) (.slice Ao83 y199.length co83)) (fun _ hk => hk.2) (.int .i64 (wrap64 (x162000_2 + (wrap64 (x12_4 + 1)))))) (fun _ hk => hk.2) (.int .i64 0)) (fun _ hk => hk.2) (.int .i64 (wrap64 (x162000_2 + (wrap64 (x13_4 + 1)))))) (fun _ hk => hk.2) (.int .i64 0)) (fun _ hk => ⟨hk.1.1.1, hk.1.1.2⟩)⟩, ⟨by (with_reducible repeat (first | refine blk_drewN ?_ _ | refine blk_drew ?_ | refine blk_alloc ?_ _)); refine blk_far ?_ NB161_193.out _; (with_reducible repeat (first | refine blk_drewN ?_ _ | refine blk_drew ?_ | refine blk_alloc ?_ _)); refine blk_far ?_ NB161_193.out _; (with_reducible repeat (first | refine blk_drewN ?_ _ | refine blk_drew ?_ | refine blk_alloc ?_ _)); refine blk_far ?_ NB161_193.out _; (with_reducible repeat (first | refine blk_drewN ?_ _ | refine blk_drew ?_ | refine blk_alloc ?_ _)); refine blk_far ?_ NB161_193.out _; (with_reducible repeat (first | refine blk_drewN ?_ _ | refine blk_drew ?_ | refine blk_alloc ?_ _)); refine blk_far ?_ NB161_192.out _; (with_reducible repeat (first | refine blk_drewN ?_ _ | refine blk_drew ?_ | refine blk_alloc ?_ _)); exact BK161.out⟩, ⟨by (with_reducible repeat (first | refine blk_drewN ?_ _ | refine blk_drew ?_ | refine blk_alloc ?_ _)); refine blk_far ?_ NB192_193.out _; (with_reducible repeat (first | refine blk_drewN ?_ _ | refine blk_drew ?_ | refine blk_alloc ?_ _)); refine blk_far ?_ NB192_193.out _; (with_reducible repeat (first | refine blk_drewN ?_ _ | refine blk_drew ?_ | refine blk_alloc ?_ _)); refine blk_far ?_ NB192_193.out _; (with_reducible repeat (first | refine blk_drewN ?_ _ | refine blk_drew ?_ | refine blk_alloc ?_ _)); refine blk_far ?_ NB192_193.out _; (with_reducible repeat (first | refine blk_drewN ?_ _ | refine blk_drew ?_ | refine blk_alloc ?_ _)); refine blk_put (cs := #[u193000]) ?_ 0 _ rfl; (with_reducible repeat (first | refine blk_drewN ?_ _ | refine blk_drew ?_ | refine blk_alloc ?_ _)); exact BK192.out⟩, ⟨by (with_reducible repeat (first | refine blk_drewN ?_ _ | refine blk_drew ?_ | refine blk_alloc ?_ _)); refine blk_put (cs := #[.int .i64 (wrap64 (x162000_2 + (wrap64 (x12_4 + 1)))), .int .i64 0, .int .i64 (wrap64 (x162000_2 + (wrap64 (x13_4 + 1)))), .int .i64 x194003_4]) ?_ 3 _ rfl; (with_reducible repeat (first | refine blk_drewN ?_ _ | refine blk_drew ?_ | refine blk_alloc ?_ _)); refine blk_put (cs := #[.int .i64 (wrap64 (x162000_2 + (wrap64 (x12_4 + 1)))), .int .i64 0, .int .i64 x194002_4, .int .i64 x194003_4]) ?_ 2 _ rfl; (with_reducible repeat (first | refine blk_drewN ?_ _ | refine blk_drew ?_ | refine blk_alloc ?_ _)); refine blk_put (cs := #[.int .i64 (wrap64 (x162000_2 + (wrap64 (x12_4 + 1)))), .int .i64 x194001_4, .int .i64 x194002_4, .int .i64 x194003_4]) ?_ 1 _ rfl; (with_reducible repeat (first | refine blk_drewN ?_ _ | refine blk_drew ?_ | refine blk_alloc ?_ _)); refine blk_put (cs := #[.int .i64 x194000_4, .int .i64 x194001_4, .int .i64 x194002_4, .int .i64 x194003_4]) ?_ 0 _ rfl; (with_reducible repeat (first | refine blk_drewN ?_ _ | refine blk_drew ?_ | refine blk_alloc ?_ _)); refine blk_far ?_ NB193_192.out _; (with_reducible repeat (first | refine blk_drewN ?_ _ | refine blk_drew ?_ | refine blk_alloc ?_ _)); exact BK193.out⟩, ⟨by repeat (first | (with_reducible first | exact HB.out | apply below_alloc | apply pw_below_drewN | apply below_drew1 | refine below_set ?_ GE161.out | refine below_set ?_ GE192.out | refine below_set ?_ GE193.out) | exact HB.out)⟩⟩
                    ·rw [if_neg c76] at H
                     exact absurd H (by simp)
                   ·rw [if_neg c75] at H
                    have c75b0 : decide (0 < (wrap64 (x194001_4 + x194003_4))) = false := decide_eq_false c75
                    clear c75
                    have H' := Aside0.mk H
                    clear H
                    have hnb87 := NB193_161.out
                    have hnc87 := NB161_193.out
                    have hnb88 := NB193_192.out
                    have hnc88 := NB192_193.out
                    have hcz89_0 : wc.cell? ⟨gb193, 0, none⟩ = some (.int .i64 x194000_4) := (blk_cell BK193.out 0).trans rfl
                    have hcz89_1 : wc.cell? ⟨gb193, 1, none⟩ = some (.int .i64 x194001_4) := (blk_cell BK193.out 1).trans rfl
                    have hcz89_2 : wc.cell? ⟨gb193, 2, none⟩ = some (.int .i64 x194002_4) := (blk_cell BK193.out 2).trans rfl
                    have hcz89_3 : wc.cell? ⟨gb193, 3, none⟩ = some (.int .i64 x194003_4) := (blk_cell BK193.out 3).trans rfl
                    have hfz89_0 := blk_frozen BK193.out 0
                    have hfz89_1 := blk_frozen BK193.out 1
                    have hfz89_2 := blk_frozen BK193.out 2
                    have hfz89_3 := blk_frozen BK193.out 3
                    have hnb90 := NB161_192.out
                    have hnc90 := NB192_161.out
                    have hcz91_0 : wc.cell? ⟨gb161, 0, none⟩ = some (.int .i64 x162000_2) := (blk_cell BK161.out 0).trans rfl
                    have hfz91_0 := blk_frozen BK161.out 0
                    go_wp2
                    repeat (go_quiet (fail); try go_wp2)
                    (try (refine bodyPost_end (results_none rfl _ _ _) rfl ?_; (try dsimp only); (try go_wp2); repeat (go_quiet (fail); try go_wp2)))
                    go_roundg kj68
                    case measure => have := HJ2.out; have := HJ17.out; have := HJ43.out; have := HK4.out; have := HJ65.out; have := HJ68.out; omega
                    case rel => exact ⟨(wrap64 (x12_4 + 1)), (wrap64 (x13_4 + 1)), (x193000_4), (wrap64 (x162000_2 + (wrap64 (x12_4 + 1)))), (0), (wrap64 (x162000_2 + (wrap64 (x13_4 + 1)))), (0), (u193000), (by first | rfl | (simp; done) | (simp [*]; done) | (simp [wrap64, wrap32]; done)), (by first | rfl | (simp; done) | (simp [*]; done) | (simp [wrap64, wrap32]; done)), H', ⟨by have := HJ2.out; have := HJ17.out; have := HJ43.out; have := HK4.out; have := HJ65.out; have := HJ68.out; omega⟩, ⟨by (with_reducible repeat (first | apply Kd.V_alloc | apply Kd.V_drewN | apply Kd.V_drew)); exact Kd.V_mono (Kd.V_far (p := ⟨gb193, 3, none⟩) (Kd.V_far (p := ⟨gb193, 2, none⟩) (Kd.V_far (p := ⟨gb193, 1, none⟩) (Kd.V_far (p := ⟨gb193, 0, none⟩) (Kd.V_mono HO_6.out (fun k_ hk => (⟨hk, hk.2.2.2.2.2⟩ : _ ∧ k_ ≠ gb193))) (fun _ hk => hk.2) (.int .i64 (wrap64 (x162000_2 + (wrap64 (x12_4 + 1)))))) (fun _ hk => hk.2) (.int .i64 0)) (fun _ hk => hk.2) (.int .i64 (wrap64 (x162000_2 + (wrap64 (x13_4 + 1)))))) (fun _ hk => hk.2) (.int .i64 0)) (fun _ hk => ⟨hk.1.1, ⟨hk.1.2.1, ⟨hk.1.2.2.1, ⟨hk.1.2.2.2.1, ⟨hk.1.2.2.2.2.1, hk.1.2.2.2.2.2⟩⟩⟩⟩⟩)⟩, ⟨by (with_reducible repeat (first | apply Kd.V_alloc | apply Kd.V_drewN | apply Kd.V_drew)); exact Kd.V_mono (Kd.V_far (p := ⟨gb193, 3, none⟩) (Kd.V_far (p := ⟨gb193, 2, none⟩) (Kd.V_far (p := ⟨gb193, 1, none⟩) (Kd.V_far (p := ⟨gb193, 0, none⟩) (Kd.V_mono HO_7.out (fun k_ hk => (⟨hk, hk.2.2.2.2.2⟩ : _ ∧ k_ ≠ gb193))) (fun _ hk => hk.2) (.int .i64 (wrap64 (x162000_2 + (wrap64 (x12_4 + 1)))))) (fun _ hk => hk.2) (.int .i64 0)) (fun _ hk => hk.2) (.int .i64 (wrap64 (x162000_2 + (wrap64 (x13_4 + 1)))))) (fun _ hk => hk.2) (.int .i64 0)) (fun _ hk => ⟨hk.1.1, ⟨hk.1.2.1, ⟨hk.1.2.2.1, ⟨hk.1.2.2.2.1, ⟨hk.1.2.2.2.2.1, hk.1.2.2.2.2.2⟩⟩⟩⟩⟩)⟩, ⟨by (with_reducible repeat (first | apply Kd.S_alloc | apply Kd.S_drewN | apply Kd.S_drew)); exact Kd.S_mono (Kd.S_far (p := ⟨gb193, 3, none⟩) (Kd.S_far (p := ⟨gb193, 2, none⟩) (Kd.S_far (p := ⟨gb193, 1, none⟩) (Kd.S_far (p := ⟨gb193, 0, none⟩) (Kd.S_types HO_8.out BK193.out (by decide)) (fun _ hk => hk.2) (.int .i64 (wrap64 (x162000_2 + (wrap64 (x12_4 + 1)))))) (fun _ hk => hk.2) (.int .i64 0)) (fun _ hk => hk.2) (.int .i64 (wrap64 (x162000_2 + (wrap64 (x13_4 + 1)))))) (fun _ hk => hk.2) (.int .i64 0)) (fun _ hk => ⟨hk.1.1, hk.1.2⟩)⟩, ⟨by (with_reducible repeat (first | apply Kd.R_alloc | apply Kd.R_drewN | apply Kd.R_drew)); exact Kd.R_mono (Kd.R_far (p := ⟨gb193, 3, none⟩) (Kd.R_far (p := ⟨gb193, 2, none⟩) (Kd.R_far (p := ⟨gb193, 1, none⟩) (Kd.R_far (p := ⟨gb193, 0, none⟩) (Kd.R_mono HO_193000.out (fun k_ hk => (⟨hk, hk.2⟩ : _ ∧ k_ ≠ gb193))) (fun _ hk => hk.2) (.int .i64 (wrap64 (x162000_2 + (wrap64 (x12_4 + 1)))))) (fun _ hk => hk.2) (.int .i64 0)) (fun _ hk => hk.2) (.int .i64 (wrap64 (x162000_2 + (wrap64 (x13_4 + 1)))))) (fun _ hk => hk.2) (.int .i64 0)) (fun _ hk => ⟨hk.1.1, hk.1.2⟩)⟩, ⟨by (with_reducible repeat (first | refine blk_drewN ?_ _ | refine blk_drew ?_ | refine blk_alloc ?_ _)); refine blk_far ?_ NB161_193.out _; (with_reducible repeat (first | refine blk_drewN ?_ _ | refine blk_drew ?_ | refine blk_alloc ?_ _)); refine blk_far ?_ NB161_193.out _; (with_reducible repeat (first | refine blk_drewN ?_ _ | refine blk_drew ?_ | refine blk_alloc ?_ _)); refine blk_far ?_ NB161_193.out _; (with_reducible repeat (first | refine blk_drewN ?_ _ | refine blk_drew ?_ | refine blk_alloc ?_ _)); refine blk_far ?_ NB161_193.out _; (with_reducible repeat (first | refine blk_drewN ?_ _ | refine blk_drew ?_ | refine blk_alloc ?_ _)); exact BK161.out⟩, ⟨by (with_reducible repeat (first | refine blk_drewN ?_ _ | refine blk_drew ?_ | refine blk_alloc ?_ _)); refine blk_far ?_ NB192_193.out _; (with_reducible repeat (first | refine blk_drewN ?_ _ | refine blk_drew ?_ | refine blk_alloc ?_ _)); refine blk_far ?_ NB192_193.out _; (with_reducible repeat (first | refine blk_drewN ?_ _ | refine blk_drew ?_ | refine blk_alloc ?_ _)); refine blk_far ?_ NB192_193.out _; (with_reducible repeat (first | refine blk_drewN ?_ _ | refine blk_drew ?_ | refine blk_alloc ?_ _)); refine blk_far ?_ NB192_193.out _; (with_reducible repeat (first | refine blk_drewN ?_ _ | refine blk_drew ?_ | refine blk_alloc ?_ _)); exact BK192.out⟩, ⟨by (with_reducible repeat (first | refine blk_drewN ?_ _ | refine blk_drew ?_ | refine blk_alloc ?_ _)); refine blk_put (cs := #[.int .i64 (wrap64 (x162000_2 + (wrap64 (x12_4 + 1)))), .int .i64 0, .int .i64 (wrap64 (x162000_2 + (wrap64 (x13_4 + 1)))), .int .i64 x194003_4]) ?_ 3 _ rfl; (with_reducible repeat (first | refine blk_drewN ?_ _ | refine blk_drew ?_ | refine blk_alloc ?_ _)); refine blk_put (cs := #[.int .i64 (wrap64 (x162000_2 + (wrap64 (x12_4 + 1)))), .int .i64 0, .int .i64 x194002_4, .int .i64 x194003_4]) ?_ 2 _ rfl; (with_reducible repeat (first | refine blk_drewN ?_ _ | refine blk_drew ?_ | refine blk_alloc ?_ _)); refine blk_put (cs := #[.int .i64 (wrap64 (x162000_2 + (wrap64 (x12_4 + 1)))), .int .i64 x194001_4, .int .i64 x194002_4, .int .i64 x194003_4]) ?_ 1 _ rfl; (with_reducible repeat (first | refine blk_drewN ?_ _ | refine blk_drew ?_ | refine blk_alloc ?_ _)); refine blk_put (cs := #[.int .i64 x194000_4, .int .i64 x194001_4, .int .i64 x194002_4, .int .i64 x194003_4]) ?_ 0 _ rfl; (with_reducible repeat (first | refine blk_drewN ?_ _ | refine blk_drew ?_ | refine blk_alloc ?_ _)); exact BK193.out⟩, ⟨by repeat (first | (with_reducible first | exact HB.out | apply below_alloc | apply pw_below_drewN | apply below_drew1 | refine below_set ?_ GE161.out | refine below_set ?_ GE192.out | refine below_set ?_ GE193.out) | exact HB.out)⟩⟩
                  ·replace c74 := Bool.eq_false_iff.mpr c74
                   subst c74
                   have H1 : (if x12_4 < (x6_17.length : Int) then (if x13_4 = (x7_17.length : Int) then (hunks_Changes.l2 kj68 x6_17 x7_17 t189 (wrap64 (x12_4 + 1)) x13_4 x162000_2 x193000_4 x194000_4 (wrap64 (x194001_4 + 1)) x194002_4 x194003_4) else (if 0 ≤ (wrap64 (x12_4 + 1)) then (if (wrap64 (x12_4 + 1)) < (t189.length : Int) then (if 0 ≤ x13_4 then (if x13_4 < ((rd_L10 t189 (wrap64 (x12_4 + 1))).length : Int) then (if 0 ≤ x12_4 then (if x12_4 < (t189.length : Int) then (if 0 ≤ (wrap64 (x13_4 + 1)) then (if (wrap64 (x13_4 + 1)) < ((rd_L10 t189 x12_4).length : Int) then (if (rd (rd_L10 t189 (wrap64 (x12_4 + 1))) x13_4) ≥ (rd (rd_L10 t189 x12_4) (wrap64 (x13_4 + 1))) then (hunks_Changes.l2 kj68 x6_17 x7_17 t189 (wrap64 (x12_4 + 1)) x13_4 x162000_2 x193000_4 x194000_4 (wrap64 (x194001_4 + 1)) x194002_4 x194003_4) else (hunks_Changes.l2 kj68 x6_17 x7_17 t189 x12_4 (wrap64 (x13_4 + 1)) x162000_2 x193000_4 x194000_4 x194001_4 x194002_4 (wrap64 (x194003_4 + 1)))) else (none)) else (none)) else (none)) else (none)) else (none)) else (none)) else (none)) else (none))) else (hunks_Changes.l2 kj68 x6_17 x7_17 t189 x12_4 (wrap64 (x13_4 + 1)) x162000_2 x193000_4 x194000_4 x194001_4 x194002_4 (wrap64 (x194003_4 + 1)))) = some r := by rw [if_neg (show ¬ (false = true) by decide)] at H; exact H
                   clear H
                   have H := H1
                   clear H1
                   by_cases c92 : x12_4 < (x6_17.length : Int)
                   ·rw [if_pos c92] at H
                    have c92b0 : decide (x12_4 < (x6_17.length : Int)) = true := decide_eq_true c92
                    clear c92
                    by_cases c93 : x13_4 = (x7_17.length : Int)
                    ·rw [if_pos c93] at H
                     have c93b0 : (x13_4 == (x7_17.length : Int)) = true := beq_iff_eq.mpr c93
                     have c93b1 : (x13_4 != (x7_17.length : Int)) = false := bne_eq_false_iff_eq.mpr c93
                     clear c93
                     have H' := Aside0.mk H
                     clear H
                     have hnb94 := NB193_161.out
                     have hnc94 := NB161_193.out
                     have hnb95 := NB193_192.out
                     have hnc95 := NB192_193.out
                     have hcz96_0 : wc.cell? ⟨gb193, 0, none⟩ = some (.int .i64 x194000_4) := (blk_cell BK193.out 0).trans rfl
                     have hcz96_1 : wc.cell? ⟨gb193, 1, none⟩ = some (.int .i64 x194001_4) := (blk_cell BK193.out 1).trans rfl
                     have hcz96_2 : wc.cell? ⟨gb193, 2, none⟩ = some (.int .i64 x194002_4) := (blk_cell BK193.out 2).trans rfl
                     have hcz96_3 : wc.cell? ⟨gb193, 3, none⟩ = some (.int .i64 x194003_4) := (blk_cell BK193.out 3).trans rfl
                     have hfz96_0 := blk_frozen BK193.out 0
                     have hfz96_1 := blk_frozen BK193.out 1
                     have hfz96_2 := blk_frozen BK193.out 2
                     have hfz96_3 := blk_frozen BK193.out 3
                     go_wp2
                     repeat (go_quiet (fail); try go_wp2)
                     (try (refine bodyPost_end (results_none rfl _ _ _) rfl ?_; (try dsimp only); (try go_wp2); repeat (go_quiet (fail); try go_wp2)))
                     go_roundg kj68
                     case measure => have := HJ2.out; have := HJ17.out; have := HJ43.out; have := HK4.out; have := HJ65.out; have := HJ68.out; omega
                     case rel => exact ⟨(wrap64 (x12_4 + 1)), (x13_4), (x193000_4), (x194000_4), (wrap64 (x194001_4 + 1)), (x194002_4), (x194003_4), (u193000), (by first | rfl | (simp; done) | (simp [*]; done) | (simp [wrap64, wrap32]; done)), (by first | rfl | (simp; done) | (simp [*]; done) | (simp [wrap64, wrap32]; done)), H', ⟨by have := HJ2.out; have := HJ17.out; have := HJ43.out; have := HK4.out; have := HJ65.out; have := HJ68.out; omega⟩, ⟨by (with_reducible repeat (first | apply Kd.V_alloc | apply Kd.V_drewN | apply Kd.V_drew)); exact Kd.V_mono (Kd.V_far (p := ⟨gb193, 1, none⟩) (Kd.V_mono HO_6.out (fun k_ hk => (⟨hk, hk.2.2.2.2.2⟩ : _ ∧ k_ ≠ gb193))) (fun _ hk => hk.2) (.int .i64 (wrap64 (x194001_4 + 1)))) (fun _ hk => ⟨hk.1.1, ⟨hk.1.2.1, ⟨hk.1.2.2.1, ⟨hk.1.2.2.2.1, ⟨hk.1.2.2.2.2.1, hk.1.2.2.2.2.2⟩⟩⟩⟩⟩)⟩, ⟨by (with_reducible repeat (first | apply Kd.V_alloc | apply Kd.V_drewN | apply Kd.V_drew)); exact Kd.V_mono (Kd.V_far (p := ⟨gb193, 1, none⟩) (Kd.V_mono HO_7.out (fun k_ hk => (⟨hk, hk.2.2.2.2.2⟩ : _ ∧ k_ ≠ gb193))) (fun _ hk => hk.2) (.int .i64 (wrap64 (x194001_4 + 1)))) (fun _ hk => ⟨hk.1.1, ⟨hk.1.2.1, ⟨hk.1.2.2.1, ⟨hk.1.2.2.2.1, ⟨hk.1.2.2.2.2.1, hk.1.2.2.2.2.2⟩⟩⟩⟩⟩)⟩, ⟨by (with_reducible repeat (first | apply Kd.S_alloc | apply Kd.S_drewN | apply Kd.S_drew)); exact Kd.S_mono (Kd.S_far (p := ⟨gb193, 1, none⟩) (Kd.S_types HO_8.out BK193.out (by decide)) (fun _ hk => hk.2) (.int .i64 (wrap64 (x194001_4 + 1)))) (fun _ hk => ⟨hk.1.1, hk.1.2⟩)⟩, ⟨by (with_reducible repeat (first | apply Kd.R_alloc | apply Kd.R_drewN | apply Kd.R_drew)); exact Kd.R_mono (Kd.R_far (p := ⟨gb193, 1, none⟩) (Kd.R_mono HO_193000.out (fun k_ hk => (⟨hk, hk.2⟩ : _ ∧ k_ ≠ gb193))) (fun _ hk => hk.2) (.int .i64 (wrap64 (x194001_4 + 1)))) (fun _ hk => ⟨hk.1.1, hk.1.2⟩)⟩, ⟨by (with_reducible repeat (first | refine blk_drewN ?_ _ | refine blk_drew ?_ | refine blk_alloc ?_ _)); refine blk_far ?_ NB161_193.out _; (with_reducible repeat (first | refine blk_drewN ?_ _ | refine blk_drew ?_ | refine blk_alloc ?_ _)); exact BK161.out⟩, ⟨by (with_reducible repeat (first | refine blk_drewN ?_ _ | refine blk_drew ?_ | refine blk_alloc ?_ _)); refine blk_far ?_ NB192_193.out _; (with_reducible repeat (first | refine blk_drewN ?_ _ | refine blk_drew ?_ | refine blk_alloc ?_ _)); exact BK192.out⟩, ⟨by (with_reducible repeat (first | refine blk_drewN ?_ _ | refine blk_drew ?_ | refine blk_alloc ?_ _)); refine blk_put (cs := #[.int .i64 x194000_4, .int .i64 x194001_4, .int .i64 x194002_4, .int .i64 x194003_4]) ?_ 1 _ rfl; (with_reducible repeat (first | refine blk_drewN ?_ _ | refine blk_drew ?_ | refine blk_alloc ?_ _)); exact BK193.out⟩, ⟨by repeat (first | (with_reducible first | exact HB.out | apply below_alloc | apply pw_below_drewN | apply below_drew1 | refine below_set ?_ GE161.out | refine below_set ?_ GE192.out | refine below_set ?_ GE193.out) | exact HB.out)⟩⟩
                    ·rw [if_neg c93] at H
                     have c93b0 : (x13_4 == (x7_17.length : Int)) = false := beq_eq_false_iff_ne.mpr c93
                     have c93b1 : (x13_4 != (x7_17.length : Int)) = true := bne_iff_ne.mpr c93
                     obtain ⟨ji97, hji97⟩ : ∃ j_ : Int, (wrap64 (x12_4 + 1)) = j_ := ⟨_, rfl⟩
                     replace H : (if 0 ≤ (ji97) then (if (ji97) < (t189.length : Int) then (if 0 ≤ x13_4 then (if x13_4 < ((rd_L10 t189 (ji97)).length : Int) then (if 0 ≤ x12_4 then (if x12_4 < (t189.length : Int) then (if 0 ≤ (wrap64 (x13_4 + 1)) then (if (wrap64 (x13_4 + 1)) < ((rd_L10 t189 x12_4).length : Int) then (if (rd (rd_L10 t189 (ji97)) x13_4) ≥ (rd (rd_L10 t189 x12_4) (wrap64 (x13_4 + 1))) then (hunks_Changes.l2 kj68 x6_17 x7_17 t189 ji97 x13_4 x162000_2 x193000_4 x194000_4 (wrap64 (x194001_4 + 1)) x194002_4 x194003_4) else (hunks_Changes.l2 kj68 x6_17 x7_17 t189 x12_4 (wrap64 (x13_4 + 1)) x162000_2 x193000_4 x194000_4 x194001_4 x194002_4 (wrap64 (x194003_4 + 1)))) else (none)) else (none)) else (none)) else (none)) else (none)) else (none)) else (none)) else (none)) = some r := by first | (rw [hji97] at H; exact H) | (simp only [hji97] at H ⊢; exact H)
                     have hji97w : (IntKind.i64.wrap (x12_4 + 1)) = ji97 := (i64_w _).trans hji97
                     by_cases c98 : 0 ≤ (ji97)
                     ·rw [if_pos c98] at H
                      have c98b0 : decide (0 ≤ (ji97)) = true := decide_eq_true c98
                      clear c98
                      by_cases c99 : (ji97) < (t189.length : Int)
                      ·rw [if_pos c99] at H
                       have c99b0 : decide ((ji97) < (t189.length : Int)) = true := decide_eq_true c99
                       clear c99
                       by_cases c100 : 0 ≤ x13_4
                       ·rw [if_pos c100] at H
                        have c100b0 : decide (0 ≤ x13_4) = true := decide_eq_true c100
                        clear c100
                        by_cases c101 : x13_4 < ((rd_L10 t189 (ji97)).length : Int)
                        ·rw [if_pos c101] at H
                         have c101b0 : decide (x13_4 < ((rd_L10 t189 (ji97)).length : Int)) = true := decide_eq_true c101
                         clear c101
                         by_cases c102 : 0 ≤ x12_4
                         ·rw [if_pos c102] at H
                          have c102b0 : decide (0 ≤ x12_4) = true := decide_eq_true c102
                          clear c102
                          by_cases c103 : x12_4 < (t189.length : Int)
                          ·rw [if_pos c103] at H
                           have c103b0 : decide (x12_4 < (t189.length : Int)) = true := decide_eq_true c103
                           clear c103
                           obtain ⟨ji104, hji104⟩ : ∃ j_ : Int, (wrap64 (x13_4 + 1)) = j_ := ⟨_, rfl⟩
                           replace H : (if 0 ≤ (ji104) then (if (ji104) < ((rd_L10 t189 x12_4).length : Int) then (if (rd (rd_L10 t189 (ji97)) x13_4) ≥ (rd (rd_L10 t189 x12_4) (ji104)) then (hunks_Changes.l2 kj68 x6_17 x7_17 t189 ji97 x13_4 x162000_2 x193000_4 x194000_4 (wrap64 (x194001_4 + 1)) x194002_4 x194003_4) else (hunks_Changes.l2 kj68 x6_17 x7_17 t189 x12_4 ji104 x162000_2 x193000_4 x194000_4 x194001_4 x194002_4 (wrap64 (x194003_4 + 1)))) else (none)) else (none)) = some r := by first | (rw [hji104] at H; exact H) | (simp only [hji104] at H ⊢; exact H)
                           have hji104w : (IntKind.i64.wrap (x13_4 + 1)) = ji104 := (i64_w _).trans hji104
                           by_cases c105 : 0 ≤ (ji104)
                           ·rw [if_pos c105] at H
                            have c105b0 : decide (0 ≤ (ji104)) = true := decide_eq_true c105
                            clear c105
                            by_cases c106 : (ji104) < ((rd_L10 t189 x12_4).length : Int)
                            ·rw [if_pos c106] at H
                             have c106b0 : decide ((ji104) < ((rd_L10 t189 x12_4).length : Int)) = true := decide_eq_true c106
                             clear c106
                             by_cases c107 : (rd (rd_L10 t189 (ji97)) x13_4) ≥ (rd (rd_L10 t189 x12_4) (ji104))
                             ·rw [if_pos c107] at H
                              have c107b0 : decide ((rd (rd_L10 t189 x12_4) (ji104)) ≤ (rd (rd_L10 t189 (ji97)) x13_4)) = true := decide_eq_true c107
                              clear c107
                              have H' := Aside0.mk H
                              clear H
                              obtain ⟨Ao108, co108, eo108⟩ := Kd.S_slice HO_8.out
                              subst eo108
                              have p202 : 0 ≤ ((ji97) : Int) := of_decide_eq_true (by first | (with_reducible assumption) | assumption)
                              have q202 : (ji97) < (t189.length : Int) := of_decide_eq_true (by first | (with_reducible assumption) | assumption)
                              obtain ⟨ad202, A202_0, c202_0, e202, hx202_0, hl202_0, hi202_0⟩ := at_L10 (Kd.S_reads' HO_8.out).2.2 (ji97) p202 q202
                              cases e202
                              obtain ⟨ce202, hce202, hMe202, hcc202⟩ := Kd.S_get HO_8.out [] (ji97) p202 (by first | exact q202 | exact of_decide_eq_true (by first | (with_reducible assumption) | assumption) | (have e_ := (Kd.S_reads' HO_8.out).1; omega))
                              obtain ⟨ve202_0, rfl, ge202_0⟩ := hMe202
                              have hv202_0 := hcc202 0 _ rfl
                              rw [Nat.add_zero, show ((Kd.slice 3 (Kd.int .i64))).sz = 1 from rfl, Nat.mul_one] at hv202_0
                              replace hv202_0 := Option.some.inj (hv202_0.symm.trans hx202_0)
                              rw [hv202_0] at ge202_0
                              have HL202_0 := Aside0.mk (show Kd.R (Kd.int .i64) 3 _ _ _ _ (rd_L10 t189 (ji97)) from ge202_0)
                              clear hv202_0 ge202_0
                              clear hcc202 hce202
                              have HR202_0 := Aside0.mk hi202_0
                              have HC202_0 := Aside0.mk hl202_0
                              clear hi202_0 hl202_0
                              replace p202 := eq_true p202
                              replace q202 := eq_true q202
                              have p203 : 0 ≤ (x13_4 : Int) := of_decide_eq_true (by first | (with_reducible assumption) | assumption)
                              have q203 : x13_4 < ((rd_L10 t189 (ji97)).length : Int) := of_decide_eq_true (by first | (with_reducible assumption) | assumption)
                              obtain ⟨ad203, e203, hx203_0⟩ := Kd.at_int (by repeat (first | (with_reducible exact HR202_0.out) | (with_reducible refine Kd.C_alloc ?_ _) | (with_reducible refine Kd.C_drewN ?_ _) | (with_reducible refine Kd.C_drew ?_) | exact HR202_0.out)) x13_4 p203 q203
                              cases e203
                              replace p203 := eq_true p203
                              replace q203 := eq_true q203
                              have p204 : 0 ≤ (x12_4 : Int) := of_decide_eq_true (by first | (with_reducible assumption) | assumption)
                              have q204 : x12_4 < (t189.length : Int) := of_decide_eq_true (by first | (with_reducible assumption) | assumption)
                              obtain ⟨ad204, A204_0, c204_0, e204, hx204_0, hl204_0, hi204_0⟩ := at_L10 (Kd.S_reads' HO_8.out).2.2 x12_4 p204 q204
                              obtain rfl : ad202 = ad204 := (by injection e204)
                              obtain ⟨ce204, hce204, hMe204, hcc204⟩ := Kd.S_get HO_8.out [] x12_4 p204 (by first | exact q204 | exact of_decide_eq_true (by first | (with_reducible assumption) | assumption) | (have e_ := (Kd.S_reads' HO_8.out).1; omega))
                              obtain ⟨ve204_0, rfl, ge204_0⟩ := hMe204
                              have hv204_0 := hcc204 0 _ rfl
                              rw [Nat.add_zero, show ((Kd.slice 3 (Kd.int .i64))).sz = 1 from rfl, Nat.mul_one] at hv204_0
                              replace hv204_0 := Option.some.inj (hv204_0.symm.trans hx204_0)
                              rw [hv204_0] at ge204_0
                              have HL204_0 := Aside0.mk (show Kd.R (Kd.int .i64) 3 _ _ _ _ (rd_L10 t189 x12_4) from ge204_0)
                              clear hv204_0 ge204_0
                              clear hcc204 hce204
                              have HR204_0 := Aside0.mk hi204_0
                              have HC204_0 := Aside0.mk hl204_0
                              clear hi204_0 hl204_0
                              replace p204 := eq_true p204
                              replace q204 := eq_true q204
                              have p205 : 0 ≤ ((ji104) : Int) := of_decide_eq_true (by first | (with_reducible assumption) | assumption)
                              have q205 : (ji104) < ((rd_L10 t189 x12_4).length : Int) := of_decide_eq_true (by first | (with_reducible assumption) | assumption)
                              obtain ⟨ad205, e205, hx205_0⟩ := Kd.at_int (by repeat (first | (with_reducible exact HR204_0.out) | (with_reducible refine Kd.C_alloc ?_ _) | (with_reducible refine Kd.C_drewN ?_ _) | (with_reducible refine Kd.C_drew ?_) | exact HR204_0.out)) (ji104) p205 q205
                              cases e205
                              replace p205 := eq_true p205
                              replace q205 := eq_true q205
                              have hnb109 := NB193_161.out
                              have hnc109 := NB161_193.out
                              have hnb110 := NB193_192.out
                              have hnc110 := NB192_193.out
                              have hcz111_0 : wc.cell? ⟨gb193, 0, none⟩ = some (.int .i64 x194000_4) := (blk_cell BK193.out 0).trans rfl
                              have hcz111_1 : wc.cell? ⟨gb193, 1, none⟩ = some (.int .i64 x194001_4) := (blk_cell BK193.out 1).trans rfl
                              have hcz111_2 : wc.cell? ⟨gb193, 2, none⟩ = some (.int .i64 x194002_4) := (blk_cell BK193.out 2).trans rfl
                              have hcz111_3 : wc.cell? ⟨gb193, 3, none⟩ = some (.int .i64 x194003_4) := (blk_cell BK193.out 3).trans rfl
                              have hfz111_0 := blk_frozen BK193.out 0
                              have hfz111_1 := blk_frozen BK193.out 1
                              have hfz111_2 := blk_frozen BK193.out 2
                              have hfz111_3 := blk_frozen BK193.out 3
                              go_wp2
                              repeat (go_quiet (fail); try go_wp2)
                              (try (refine bodyPost_end (results_none rfl _ _ _) rfl ?_; (try dsimp only); (try go_wp2); repeat (go_quiet (fail); try go_wp2)))
                              go_roundg kj68
                              case measure => have := HJ2.out; have := HJ17.out; have := HJ43.out; have := HK4.out; have := HJ65.out; have := HJ68.out; omega
                              case rel => exact ⟨(ji97), (x13_4), (x193000_4), (x194000_4), (wrap64 (x194001_4 + 1)), (x194002_4), (x194003_4), (u193000), (by first | rfl | (simp; done) | (simp only [← hji97] <;> (first | rfl | simp)) | (simp [*]; done)), (by first | rfl | (simp; done) | (simp [*]; done) | (simp [wrap64, wrap32]; done)), (by first | exact H' | (rw [hji97]; exact H') | (simp only [hji97]; exact H')), ⟨by have := HJ2.out; have := HJ17.out; have := HJ43.out; have := HK4.out; have := HJ65.out; have := HJ68.out; omega⟩, ⟨by (with_reducible repeat (first | apply Kd.V_alloc | apply Kd.V_drewN | apply Kd.V_drew)); exact Kd.V_mono (Kd.V_far (p := ⟨gb193, 1, none⟩) (Kd.V_mono HO_6.out (fun k_ hk => (⟨hk, hk.2.2.2.2.2⟩ : _ ∧ k_ ≠ gb193))) (fun _ hk => hk.2) (.int .i64 (wrap64 (x194001_4 + 1)))) (fun _ hk => ⟨hk.1.1, ⟨hk.1.2.1, ⟨hk.1.2.2.1, ⟨hk.1.2.2.2.1, ⟨hk.1.2.2.2.2.1, hk.1.2.2.2.2.2⟩⟩⟩⟩⟩)⟩, ⟨by (with_reducible repeat (first | apply Kd.V_alloc | apply Kd.V_drewN | apply Kd.V_drew)); exact Kd.V_mono (Kd.V_far (p := ⟨gb193, 1, none⟩) (Kd.V_mono HO_7.out (fun k_ hk => (⟨hk, hk.2.2.2.2.2⟩ : _ ∧ k_ ≠ gb193))) (fun _ hk => hk.2) (.int .i64 (wrap64 (x194001_4 + 1)))) (fun _ hk => ⟨hk.1.1, ⟨hk.1.2.1, ⟨hk.1.2.2.1, ⟨hk.1.2.2.2.1, ⟨hk.1.2.2.2.2.1, hk.1.2.2.2.2.2⟩⟩⟩⟩⟩)⟩, ⟨by (with_reducible repeat (first | apply Kd.S_alloc | apply Kd.S_drewN | apply Kd.S_drew)); exact Kd.S_mono (Kd.S_far (p := ⟨gb193, 1, none⟩) (Kd.S_types HO_8.out BK193.out (by decide)) (fun _ hk => hk.2) (.int .i64 (wrap64 (x194001_4 + 1)))) (fun _ hk => ⟨hk.1.1, hk.1.2⟩)⟩, ⟨by (with_reducible repeat (first | apply Kd.R_alloc | apply Kd.R_drewN | apply Kd.R_drew)); exact Kd.R_mono (Kd.R_far (p := ⟨gb193, 1, none⟩) (Kd.R_mono HO_193000.out (fun k_ hk => (⟨hk, hk.2⟩ : _ ∧ k_ ≠ gb193))) (fun _ hk => hk.2) (.int .i64 (wrap64 (x194001_4 + 1)))) (fun _ hk => ⟨hk.1.1, hk.1.2⟩)⟩, ⟨by (with_reducible repeat (first | refine blk_drewN ?_ _ | refine blk_drew ?_ | refine blk_alloc ?_ _)); refine blk_far ?_ NB161_193.out _; (with_reducible repeat (first | refine blk_drewN ?_ _ | refine blk_drew ?_ | refine blk_alloc ?_ _)); exact BK161.out⟩, ⟨by (with_reducible repeat (first | refine blk_drewN ?_ _ | refine blk_drew ?_ | refine blk_alloc ?_ _)); refine blk_far ?_ NB192_193.out _; (with_reducible repeat (first | refine blk_drewN ?_ _ | refine blk_drew ?_ | refine blk_alloc ?_ _)); exact BK192.out⟩, ⟨by (with_reducible repeat (first | refine blk_drewN ?_ _ | refine blk_drew ?_ | refine blk_alloc ?_ _)); refine blk_put (cs := #[.int .i64 x194000_4, .int .i64 x194001_4, .int .i64 x194002_4, .int .i64 x194003_4]) ?_ 1 _ rfl; (with_reducible repeat (first | refine blk_drewN ?_ _ | refine blk_drew ?_ | refine blk_alloc ?_ _)); exact BK193.out⟩, ⟨by repeat (first | (with_reducible first | exact HB.out | apply below_alloc | apply pw_below_drewN | apply below_drew1 | refine below_set ?_ GE161.out | refine below_set ?_ GE192.out | refine below_set ?_ GE193.out) | exact HB.out)⟩⟩
                             ·rw [if_neg c107] at H
                              have c107b0 : decide ((rd (rd_L10 t189 x12_4) (ji104)) ≤ (rd (rd_L10 t189 (ji97)) x13_4)) = false := decide_eq_false c107
                              clear c107
                              have H' := Aside0.mk H
                              clear H
                              obtain ⟨Ao112, co112, eo112⟩ := Kd.S_slice HO_8.out
                              subst eo112
                              have p202 : 0 ≤ ((ji97) : Int) := of_decide_eq_true (by first | (with_reducible assumption) | assumption)
                              have q202 : (ji97) < (t189.length : Int) := of_decide_eq_true (by first | (with_reducible assumption) | assumption)
                              obtain ⟨ad202, A202_0, c202_0, e202, hx202_0, hl202_0, hi202_0⟩ := at_L10 (Kd.S_reads' HO_8.out).2.2 (ji97) p202 q202
                              cases e202
                              obtain ⟨ce202, hce202, hMe202, hcc202⟩ := Kd.S_get HO_8.out [] (ji97) p202 (by first | exact q202 | exact of_decide_eq_true (by first | (with_reducible assumption) | assumption) | (have e_ := (Kd.S_reads' HO_8.out).1; omega))
                              obtain ⟨ve202_0, rfl, ge202_0⟩ := hMe202
                              have hv202_0 := hcc202 0 _ rfl
                              rw [Nat.add_zero, show ((Kd.slice 3 (Kd.int .i64))).sz = 1 from rfl, Nat.mul_one] at hv202_0
                              replace hv202_0 := Option.some.inj (hv202_0.symm.trans hx202_0)
                              rw [hv202_0] at ge202_0
                              have HL202_0 := Aside0.mk (show Kd.R (Kd.int .i64) 3 _ _ _ _ (rd_L10 t189 (ji97)) from ge202_0)
                              clear hv202_0 ge202_0
                              clear hcc202 hce202
                              have HR202_0 := Aside0.mk hi202_0
                              have HC202_0 := Aside0.mk hl202_0
                              clear hi202_0 hl202_0
                              replace p202 := eq_true p202
                              replace q202 := eq_true q202
                              have p203 : 0 ≤ (x13_4 : Int) := of_decide_eq_true (by first | (with_reducible assumption) | assumption)
                              have q203 : x13_4 < ((rd_L10 t189 (ji97)).length : Int) := of_decide_eq_true (by first | (with_reducible assumption) | assumption)
                              obtain ⟨ad203, e203, hx203_0⟩ := Kd.at_int (by repeat (first | (with_reducible exact HR202_0.out) | (with_reducible refine Kd.C_alloc ?_ _) | (with_reducible refine Kd.C_drewN ?_ _) | (with_reducible refine Kd.C_drew ?_) | exact HR202_0.out)) x13_4 p203 q203
                              cases e203
                              replace p203 := eq_true p203
                              replace q203 := eq_true q203
                              have p204 : 0 ≤ (x12_4 : Int) := of_decide_eq_true (by first | (with_reducible assumption) | assumption)
                              have q204 : x12_4 < (t189.length : Int) := of_decide_eq_true (by first | (with_reducible assumption) | assumption)
                              obtain ⟨ad204, A204_0, c204_0, e204, hx204_0, hl204_0, hi204_0⟩ := at_L10 (Kd.S_reads' HO_8.out).2.2 x12_4 p204 q204
                              obtain rfl : ad202 = ad204 := (by injection e204)
                              obtain ⟨ce204, hce204, hMe204, hcc204⟩ := Kd.S_get HO_8.out [] x12_4 p204 (by first | exact q204 | exact of_decide_eq_true (by first | (with_reducible assumption) | assumption) | (have e_ := (Kd.S_reads' HO_8.out).1; omega))
                              obtain ⟨ve204_0, rfl, ge204_0⟩ := hMe204
                              have hv204_0 := hcc204 0 _ rfl
                              rw [Nat.add_zero, show ((Kd.slice 3 (Kd.int .i64))).sz = 1 from rfl, Nat.mul_one] at hv204_0
                              replace hv204_0 := Option.some.inj (hv204_0.symm.trans hx204_0)
                              rw [hv204_0] at ge204_0
                              have HL204_0 := Aside0.mk (show Kd.R (Kd.int .i64) 3 _ _ _ _ (rd_L10 t189 x12_4) from ge204_0)
                              clear hv204_0 ge204_0
                              clear hcc204 hce204
                              have HR204_0 := Aside0.mk hi204_0
                              have HC204_0 := Aside0.mk hl204_0
                              clear hi204_0 hl204_0
                              replace p204 := eq_true p204
                              replace q204 := eq_true q204
                              have p205 : 0 ≤ ((ji104) : Int) := of_decide_eq_true (by first | (with_reducible assumption) | assumption)
                              have q205 : (ji104) < ((rd_L10 t189 x12_4).length : Int) := of_decide_eq_true (by first | (with_reducible assumption) | assumption)
                              obtain ⟨ad205, e205, hx205_0⟩ := Kd.at_int (by repeat (first | (with_reducible exact HR204_0.out) | (with_reducible refine Kd.C_alloc ?_ _) | (with_reducible refine Kd.C_drewN ?_ _) | (with_reducible refine Kd.C_drew ?_) | exact HR204_0.out)) (ji104) p205 q205
                              cases e205
                              replace p205 := eq_true p205
                              replace q205 := eq_true q205
                              have hnb113 := NB193_161.out
                              have hnc113 := NB161_193.out
                              have hnb114 := NB193_192.out
                              have hnc114 := NB192_193.out
                              have hcz115_0 : wc.cell? ⟨gb193, 0, none⟩ = some (.int .i64 x194000_4) := (blk_cell BK193.out 0).trans rfl
                              have hcz115_1 : wc.cell? ⟨gb193, 1, none⟩ = some (.int .i64 x194001_4) := (blk_cell BK193.out 1).trans rfl
                              have hcz115_2 : wc.cell? ⟨gb193, 2, none⟩ = some (.int .i64 x194002_4) := (blk_cell BK193.out 2).trans rfl
                              have hcz115_3 : wc.cell? ⟨gb193, 3, none⟩ = some (.int .i64 x194003_4) := (blk_cell BK193.out 3).trans rfl
                              have hfz115_0 := blk_frozen BK193.out 0
                              have hfz115_1 := blk_frozen BK193.out 1
                              have hfz115_2 := blk_frozen BK193.out 2
                              have hfz115_3 := blk_frozen BK193.out 3
                              go_wp2
                              repeat (go_quiet (fail); try go_wp2)
                              (try (refine bodyPost_end (results_none rfl _ _ _) rfl ?_; (try dsimp only); (try go_wp2); repeat (go_quiet (fail); try go_wp2)))
                              go_roundg kj68
                              case measure => have := HJ2.out; have := HJ17.out; have := HJ43.out; have := HK4.out; have := HJ65.out; have := HJ68.out; omega
                              case rel => exact ⟨(x12_4), (ji104), (x193000_4), (x194000_4), (x194001_4), (x194002_4), (wrap64 (x194003_4 + 1)), (u193000), (by first | rfl | (simp; done) | (simp [*]; done) | (simp [wrap64, wrap32]; done)), (by first | rfl | (simp; done) | (simp only [← hji104] <;> (first | rfl | simp)) | (simp [*]; done)), (by first | exact H' | (rw [hji104]; exact H') | (simp only [hji104]; exact H')), ⟨by have := HJ2.out; have := HJ17.out; have := HJ43.out; have := HK4.out; have := HJ65.out; have := HJ68.out; omega⟩, ⟨by (with_reducible repeat (first | apply Kd.V_alloc | apply Kd.V_drewN | apply Kd.V_drew)); exact Kd.V_mono (Kd.V_far (p := ⟨gb193, 3, none⟩) (Kd.V_mono HO_6.out (fun k_ hk => (⟨hk, hk.2.2.2.2.2⟩ : _ ∧ k_ ≠ gb193))) (fun _ hk => hk.2) (.int .i64 (wrap64 (x194003_4 + 1)))) (fun _ hk => ⟨hk.1.1, ⟨hk.1.2.1, ⟨hk.1.2.2.1, ⟨hk.1.2.2.2.1, ⟨hk.1.2.2.2.2.1, hk.1.2.2.2.2.2⟩⟩⟩⟩⟩)⟩, ⟨by (with_reducible repeat (first | apply Kd.V_alloc | apply Kd.V_drewN | apply Kd.V_drew)); exact Kd.V_mono (Kd.V_far (p := ⟨gb193, 3, none⟩) (Kd.V_mono HO_7.out (fun k_ hk => (⟨hk, hk.2.2.2.2.2⟩ : _ ∧ k_ ≠ gb193))) (fun _ hk => hk.2) (.int .i64 (wrap64 (x194003_4 + 1)))) (fun _ hk => ⟨hk.1.1, ⟨hk.1.2.1, ⟨hk.1.2.2.1, ⟨hk.1.2.2.2.1, ⟨hk.1.2.2.2.2.1, hk.1.2.2.2.2.2⟩⟩⟩⟩⟩)⟩, ⟨by (with_reducible repeat (first | apply Kd.S_alloc | apply Kd.S_drewN | apply Kd.S_drew)); exact Kd.S_mono (Kd.S_far (p := ⟨gb193, 3, none⟩) (Kd.S_types HO_8.out BK193.out (by decide)) (fun _ hk => hk.2) (.int .i64 (wrap64 (x194003_4 + 1)))) (fun _ hk => ⟨hk.1.1, hk.1.2⟩)⟩, ⟨by (with_reducible repeat (first | apply Kd.R_alloc | apply Kd.R_drewN | apply Kd.R_drew)); exact Kd.R_mono (Kd.R_far (p := ⟨gb193, 3, none⟩) (Kd.R_mono HO_193000.out (fun k_ hk => (⟨hk, hk.2⟩ : _ ∧ k_ ≠ gb193))) (fun _ hk => hk.2) (.int .i64 (wrap64 (x194003_4 + 1)))) (fun _ hk => ⟨hk.1.1, hk.1.2⟩)⟩, ⟨by (with_reducible repeat (first | refine blk_drewN ?_ _ | refine blk_drew ?_ | refine blk_alloc ?_ _)); refine blk_far ?_ NB161_193.out _; (with_reducible repeat (first | refine blk_drewN ?_ _ | refine blk_drew ?_ | refine blk_alloc ?_ _)); exact BK161.out⟩, ⟨by (with_reducible repeat (first | refine blk_drewN ?_ _ | refine blk_drew ?_ | refine blk_alloc ?_ _)); refine blk_far ?_ NB192_193.out _; (with_reducible repeat (first | refine blk_drewN ?_ _ | refine blk_drew ?_ | refine blk_alloc ?_ _)); exact BK192.out⟩, ⟨by (with_reducible repeat (first | refine blk_drewN ?_ _ | refine blk_drew ?_ | refine blk_alloc ?_ _)); refine blk_put (cs := #[.int .i64 x194000_4, .int .i64 x194001_4, .int .i64 x194002_4, .int .i64 x194003_4]) ?_ 3 _ rfl; (with_reducible repeat (first | refine blk_drewN ?_ _ | refine blk_drew ?_ | refine blk_alloc ?_ _)); exact BK193.out⟩, ⟨by repeat (first | (with_reducible first | exact HB.out | apply below_alloc | apply pw_below_drewN | apply below_drew1 | refine below_set ?_ GE161.out | refine below_set ?_ GE192.out | refine below_set ?_ GE193.out) | exact HB.out)⟩⟩
                            ·rw [if_neg c106] at H
                             exact absurd H (by simp)
                           ·rw [if_neg c105] at H
                            exact absurd H (by simp)
                          ·rw [if_neg c103] at H
                           exact absurd H (by simp)
                         ·rw [if_neg c102] at H
                          exact absurd H (by simp)
                        ·rw [if_neg c101] at H
                         exact absurd H (by simp)
                       ·rw [if_neg c100] at H
                        exact absurd H (by simp)
                      ·rw [if_neg c99] at H
                       exact absurd H (by simp)
                     ·rw [if_neg c98] at H
                      exact absurd H (by simp)
                   ·rw [if_neg c92] at H
                    have c92b0 : decide (x12_4 < (x6_17.length : Int)) = false := decide_eq_false c92
                    clear c92
                    have H' := Aside0.mk H
                    clear H
                    have hnb116 := NB193_161.out
                    have hnc116 := NB161_193.out
                    have hnb117 := NB193_192.out
                    have hnc117 := NB192_193.out
                    have hcz118_0 : wc.cell? ⟨gb193, 0, none⟩ = some (.int .i64 x194000_4) := (blk_cell BK193.out 0).trans rfl
                    have hcz118_1 : wc.cell? ⟨gb193, 1, none⟩ = some (.int .i64 x194001_4) := (blk_cell BK193.out 1).trans rfl
                    have hcz118_2 : wc.cell? ⟨gb193, 2, none⟩ = some (.int .i64 x194002_4) := (blk_cell BK193.out 2).trans rfl
                    have hcz118_3 : wc.cell? ⟨gb193, 3, none⟩ = some (.int .i64 x194003_4) := (blk_cell BK193.out 3).trans rfl
                    have hfz118_0 := blk_frozen BK193.out 0
                    have hfz118_1 := blk_frozen BK193.out 1
                    have hfz118_2 := blk_frozen BK193.out 2
                    have hfz118_3 := blk_frozen BK193.out 3
                    go_wp2
                    repeat (go_quiet (fail); try go_wp2)
                    (try (refine bodyPost_end (results_none rfl _ _ _) rfl ?_; (try dsimp only); (try go_wp2); repeat (go_quiet (fail); try go_wp2)))
                    go_roundg kj68
                    case measure => have := HJ2.out; have := HJ17.out; have := HJ43.out; have := HK4.out; have := HJ65.out; have := HJ68.out; omega
                    case rel => exact ⟨(x12_4), (wrap64 (x13_4 + 1)), (x193000_4), (x194000_4), (x194001_4), (x194002_4), (wrap64 (x194003_4 + 1)), (u193000), (by first | rfl | (simp; done) | (simp [*]; done) | (simp [wrap64, wrap32]; done)), (by first | rfl | (simp; done) | (simp [*]; done) | (simp [wrap64, wrap32]; done)), H', ⟨by have := HJ2.out; have := HJ17.out; have := HJ43.out; have := HK4.out; have := HJ65.out; have := HJ68.out; omega⟩, ⟨by (with_reducible repeat (first | apply Kd.V_alloc | apply Kd.V_drewN | apply Kd.V_drew)); exact Kd.V_mono (Kd.V_far (p := ⟨gb193, 3, none⟩) (Kd.V_mono HO_6.out (fun k_ hk => (⟨hk, hk.2.2.2.2.2⟩ : _ ∧ k_ ≠ gb193))) (fun _ hk => hk.2) (.int .i64 (wrap64 (x194003_4 + 1)))) (fun _ hk => ⟨hk.1.1, ⟨hk.1.2.1, ⟨hk.1.2.2.1, ⟨hk.1.2.2.2.1, ⟨hk.1.2.2.2.2.1, hk.1.2.2.2.2.2⟩⟩⟩⟩⟩)⟩, ⟨by (with_reducible repeat (first | apply Kd.V_alloc | apply Kd.V_drewN | apply Kd.V_drew)); exact Kd.V_mono (Kd.V_far (p := ⟨gb193, 3, none⟩) (Kd.V_mono HO_7.out (fun k_ hk => (⟨hk, hk.2.2.2.2.2⟩ : _ ∧ k_ ≠ gb193))) (fun _ hk => hk.2) (.int .i64 (wrap64 (x194003_4 + 1)))) (fun _ hk => ⟨hk.1.1, ⟨hk.1.2.1, ⟨hk.1.2.2.1, ⟨hk.1.2.2.2.1, ⟨hk.1.2.2.2.2.1, hk.1.2.2.2.2.2⟩⟩⟩⟩⟩)⟩, ⟨by (with_reducible repeat (first | apply Kd.S_alloc | apply Kd.S_drewN | apply Kd.S_drew)); exact Kd.S_mono (Kd.S_far (p := ⟨gb193, 3, none⟩) (Kd.S_types HO_8.out BK193.out (by decide)) (fun _ hk => hk.2) (.int .i64 (wrap64 (x194003_4 + 1)))) (fun _ hk => ⟨hk.1.1, hk.1.2⟩)⟩, ⟨by (with_reducible repeat (first | apply Kd.R_alloc | apply Kd.R_drewN | apply Kd.R_drew)); exact Kd.R_mono (Kd.R_far (p := ⟨gb193, 3, none⟩) (Kd.R_mono HO_193000.out (fun k_ hk => (⟨hk, hk.2⟩ : _ ∧ k_ ≠ gb193))) (fun _ hk => hk.2) (.int .i64 (wrap64 (x194003_4 + 1)))) (fun _ hk => ⟨hk.1.1, hk.1.2⟩)⟩, ⟨by (with_reducible repeat (first | refine blk_drewN ?_ _ | refine blk_drew ?_ | refine blk_alloc ?_ _)); refine blk_far ?_ NB161_193.out _; (with_reducible repeat (first | refine blk_drewN ?_ _ | refine blk_drew ?_ | refine blk_alloc ?_ _)); exact BK161.out⟩, ⟨by (with_reducible repeat (first | refine blk_drewN ?_ _ | refine blk_drew ?_ | refine blk_alloc ?_ _)); refine blk_far ?_ NB192_193.out _; (with_reducible repeat (first | refine blk_drewN ?_ _ | refine blk_drew ?_ | refine blk_alloc ?_ _)); exact BK192.out⟩, ⟨by (with_reducible repeat (first | refine blk_drewN ?_ _ | refine blk_drew ?_ | refine blk_alloc ?_ _)); refine blk_put (cs := #[.int .i64 x194000_4, .int .i64 x194001_4, .int .i64 x194002_4, .int .i64 x194003_4]) ?_ 3 _ rfl; (with_reducible repeat (first | refine blk_drewN ?_ _ | refine blk_drew ?_ | refine blk_alloc ?_ _)); exact BK193.out⟩, ⟨by repeat (first | (with_reducible first | exact HB.out | apply below_alloc | apply pw_below_drewN | apply below_drew1 | refine below_set ?_ GE161.out | refine below_set ?_ GE192.out | refine below_set ?_ GE193.out) | exact HB.out)⟩⟩
               ·replace c68 := Bool.eq_false_iff.mpr c68
                subst c68
                have H1 : (if (wrap64 (x194001_4 + x194003_4)) > 0 then (if x193000_4.length < 4398046511104 then (some (x193000_4 ++ [(⟨x194000_4, x194001_4, x194002_4, x194003_4⟩ : S82)])) else (none)) else (some x193000_4)) = some r := by rw [if_neg (show ¬ (false = true) by decide)] at H; exact H
                clear H
                have H := H1
                clear H1
                by_cases c119 : (wrap64 (x194001_4 + x194003_4)) > 0
                ·rw [if_pos c119] at H
                 have c119b0 : decide (0 < (wrap64 (x194001_4 + x194003_4))) = true := decide_eq_true c119
                 clear c119
                 by_cases c120 : x193000_4.length < 4398046511104
                 ·rw [if_pos c120] at H
                  have LMc120 := Aside0.mk c120
                  clear c120
                  obtain ⟨y194, hy194⟩ : ∃ y_ : List (S82), y_ = (x193000_4 ++ [(⟨x194000_4, x194001_4, x194002_4, x194003_4⟩ : S82)]) := ⟨_, rfl⟩
                  replace H : (some y194) = some r := by first | (rw [hy194]; with_reducible exact H) | (have H2_ := (Option.bind_some _ _).symm.trans H; rw [hy194]; with_reducible exact H2_) | (have H2_ := (Option.bind_some _ _).symm.trans H; with_reducible exact H2_) | with_reducible exact H | (rw [hy194]; exact H) | exact H
                  have Ny194 := Aside0.mk hy194
                  clear hy194
                  obtain rfl := Option.some.inj H
                  have hnb121 := NB193_161.out
                  have hnc121 := NB161_193.out
                  have hnb122 := NB193_192.out
                  have hnc122 := NB192_193.out
                  have hcz123_0 : wc.cell? ⟨gb193, 0, none⟩ = some (.int .i64 x194000_4) := (blk_cell BK193.out 0).trans rfl
                  have hcz123_1 : wc.cell? ⟨gb193, 1, none⟩ = some (.int .i64 x194001_4) := (blk_cell BK193.out 1).trans rfl
                  have hcz123_2 : wc.cell? ⟨gb193, 2, none⟩ = some (.int .i64 x194002_4) := (blk_cell BK193.out 2).trans rfl
                  have hcz123_3 : wc.cell? ⟨gb193, 3, none⟩ = some (.int .i64 x194003_4) := (blk_cell BK193.out 3).trans rfl
                  have hfz123_0 := blk_frozen BK193.out 0
                  have hfz123_1 := blk_frozen BK193.out 1
                  have hfz123_2 := blk_frozen BK193.out 2
                  have hfz123_3 := blk_frozen BK193.out 3
                  have hnb124 := NB192_161.out
                  have hnc124 := NB161_192.out
                  have hcz125_0 : wc.cell? ⟨gb192, 0, none⟩ = some (u193000) := (blk_cell BK192.out 0).trans rfl
                  have hfz125_0 := blk_frozen BK192.out 0
                  go_wp2_with (first | ((with_reducible refine gate_builtin (b := .append) (xs := #[.tmp 13, .tmp 15]) rfl ?_); (try (refine gate_guard (by rfl) ?_; dsimp only)); at_builtin; refine Kd.R_append k82 (w0 := w) w.heap.size rfl (.tmp 13) (.tmp 15) 79 82 (.agg #[(.int .i64 0), (.int .i64 0), (.int .i64 0), (.int .i64 0)]) 32 rfl Tryd.underlying79 info82 rfl (by decide) (by omega) u193000 x193000_4 (⟨x194000_4, x194001_4, x194002_4, x194003_4⟩ : S82) [.int .i64 x194000_4, .int .i64 x194001_4, .int .i64 x194002_4, .int .i64 x194003_4] (fun k_ => (w.heap.size ≤ k_) ∧ k_ ≠ gb193) (fun _ => False) rfl rfl ?aP (fun _ hk => hk.elim) ?aF ?aO ?aB ?aS ?aL ?_; (case aP => exact k82_mkM _ _ _ (⟨x194000_4, x194001_4, x194002_4, x194003_4⟩ : S82)); (case aB => exact (by repeat (first | (with_reducible first | exact HB.out | apply below_alloc | apply pw_below_drewN | apply below_drew1 | refine below_set ?_ GE161.out | refine below_set ?_ GE192.out | refine below_set ?_ GE193.out) | exact HB.out))); (case aF => exact (fun k_ hk => ⟨(Nat.le_trans (below_size (by repeat (first | (with_reducible first | exact HB.out | apply below_alloc | apply pw_below_drewN | apply below_drew1 | refine below_set ?_ GE161.out | refine below_set ?_ GE192.out | refine below_set ?_ GE193.out) | exact HB.out))) hk), Kd.freshB (g := gb193) (o := .cells #[.int .i64 x194000_4, .int .i64 x194001_4, .int .i64 x194002_4, .int .i64 x194003_4] 82 (0, 0)) (by (with_reducible repeat (first | refine blk_drewN ?_ _ | refine blk_drew ?_ | refine blk_alloc ?_ _)); exact BK193.out) k_ hk⟩)); (case aO => exact (by (with_reducible repeat (first | apply Kd.R_alloc | apply Kd.R_drewN | apply Kd.R_drew)); exact HO_193000.out)); (case aS => exact (below_size (by repeat (first | (with_reducible first | exact HB.out | apply below_alloc | apply pw_below_drewN | apply below_drew1 | refine below_set ?_ GE161.out | refine below_set ?_ GE192.out | refine below_set ?_ GE193.out) | exact HB.out)))); (case aL => have := LMc120.out; omega); intro v195 w126 ho hb hg hat; rw [← Ny194.out] at ho; have n0_ := Aside0.mk (Kd.V_afterv (ok := (fun k_ => ((P0_ k_ ∨ P1_ k_) ∨ w.heap.size ≤ k_) ∧ some k_ ≠ (v190 : Value).ownBlock ∧ k_ ≠ gb161 ∧ k_ ≠ gb192 ∧ k_ ≠ gb193)) (by (with_reducible repeat (first | apply Kd.V_alloc | apply Kd.V_drewN | apply Kd.V_drew)); exact Kd.V_mono HO_6.out (fun _ hk => ⟨⟨hk.1, ⟨hk.2.1, ⟨hk.2.2.2.1, ⟨hk.2.2.2.2.1, hk.2.2.2.2.2⟩⟩⟩⟩, hk.2.2.1⟩)) hg hat); have n1_ := Aside0.mk (Kd.V_afterv (ok := (fun k_ => ((P0_ k_ ∨ P1_ k_) ∨ w.heap.size ≤ k_) ∧ some k_ ≠ (v190 : Value).ownBlock ∧ k_ ≠ gb161 ∧ k_ ≠ gb192 ∧ k_ ≠ gb193)) (by (with_reducible repeat (first | apply Kd.V_alloc | apply Kd.V_drewN | apply Kd.V_drew)); exact Kd.V_mono HO_7.out (fun _ hk => ⟨⟨hk.1, ⟨hk.2.1, ⟨hk.2.2.2.1, ⟨hk.2.2.2.2.1, hk.2.2.2.2.2⟩⟩⟩⟩, hk.2.2.1⟩)) hg hat); have n2_ := Aside0.mk (Kd.S_over' (by (with_reducible repeat (first | apply Kd.S_alloc | apply Kd.S_drewN | apply Kd.S_drew)); exact HO_8.out) (Kd.R_typed (by (with_reducible repeat (first | apply Kd.R_alloc | apply Kd.R_drewN | apply Kd.R_drew)); exact HO_193000.out)) (by decide) hg); have n3_ := Aside0.mk (blk_grown (g := gb161) (o := .cells #[.int .i64 x162000_2] 3 (0, 0)) (by (with_reducible repeat (first | refine blk_drewN ?_ _ | refine blk_drew ?_ | refine blk_alloc ?_ _)); exact BK161.out) hg (Kd.R_ne HO_193000.out BK161.out (by decide))); have n4_ := Aside0.mk (blk_grown (g := gb192) (o := .cells #[u193000] 79 (0, 0)) (by (with_reducible repeat (first | refine blk_drewN ?_ _ | refine blk_drew ?_ | refine blk_alloc ?_ _)); exact BK192.out) hg (Kd.R_ne HO_193000.out BK192.out (by decide))); have n5_ := Aside0.mk (blk_grown (g := gb193) (o := .cells #[.int .i64 x194000_4, .int .i64 x194001_4, .int .i64 x194002_4, .int .i64 x194003_4] 82 (0, 0)) (by (with_reducible repeat (first | refine blk_drewN ?_ _ | refine blk_drew ?_ | refine blk_alloc ?_ _)); exact BK193.out) hg (Kd.R_away HO_193000.out (fun _ hk => hk.2))); have n6_ := Aside0.mk (hb); have n7_ := Aside0.mk (ho); clear HO_6; clear HO_7; clear HO_8; clear BK161; clear BK192; clear BK193; clear HB; clear HO_193000; have HO_6 := n0_; have HO_7 := n1_; have HO_8 := n2_; have BK161 := n3_; have BK192 := n4_; have BK193 := n5_; have HB := n6_; have HO196 := n7_; clear n0_ n1_ n2_ n3_ n4_ n5_ n6_ n7_; clear ho hb hg hat; obtain ⟨Ao127, co127, eo127⟩ := Kd.R_slice HO196.out; subst eo127; have hcz128_0 : w126.cell? ⟨gb192, 0, none⟩ = some (u193000) := (blk_cell BK192.out 0).trans rfl; have hfz128_0 := blk_frozen BK192.out 0; have hcz129_0 : w126.cell? ⟨gb161, 0, none⟩ = some (.int .i64 x162000_2) := (blk_cell BK161.out 0).trans rfl; have hfz129_0 := blk_frozen BK161.out 0; have hcz130_0 : w126.cell? ⟨gb193, 0, none⟩ = some (.int .i64 x194000_4) := (blk_cell BK193.out 0).trans rfl; have hcz130_1 : w126.cell? ⟨gb193, 1, none⟩ = some (.int .i64 x194001_4) := (blk_cell BK193.out 1).trans rfl; have hcz130_2 : w126.cell? ⟨gb193, 2, none⟩ = some (.int .i64 x194002_4) := (blk_cell BK193.out 2).trans rfl; have hcz130_3 : w126.cell? ⟨gb193, 3, none⟩ = some (.int .i64 x194003_4) := (blk_cell BK193.out 3).trans rfl; have hfz130_0 := blk_frozen BK193.out 0; have hfz130_1 := blk_frozen BK193.out 1; have hfz130_2 := blk_frozen BK193.out 2; have hfz130_3 := blk_frozen BK193.out 3) | go_in)
                  repeat (go_quiet (fail); try go_wp2_with (fail))
                  (try (refine bodyPost_end (results_none rfl _ _ _) rfl ?_; (try dsimp only); (try go_wp2); repeat (go_quiet (fail); try go_wp2)))
                  go_ret
                  exact ⟨_, by first | rfl | (simp [errW_none, errW_some] <;> rfl) | (simp [*, errW_none, errW_some] <;> rfl), by (with_reducible repeat (first | apply Kd.R_alloc | apply Kd.R_drewN | apply Kd.R_drew)); exact Kd.R_mono (Kd.R_far (p := ⟨gb193, 3, none⟩) (Kd.R_far (p := ⟨gb193, 2, none⟩) (Kd.R_far (p := ⟨gb193, 1, none⟩) (Kd.R_far (p := ⟨gb193, 0, none⟩) (Kd.R_far (p := ⟨gb192, 0, none⟩) (Kd.R_mono (Kd.R_types HO196.out BK192.out (by decide)) (fun k_ hk => (⟨hk, hk.1.2⟩ : _ ∧ k_ ≠ gb193))) (fun _ hk => hk.1.2) (.slice Ao127 y194.length co127)) (fun _ hk => hk.2) (.int .i64 (wrap64 (x162000_2 + x12_4)))) (fun _ hk => hk.2) (.int .i64 0)) (fun _ hk => hk.2) (.int .i64 (wrap64 (x162000_2 + x13_4)))) (fun _ hk => hk.2) (.int .i64 0)) (fun _ hk => hk.1.1.1), by repeat (first | (with_reducible first | exact HB.out | apply below_alloc | apply pw_below_drewN | apply below_drew1 | refine below_set ?_ GE161.out | refine below_set ?_ GE192.out | refine below_set ?_ GE193.out) | exact HB.out)⟩
                 ·rw [if_neg c120] at H
                  exact absurd H (by simp)
                ·rw [if_neg c119] at H
                 have c119b0 : decide (0 < (wrap64 (x194001_4 + x194003_4))) = false := decide_eq_false c119
                 clear c119
                 obtain rfl := Option.some.inj H
                 have hnb131 := NB193_161.out
                 have hnc131 := NB161_193.out
                 have hnb132 := NB193_192.out
                 have hnc132 := NB192_193.out
                 have hcz133_0 : wc.cell? ⟨gb193, 0, none⟩ = some (.int .i64 x194000_4) := (blk_cell BK193.out 0).trans rfl
                 have hcz133_1 : wc.cell? ⟨gb193, 1, none⟩ = some (.int .i64 x194001_4) := (blk_cell BK193.out 1).trans rfl
                 have hcz133_2 : wc.cell? ⟨gb193, 2, none⟩ = some (.int .i64 x194002_4) := (blk_cell BK193.out 2).trans rfl
                 have hcz133_3 : wc.cell? ⟨gb193, 3, none⟩ = some (.int .i64 x194003_4) := (blk_cell BK193.out 3).trans rfl
                 have hfz133_0 := blk_frozen BK193.out 0
                 have hfz133_1 := blk_frozen BK193.out 1
                 have hfz133_2 := blk_frozen BK193.out 2
                 have hfz133_3 := blk_frozen BK193.out 3
                 have hnb134 := NB161_192.out
                 have hnc134 := NB192_161.out
                 have hcz135_0 : wc.cell? ⟨gb161, 0, none⟩ = some (.int .i64 x162000_2) := (blk_cell BK161.out 0).trans rfl
                 have hfz135_0 := blk_frozen BK161.out 0
                 have hcz136_0 : wc.cell? ⟨gb192, 0, none⟩ = some (u193000) := (blk_cell BK192.out 0).trans rfl
                 have hfz136_0 := blk_frozen BK192.out 0
                 go_wp2
                 repeat (go_quiet (fail); try go_wp2)
                 (try (refine bodyPost_end (results_none rfl _ _ _) rfl ?_; (try dsimp only); (try go_wp2); repeat (go_quiet (fail); try go_wp2)))
                 go_ret
                 exact ⟨_, by first | rfl | (simp [errW_none, errW_some] <;> rfl) | (simp [*, errW_none, errW_some] <;> rfl), by (with_reducible repeat (first | apply Kd.R_alloc | apply Kd.R_drewN | apply Kd.R_drew)); exact Kd.R_mono (Kd.R_far (p := ⟨gb193, 3, none⟩) (Kd.R_far (p := ⟨gb193, 2, none⟩) (Kd.R_far (p := ⟨gb193, 1, none⟩) (Kd.R_far (p := ⟨gb193, 0, none⟩) (Kd.R_mono HO_193000.out (fun k_ hk => (⟨hk, hk.2⟩ : _ ∧ k_ ≠ gb193))) (fun _ hk => hk.2) (.int .i64 (wrap64 (x162000_2 + x12_4)))) (fun _ hk => hk.2) (.int .i64 0)) (fun _ hk => hk.2) (.int .i64 (wrap64 (x162000_2 + x13_4)))) (fun _ hk => hk.2) (.int .i64 0)) (fun _ hk => hk.1.1), by repeat (first | (with_reducible first | exact HB.out | apply below_alloc | apply pw_below_drewN | apply below_drew1 | refine below_set ?_ GE161.out | refine below_set ?_ GE192.out | refine below_set ?_ GE193.out) | exact HB.out)⟩
     ·rw [if_neg c17] at H
      exact absurd H (by simp)
    ·rw [if_neg c15] at H
     exact absurd H (by simp)
   ·rw [if_neg c14] at H
    exact absurd H (by simp)

end Go.Proofs.YtjabpbnlpljlkaaDoor.PShowMade
