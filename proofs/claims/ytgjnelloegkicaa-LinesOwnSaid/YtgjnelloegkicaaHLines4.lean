/- lines.Index.Line, walked by hand. -/
import Derived.Test.YtgjnelloegkicaaHLines3
namespace Go.Proofs.Ytgjnelloegkicaa.X
open Go.RowKit Go.Proofs.YtgjnelloegkicaaW.PrintWords Go.Proofs.YtgjnelloegkicaaW.PrintLast Go.Proofs.YtgjnelloegkicaaW.PrintMore
open Go.Proofs.Ytgjnelloegkicaa.M
attribute [local go_sem] max2_int min2_int max_two min_two max_three min_three max_four min_four
set_option linter.unusedVariables false
set_option linter.unusedSimpArgs false

theorem tup2 {a b c : Int} (h : a = b) : Ending.returned (.tuple #[.int .i64 a, .int .i64 c]) = .returned (.tuple #[.int .i64 b, .int .i64 c]) := by rw [h]
def lines_Index_Line.f (l0 : List IxT) (a1 : Int) : Option (Int × Int) := match l0 with
  | [] => some (0, 1)
  | b :: _ => if b.length < 100000000000 then (if a1 < 0 then some (0, 2) else if (b.length : Int) < a1 then some (0, 2) else some (lineOf b a1, 0)) else none
set_option maxHeartbeats 4000000 in
set_option maxRecDepth 100000 in
theorem lines_Index_Line.calls (V0 : Value) (l0 : List IxT) (a1 : Int) (r1 r2 : Int) (w : World) (hs0 : IxP w V0 l0) (h : lines_Index_Line.f l0 a1 = some (r1, r2)) :
    Calls Try.prog 28 #[V0, .int .i64 a1] w fun e w' => e = .returned (.tuple #[.int .i64 r1, .int .i64 r2]) ∧ Below w.heap.size w w' := by
  have HS := Aside0.mk hs0
  rcases hs0 with ⟨rfl, rfl⟩ | ⟨b, g, A1, c1, A2, c2, rfl, rfl, hg, hl1, hC1, hl2, hC2⟩
  · injection h with h
    simp only [Prod.mk.injEq] at h
    obtain ⟨rfl, rfl⟩ := h
    go_enter Try.func28, Try.ntmps28
    go_wp2
    go_ret2
    exact ⟨rfl, (by repeat (first | exact Below.refl _ _ | refine below_set1 ?_ (by simp) | apply below_alloc | apply pw_below_drewN | apply below_drew1))⟩
  · have h : (if b.length < 100000000000 then (if a1 < 0 then some (0, 2) else if (b.length : Int) < a1 then some (0, 2) else some (lineOf b a1, 0)) else none) = some (r1, r2) := h
    split at h
    case isFalse => cases h
    case isTrue hlen =>
    have hL : lines_Index_Lines.f [b] = some (nlines b) := by
      show (if b.length < 100000000000 then some (nlines b) else none) = _
      rw [if_pos hlen]
    have HL := Aside0.mk hL
    clear hL
    have hx := cell_of_heap hg 0
    have hy := cell_of_heap hg 1
    simp at hx hy
    have hbl := begins_len b
    have ny := fun (o o2 : Obj) => pw_cell_below (below_alloc (below_alloc (Below.refl w.heap.size w) o) o2) hy
    have nx := fun (o o2 : Obj) => pw_cell_below (below_alloc (below_alloc (Below.refl w.heap.size w) o) o2) hx
    by_cases h1 : a1 < 0
    · rw [if_pos h1] at h
      injection h with h
      simp only [Prod.mk.injEq] at h
      obtain ⟨rfl, rfl⟩ := h
      have b1 : decide (a1 < 0) = true := decide_eq_true h1
      clear h1 hbl hlen hl1 hl2 hC1 hC2 hg hx hy
      go_enter Try.func28, Try.ntmps28
      go_wp2
      go_quiet (fail)
      go_wp2
      go_ret2
      exact ⟨rfl, (by repeat (first | exact Below.refl _ _ | refine below_set1 ?_ (by simp) | apply below_alloc | apply pw_below_drewN | apply below_drew1))⟩
    rw [if_neg h1] at h
    have b1 : decide (a1 < 0) = false := decide_eq_false h1
    by_cases h2 : (b.length : Int) < a1
    · rw [if_pos h2] at h
      injection h with h
      simp only [Prod.mk.injEq] at h
      obtain ⟨rfl, rfl⟩ := h
      have b2 : decide ((b.length : Int) < a1) = true := decide_eq_true h2
      clear h1 h2 hbl hlen hl1 hl2 hC1 hC2 hg hx hy
      go_enter Try.func28, Try.ntmps28
      go_wp2
      go_quiet (fail)
      go_wp2
      go_ret2
      exact ⟨rfl, (by repeat (first | exact Below.refl _ _ | refine below_set1 ?_ (by simp) | apply below_alloc | apply pw_below_drewN | apply below_drew1))⟩
    · rw [if_neg h2] at h
      injection h with h
      simp only [Prod.mk.injEq] at h
      obtain ⟨hr, rfl⟩ := h
      have HR := Aside0.mk hr
      have b2 : decide ((b.length : Int) < a1) = false := decide_eq_false h2
      have HC1 := Aside0.mk hC1
      have HM := Aside0.mk (begins_mono b)
      have HBL := Aside0.mk (show (begins b).length < 4611686018427387904 by omega)
      clear h1 h2 hbl hlen hl1 hl2 hC1 hC2 hg hx hy hr
      go_enter Try.func28, Try.ntmps28
      go_wp2
      go_quiet (fail)
      go_wp2_with (fail)
      refine (line_search (begins b).length c1 w.heap.size (w.heap.size + 1) g a1 (begins b) A1 _ ?hx ?ha ?hg ?hC HBL.out ?hm).mono ?_
      case hx => exact pw_cell_below (w := w.alloc (.cells #[.pointer (some ⟨g, 0, none⟩)] 49)) (by repeat (first | exact Below.refl _ _ | apply below_alloc | apply pw_below_drewN | apply below_drew1)) (cell_of_heap (heap_alloc_new w _) 0)
      case ha =>
        have := cell_of_heap (heap_alloc_new (w.alloc (.cells #[.pointer (some ⟨g, 0, none⟩)] 49)) (.cells #[.int .i64 a1] 3)) 0
        rw [show (w.alloc (.cells #[.pointer (some ⟨g, 0, none⟩)] 49)).heap.size = w.heap.size + 1 by simp] at this
        exact pw_cell_below (w := (w.alloc (.cells #[.pointer (some ⟨g, 0, none⟩)] 49)).alloc (.cells #[.int .i64 a1] 3)) (by repeat (first | exact Below.refl _ _ | apply below_alloc | apply pw_below_drewN | apply below_drew1)) this
      case hg => exact pw_cell_below (w := (w.alloc (.cells #[.pointer (some ⟨g, 0, none⟩)] 49)).alloc (.cells #[.int .i64 a1] 3)) (by repeat (first | exact Below.refl _ _ | apply below_alloc | apply pw_below_drewN | apply below_drew1)) (nx _ _)
      case hC => exact Kd.C_below HC1.out (by repeat (first | exact Below.refl _ _ | apply below_alloc | apply pw_below_drewN | apply below_drew1))
      case hm =>
        intro i j hij hj
        have := HM.out i j hij hj
        unfold rd
        rw [Int.toNat_natCast, Int.toNat_natCast]
        exact this
      rintro e w' ⟨k, rfl, hk, hk1, hk2, ⟨nd, rfl⟩⟩
      have hu : k = upto b a1 := by
        unfold upto
        refine (countP_cut hk (fun t ht => ?_) (fun t ht ht2 => ?_)).symm
        · have := hk1 t ht
          unfold rd at this
          rw [Int.toNat_natCast] at this
          exact decide_eq_true this
        · have := hk2 t ht ht2
          unfold rd at this
          rw [Int.toNat_natCast] at this
          exact decide_eq_false (by omega)
      have HU := Aside0.mk hu
      clear hk hk1 hk2 hu
      go_wp2_with (go_at_call 33; refine (lines_Index_Lines.calls _ [b] _ _ (IxP_below HS.out (by repeat (first | exact Below.refl _ _ | apply below_alloc | apply pw_below_drewN | apply below_drew1))) HL.out).mono ?_; rintro e w' ⟨rfl, ⟨nd2, rfl⟩⟩)
      all_goals
        go_ret2
        exact ⟨tup2 (by have h := HR.out; unfold lineOf at h; rw [← HU.out] at h; (repeat' split at h) <;> omega), (by repeat (first | exact Below.refl _ _ | apply below_alloc | apply pw_below_drewN | apply below_drew1))⟩
end Go.Proofs.Ytgjnelloegkicaa.X
