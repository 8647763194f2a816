/- LinesCover: the lines' spans cover all; each byte lies on the line that is told; places rise. For all bytes (up to 300 are looked at). No condition beyond the statement's own. -/
import Derived.Test.YtgjnelloegkicaaBLinesLinesCover
import Derived.Test.YtgjnelloegkicaaBCoverLinesCover
namespace Go.Proofs.Ytgjnelloegkicaa.Pure
open Go.RowKit Go.Proofs.Ytgjnelloegkicaa.PLinesCover Go.Proofs.YtgjnelloegkicaaW.PrintWords Go.Proofs.YtgjnelloegkicaaW.PrintLast
open Go.Proofs.Ytgjnelloegkicaa.M Go.Proofs.Ytgjnelloegkicaa.X

/-- How long the lines are. -/
def lens (L : List (List Int)) : List Int := L.map (fun l => (l.length : Int))
theorem lens_sum (L : List (List Int)) : (lens L).sum = (L.flatten.length : Int) := by
  induction L with
  | nil => rfl
  | cons l L ih =>
    have : (lens (l :: L)).sum = (l.length : Int) + (lens L).sum := rfl
    rw [this, ih, List.flatten_cons, List.length_append]
    omega
theorem lens_take (L : List (List Int)) (j : Nat) : ((lens L).take j).sum = (off L j : Int) := by
  unfold lens off
  rw [← List.map_take]
  exact lens_sum (L.take j)
theorem lens_len (L : List (List Int)) : (lens L).length = L.length := by simp [lens]
theorem lens_get (L : List (List Int)) (j : Nat) (hj : j < L.length) : (lens L)[j]'(by rw [lens_len]; exact hj) = ((L.getD j []).length : Int) := by
  simp [lens, List.getD, hj]
theorem lens_succ (L : List (List Int)) (j : Nat) (hj : j < L.length) : (lens L).take (j + 1) = (lens L).take j ++ [((L.getD j []).length : Int)] := by
  rw [List.take_succ_eq_append_getElem (by rw [lens_len]; exact hj), lens_get L j hj]
theorem lens_ne (b : List Int) : ∀ n ∈ lens (ls b), 1 ≤ n := by
  intro n hn
  obtain ⟨l, hl, rfl⟩ := List.mem_map.1 hn
  have := ls_ne b l hl
  omega
theorem cnt_mono (l : List (Int × Int)) : ∀ (p a a' : Int), a ≤ a' → cnt l p a ≤ cnt l p a' := by
  induction l with
  | nil => intro p a a' _; exact Int.le_refl _
  | cons u t ih =>
    intro p a a' h
    have h1 := ih (p + u.2) a a' h
    have h2 := cnt_nonneg t (p + u.2) a'
    unfold cnt
    by_cases c1 : p < a
    · rw [if_pos c1, if_pos (by omega)]
      omega
    · rw [if_neg c1]
      split <;> omega
theorem collect {b : List Int} (hb : b.length ≤ 300) : ∀ (d k j : Nat), (ls b).length - j = d → j ≤ (ls b).length → d < k →
    redpenlaw03_LinesCover.l0 k b [b] (mkS 0 ((lens (ls b)).take j)) ((ls b).length : Int) j = redpenlaw03_LinesCover.l1 (k - 1 - d) b [b] (mkS 0 (lens (ls b))) (b.length : Int) 0 0 0 := by
  have hn := ls_count b
  intro d
  induction d with
  | zero =>
    intro k j hd hj hk
    obtain ⟨k, rfl⟩ : ∃ m, k = m + 1 := ⟨k - 1, by omega⟩
    simp only [redpenlaw03_LinesCover.l0]
    rw [if_neg (by omega), List.take_of_length_le (by rw [lens_len]; omega), show k + 1 - 1 - 0 = k by omega]
  | succ d ih =>
    intro k j hd hj hk
    obtain ⟨k, rfl⟩ : ∃ m, k = m + 1 := ⟨k - 1, by omega⟩
    have hlt : j < (ls b).length := by omega
    have ew : wrap64 ((j : Int) + 1) = ((j + 1 : Nat) : Int) := by rw [w64 (by omega) (by omega)]; omega
    have hs := span_in (b := b) (by omega) j hlt
    have hr := ih k (j + 1) (by omega) (by omega) (by omega)
    have hm : mkS 0 ((lens (ls b)).take (j + 1)) = mkS 0 ((lens (ls b)).take j) ++ [⟨(off (ls b) j : Int), (((ls b).getD j []).length : Int)⟩] := by
      rw [lens_succ _ _ hlt, mkS_snoc, lens_take, Int.zero_add]
    have hl : (mkS 0 ((lens (ls b)).take j)).length < 8796093022208 := by rw [mkS_len, List.length_take, lens_len]; omega
    have g1 : (j : Int) < ((ls b).length : Int) := by omega
    have e1 : k + 1 - 1 - (d + 1) = k - 1 - d := by omega
    simp only [redpenlaw03_LinesCover.l0]
    rw [if_pos g1, ew]
    rw [show ((j : Int) + 1) = ((j + 1 : Nat) : Int) by omega] at hs
    refine ob hs ?_
    rw [if_pos hl, e1, ← hr, hm]
theorem has_in (a n p : Int) (h0 : 0 ≤ a) (hn : 0 ≤ n) (hn2 : n ≤ 65536) (ha : a ≤ 65536) (h1 : a ≤ p) (h2 : p < a + n) : span_Has.f a n p = some true := by
  unfold span_Has.f
  have : span_sound.f a n = some true := by
    unfold span_sound.f
    rw [if_pos h0, if_pos hn, if_pos hn2, decide_eq_true ha]
  refine ob this ?_
  rw [if_pos rfl, if_pos h1]
  refine ob (show span_end.f a n = some (a + n) from ?_) ?_
  · unfold span_end.f
    rw [w64 (by omega) (by omega)]
  · rw [decide_eq_true h2]
/-- The place of a byte. -/
def plc (b : List Int) (a : Int) : Int := 1 + cnt (us (b.drop (startOf b a).toNat)) (startOf b a) a
theorem plc_pos (b : List Int) (a : Int) : 1 ≤ plc b a := by
  unfold plc
  have := cnt_nonneg (us (b.drop (startOf b a).toNat)) (startOf b a) a
  omega
theorem rise {b : List Int} (a : Nat) (h : a + 1 < b.length) : lineOf b (a : Int) ≤ lineOf b ((a + 1 : Nat) : Int) ∧ (lineOf b (a : Int) = lineOf b ((a + 1 : Nat) : Int) → plc b (a : Int) ≤ plc b ((a + 1 : Nat) : Int)) := by
  obtain ⟨j, hj, j1, j2⟩ := line_find (b := b) (a := (a : Int)) (by omega) (by omega)
  obtain ⟨i, hi, i1, i2⟩ := line_find (b := b) (a := ((a + 1 : Nat) : Int)) (by omega) (by omega)
  have e1 := lineOf_at j hj j1 (.inl j2)
  have e2 := lineOf_at i hi i1 (.inl i2)
  have hji : j ≤ i := by
    rcases Nat.lt_or_ge i j with hlt | hge
    · have := off_mono (ls b) (i + 1) j hlt
      omega
    · exact hge
  refine ⟨by rw [e1, e2]; omega, fun he => ?_⟩
  have hij : j = i := by rw [e1, e2] at he; omega
  subst hij
  unfold plc
  rw [startOf_at j hj e1, startOf_at j hj e2]
  have := cnt_mono (us (b.drop (off (ls b) j : Int).toNat)) (off (ls b) j : Int) (a : Int) ((a + 1 : Nat) : Int) (by omega)
  omega
theorem walk_all {b : List Int} (hB : BT b) (hb : b.length ≤ 300) : ∀ (d k a : Nat) (x y : Int), b.length - a = d → a ≤ b.length → d + 400 ≤ k →
    (x = 0 ∧ y = 0 ∨ 0 < a ∧ x = lineOf b ((a - 1 : Nat) : Int) ∧ y = plc b ((a - 1 : Nat) : Int)) →
    redpenlaw03_LinesCover.l1 k b [b] (mkS 0 (lens (ls b))) (b.length : Int) a x y = some true := by
  have hn := ls_count b
  intro d
  induction d with
  | zero =>
    intro k a x y hd ha hk hx
    obtain ⟨k, rfl⟩ : ∃ m, k = m + 1 := ⟨k - 1, by omega⟩
    simp only [redpenlaw03_LinesCover.l1]
    rw [if_neg (by omega)]
    have hs := lens_sum (ls b)
    rw [ls_flat] at hs
    have := cover_eq (k := k) (lens (ls b)) (lens_ne b) (by omega) (by rw [lens_len]; omega) (by rw [lens_len]; omega)
    rw [hs] at this
    exact ob this rfl
  | succ d ih =>
    intro k a x y hd ha hk hx
    obtain ⟨k, rfl⟩ : ∃ m, k = m + 1 := ⟨k - 1, by omega⟩
    have hlt : a < b.length := by omega
    have ew : wrap64 ((a : Int) + 1) = ((a + 1 : Nat) : Int) := by rw [w64 (by omega) (by omega)]; omega
    obtain ⟨j, hj, j1, j2⟩ := line_find (b := b) (a := (a : Int)) (by omega) (by omega)
    have e1 := lineOf_at j hj j1 (.inl j2)
    have hl := line_in (b := b) (by omega) (a : Int) (by omega) (by omega)
    have hp := place_in hB (by omega) (a : Int) (by omega) (by omega) (k := k) (by omega)
    have hs := span_in (b := b) (by omega) j hj
    have ho := off_succ (ls b) j hj
    have ho2 := off_le (ls b) (j + 1)
    rw [ls_flat] at ho2
    have hh := has_in (off (ls b) j : Int) (((ls b).getD j []).length : Int) (a : Int) (by omega) (by omega) (by omega) (by omega) j1 (by omega)
    have hr := ih k (a + 1) (lineOf b (a : Int)) (plc b (a : Int)) (by omega) (by omega) (by omega) (.inr ⟨by omega, by rw [Nat.add_sub_cancel]; exact ⟨rfl, rfl⟩⟩)
    have hpp := plc_pos b (a : Int)
    have hle : x ≤ lineOf b (a : Int) ∧ (lineOf b (a : Int) = x → y ≤ plc b (a : Int)) := by
      rcases hx with ⟨rfl, rfl⟩ | ⟨h0, hx1, hy1⟩
      · exact ⟨by omega, fun _ => by omega⟩
      · have := rise (b := b) (a - 1) (by omega)
        rw [show a - 1 + 1 = a by omega, ← hx1, ← hy1] at this
        exact ⟨this.1, fun h => this.2 h.symm⟩
    have g1 : (a : Int) < (b.length : Int) := by omega
    have g2 : ¬ plc b (a : Int) < 1 := by omega
    have g3 : ¬ lineOf b (a : Int) < x := by omega
    simp only [redpenlaw03_LinesCover.l1]
    rw [if_pos g1]
    refine ob hl ?_
    refine ob hp ?_
    change (lines_Index_Span.f [b] (lineOf b (a : Int))).bind _ = _
    rw [e1]
    refine ob hs ?_
    rw [if_pos rfl]
    refine ob hh ?_
    rw [if_pos rfl, ← e1, if_pos rfl, if_neg g3, ew]
    change (if lineOf b (a : Int) = x then (if plc b (a : Int) < y then (some false) else (if plc b (a : Int) < 1 then (some false) else redpenlaw03_LinesCover.l1 k b [b] (mkS 0 (lens (ls b))) (b.length : Int) ((a + 1 : Nat) : Int) (lineOf b (a : Int)) (plc b (a : Int)))) else (if plc b (a : Int) < 1 then (some false) else redpenlaw03_LinesCover.l1 k b [b] (mkS 0 (lens (ls b))) (b.length : Int) ((a + 1 : Nat) : Int) (lineOf b (a : Int)) (plc b (a : Int)))) = some true
    rw [if_neg g2, hr]
    by_cases hq : lineOf b (a : Int) = x
    · rw [if_pos hq, if_neg (by have := hle.2 hq; omega)]
    · rw [if_neg hq]
theorem LinesCover : redpenlaw03_LinesCover.Pure := by
  intro b _ _ hw
  have hB := BT_of_wf hw
  obtain ⟨k, hk⟩ : ∃ k : Nat, 2000 ≤ k := ⟨2000, Nat.le_refl _⟩
  refine ⟨k, ?_⟩
  unfold redpenlaw03_LinesCover.f
  refine ob (lines_awake (by omega)) ?_
  rw [if_pos rfl]
  by_cases hbig : (b.length : Int) > 300
  · rw [if_pos hbig]
  have hb : b.length ≤ 300 := by omega
  have hn := ls_count b
  rw [if_neg hbig]
  refine ob (new_eq (by omega)) ?_
  refine ob (nlines_eq (by omega)) ?_
  have h1 := collect hb (ls b).length k 0 (by omega) (by omega) (by omega)
  have h2 := walk_all hB hb b.length (k - 1 - (ls b).length) 0 0 0 (by omega) (by omega) (by omega) (.inl ⟨rfl, rfl⟩)
  rw [← h2]
  exact h1
end Go.Proofs.Ytgjnelloegkicaa.Pure
