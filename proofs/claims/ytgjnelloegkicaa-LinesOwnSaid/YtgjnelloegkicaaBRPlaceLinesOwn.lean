/- The reference's line and place are the index's. -/
import Derived.Test.YtgjnelloegkicaaBRLinesLinesOwn
import Derived.Test.YtgjnelloegkicaaBRefLinesOwn
namespace Go.Proofs.Ytgjnelloegkicaa.Pure
open Go.RowKit Go.Proofs.Ytgjnelloegkicaa.PLinesOwn Go.Proofs.YtgjnelloegkicaaW.PrintWords Go.Proofs.YtgjnelloegkicaaW.PrintLast
open Go.Proofs.Ytgjnelloegkicaa.M Go.Proofs.Ytgjnelloegkicaa.X

theorem refline_from {b : List Int} (hb : b.length ≤ 2000) (a : Int) : ∀ (d k i : Nat), (ls b).length - i = d → i < (ls b).length → d < k → (off (ls b) i : Int) ≤ a →
    redpenref01_Line.l0 k a ((ls b).map strOfNums) (off (ls b) i : Int) i = some (lineOf b a, startOf b a) := by
  have hn := ls_count b
  intro d
  induction d with
  | zero => intro k i hd hi hk; omega
  | succ d ih =>
    intro k i hd hi hk ho
    obtain ⟨k, rfl⟩ : ∃ m, k = m + 1 := ⟨k - 1, by omega⟩
    have ew : wrap64 ((i : Int) + 1) = ((i + 1 : Nat) : Int) := by rw [w64 (by omega) (by omega)]; omega
    have ho1 := off_succ (ls b) i hi
    have ho2 := off_le (ls b) (i + 1)
    rw [ls_flat] at ho2
    have hsz : ((rdOf ByteArray.empty ((ls b).map strOfNums) (i : Int)).size : Int) = (((ls b).getD i []).length : Int) := by
      rw [str_at _ _ hi, strOfNums_size]
    have e2 : wrap64 ((off (ls b) i : Int) + (((ls b).getD i []).length : Int)) = (off (ls b) (i + 1) : Int) := by rw [w64 (by omega) (by omega)]; omega
    have e3 : wrap64 ((((ls b).map strOfNums).length : Int) - 1) = ((ls b).length : Int) - 1 := by rw [List.length_map, w64 (by omega) (by omega)]
    have g1 : (i : Int) < (((ls b).map strOfNums).length : Int) := by rw [List.length_map]; omega
    have g2 : (0 : Int) ≤ (i : Int) := by omega
    simp only [redpenref01_Line.l0]
    rw [if_pos g1, if_pos g2, hsz, e2, e3, ew]
    clear hsz e2 e3 ew
    by_cases c1 : a < (off (ls b) (i + 1) : Int)
    · have e := lineOf_at i hi ho (.inl c1)
      rw [if_pos c1, startOf_at i hi e, e]
      congr 2
    · rw [if_neg c1]
      by_cases c2 : i + 1 = (ls b).length
      · have e := lineOf_at i hi ho (.inr c2)
        rw [if_pos (by omega), startOf_at i hi e, e]
        congr 2
      · rw [if_neg (by omega)]
        exact ih k (i + 1) (by omega) (by omega) (by omega) (by omega)
theorem refline_eq {b : List Int} (hb : b.length ≤ 2000) (a : Int) (h0 : 0 ≤ a) (h1 : a ≤ (b.length : Int)) {k : Nat} (hk : 3000 ≤ k) : redpenref01_Line.f k b a = some (lineOf b a, startOf b a) := by
  have hn := ls_count b
  unfold redpenref01_Line.f
  refine ob (reflines_eq (by omega) (by omega)) ?_
  by_cases h : 0 < (ls b).length
  · have := refline_from hb a (ls b).length k 0 (by omega) h (by omega) (by rw [off_zero]; omega)
    rw [off_zero] at this
    exact this
  · have hz : ls b = [] := List.length_eq_zero_iff.1 (by omega)
    have hb0 : b = [] := by rw [← ls_flat b, hz]; rfl
    subst hb0
    have ha : a = 0 := by simp at h1; omega
    subst ha
    obtain ⟨k, rfl⟩ : ∃ m, k = m + 1 := ⟨k - 1, by omega⟩
    simp only [redpenref01_Line.l0]
    rw [if_neg (by decide)]
    decide
theorem pos_succ (U : List (Int × Int)) (i : Nat) (hi : i < U.length) : pos U (i + 1) = pos U i + (U[i]).2 := by
  unfold pos
  rw [List.take_succ_eq_append_getElem hi, List.map_append, List.sum_append]
  simp
theorem refplace_from {c : List Int} (hc : c.length ≤ 2000) (a ln : Int) (s : Nat) (hs : s ≤ 2000) : ∀ (d k i : Nat) (col : Int), (us c).length - i = d → i ≤ (us c).length → d < k → 0 ≤ col → col ≤ i + 1 →
    redpenref01_Place.l0 k a ln s col (mkU 0 (us c)) i = some (ln, col + cnt ((us c).drop i) (s + pos (us c) i) a) := by
  have hl := us_len c
  intro d
  induction d with
  | zero =>
    intro k i col hd hi hk _ _
    obtain ⟨k, rfl⟩ : ∃ m, k = m + 1 := ⟨k - 1, by omega⟩
    simp only [redpenref01_Place.l0]
    rw [if_neg (by rw [mkU_len]; omega), List.drop_eq_nil_of_le (by omega)]
    simp [cnt]
  | succ d ih =>
    intro k i col hd hi hk h0 h1
    obtain ⟨k, rfl⟩ : ∃ m, k = m + 1 := ⟨k - 1, by omega⟩
    have hlt : i < (us c).length := by omega
    have ew : wrap64 ((i : Int) + 1) = ((i + 1 : Nat) : Int) := by rw [w64 (by omega) (by omega)]; omega
    have ec : wrap64 (col + 1) = col + 1 := w64 (by omega) (by omega)
    have p0 := pos_nonneg (us_each c) i
    have p1 := pos_le c i
    have hr := ih k (i + 1) (col + 1) (by omega) (by omega) (by omega) (by omega) (by omega)
    have hrd : (rd_T29 (mkU 0 (us c)) (i : Int)).f1.f0 = pos (us c) i := by
      unfold rd_T29
      rw [Int.toNat_natCast, mkU_get 0 (us c) i hlt]
      simp
    have e2 : wrap64 ((s : Int) + pos (us c) i) = (s : Int) + pos (us c) i := w64 (by omega) (by omega)
    have hps := pos_succ (us c) i hlt
    have g1 : (i : Int) < ((mkU 0 (us c)).length : Int) := by rw [mkU_len]; omega
    have g2 : (0 : Int) ≤ (i : Int) := by omega
    have hdr : (us c).drop i = (us c)[i] :: (us c).drop (i + 1) := List.drop_eq_getElem_cons hlt
    simp only [redpenref01_Place.l0]
    rw [if_pos g1, if_pos g2, hrd, e2, ec, ew, hr, hdr, hps]
    simp only [cnt]
    by_cases hq : (s : Int) + pos (us c) i < a
    · rw [if_pos hq, if_pos hq, Int.add_assoc, Int.add_assoc]
    · rw [if_neg hq, if_neg hq, Int.add_zero]
theorem refplace_eq {b : List Int} (hB : BT b) (hb : b.length ≤ 2000) (a : Int) (h0 : 0 ≤ a) (h1 : a ≤ (b.length : Int)) {k : Nat} (hk : 3000 ≤ k) :
    redpenref01_Place.f k b a = some (lineOf b a, 1 + cnt (us (b.drop (startOf b a).toNat)) (startOf b a) a) := by
  obtain ⟨s, hs, hsb⟩ := startOf_nat b a
  unfold redpenref01_Place.f
  refine ob (refline_eq hb a h0 h1 hk) ?_
  simp only
  rw [hs, Int.toNat_natCast, if_pos (by omega), if_pos (by omega)]
  have hl : (b.drop s).length ≤ 2000 := by rw [List.length_drop]; omega
  have hu := us_len (b.drop s)
  refine ob (refunits_eq (hB.drop s) (by omega) (by omega)) ?_
  have := refplace_from hl a (lineOf b a) s (by omega) (us (b.drop s)).length k 0 1 (by omega) (by omega) (by omega) (by omega) (by omega)
  rw [List.drop_zero, pos_zero, Int.add_zero] at this
  exact this
end Go.Proofs.Ytgjnelloegkicaa.Pure
