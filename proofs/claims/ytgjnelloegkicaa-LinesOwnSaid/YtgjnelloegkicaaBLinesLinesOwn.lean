/- What the index of lines tells, over plain lines. -/
import Derived.Test.YtgjnelloegkicaaBNextLinesOwn
import Derived.Test.YtgjnelloegkicaaMLines2
namespace Go.Proofs.Ytgjnelloegkicaa.Pure
open Go.RowKit Go.Proofs.Ytgjnelloegkicaa.PLinesOwn Go.Proofs.YtgjnelloegkicaaW.PrintWords Go.Proofs.YtgjnelloegkicaaW.PrintLast
open Go.Proofs.Ytgjnelloegkicaa.M Go.Proofs.Ytgjnelloegkicaa.X

theorem new_eq {b : List Int} (hl : b.length < 100000000000) : lines_New.f b = some [b] := by
  unfold lines_New.f
  rw [if_pos hl]
theorem nlines_eq {b : List Int} (hl : b.length < 100000000000) : lines_Index_Lines.f [b] = some ((ls b).length : Int) := by
  show (if b.length < 100000000000 then some (nlines b) else none) = _
  rw [if_pos hl, nlines_ls]
theorem span_in {b : List Int} (hl : b.length < 100000000000) (j : Nat) (hj : j < (ls b).length) : lines_Index_Span.f [b] ((j : Int) + 1) = some ((off (ls b) j : Int), (((ls b).getD j []).length : Int), 0) := by
  show (if b.length < 100000000000 then (if (j : Int) + 1 < 1 then some (0, 0, 2) else if nlines b < (j : Int) + 1 then some (0, 0, 2) else some ((spanOf b ((j : Int) + 1)).1, (spanOf b ((j : Int) + 1)).2, 0)) else none) = _
  have h2 := begins_next b j hj
  have h3 := off_succ (ls b) j hj
  rw [if_pos hl, if_neg (by omega), nlines_ls, if_neg (by omega)]
  unfold spanOf
  simp only
  rw [show ((j : Int) + 1).toNat - 1 = j by omega, show ((j : Int) + 1).toNat = j + 1 by omega, begins_lt b j hj, h2, h3]
  congr 3
  omega
theorem span_out {b : List Int} (hl : b.length < 100000000000) (a : Int) (h : a < 1 ∨ ((ls b).length : Int) < a) : lines_Index_Span.f [b] a = some (0, 0, 2) := by
  show (if b.length < 100000000000 then (if a < 1 then some (0, 0, 2) else if nlines b < a then some (0, 0, 2) else some ((spanOf b a).1, (spanOf b a).2, 0)) else none) = _
  rw [if_pos hl, nlines_ls]
  by_cases h1 : a < 1
  · rw [if_pos h1]
  · rw [if_neg h1, if_pos (by omega)]
theorem line_in {b : List Int} (hl : b.length < 100000000000) (a : Int) (h0 : 0 ≤ a) (h1 : a ≤ (b.length : Int)) : lines_Index_Line.f [b] a = some (lineOf b a, 0) := by
  show (if b.length < 100000000000 then (if a < 0 then some (0, 2) else if (b.length : Int) < a then some (0, 2) else some (lineOf b a, 0)) else none) = _
  rw [if_pos hl, if_neg (by omega), if_neg (by omega)]
theorem line_out {b : List Int} (hl : b.length < 100000000000) (a : Int) (h : a < 0 ∨ (b.length : Int) < a) : lines_Index_Line.f [b] a = some (0, 2) := by
  show (if b.length < 100000000000 then (if a < 0 then some (0, 2) else if (b.length : Int) < a then some (0, 2) else some (lineOf b a, 0)) else none) = _
  rw [if_pos hl]
  by_cases h1 : a < 0
  · rw [if_pos h1]
  · rw [if_neg h1, if_pos (by omega)]
/-- How many signs begin ahead of a place. -/
def cnt : List (Int × Int) → Int → Int → Int
  | [], _, _ => 0
  | u :: t, p, a => if p < a then 1 + cnt t (p + u.2) a else 0
theorem cnt_zero (l : List (Int × Int)) (p a : Int) (h : a ≤ p) : cnt l p a = 0 := by
  cases l with
  | nil => rfl
  | cons u t => unfold cnt; rw [if_neg (by omega)]
theorem cnt_nonneg (l : List (Int × Int)) : ∀ (p a : Int), 0 ≤ cnt l p a := by
  induction l with
  | nil => intro p a; exact Int.le_refl _
  | cons u t ih => intro p a; unfold cnt; have := ih (p + u.2) a; split <;> omega
theorem nx_nat {b : List Int} (hb : b ≠ []) : ∃ m : Nat, (nx b).2 = (m : Int) ∧ 1 ≤ m ∧ m ≤ b.length ∧ m ≤ 4 := by
  obtain ⟨h1, h2, h3⟩ := nx_len hb
  generalize (nx b).2 = x at h1 h2 h3
  exact ⟨x.toNat, by omega, by omega, by omega, by omega⟩
theorem place_from {b : List Int} (hB : BT b) (hl : b.length < 100000000000) (a ln : Int) (ha : a ≤ (b.length : Int)) : ∀ (n k i : Nat) (col : Int), b.length - i ≤ n → i ≤ b.length → n + 8 ≤ k → 0 ≤ col → col ≤ i + 1 →
    lines_Index_Place.l0 k b a ln col i = some (ln, col + cnt (us (b.drop i)) i a, 0) := by
  intro n
  induction n with
  | zero =>
    intro k i col hd hi hk h0 hc
    obtain ⟨k, rfl⟩ : ∃ m, k = m + 1 := ⟨k - 1, by omega⟩
    simp only [lines_Index_Place.l0]
    rw [if_neg (by omega), cnt_zero _ _ _ (by omega), Int.add_zero]
  | succ n ih =>
    intro k i col hd hi hk h0 hc
    obtain ⟨k, rfl⟩ : ∃ m, k = m + 1 := ⟨k - 1, by omega⟩
    by_cases hia : (i : Int) < a
    · have hne : b.drop i ≠ [] := by
        intro h
        have := congrArg List.length h
        rw [List.length_drop, List.length_nil] at this
        omega
      obtain ⟨m, hm, m1, m2, m3⟩ := nx_nat hne
      rw [List.length_drop] at m2
      have HM := Aside0.mk hm
      clear hm
      have e1 : wrap64 (col + 1) = col + 1 := w64 (by omega) (by omega)
      have e2 : wrap64 ((i : Int) + (m : Int)) = ((i + m : Nat) : Int) := by
        have e3 : (i : Int) + (m : Int) = ((i + m : Nat) : Int) := by omega
        rw [e3]
        exact w64 (by omega) (by omega)
      have g1 : b.length - (i + m) ≤ n := by omega
      have g2 : i + m ≤ b.length := by omega
      have g3 : n + 8 ≤ k := by omega
      have g4 : 0 ≤ col + 1 := by omega
      have g5 : col + 1 ≤ ((i + m : Nat) : Int) + 1 := by omega
      have g6 : 0 ≤ (i : Int) := by omega
      have g7 : (i : Int) ≤ (b.length : Int) := by omega
      have g8 : 6 ≤ k := by omega
      have g9 : ((i + m : Nat) : Int) = (i : Int) + (m : Int) := by omega
      have hr := ih k (i + m) (col + 1) g1 g2 g3 g4 g5
      have hm := HM.out
      have hu := us_cons hne
      rw [hm, Int.toNat_natCast, List.drop_drop] at hu
      have hu2 : us (b.drop i) = ((nx (b.drop i)).1, (m : Int)) :: us (b.drop (i + m)) := by
        rw [hu]
        congr 1
        exact Prod.ext rfl hm
      simp only [lines_Index_Place.l0]
      rw [if_pos hia, if_pos g6, if_pos g7, Int.toNat_natCast]
      refine ob (next_eq g8 (hB.drop i)) ?_
      rw [hm, e1, e2, hr, hu2, g9]
      simp only [cnt]
      rw [if_pos hia, Int.add_assoc]
    · simp only [lines_Index_Place.l0]
      rw [if_neg hia, cnt_zero _ _ _ (by omega), Int.add_zero]
/-- Where the line of a place begins. -/
def startOf (b : List Int) (a : Int) : Int := rd (begins b) (lineOf b a - 1)
theorem startOf_nat (b : List Int) (a : Int) : ∃ s : Nat, startOf b a = (s : Int) ∧ s ≤ b.length := by
  have := begins_at b (lineOf b a - 1).toNat
  refine ⟨(startOf b a).toNat, ?_, ?_⟩ <;> (unfold startOf rd; omega)
theorem place_in {b : List Int} (hB : BT b) (hl : b.length < 100000000000) (a : Int) (h0 : 0 ≤ a) (h1 : a ≤ (b.length : Int)) {k : Nat} (hk : b.length + 8 ≤ k) :
    lines_Index_Place.f k [b] a = some (lineOf b a, 1 + cnt (us (b.drop (startOf b a).toNat)) (startOf b a) a, 0) := by
  obtain ⟨s, hs, hsb⟩ := startOf_nat b a
  unfold lines_Index_Place.f
  refine ob (line_in hl a h0 h1) ?_
  rw [if_pos rfl]
  show lines_Index_Place.l0 k b a (lineOf b a) 1 (startOf b a) = _
  rw [hs, Int.toNat_natCast]
  exact place_from hB hl a (lineOf b a) h1 b.length k s 1 (by omega) hsb hk (by omega) (by omega)
theorem place_out {b : List Int} (hl : b.length < 100000000000) (a : Int) (h : a < 0 ∨ (b.length : Int) < a) (k : Nat) : lines_Index_Place.f k [b] a = some (0, 0, 2) := by
  unfold lines_Index_Place.f
  refine ob (line_out hl a h) ?_
  rfl
theorem lines_awake {k : Nat} (hk : 20 ≤ k) : redpenlaw03_Awake.f k = some true := by
  unfold redpenlaw03_Awake.f
  refine ob (a := [97, 10, 98, 99]) (by decide) ?_
  refine ob (new_eq (b := [97, 10, 98, 99]) (by decide)) ?_
  refine ob (place_in (b := [97, 10, 98, 99]) (by decide) (by decide) 3 (by decide) (by decide) (by simp; omega)) ?_
  refine ob (a := [97, 10]) (by decide) ?_
  refine ob (new_eq (b := [97, 10]) (by decide)) ?_
  refine ob (place_in (b := [97, 10]) (by decide) (by decide) 2 (by decide) (by decide) (by simp; omega)) ?_
  refine ob (nlines_eq (b := [97, 10, 98, 99]) (by decide)) ?_
  decide
theorem lineOf_at {b : List Int} {a : Int} (j : Nat) (hj : j < (ls b).length) (h1 : (off (ls b) j : Int) ≤ a) (h2 : a < (off (ls b) (j + 1) : Int) ∨ j + 1 = (ls b).length) : lineOf b a = (j : Int) + 1 := by
  have hc := begins_count b
  have hbl := begins_len b
  have key : ∀ t, t < j + 1 → decide ((begins b).getD t 0 ≤ a) = true := by
    intro t ht
    rw [begins_lt b t (by omega)]
    have := off_mono (ls b) t j (by omega)
    exact decide_eq_true (by omega)
  have hu : (j + 1 = upto b a) ∨ ((ls b).length = j + 1 ∧ (begins b).length = upto b a) := by
    by_cases h : a < (off (ls b) (j + 1) : Int)
    · left
      unfold upto
      refine (countP_cut (by split at hc <;> omega) key (fun t ht ht2 => decide_eq_false ?_)).symm
      have hm := begins_mono b (j + 1) t ht ht2
      have hn := begins_next b j hj
      rw [if_pos (by omega)] at hn
      omega
    · right
      refine ⟨by omega, ?_⟩
      unfold upto
      refine (countP_cut (Nat.le_refl _) (fun t ht => decide_eq_true ?_) (fun t ht ht2 => by omega)).symm
      have := begins_at b t
      have he : (off (ls b) (j + 1) : Int) = b.length := by rw [show j + 1 = (ls b).length by omega, off_end]
      omega
  unfold lineOf
  rw [nlines_ls]
  rcases hu with hu | ⟨hu1, hu2⟩
  · rw [← hu]
    (repeat' split) <;> omega
  · rw [← hu2]
    split at hc <;> (repeat' split) <;> omega
theorem startOf_at {b : List Int} {a : Int} (j : Nat) (hj : j < (ls b).length) (h : lineOf b a = (j : Int) + 1) : startOf b a = (off (ls b) j : Int) := by
  unfold startOf rd
  rw [h, show ((j : Int) + 1 - 1).toNat = j by omega, begins_lt b j hj]
/-- Each place lies on one. -/
theorem line_find {b : List Int} {a : Int} (h0 : 0 ≤ a) (h1 : a < (b.length : Int)) : ∃ j, j < (ls b).length ∧ (off (ls b) j : Int) ≤ a ∧ a < (off (ls b) (j + 1) : Int) := by
  have : ∀ n, n ≤ (ls b).length → a < (off (ls b) n : Int) → ∃ j, j < (ls b).length ∧ (off (ls b) j : Int) ≤ a ∧ a < (off (ls b) (j + 1) : Int) := by
    intro n
    induction n with
    | zero => intro _ h; rw [off_zero] at h; omega
    | succ n ih =>
      intro hn h
      by_cases hc : a < (off (ls b) n : Int)
      · exact ih (by omega) hc
      · exact ⟨n, by omega, by omega, h⟩
  exact this (ls b).length (Nat.le_refl _) (by rw [off_end]; exact h1)
end Go.Proofs.Ytgjnelloegkicaa.Pure
