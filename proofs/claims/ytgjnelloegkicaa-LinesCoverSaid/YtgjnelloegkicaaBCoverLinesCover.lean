/- Spans that lie one behind the other cover all: the printed span.Cover. -/
import Derived.Test.YtgjnelloegkicaaPLinesCoverx
import Derived.Test.YtgjnelloegkicaaMStr
namespace Go.Proofs.Ytgjnelloegkicaa.PLinesCover
open Go.RowKit Go.Proofs.YtgjnelloegkicaaW.PrintWords Go.Proofs.YtgjnelloegkicaaW.PrintLast Go.Proofs.YtgjnelloegkicaaW.PrintMore
open Go.Proofs.Ytgjnelloegkicaa.M Go.Proofs.Ytgjnelloegkicaa.X

/-- Spans of these lengths, one behind the other. -/
def mkS : Int → List Int → List S27
  | _, [] => []
  | a, n :: l => ⟨a, n⟩ :: mkS (a + n) l
theorem mkS_len (a : Int) (l : List Int) : (mkS a l).length = l.length := by
  induction l generalizing a with
  | nil => rfl
  | cons x l ih => simp [mkS, ih]
theorem mkS_get (a : Int) (l : List Int) (i : Nat) (h : i < l.length) : (mkS a l).getD i z27 = ⟨a + (l.take i).sum, l.getD i 0⟩ := by
  induction l generalizing a i with
  | nil => simp at h
  | cons x l ih =>
    cases i with
    | zero => simp [mkS]
    | succ i =>
      have := ih (a + x) i (by simpa using h)
      simp only [mkS, List.getD_cons_succ, this, List.take_succ_cons, List.sum_cons]
      congr 1
      omega
theorem mkS_snoc (a : Int) (l : List Int) (x : Int) : mkS a (l ++ [x]) = mkS a l ++ [⟨a + l.sum, x⟩] := by
  induction l generalizing a with
  | nil => simp [mkS]
  | cons y l ih =>
    simp only [List.cons_append, mkS, ih, List.sum_cons]
    congr 4
    omega
theorem sum_take_succ (l : List Int) (i : Nat) (h : i < l.length) : (l.take (i + 1)).sum = (l.take i).sum + l.getD i 0 := by
  rw [List.take_succ_eq_append_getElem h, List.sum_append, List.getD_eq_getElem?_getD, List.getElem?_eq_getElem h]
  simp
theorem sum_take_nonneg {l : List Int} (h : ∀ n ∈ l, 1 ≤ n) : ∀ i, 0 ≤ (l.take i).sum ∧ (l.take i).sum ≤ l.sum := by
  induction l with
  | nil => simp
  | cons x l ih =>
    intro i
    have hx := h x List.mem_cons_self
    have ih := ih (fun n hn => h n (List.mem_cons_of_mem _ hn))
    cases i with
    | zero => have := (ih l.length).1; rw [List.take_length] at this; simp; omega
    | succ i => have := ih i; simp only [List.take_succ_cons, List.sum_cons]; omega
theorem cover_from (l : List Int) (h1 : ∀ n ∈ l, 1 ≤ n) (hs : l.sum ≤ 65536) (hl : l.length ≤ 65536) : ∀ (d k i : Nat), l.length - i = d → i ≤ l.length → d < k →
    span_Cover.l0 k l.sum (l.take i).sum (mkS 0 l) (l.length : Int) (i : Int) = some true := by
  intro d
  induction d with
  | zero =>
    intro k i hd hi hk
    obtain ⟨k, rfl⟩ : ∃ m, k = m + 1 := ⟨k - 1, by omega⟩
    simp only [span_Cover.l0]
    rw [if_neg (by omega), List.take_of_length_le (by omega)]
    simp
  | succ d ih =>
    intro k i hd hi hk
    obtain ⟨k, rfl⟩ : ∃ m, k = m + 1 := ⟨k - 1, by omega⟩
    have hlt : i < l.length := by omega
    have ew : wrap64 ((i : Int) + 1) = ((i + 1 : Nat) : Int) := by rw [w64 (by omega) (by omega)]; omega
    have hp := sum_take_nonneg h1 i
    have hp1 := sum_take_nonneg h1 (i + 1)
    have hst := sum_take_succ l i hlt
    have hn : 1 ≤ l.getD i 0 := by
      rw [List.getD_eq_getElem?_getD, List.getElem?_eq_getElem hlt]
      exact h1 _ (List.getElem_mem hlt)
    have hr : rd_T27 (mkS 0 l) (i : Int) = ⟨0 + (l.take i).sum, l.getD i 0⟩ := by
      unfold rd_T27
      rw [Int.toNat_natCast]
      exact mkS_get 0 l i hlt
    have hr0 : (rd_T27 (mkS 0 l) (i : Int)).f0 = (l.take i).sum := by rw [hr]; exact Int.zero_add _
    have hr1 : (rd_T27 (mkS 0 l) (i : Int)).f1 = l.getD i 0 := by rw [hr]
    clear hr
    have hso : span_sound.f (rd_T27 (mkS 0 l) (i : Int)).f0 (rd_T27 (mkS 0 l) (i : Int)).f1 = some true := by
      rw [hr0, hr1]
      unfold span_sound.f
      rw [if_pos (by omega), if_pos (by omega), if_pos (by omega), decide_eq_true (by omega)]
    have hen : span_end.f (rd_T27 (mkS 0 l) (i : Int)).f0 (rd_T27 (mkS 0 l) (i : Int)).f1 = some (l.take (i + 1)).sum := by
      rw [hr0, hr1]
      unfold span_end.f
      rw [w64 (by omega) (by omega), hst]
    have hz : ¬ (rd_T27 (mkS 0 l) (i : Int)).f1 = 0 := by rw [hr1]; omega
    simp only [span_Cover.l0]
    rw [if_pos (by omega), if_pos (by omega), if_pos (by rw [mkS_len]; omega)]
    refine ob hso ?_
    rw [if_pos rfl, if_pos hr0, if_neg hz]
    refine ob hen ?_
    rw [ew]
    exact ih k (i + 1) (by omega) (by omega) (by omega)
theorem cover_eq {k : Nat} (l : List Int) (h1 : ∀ n ∈ l, 1 ≤ n) (hs : l.sum ≤ 65536) (hl : l.length < k) (hl' : l.length ≤ 65536) : span_Cover.f k (mkS 0 l) l.sum = some true := by
  unfold span_Cover.f
  rw [mkS_len]
  exact cover_from l h1 hs hl' l.length k 0 (by omega) (by omega) hl
end Go.Proofs.Ytgjnelloegkicaa.PLinesCover
