/- Plain facts on lines: where they begin. No program in sight. -/
import Derived.Test.YtokgkhndhlcfpaaMUtf
namespace Go.Proofs.Ytokgkhndhlcfpaa.M

/-- Where lines begin behind a newline, counted from i on. -/
def begs : Int → List Int → List Int
  | _, [] => []
  | i, c :: t => if c = 10 then (i + 1) :: begs (i + 1) t else begs (i + 1) t
def begins (b : List Int) : List Int := 0 :: begs 0 b
theorem begs_snoc (i : Int) (l : List Int) (c : Int) : begs i (l ++ [c]) = begs i l ++ (if c = 10 then [i + l.length + 1] else []) := by
  induction l generalizing i with
  | nil => simp [begs]
  | cons x l ih =>
    simp only [List.cons_append, begs, ih, List.length_cons]
    have : i + 1 + (l.length : Int) + 1 = i + ((l.length + 1 : Nat) : Int) + 1 := by omega
    rw [this]
    split <;> simp
theorem begins_snoc (l : List Int) (c : Int) : begins (l ++ [c]) = begins l ++ (if c = 10 then [(l.length : Int) + 1] else []) := by
  unfold begins
  rw [begs_snoc, Int.zero_add]
  rfl
theorem begs_len (i : Int) (l : List Int) : (begs i l).length ≤ l.length := by
  induction l generalizing i with
  | nil => simp [begs]
  | cons x l ih =>
    have := ih (i + 1)
    unfold begs
    split <;> simp <;> omega
theorem begins_len (l : List Int) : 1 ≤ (begins l).length ∧ (begins l).length ≤ l.length + 1 := by
  have := begs_len 0 l
  unfold begins
  simp
  omega
theorem begs_range (i : Int) (l : List Int) : ∀ x ∈ begs i l, i < x ∧ x ≤ i + l.length := by
  induction l generalizing i with
  | nil => intro x hx; cases hx
  | cons c l ih =>
    intro x hx
    unfold begs at hx
    simp only [List.length_cons]
    split at hx
    · rcases List.mem_cons.1 hx with rfl | hx
      · omega
      · have := ih (i + 1) x hx; omega
    · have := ih (i + 1) x hx; omega
theorem begins_range (b : List Int) : ∀ x ∈ begins b, 0 ≤ x ∧ x ≤ b.length := by
  intro x hx
  unfold begins at hx
  rcases List.mem_cons.1 hx with rfl | hx
  · omega
  · have := begs_range 0 b x hx; omega
theorem begins_at (b : List Int) (i : Nat) : 0 ≤ (begins b).getD i 0 ∧ (begins b).getD i 0 ≤ b.length := by
  rw [List.getD_eq_getElem?_getD]
  by_cases h : i < (begins b).length
  · rw [List.getElem?_eq_getElem h]
    exact begins_range b _ (List.getElem_mem h)
  · rw [List.getElem?_eq_none (by omega)]
    simp
/-- How many lines there are. -/
def nlines (b : List Int) : Int := if (begins b).getD ((begins b).length - 1) 0 = (b.length : Int) then (begins b).length - 1 else (begins b).length
/-- Lines' beginnings rise. -/
theorem begs_sorted (i : Int) (l : List Int) : (begs i l).Pairwise (· < ·) := by
  induction l generalizing i with
  | nil => simp [begs]
  | cons c l ih =>
    unfold begs
    split
    · exact List.Pairwise.cons (fun x hx => (begs_range (i + 1) l x hx).1) (ih (i + 1))
    · exact ih (i + 1)
theorem begins_sorted (b : List Int) : (begins b).Pairwise (· < ·) :=
  List.Pairwise.cons (fun x hx => (begs_range 0 b x hx).1) (begs_sorted 0 b)
theorem begins_mono (b : List Int) (i j : Nat) (h : i ≤ j) (hj : j < (begins b).length) : (begins b).getD i 0 ≤ (begins b).getD j 0 := by
  rcases Nat.lt_or_eq_of_le h with h | rfl
  · have := (List.pairwise_iff_getElem.1 (begins_sorted b)) i j (by omega) hj h
    rw [List.getD_eq_getElem?_getD, List.getD_eq_getElem?_getD, List.getElem?_eq_getElem hj, List.getElem?_eq_getElem (show i < (begins b).length by omega)]
    exact Int.le_of_lt this
  · exact Int.le_refl _
/-- How many lines begin up to a place. -/
def upto (b : List Int) (at_ : Int) : Nat := (begins b).countP (fun x => decide (x ≤ at_))
theorem countP_cut {l : List Int} {p : Int → Bool} {k : Nat} (hk : k ≤ l.length) (h1 : ∀ t, t < k → p (l.getD t 0) = true) (h2 : ∀ t, k ≤ t → t < l.length → p (l.getD t 0) = false) : l.countP p = k := by
  have e : l = l.take k ++ l.drop k := (List.take_append_drop k l).symm
  rw [e, List.countP_append]
  have ha : (l.take k).countP p = k := by
    rw [List.countP_eq_length.2, List.length_take]
    · omega
    · intro x hx
      obtain ⟨t, ht, rfl⟩ := List.mem_iff_getElem.1 hx
      rw [List.length_take] at ht
      have := h1 t (by omega)
      rw [List.getD_eq_getElem?_getD, List.getElem?_eq_getElem (show t < l.length by omega)] at this
      rw [List.getElem_take]
      exact this
  have hb : (l.drop k).countP p = 0 := by
    rw [List.countP_eq_zero]
    intro x hx
    obtain ⟨t, ht, rfl⟩ := List.mem_iff_getElem.1 hx
    rw [List.length_drop] at ht
    have := h2 (k + t) (by omega) (by omega)
    rw [List.getD_eq_getElem?_getD, List.getElem?_eq_getElem (show k + t < l.length by omega)] at this
    rw [List.getElem_drop]
    simp only [Option.getD_some] at this
    rw [this]
    simp
  omega
/-- On which line a place lies. -/
def lineOf (b : List Int) (at_ : Int) : Int := if (if nlines b < (upto b at_ : Int) then nlines b else (upto b at_ : Int)) < 1 then 1 else (if nlines b < (upto b at_ : Int) then nlines b else (upto b at_ : Int))
end Go.Proofs.Ytokgkhndhlcfpaa.M
