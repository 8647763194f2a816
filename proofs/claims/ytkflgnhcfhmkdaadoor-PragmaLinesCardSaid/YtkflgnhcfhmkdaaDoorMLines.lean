/- Plain facts on lines: where they begin. No program in sight. -/
import Derived.Test.YtkflgnhcfhmkdaaDoorMUtf
namespace Go.Proofs.YtkflgnhcfhmkdaaDoor.M

/-- Where lines begin behind a newline, counted from i on. -/
def begs : Int → List Int → List Int
  | _, [] => []
  | i, c :: t => if c = 10 then (i + 1) :: begs (i + 1) t else begs (i + 1) t
def begins (b : List Int) : List Int := 0 :: begs 0 b
theorem begs_snoc (i : Int) (l : List Int) (c : Int) : begs i (l ++ [c]) = begs i l ++ (if c = 10 then [i + l.length + 1] else []) := by
  induction l generalizing i with
  | nil => simp [begs]
  | cons x l ih =>
    simp only [List.cons_append, begs, ih, List.length_cons]
    have : i + 1 + (l.length : Int) + 1 = i + ((l.length + 1 : Nat) : Int) + 1 := by omega
    rw [this]
    split <;> simp
theorem begins_snoc (l : List Int) (c : Int) : begins (l ++ [c]) = begins l ++ (if c = 10 then [(l.length : Int) + 1] else []) := by
  unfold begins
  rw [begs_snoc, Int.zero_add]
  rfl
theorem begs_len (i : Int) (l : List Int) : (begs i l).length ≤ l.length := by
  induction l generalizing i with
  | nil => simp [begs]
  | cons x l ih =>
    have := ih (i + 1)
    unfold begs
    split <;> simp <;> omega
theorem begins_len (l : List Int) : 1 ≤ (begins l).length ∧ (begins l).length ≤ l.length + 1 := by
  have := begs_len 0 l
  unfold begins
  simp
  omega
theorem begs_range (i : Int) (l : List Int) : ∀ x ∈ begs i l, i < x ∧ x ≤ i + l.length := by
  induction l generalizing i with
  | nil => intro x hx; cases hx
  | cons c l ih =>
    intro x hx
    unfold begs at hx
    simp only [List.length_cons]
    split at hx
    · rcases List.mem_cons.1 hx with rfl | hx
      · omega
      · have := ih (i + 1) x hx; omega
    · have := ih (i + 1) x hx; omega
theorem begins_range (b : List Int) : ∀ x ∈ begins b, 0 ≤ x ∧ x ≤ b.length := by
  intro x hx
  unfold begins at hx
  rcases List.mem_cons.1 hx with rfl | hx
  · omega
  · have := begs_range 0 b x hx; omega
theorem begins_at (b : List Int) (i : Nat) : 0 ≤ (begins b).getD i 0 ∧ (begins b).getD i 0 ≤ b.length := by
  rw [List.getD_eq_getElem?_getD]
  by_cases h : i < (begins b).length
  · rw [List.getElem?_eq_getElem h]
    exact begins_range b _ (List.getElem_mem h)
  · rw [List.getElem?_eq_none (by omega)]
    simp
/-- How many lines there are. -/
def nlines (b : List Int) : Int := if (begins b).getD ((begins b).length - 1) 0 = (b.length : Int) then (begins b).length - 1 else (begins b).length
/-- How many lines begin up to a place. -/
def upto (b : List Int) (at_ : Int) : Nat := (begins b).countP (fun x => decide (x ≤ at_))
end Go.Proofs.YtkflgnhcfhmkdaaDoor.M
