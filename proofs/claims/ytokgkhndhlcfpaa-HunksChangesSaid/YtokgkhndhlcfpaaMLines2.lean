/- Plain facts on lines as lists of bytes. No program in sight. -/
import Derived.Test.YtokgkhndhlcfpaaMLines
namespace Go.Proofs.Ytokgkhndhlcfpaa.M

/-- The lines of what follows, behind what the current line has already. -/
def linesOf : List Int → List Int → List (List Int)
  | cur, [] => if cur = [] then [] else [cur]
  | cur, c :: t => if c = 10 then (cur ++ [c]) :: linesOf [] t else linesOf (cur ++ [c]) t
/-- A text's lines. -/
def ls (b : List Int) : List (List Int) := linesOf [] b
theorem linesOf_flat (cur t : List Int) : (linesOf cur t).flatten = cur ++ t := by
  induction t generalizing cur with
  | nil => unfold linesOf; split <;> simp_all
  | cons c t ih =>
    unfold linesOf
    split
    · rw [List.flatten_cons, ih]; simp
    · rw [ih]; simp
theorem ls_flat (b : List Int) : (ls b).flatten = b := by unfold ls; rw [linesOf_flat]; rfl
theorem linesOf_ne (cur t : List Int) : ∀ l ∈ linesOf cur t, 1 ≤ l.length := by
  induction t generalizing cur with
  | nil =>
    intro l hl
    unfold linesOf at hl
    split at hl
    · cases hl
    · rename_i h
      have : l = cur := by simpa using hl
      subst this
      exact List.length_pos_iff.2 h
  | cons c t ih =>
    intro l hl
    unfold linesOf at hl
    split at hl
    · rcases List.mem_cons.1 hl with rfl | hl
      · simp
      · exact ih [] l hl
    · exact ih _ l hl
theorem ls_ne (b : List Int) : ∀ l ∈ ls b, 1 ≤ l.length := linesOf_ne [] b
/-- Where the line of index j begins. -/
def off (L : List (List Int)) (j : Nat) : Nat := ((L.take j).flatten).length
theorem off_zero (L : List (List Int)) : off L 0 = 0 := by simp [off]
theorem off_cons (l : List Int) (L : List (List Int)) (j : Nat) : off (l :: L) (j + 1) = l.length + off L j := by simp [off]
theorem off_succ (L : List (List Int)) (j : Nat) (hj : j < L.length) : off L (j + 1) = off L j + (L.getD j []).length := by
  induction L generalizing j with
  | nil => simp at hj
  | cons l L ih =>
    cases j with
    | zero => rw [off_cons, off_zero]; simp [off]
    | succ j =>
      rw [off_cons, off_cons, ih j (by simpa using hj)]
      simp; omega
theorem off_all (L : List (List Int)) (j : Nat) (hj : L.length ≤ j) : off L j = L.flatten.length := by
  unfold off
  rw [List.take_of_length_le hj]
theorem off_end (b : List Int) : off (ls b) (ls b).length = b.length := by rw [off_all _ _ (Nat.le_refl _), ls_flat]
theorem line_pos (b : List Int) (j : Nat) (hj : j < (ls b).length) : off (ls b) j < off (ls b) (j + 1) := by
  have h := off_succ (ls b) j hj
  have : 1 ≤ ((ls b).getD j []).length := by
    rw [List.getD_eq_getElem?_getD, List.getElem?_eq_getElem hj]
    exact ls_ne b _ (List.getElem_mem hj)
  omega
theorem ls_count (b : List Int) : (ls b).length ≤ b.length := by
  have : ∀ n, n ≤ (ls b).length → n ≤ off (ls b) n := by
    intro n
    induction n with
    | zero => intro _; exact Nat.zero_le _
    | succ n ih => intro hn; have := ih (by omega); have := line_pos b n (by omega); omega
  have := this (ls b).length (Nat.le_refl _)
  rw [off_end] at this
  exact this
end Go.Proofs.Ytokgkhndhlcfpaa.M
