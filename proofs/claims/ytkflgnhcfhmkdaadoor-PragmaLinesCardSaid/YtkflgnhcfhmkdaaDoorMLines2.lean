/- Plain facts on lines as lists of bytes. No program in sight. -/
import Derived.Test.YtkflgnhcfhmkdaaDoorMLines
namespace Go.Proofs.YtkflgnhcfhmkdaaDoor.M

/-- The lines of what follows, behind what the current line has already. -/
def linesOf : List Int → List Int → List (List Int)
  | cur, [] => if cur = [] then [] else [cur]
  | cur, c :: t => if c = 10 then (cur ++ [c]) :: linesOf [] t else linesOf (cur ++ [c]) t
/-- Does it end behind a newline (or with nothing)? -/
def endc : List Int → List Int → Bool
  | cur, [] => cur.isEmpty
  | cur, c :: t => if c = 10 then endc [] t else endc (cur ++ [c]) t
/-- A text's lines. -/
def ls (b : List Int) : List (List Int) := linesOf [] b
theorem linesOf_flat (cur t : List Int) : (linesOf cur t).flatten = cur ++ t := by
  induction t generalizing cur with
  | nil => unfold linesOf; split <;> simp_all
  | cons c t ih =>
    unfold linesOf
    split
    · rw [List.flatten_cons, ih]; simp
    · rw [ih]; simp
theorem ls_flat (b : List Int) : (ls b).flatten = b := by unfold ls; rw [linesOf_flat]; rfl
theorem linesOf_ne (cur t : List Int) : ∀ l ∈ linesOf cur t, 1 ≤ l.length := by
  induction t generalizing cur with
  | nil =>
    intro l hl
    unfold linesOf at hl
    split at hl
    · cases hl
    · rename_i h
      have : l = cur := by simpa using hl
      subst this
      exact List.length_pos_iff.2 h
  | cons c t ih =>
    intro l hl
    unfold linesOf at hl
    split at hl
    · rcases List.mem_cons.1 hl with rfl | hl
      · simp
      · exact ih [] l hl
    · exact ih _ l hl
theorem ls_ne (b : List Int) : ∀ l ∈ ls b, 1 ≤ l.length := linesOf_ne [] b
/-- Lines' beginnings, from o on. -/
def offs : Int → List (List Int) → List Int
  | _, [] => []
  | o, l :: t => o :: offs (o + l.length) t
theorem offs_len (o : Int) (L : List (List Int)) : (offs o L).length = L.length := by
  induction L generalizing o with
  | nil => rfl
  | cons l t ih => simp [offs, ih]
theorem begins_lines (t : List Int) : ∀ (o : Int) (cur : List Int), o :: begs (o + cur.length) t = offs o (linesOf cur t) ++ (if endc cur t then [o + cur.length + t.length] else []) := by
  induction t with
  | nil =>
    intro o cur
    unfold linesOf endc begs
    cases cur <;> simp [offs]
  | cons c t ih =>
    intro o cur
    unfold linesOf endc begs
    by_cases h : c = 10
    · rw [if_pos h, if_pos h, if_pos h]
      have := ih (o + cur.length + 1) []
      simp only [List.length_nil, show ((0 : Nat) : Int) = 0 from rfl, Int.add_zero] at this
      simp only [offs, List.cons_append, List.length_append, List.length_cons, List.length_nil]
      rw [show o + (cur.length : Int) + 1 = o + ((cur.length + (0 + 1) : Nat) : Int) by omega] at this ⊢
      rw [this]
      congr 2
      split
      · congr 1; omega
      · rfl
    · rw [if_neg h, if_neg h, if_neg h]
      have := ih o (cur ++ [c])
      simp only [List.length_append, List.length_cons, List.length_nil] at this
      rw [show o + (cur.length : Int) + 1 = o + ((cur.length + (0 + 1) : Nat) : Int) by omega, this]
      congr 1
      split
      · congr 1; simp only [List.length_cons]; omega
      · rfl
/-- Where the line of index j begins. -/
def off (L : List (List Int)) (j : Nat) : Nat := ((L.take j).flatten).length
theorem off_zero (L : List (List Int)) : off L 0 = 0 := by simp [off]
theorem off_cons (l : List Int) (L : List (List Int)) (j : Nat) : off (l :: L) (j + 1) = l.length + off L j := by simp [off]
theorem off_succ (L : List (List Int)) (j : Nat) (hj : j < L.length) : off L (j + 1) = off L j + (L.getD j []).length := by
  induction L generalizing j with
  | nil => simp at hj
  | cons l L ih =>
    cases j with
    | zero => rw [off_cons, off_zero]; simp [off]
    | succ j =>
      rw [off_cons, off_cons, ih j (by simpa using hj)]
      simp; omega
theorem off_all (L : List (List Int)) (j : Nat) (hj : L.length ≤ j) : off L j = L.flatten.length := by
  unfold off
  rw [List.take_of_length_le hj]
theorem off_le (L : List (List Int)) (j : Nat) : off L j ≤ L.flatten.length := by
  induction L generalizing j with
  | nil => simp [off]
  | cons l L ih =>
    cases j with
    | zero => simp [off]
    | succ j =>
      rw [off_cons]
      have := ih j
      simp only [List.flatten_cons, List.length_append]
      omega
theorem offs_get (o : Int) (L : List (List Int)) (j : Nat) (hj : j < L.length) : (offs o L).getD j 0 = o + off L j := by
  induction L generalizing o j with
  | nil => simp at hj
  | cons l L ih =>
    cases j with
    | zero => simp [offs, off]
    | succ j =>
      have := ih (o + l.length) j (by simpa using hj)
      simp only [offs, List.getD_cons_succ]
      rw [this, off_cons]; omega
theorem cut_line (L : List (List Int)) (j : Nat) (hj : j < L.length) : (L.flatten.take (off L (j + 1))).drop (off L j) = L.getD j [] := by
  induction L generalizing j with
  | nil => simp at hj
  | cons l L ih =>
    cases j with
    | zero => rw [off_cons, off_zero]; simp [off]
    | succ j =>
      rw [off_cons, off_cons, List.flatten_cons, List.take_append, List.drop_append]
      have := ih j (by simpa using hj)
      rw [List.take_of_length_le (by omega), List.drop_of_length_le (by omega)]
      rw [show l.length + off L (j + 1) - l.length = off L (j + 1) by omega, show l.length + off L j - l.length = off L j by omega, this]
      simp
theorem begins_ls (b : List Int) : begins b = offs 0 (ls b) ++ (if endc [] b then [(b.length : Int)] else []) := by
  have := begins_lines b 0 []
  simp only [List.length_nil, show ((0 : Nat) : Int) = 0 from rfl, Int.add_zero, Int.zero_add] at this
  exact this
theorem begins_lt (b : List Int) (j : Nat) (hj : j < (ls b).length) : (begins b).getD j 0 = (off (ls b) j : Int) := by
  rw [begins_ls, List.getD_eq_getElem?_getD, List.getElem?_append_left (by rw [offs_len]; exact hj), ← List.getD_eq_getElem?_getD, offs_get 0 _ j hj]
  omega
theorem begins_count (b : List Int) : (begins b).length = (ls b).length + (if endc [] b then 1 else 0) := by
  rw [begins_ls, List.length_append, offs_len]
  split <;> rfl
theorem begins_end (b : List Int) (h : endc [] b = true) : (begins b).getD (ls b).length 0 = (b.length : Int) := by
  rw [begins_ls, if_pos h, List.getD_eq_getElem?_getD, List.getElem?_append_right (by rw [offs_len]; exact Nat.le_refl _), offs_len, Nat.sub_self]
  rfl
theorem off_end (b : List Int) : off (ls b) (ls b).length = b.length := by rw [off_all _ _ (Nat.le_refl _), ls_flat]
theorem line_pos (b : List Int) (j : Nat) (hj : j < (ls b).length) : off (ls b) j < off (ls b) (j + 1) := by
  have h := off_succ (ls b) j hj
  have : 1 ≤ ((ls b).getD j []).length := by
    rw [List.getD_eq_getElem?_getD, List.getElem?_eq_getElem hj]
    exact ls_ne b _ (List.getElem_mem hj)
  omega
theorem nlines_ls (b : List Int) : nlines b = ((ls b).length : Int) := by
  unfold nlines
  have hc := begins_count b
  have hl := begins_len b
  cases he : endc [] b
  · rw [he] at hc
    have hc : (begins b).length = (ls b).length := hc
    rw [begins_lt b ((begins b).length - 1) (by omega)]
    have := line_pos b ((begins b).length - 1) (by omega)
    have h2 := off_le (ls b) ((begins b).length - 1 + 1)
    rw [ls_flat] at h2
    rw [if_neg (by omega)]
    omega
  · rw [he] at hc
    have hc : (begins b).length = (ls b).length + 1 := hc
    rw [show (begins b).length - 1 = (ls b).length by omega, begins_end b he, if_pos rfl]
    omega
/-- Where the line behind the j-th begins, or all ends. -/
theorem begins_next (b : List Int) (j : Nat) (hj : j < (ls b).length) : (if (j : Int) + 1 < ((begins b).length : Int) then (begins b).getD (j + 1) 0 else (b.length : Int)) = (off (ls b) (j + 1) : Int) := by
  have hc := begins_count b
  by_cases h : j + 1 < (ls b).length
  · rw [if_pos (by omega), begins_lt b (j + 1) h]
  · have e : j + 1 = (ls b).length := by omega
    cases he : endc [] b
    · rw [he] at hc
      have hc : (begins b).length = (ls b).length := hc
      rw [if_neg (by omega), e, off_end]
    · rw [he] at hc
      have hc : (begins b).length = (ls b).length + 1 := hc
      rw [if_pos (by omega), e, begins_end b he, off_end]
theorem ls_count (b : List Int) : (ls b).length ≤ b.length := by
  have : ∀ n, n ≤ (ls b).length → n ≤ off (ls b) n := by
    intro n
    induction n with
    | zero => intro _; exact Nat.zero_le _
    | succ n ih => intro hn; have := ih (by omega); have := line_pos b n (by omega); omega
  have := this (ls b).length (Nat.le_refl _)
  rw [off_end] at this
  exact this
end Go.Proofs.YtkflgnhcfhmkdaaDoor.M
