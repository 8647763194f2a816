/- Plain mathematics of changes between lists of lines: the longest common row, the script, the changes. -/
import Derived.Test.YtokgkhndhlcfpaaXWords
namespace Go.Proofs.Ytokgkhndhlcfpaa.M
set_option linter.unusedVariables false
set_option linter.unusedSimpArgs false
/-- How long the longest common row of lines is. -/
def lcs : List ByteArray → List ByteArray → Nat
  | [], _ => 0
  | _ :: _, [] => 0
  | a :: x, b :: y => if a.toList = b.toList then lcs x y + 1 else max (lcs x (b :: y)) (lcs (a :: x) y)
termination_by x y => x.length + y.length
theorem lcs_nil (y : List ByteArray) : lcs [] y = 0 := by rw [lcs]
theorem lcs_nil' (x : List ByteArray) : lcs x [] = 0 := by cases x <;> rw [lcs]
theorem lcs_cons (a b : ByteArray) (x y : List ByteArray) : lcs (a :: x) (b :: y) = if a.toList = b.toList then lcs x y + 1 else max (lcs x (b :: y)) (lcs (a :: x) y) := by rw [lcs]
theorem lcs_le (x y : List ByteArray) : lcs x y ≤ x.length := by
  induction x, y using lcs.induct with
  | case1 y => rw [lcs_nil]; exact Nat.zero_le _
  | case2 a x => rw [lcs_nil']; exact Nat.zero_le _
  | case3 a x b y h ih => rw [lcs_cons, if_pos h, List.length_cons]; omega
  | case4 a x b y h ih1 ih2 => rw [lcs_cons, if_neg h]; simp only [List.length_cons] at *; omega
/-- The table's value at two places. -/
def lv (x y : List ByteArray) (i k : Nat) : Int := (lcs (x.drop i) (y.drop k) : Int)
theorem lv_end (x y : List ByteArray) (i k : Nat) (h : x.length ≤ i) : lv x y i k = 0 := by unfold lv; rw [List.drop_eq_nil_of_le h, lcs_nil]; rfl
theorem lv_end' (x y : List ByteArray) (i k : Nat) (h : y.length ≤ k) : lv x y i k = 0 := by unfold lv; rw [List.drop_eq_nil_of_le h, lcs_nil']; rfl
theorem lv_at (x y : List ByteArray) (i k : Nat) (hi : i < x.length) (hk : k < y.length) : lv x y i k = if x[i].toList = y[k].toList then lv x y (i + 1) (k + 1) + 1 else (if lv x y (i + 1) k < lv x y i (k + 1) then lv x y i (k + 1) else lv x y (i + 1) k) := by
  unfold lv
  rw [List.drop_eq_getElem_cons hi, List.drop_eq_getElem_cons hk, lcs_cons]
  by_cases h : x[i].toList = y[k].toList
  · rw [if_pos h, if_pos h]; rfl
  · rw [if_neg h, if_neg h, Nat.max_def]
    repeat' split
    all_goals omega
theorem lv_range (x y : List ByteArray) (i k : Nat) : 0 ≤ lv x y i k ∧ lv x y i k ≤ x.length := by
  unfold lv
  have := lcs_le (x.drop i) (y.drop k)
  rw [List.length_drop] at this
  omega
/-- A table told by its values. -/
def tabOf (n m : Nat) (v : Nat → Nat → Int) : List (List Int) := (List.range n).map fun i => (List.range m).map fun k => v i k
theorem getD_map_range {α : Type} (n : Nat) (f : Nat → α) (i : Nat) (d : α) (h : i < n) : ((List.range n).map f).getD i d = f i := by
  rw [List.getD_eq_getElem?_getD, List.getElem?_map, List.getElem?_range h]; rfl
theorem set_map_range {α : Type} (n : Nat) (f : Nat → α) (i : Nat) (z : α) : ((List.range n).map f).set i z = (List.range n).map fun j => if j = i then z else f j := by
  apply List.ext_getElem?
  intro j
  rw [List.getElem?_set, List.getElem?_map, List.getElem?_map, List.length_map, List.length_range]
  by_cases hj : j < n
  · rw [List.getElem?_range hj]
    by_cases h : i = j
    · subst h
      rw [if_pos rfl, if_pos hj]
      simp
    · rw [if_neg h]
      simp [Ne.symm h]
  · rw [List.getElem?_eq_none (by rw [List.length_range]; omega)]
    by_cases h : i = j
    · subst h
      rw [if_pos rfl, if_neg hj]; rfl
    · rw [if_neg h]; rfl
theorem map_range_congr {α : Type} (n : Nat) (f g : Nat → α) (h : ∀ i, i < n → f i = g i) : (List.range n).map f = (List.range n).map g :=
  List.map_congr_left fun i hi => h i (List.mem_range.1 hi)
theorem tabOf_len (n m : Nat) (v : Nat → Nat → Int) : (tabOf n m v).length = n := by unfold tabOf; rw [List.length_map, List.length_range]
theorem tabOf_row (n m : Nat) (v : Nat → Nat → Int) (i : Nat) (h : i < n) : (tabOf n m v).getD i [] = (List.range m).map (v i) := getD_map_range _ _ _ _ h
theorem row_len (m : Nat) (f : Nat → Int) : ((List.range m).map f).length = m := by rw [List.length_map, List.length_range]
theorem tabOf_congr (n m : Nat) (v u : Nat → Nat → Int) (h : ∀ i k, i < n → k < m → v i k = u i k) : tabOf n m v = tabOf n m u :=
  map_range_congr _ _ _ fun i hi => map_range_congr _ _ _ fun k hk => h i k hi hk
theorem tabOf_set (n m : Nat) (v : Nat → Nat → Int) (i k : Nat) (z : Int) : (tabOf n m v).set i (((List.range m).map (v i)).set k z) = tabOf n m (fun i' k' => if i' = i ∧ k' = k then z else v i' k') := by
  unfold tabOf
  rw [set_map_range, set_map_range]
  refine map_range_congr _ _ _ fun i' _ => ?_
  by_cases h : i' = i
  · subst h
    rw [if_pos rfl]
    refine map_range_congr _ _ _ fun k' _ => ?_
    by_cases h2 : k' = k
    · rw [if_pos h2]; exact (if_pos ⟨rfl, h2⟩).symm
    · rw [if_neg h2]; exact (if_neg (fun h => h2 h.2)).symm
  · rw [if_neg h]
    refine map_range_congr _ _ _ fun k' _ => ?_
    exact (if_neg (fun h' => h h'.1)).symm
theorem replicate_map_range {α : Type} (n : Nat) (z : α) : List.replicate n z = (List.range n).map fun _ => z := by
  rw [List.map_const', List.length_range]
/-- What is done at a line: it stays, it goes, one comes. -/
inductive Mv | keep | del | ins
/-- What is done, in its order. -/
def script : List ByteArray → List ByteArray → List Mv
  | [], [] => []
  | [], _ :: y => .ins :: script [] y
  | _ :: x, [] => .del :: script x []
  | a :: x, b :: y => if a.toList = b.toList then .keep :: script x y else if lcs (a :: x) y ≤ lcs x (b :: y) then .del :: script x (b :: y) else .ins :: script (a :: x) y
termination_by x y => x.length + y.length
theorem script_ins (b : ByteArray) (y : List ByteArray) : script [] (b :: y) = .ins :: script [] y := by rw [script]
theorem script_del (a : ByteArray) (x : List ByteArray) : script (a :: x) [] = .del :: script x [] := by rw [script]
theorem script_nil : script [] [] = [] := by rw [script]
theorem script_cons (a b : ByteArray) (x y : List ByteArray) : script (a :: x) (b :: y) = if a.toList = b.toList then .keep :: script x y else if lcs (a :: x) y ≤ lcs x (b :: y) then .del :: script x (b :: y) else .ins :: script (a :: x) y := by rw [script]
/-- Lines in the place of others. -/
structure Ch where
  o : Int
  os : Int
  n : Int
  ns : Int
def flushed (c : Ch) : List Ch := if c.os + c.ns > 0 then [c] else []
/-- The changes of a script, from the places i and k on, the change c begun. -/
def grp (fr i k : Int) (c : Ch) : List Mv → List Ch
  | [] => flushed c
  | .keep :: s => flushed c ++ grp fr (i + 1) (k + 1) ⟨fr + (i + 1), 0, fr + (k + 1), 0⟩ s
  | .del :: s => grp fr (i + 1) k ⟨c.o, c.os + 1, c.n, c.ns⟩ s
  | .ins :: s => grp fr i (k + 1) ⟨c.o, c.os, c.n, c.ns + 1⟩ s
theorem grp_keep (fr i k : Int) (c : Ch) (s : List Mv) : grp fr i k c (.keep :: s) = flushed c ++ grp fr (i + 1) (k + 1) ⟨fr + (i + 1), 0, fr + (k + 1), 0⟩ s := rfl
theorem grp_del (fr i k : Int) (c : Ch) (s : List Mv) : grp fr i k c (.del :: s) = grp fr (i + 1) k ⟨c.o, c.os + 1, c.n, c.ns⟩ s := rfl
theorem grp_ins (fr i k : Int) (c : Ch) (s : List Mv) : grp fr i k c (.ins :: s) = grp fr i (k + 1) ⟨c.o, c.os, c.n, c.ns + 1⟩ s := rfl
/-- How many lines are the same at the beginning. -/
def pre : List ByteArray → List ByteArray → Nat
  | a :: x, b :: y => if a.toList = b.toList then pre x y + 1 else 0
  | _, _ => 0
theorem pre_le : ∀ x y : List ByteArray, pre x y ≤ x.length ∧ pre x y ≤ y.length
  | [], _ => by simp [pre]
  | _ :: _, [] => by simp [pre]
  | a :: x, b :: y => by
    have := pre_le x y
    unfold pre
    split <;> simp only [List.length_cons] <;> omega
theorem pre_cons (a b : ByteArray) (x y : List ByteArray) : pre (a :: x) (b :: y) = if a.toList = b.toList then pre x y + 1 else 0 := rfl
theorem pre_nil (y : List ByteArray) : pre [] y = 0 := rfl
theorem pre_nil' (x : List ByteArray) : pre x [] = 0 := by cases x <;> rfl
/-- The last line. -/
def lastOf (x : List ByteArray) : ByteArray := x.getD (x.length - 1) ByteArray.empty
/-- Without the lines that are the same at the end. -/
def strip (x y : List ByteArray) : List ByteArray × List ByteArray :=
  if h : 0 < x.length ∧ 0 < y.length ∧ (lastOf x).toList = (lastOf y).toList then strip (x.take (x.length - 1)) (y.take (y.length - 1)) else (x, y)
termination_by x.length
decreasing_by rw [List.length_take]; omega
theorem strip_pos (x y : List ByteArray) (h : 0 < x.length ∧ 0 < y.length ∧ (lastOf x).toList = (lastOf y).toList) : strip x y = strip (x.take (x.length - 1)) (y.take (y.length - 1)) := by
  rw [strip, dif_pos h]
theorem strip_neg (x y : List ByteArray) (h : ¬ (0 < x.length ∧ 0 < y.length ∧ (lastOf x).toList = (lastOf y).toList)) : strip x y = (x, y) := by
  rw [strip, dif_neg h]
/-- The changes between two lists. -/
def chgs (p q : List ByteArray) : List Ch :=
  let f := pre p q
  let s := strip (p.drop f) (q.drop f)
  if s.1.length > 1000 ∨ s.2.length > 1000 then [⟨f, s.1.length, f, s.2.length⟩] else grp f 0 0 ⟨f, 0, f, 0⟩ (script s.1 s.2)
theorem strip_le (x y : List ByteArray) : (strip x y).1.length ≤ x.length ∧ (strip x y).2.length ≤ y.length := by
  by_cases h : 0 < x.length ∧ 0 < y.length ∧ (lastOf x).toList = (lastOf y).toList
  · rw [strip_pos x y h]
    have := strip_le (x.take (x.length - 1)) (y.take (y.length - 1))
    rw [List.length_take, List.length_take] at this
    omega
  · rw [strip_neg x y h]; exact ⟨Nat.le_refl _, Nat.le_refl _⟩
termination_by x.length
decreasing_by rw [List.length_take]; omega
/-- Bounds of what is told: how many changes. -/
theorem script_len (x y : List ByteArray) : (script x y).length ≤ x.length + y.length := by
  induction x, y using script.induct with
  | case1 => rw [script_nil]; simp
  | case2 b y ih => rw [script_ins]; simp only [List.length_cons, List.length_nil] at *; omega
  | case3 a x ih => rw [script_del]; simp only [List.length_cons, List.length_nil] at *; omega
  | case4 a x b y h ih => rw [script_cons, if_pos h]; simp only [List.length_cons] at *; omega
  | case5 a x b y h h2 ih => rw [script_cons, if_neg h, if_pos h2]; simp only [List.length_cons] at *; omega
  | case6 a x b y h h2 ih => rw [script_cons, if_neg h, if_neg h2]; simp only [List.length_cons] at *; omega
theorem grp_len (s : List Mv) : ∀ (fr i k : Int) (c : Ch), (grp fr i k c s).length ≤ s.length + 1 := by
  have fl : ∀ c, (flushed c).length ≤ 1 := by intro c; unfold flushed; split <;> simp
  induction s with
  | nil => intro fr i k c; exact fl c
  | cons m s ih =>
    intro fr i k c
    cases m
    · show (flushed c ++ grp fr (i + 1) (k + 1) ⟨fr + (i + 1), 0, fr + (k + 1), 0⟩ s).length ≤ _
      have := ih fr (i + 1) (k + 1) ⟨fr + (i + 1), 0, fr + (k + 1), 0⟩
      have := fl c
      rw [List.length_append, List.length_cons]
      omega
    · have := ih fr (i + 1) k ⟨c.o, c.os + 1, c.n, c.ns⟩
      show (grp fr (i + 1) k ⟨c.o, c.os + 1, c.n, c.ns⟩ s).length ≤ _
      rw [List.length_cons]; omega
    · have := ih fr i (k + 1) ⟨c.o, c.os, c.n, c.ns + 1⟩
      show (grp fr i (k + 1) ⟨c.o, c.os, c.n, c.ns + 1⟩ s).length ≤ _
      rw [List.length_cons]; omega
end Go.Proofs.Ytokgkhndhlcfpaa.M
