/- Plain words, and walks by hand. -/
import Derived.Test.YtjabpbnlpljlkaaDoorWAll
import Derived.Lib.ConvBytes
import Derived.Lib.SlBytesConst
import Derived.ChangeKeysEq
import Derived.Laws.BitsLemmas
import Derived.RowKit
import Derived.Laws.Strings
section
/- Words beside the print's: a string's bytes as a slice ('[]byte(s)'), as one step of a walk. -/
namespace Go.Proofs.YtjabpbnlpljlkaaDoor.X
open Go.RowKit Go.Proofs.YtjabpbnlpljlkaaDoorW.PrintWords Go.Proofs.YtjabpbnlpljlkaaDoorW.PrintLast Go.Proofs.YtjabpbnlpljlkaaDoorW.PrintMore
set_option linter.unusedVariables false
set_option linter.unusedSimpArgs false
def CvCalls (e : TypeId) (s : ByteArray) (w : World) (Q : Ending → World → Prop) : Prop :=
  Q (.returned (.slice (some ⟨w.heap.size, 0, none⟩) s.size (grownCap w s.size 0 e))) (Lib.bytesWorld w e s)
theorem CvCalls.mono {e : TypeId} {s : ByteArray} {w : World} {Q Q' : Ending → World → Prop} (h : CvCalls e s w Q) (hq : ∀ en w', Q en w' → Q' en w') : CvCalls e s w Q' := hq _ _ h
def conv_bytes.f (a0 : ByteArray) : Option (List Int) := if a0.size < 140737488355328 then some (bytesOf a0) else none
theorem bytesOf_getD (s : ByteArray) (j : Nat) (hj : j < s.size) : (bytesOf s).getD j 0 = ((s.data.toList.getD j 0).toNat : Int) := by
  unfold bytesOf
  rw [List.getD_eq_getElem?_getD, List.getD_eq_getElem?_getD, List.getElem?_map, List.getElem?_eq_getElem (by simpa using hj)]
  rfl
theorem bytesWorld_below (w : World) (e : TypeId) (s : ByteArray) : Below w.heap.size w (Lib.bytesWorld w e s) :=
  ⟨rfl, rfl, rfl, by rw [Lib.bytesWorld_size]; omega, fun i hi => Lib.bytesWorld_at_old w e s i hi⟩
theorem conv_bytes.calls {e : Nat} (a0 : ByteArray) (r : List Int) (w : World) (h : conv_bytes.f a0 = some r) :
    CvCalls e a0 w fun en w' => ∃ v0_ : Value, en = .returned (v0_) ∧ Kd.V (Kd.int .u8) e w' w.heap.size (fun k_ => (w.heap.size ≤ k_)) v0_ r ∧ Below w.heap.size w w' := by
  unfold conv_bytes.f at h
  split at h
  · rename_i hs
    injection h with h
    subst h
    have hl : (bytesOf a0).length = a0.size := bytesOf_length a0
    refine ⟨_, rfl, ⟨some ⟨w.heap.size, 0, none⟩, grownCap w a0.size 0 e, by rw [hl], by rw [hl]; exact grownCap_ge _ _ _ _, ?_⟩, bytesWorld_below w e a0⟩
    intro W' hW
    have hb := (hW w.heap.size (Nat.le_refl _) (by rw [Lib.bytesWorld_size]; omega)).trans (Lib.bytesWorld_at_new w e a0)
    refine Kd.C_of_reads (enc := Value.int .u8) (d := (0 : Int)) (h1 := fun _ => rfl) ⟨rfl, by omega, fun hp => ⟨_, rfl, fun j hj => ?_⟩⟩
    rw [add_plain]
    rw [hl] at hj
    rw [bytesOf_getD a0 j hj]
    simp [World.cell?, hb, Lib.bytesCells, Array.getElem?_append, List.getD, hj]
  · cases h
theorem heap_alloc_mark (w : World) (C : Array Value) (e : TypeId) (m : Nat × Nat) : (w.alloc (.cells C e m)).heap[w.heap.size]? = some (.cells C e m) := by
  show (w.heap.push (.cells C e m))[w.heap.size]? = _
  simp
def CstCalls (e : TypeId) (a0 : List Int) (w : World) (Q : Ending → World → Prop) : Prop :=
  Q (.returned (.slice (some ⟨w.heap.size, 0, none⟩) a0.length a0.length)) (w.alloc (.cells (a0.map (Value.int .u8)).toArray e (a0.length, a0.length + 1)))
theorem CstCalls.mono {e : TypeId} {s : List Int} {w : World} {Q Q' : Ending → World → Prop} (h : CstCalls e s w Q) (hq : ∀ en w', Q en w' → Q' en w') : CstCalls e s w Q' := hq _ _ h
def const_bytes.f (a0 : List Int) : Option (List Int) := if a0.length < 140737488355328 then some a0 else none
theorem const_bytes.calls {e : Nat} (a0 r : List Int) (w : World) (h : const_bytes.f a0 = some r) :
    CstCalls e a0 w fun en w' => ∃ v0_ : Value, en = .returned (v0_) ∧ Kd.V (Kd.int .u8) e w' w.heap.size (fun k_ => (w.heap.size ≤ k_)) v0_ r ∧ Below w.heap.size w w' := by
  unfold const_bytes.f at h
  split at h
  case isFalse => cases h
  injection h with h
  subst h
  refine ⟨_, rfl, ⟨some ⟨w.heap.size, 0, none⟩, a0.length, rfl, Nat.le_refl _, ?_⟩, below_alloc (Below.refl _ _) _⟩
  intro W' hW
  have hb := (hW w.heap.size (Nat.le_refl _) (by simp)).trans (heap_alloc_mark w (a0.map (Value.int .u8)).toArray e (a0.length, a0.length + 1))
  refine Kd.C_of_reads (enc := Value.int .u8) (d := (0 : Int)) (h1 := fun _ => rfl) ⟨rfl, by omega, fun hp => ⟨_, rfl, fun j hj => ?_⟩⟩
  rw [add_plain]
  simp [World.cell?, hb, List.getD, hj]
section
variable {P : Program} {d n : Nat} {e : TypeId} {xs ys : Array Value} {j : Nat} {js : List Nat} {a b : Value} {r s : Bool} {w : World}
end
end Go.Proofs.YtjabpbnlpljlkaaDoor.X
end
section
/- Plain facts on bytes as signs (UTF-8): no program in sight. -/
namespace Go.Proofs.YtjabpbnlpljlkaaDoor.M
open Go.RowKit
set_option linter.unusedVariables false
set_option linter.unusedSimpArgs false
theorem w64 {x : Int} (h0 : -9223372036854775808 ≤ x) (h1 : x < 9223372036854775808) : wrap64 x = x := by unfold wrap64; omega
theorem ob {α β : Type} {x : Option α} {a : α} {f : α → Option β} {r : Option β} (h : x = some a) (h2 : f a = r) : x.bind f = r := by rw [h]; exact h2
def BT (b : List Int) : Prop := ∀ x ∈ b, 0 ≤ x ∧ x < 256
instance (b : List Int) : Decidable (BT b) := inferInstanceAs (Decidable (∀ x ∈ b, 0 ≤ x ∧ x < 256))
def isT (c : Int) : Bool := decide (128 ≤ c) && decide (c < 192)
def v2 (c c1 : Int) : Int := (c - 192) * 64 + (c1 - 128)
def v3 (c c1 c2 : Int) : Int := ((c - 224) * 64 + (c1 - 128)) * 64 + (c2 - 128)
def v4 (c c1 c2 c3 : Int) : Int := (((c - 240) * 64 + (c1 - 128)) * 64 + (c2 - 128)) * 64 + (c3 - 128)
def nx : List Int → Int × Int
  | [] => (-1, 0)
  | c :: t =>
    if c < 128 then (c, 1)
    else if 194 ≤ c ∧ c < 224 then
      match t with
      | c1 :: _ => if isT c1 = true then (v2 c c1, 2) else (-1, 1)
      | [] => (-1, 1)
    else if 224 ≤ c ∧ c < 240 then
      match t with
      | c1 :: c2 :: _ => if isT c1 = true ∧ isT c2 = true ∧ 2048 ≤ v3 c c1 c2 ∧ ¬ (55296 ≤ v3 c c1 c2 ∧ v3 c c1 c2 < 57344) then (v3 c c1 c2, 3) else (-1, 1)
      | _ => (-1, 1)
    else if 240 ≤ c ∧ c < 245 then
      match t with
      | c1 :: c2 :: c3 :: _ => if isT c1 = true ∧ isT c2 = true ∧ isT c3 = true ∧ 65536 ≤ v4 c c1 c2 c3 ∧ v4 c c1 c2 c3 ≤ 1114111 then (v4 c c1 c2 c3, 4) else (-1, 1)
      | _ => (-1, 1)
    else (-1, 1)
theorem BT.tail {c : Int} {t : List Int} (h : BT (c :: t)) : BT t := fun x hx => h x (List.mem_cons_of_mem _ hx)
theorem BT.head {c : Int} {t : List Int} (h : BT (c :: t)) : 0 ≤ c ∧ c < 256 := h c List.mem_cons_self
theorem BT.drop {b : List Int} (h : BT b) (n : Nat) : BT (b.drop n) := fun x hx => h x (List.mem_of_mem_drop hx)
theorem BT.take {b : List Int} (h : BT b) (n : Nat) : BT (b.take n) := fun x hx => h x (List.mem_of_mem_take hx)
def usF : Nat → List Int → List (Int × Int)
  | 0, _ => []
  | _ + 1, [] => []
  | f + 1, c :: t => nx (c :: t) :: usF f ((c :: t).drop (nx (c :: t)).2.toNat)
def us (b : List Int) : List (Int × Int) := usF b.length b
def pos (l : List (Int × Int)) (k : Nat) : Int := ((l.take k).map (·.2)).sum
def enc (r : Int) : List Int :=
  if r < 128 then [r]
  else if r < 2048 then [192 + r / 64, 128 + r % 64]
  else if r < 65536 then [224 + r / 4096, 128 + r / 64 % 64, 128 + r % 64]
  else [240 + r / 262144, 128 + r / 4096 % 64, 128 + r / 64 % 64, 128 + r % 64]
def rs (b : List Int) : List Int := (us b).map (·.1)
def whole (b : List Int) : Bool := (rs b).all (fun r => decide (0 ≤ r))
end Go.Proofs.YtjabpbnlpljlkaaDoor.M
end
section
/- Plain facts on lines: where they begin. No program in sight. -/
namespace Go.Proofs.YtjabpbnlpljlkaaDoor.M
def begs : Int → List Int → List Int
  | _, [] => []
  | i, c :: t => if c = 10 then (i + 1) :: begs (i + 1) t else begs (i + 1) t
def begins (b : List Int) : List Int := 0 :: begs 0 b
theorem begs_snoc (i : Int) (l : List Int) (c : Int) : begs i (l ++ [c]) = begs i l ++ (if c = 10 then [i + l.length + 1] else []) := by
  induction l generalizing i with
  | nil => simp [begs]
  | cons x l ih =>
    simp only [List.cons_append, begs, ih, List.length_cons]
    have : i + 1 + (l.length : Int) + 1 = i + ((l.length + 1 : Nat) : Int) + 1 := by omega
    rw [this]
    split <;> simp
theorem begins_snoc (l : List Int) (c : Int) : begins (l ++ [c]) = begins l ++ (if c = 10 then [(l.length : Int) + 1] else []) := by
  unfold begins
  rw [begs_snoc, Int.zero_add]
  rfl
theorem begs_len (i : Int) (l : List Int) : (begs i l).length ≤ l.length := by
  induction l generalizing i with
  | nil => simp [begs]
  | cons x l ih =>
    have := ih (i + 1)
    unfold begs
    split <;> simp <;> omega
theorem begins_len (l : List Int) : 1 ≤ (begins l).length ∧ (begins l).length ≤ l.length + 1 := by
  have := begs_len 0 l
  unfold begins
  simp
  omega
theorem begs_range (i : Int) (l : List Int) : ∀ x ∈ begs i l, i < x ∧ x ≤ i + l.length := by
  induction l generalizing i with
  | nil => intro x hx; cases hx
  | cons c l ih =>
    intro x hx
    unfold begs at hx
    simp only [List.length_cons]
    split at hx
    · rcases List.mem_cons.1 hx with rfl | hx
      · omega
      · have := ih (i + 1) x hx; omega
    · have := ih (i + 1) x hx; omega
theorem begins_range (b : List Int) : ∀ x ∈ begins b, 0 ≤ x ∧ x ≤ b.length := by
  intro x hx
  unfold begins at hx
  rcases List.mem_cons.1 hx with rfl | hx
  · omega
  · have := begs_range 0 b x hx; omega
theorem begins_at (b : List Int) (i : Nat) : 0 ≤ (begins b).getD i 0 ∧ (begins b).getD i 0 ≤ b.length := by
  rw [List.getD_eq_getElem?_getD]
  by_cases h : i < (begins b).length
  · rw [List.getElem?_eq_getElem h]
    exact begins_range b _ (List.getElem_mem h)
  · rw [List.getElem?_eq_none (by omega)]
    simp
def nlines (b : List Int) : Int := if (begins b).getD ((begins b).length - 1) 0 = (b.length : Int) then (begins b).length - 1 else (begins b).length
def upto (b : List Int) (at_ : Int) : Nat := (begins b).countP (fun x => decide (x ≤ at_))
end Go.Proofs.YtjabpbnlpljlkaaDoor.M
end
section
/- Plain mathematics of changes between lists of lines: the longest common row, the script, the changes. -/
namespace Go.Proofs.YtjabpbnlpljlkaaDoor.M
set_option linter.unusedVariables false
set_option linter.unusedSimpArgs false
def lcs : List ByteArray → List ByteArray → Nat
  | [], _ => 0
  | _ :: _, [] => 0
  | a :: x, b :: y => if a.toList = b.toList then lcs x y + 1 else max (lcs x (b :: y)) (lcs (a :: x) y)
termination_by x y => x.length + y.length
theorem lcs_nil (y : List ByteArray) : lcs [] y = 0 := by rw [lcs]
theorem lcs_nil' (x : List ByteArray) : lcs x [] = 0 := by cases x <;> rw [lcs]
theorem lcs_cons (a b : ByteArray) (x y : List ByteArray) : lcs (a :: x) (b :: y) = if a.toList = b.toList then lcs x y + 1 else max (lcs x (b :: y)) (lcs (a :: x) y) := by rw [lcs]
theorem lcs_le (x y : List ByteArray) : lcs x y ≤ x.length := by
  induction x, y using lcs.induct with
  | case1 y => rw [lcs_nil]; exact Nat.zero_le _
  | case2 a x => rw [lcs_nil']; exact Nat.zero_le _
  | case3 a x b y h ih => rw [lcs_cons, if_pos h, List.length_cons]; omega
  | case4 a x b y h ih1 ih2 => rw [lcs_cons, if_neg h]; simp only [List.length_cons] at *; omega
def lv (x y : List ByteArray) (i k : Nat) : Int := (lcs (x.drop i) (y.drop k) : Int)
theorem lv_end (x y : List ByteArray) (i k : Nat) (h : x.length ≤ i) : lv x y i k = 0 := by unfold lv; rw [List.drop_eq_nil_of_le h, lcs_nil]; rfl
theorem lv_end' (x y : List ByteArray) (i k : Nat) (h : y.length ≤ k) : lv x y i k = 0 := by unfold lv; rw [List.drop_eq_nil_of_le h, lcs_nil']; rfl
theorem lv_at (x y : List ByteArray) (i k : Nat) (hi : i < x.length) (hk : k < y.length) : lv x y i k = if x[i].toList = y[k].toList then lv x y (i + 1) (k + 1) + 1 else (if lv x y (i + 1) k < lv x y i (k + 1) then lv x y i (k + 1) else lv x y (i + 1) k) := by
  unfold lv
  rw [List.drop_eq_getElem_cons hi, List.drop_eq_getElem_cons hk, lcs_cons]
  by_cases h : x[i].toList = y[k].toList
  · rw [if_pos h, if_pos h]; rfl
  · rw [if_neg h, if_neg h, Nat.max_def]
    repeat' split
    all_goals omega
theorem lv_range (x y : List ByteArray) (i k : Nat) : 0 ≤ lv x y i k ∧ lv x y i k ≤ x.length := by
  unfold lv
  have := lcs_le (x.drop i) (y.drop k)
  rw [List.length_drop] at this
  omega
def tabOf (n m : Nat) (v : Nat → Nat → Int) : List (List Int) := (List.range n).map fun i => (List.range m).map fun k => v i k
theorem getD_map_range {α : Type} (n : Nat) (f : Nat → α) (i : Nat) (d : α) (h : i < n) : ((List.range n).map f).getD i d = f i := by
  rw [List.getD_eq_getElem?_getD, List.getElem?_map, List.getElem?_range h]; rfl
theorem set_map_range {α : Type} (n : Nat) (f : Nat → α) (i : Nat) (z : α) : ((List.range n).map f).set i z = (List.range n).map fun j => if j = i then z else f j := by
  apply List.ext_getElem?
  intro j
  rw [List.getElem?_set, List.getElem?_map, List.getElem?_map, List.length_map, List.length_range]
  by_cases hj : j < n
  · rw [List.getElem?_range hj]
    by_cases h : i = j
    · subst h
      rw [if_pos rfl, if_pos hj]
      simp
    · rw [if_neg h]
      simp [Ne.symm h]
  · rw [List.getElem?_eq_none (by rw [List.length_range]; omega)]
    by_cases h : i = j
    · subst h
      rw [if_pos rfl, if_neg hj]; rfl
    · rw [if_neg h]; rfl
theorem map_range_congr {α : Type} (n : Nat) (f g : Nat → α) (h : ∀ i, i < n → f i = g i) : (List.range n).map f = (List.range n).map g :=
  List.map_congr_left fun i hi => h i (List.mem_range.1 hi)
theorem tabOf_len (n m : Nat) (v : Nat → Nat → Int) : (tabOf n m v).length = n := by unfold tabOf; rw [List.length_map, List.length_range]
theorem tabOf_row (n m : Nat) (v : Nat → Nat → Int) (i : Nat) (h : i < n) : (tabOf n m v).getD i [] = (List.range m).map (v i) := getD_map_range _ _ _ _ h
theorem row_len (m : Nat) (f : Nat → Int) : ((List.range m).map f).length = m := by rw [List.length_map, List.length_range]
theorem tabOf_congr (n m : Nat) (v u : Nat → Nat → Int) (h : ∀ i k, i < n → k < m → v i k = u i k) : tabOf n m v = tabOf n m u :=
  map_range_congr _ _ _ fun i hi => map_range_congr _ _ _ fun k hk => h i k hi hk
theorem tabOf_set (n m : Nat) (v : Nat → Nat → Int) (i k : Nat) (z : Int) : (tabOf n m v).set i (((List.range m).map (v i)).set k z) = tabOf n m (fun i' k' => if i' = i ∧ k' = k then z else v i' k') := by
  unfold tabOf
  rw [set_map_range, set_map_range]
  refine map_range_congr _ _ _ fun i' _ => ?_
  by_cases h : i' = i
  · subst h
    rw [if_pos rfl]
    refine map_range_congr _ _ _ fun k' _ => ?_
    by_cases h2 : k' = k
    · rw [if_pos h2]; exact (if_pos ⟨rfl, h2⟩).symm
    · rw [if_neg h2]; exact (if_neg (fun h => h2 h.2)).symm
  · rw [if_neg h]
    refine map_range_congr _ _ _ fun k' _ => ?_
    exact (if_neg (fun h' => h h'.1)).symm
theorem replicate_map_range {α : Type} (n : Nat) (z : α) : List.replicate n z = (List.range n).map fun _ => z := by
  rw [List.map_const', List.length_range]
inductive Mv | keep | del | ins
def script : List ByteArray → List ByteArray → List Mv
  | [], [] => []
  | [], _ :: y => .ins :: script [] y
  | _ :: x, [] => .del :: script x []
  | a :: x, b :: y => if a.toList = b.toList then .keep :: script x y else if lcs (a :: x) y ≤ lcs x (b :: y) then .del :: script x (b :: y) else .ins :: script (a :: x) y
termination_by x y => x.length + y.length
theorem script_ins (b : ByteArray) (y : List ByteArray) : script [] (b :: y) = .ins :: script [] y := by rw [script]
theorem script_del (a : ByteArray) (x : List ByteArray) : script (a :: x) [] = .del :: script x [] := by rw [script]
theorem script_nil : script [] [] = [] := by rw [script]
theorem script_cons (a b : ByteArray) (x y : List ByteArray) : script (a :: x) (b :: y) = if a.toList = b.toList then .keep :: script x y else if lcs (a :: x) y ≤ lcs x (b :: y) then .del :: script x (b :: y) else .ins :: script (a :: x) y := by rw [script]
structure Ch where
  o : Int
  os : Int
  n : Int
  ns : Int
def flushed (c : Ch) : List Ch := if c.os + c.ns > 0 then [c] else []
def grp (fr i k : Int) (c : Ch) : List Mv → List Ch
  | [] => flushed c
  | .keep :: s => flushed c ++ grp fr (i + 1) (k + 1) ⟨fr + (i + 1), 0, fr + (k + 1), 0⟩ s
  | .del :: s => grp fr (i + 1) k ⟨c.o, c.os + 1, c.n, c.ns⟩ s
  | .ins :: s => grp fr i (k + 1) ⟨c.o, c.os, c.n, c.ns + 1⟩ s
theorem grp_keep (fr i k : Int) (c : Ch) (s : List Mv) : grp fr i k c (.keep :: s) = flushed c ++ grp fr (i + 1) (k + 1) ⟨fr + (i + 1), 0, fr + (k + 1), 0⟩ s := rfl
theorem grp_del (fr i k : Int) (c : Ch) (s : List Mv) : grp fr i k c (.del :: s) = grp fr (i + 1) k ⟨c.o, c.os + 1, c.n, c.ns⟩ s := rfl
theorem grp_ins (fr i k : Int) (c : Ch) (s : List Mv) : grp fr i k c (.ins :: s) = grp fr i (k + 1) ⟨c.o, c.os, c.n, c.ns + 1⟩ s := rfl
def pre : List ByteArray → List ByteArray → Nat
  | a :: x, b :: y => if a.toList = b.toList then pre x y + 1 else 0
  | _, _ => 0
theorem pre_le : ∀ x y : List ByteArray, pre x y ≤ x.length ∧ pre x y ≤ y.length
  | [], _ => by simp [pre]
  | _ :: _, [] => by simp [pre]
  | a :: x, b :: y => by
    have := pre_le x y
    unfold pre
    split <;> simp only [List.length_cons] <;> omega
theorem pre_cons (a b : ByteArray) (x y : List ByteArray) : pre (a :: x) (b :: y) = if a.toList = b.toList then pre x y + 1 else 0 := rfl
theorem pre_nil (y : List ByteArray) : pre [] y = 0 := rfl
theorem pre_nil' (x : List ByteArray) : pre x [] = 0 := by cases x <;> rfl
def lastOf (x : List ByteArray) : ByteArray := x.getD (x.length - 1) ByteArray.empty
def strip (x y : List ByteArray) : List ByteArray × List ByteArray :=
  if h : 0 < x.length ∧ 0 < y.length ∧ (lastOf x).toList = (lastOf y).toList then strip (x.take (x.length - 1)) (y.take (y.length - 1)) else (x, y)
termination_by x.length
decreasing_by rw [List.length_take]; omega
theorem strip_pos (x y : List ByteArray) (h : 0 < x.length ∧ 0 < y.length ∧ (lastOf x).toList = (lastOf y).toList) : strip x y = strip (x.take (x.length - 1)) (y.take (y.length - 1)) := by
  rw [strip, dif_pos h]
theorem strip_neg (x y : List ByteArray) (h : ¬ (0 < x.length ∧ 0 < y.length ∧ (lastOf x).toList = (lastOf y).toList)) : strip x y = (x, y) := by
  rw [strip, dif_neg h]
def chgs (p q : List ByteArray) : List Ch :=
  let f := pre p q
  let s := strip (p.drop f) (q.drop f)
  if s.1.length > 1000 ∨ s.2.length > 1000 then [⟨f, s.1.length, f, s.2.length⟩] else grp f 0 0 ⟨f, 0, f, 0⟩ (script s.1 s.2)
theorem strip_le (x y : List ByteArray) : (strip x y).1.length ≤ x.length ∧ (strip x y).2.length ≤ y.length := by
  by_cases h : 0 < x.length ∧ 0 < y.length ∧ (lastOf x).toList = (lastOf y).toList
  · rw [strip_pos x y h]
    have := strip_le (x.take (x.length - 1)) (y.take (y.length - 1))
    rw [List.length_take, List.length_take] at this
    omega
  · rw [strip_neg x y h]; exact ⟨Nat.le_refl _, Nat.le_refl _⟩
termination_by x.length
decreasing_by rw [List.length_take]; omega
theorem script_len (x y : List ByteArray) : (script x y).length ≤ x.length + y.length := by
  induction x, y using script.induct with
  | case1 => rw [script_nil]; simp
  | case2 b y ih => rw [script_ins]; simp only [List.length_cons, List.length_nil] at *; omega
  | case3 a x ih => rw [script_del]; simp only [List.length_cons, List.length_nil] at *; omega
  | case4 a x b y h ih => rw [script_cons, if_pos h]; simp only [List.length_cons] at *; omega
  | case5 a x b y h h2 ih => rw [script_cons, if_neg h, if_pos h2]; simp only [List.length_cons] at *; omega
  | case6 a x b y h h2 ih => rw [script_cons, if_neg h, if_neg h2]; simp only [List.length_cons] at *; omega
theorem grp_len (s : List Mv) : ∀ (fr i k : Int) (c : Ch), (grp fr i k c s).length ≤ s.length + 1 := by
  have fl : ∀ c, (flushed c).length ≤ 1 := by intro c; unfold flushed; split <;> simp
  induction s with
  | nil => intro fr i k c; exact fl c
  | cons m s ih =>
    intro fr i k c
    cases m
    · show (flushed c ++ grp fr (i + 1) (k + 1) ⟨fr + (i + 1), 0, fr + (k + 1), 0⟩ s).length ≤ _
      have := ih fr (i + 1) (k + 1) ⟨fr + (i + 1), 0, fr + (k + 1), 0⟩
      have := fl c
      rw [List.length_append, List.length_cons]
      omega
    · have := ih fr (i + 1) k ⟨c.o, c.os + 1, c.n, c.ns⟩
      show (grp fr (i + 1) k ⟨c.o, c.os + 1, c.n, c.ns⟩ s).length ≤ _
      rw [List.length_cons]; omega
    · have := ih fr i (k + 1) ⟨c.o, c.os, c.n, c.ns + 1⟩
      show (grp fr i (k + 1) ⟨c.o, c.os, c.n, c.ns + 1⟩ s).length ≤ _
      rw [List.length_cons]; omega
end Go.Proofs.YtjabpbnlpljlkaaDoor.M
end
section
/- Plain facts on lines as lists of bytes. No program in sight. -/
namespace Go.Proofs.YtjabpbnlpljlkaaDoor.M
def linesOf : List Int → List Int → List (List Int)
  | cur, [] => if cur = [] then [] else [cur]
  | cur, c :: t => if c = 10 then (cur ++ [c]) :: linesOf [] t else linesOf (cur ++ [c]) t
def endc : List Int → List Int → Bool
  | cur, [] => cur.isEmpty
  | cur, c :: t => if c = 10 then endc [] t else endc (cur ++ [c]) t
def ls (b : List Int) : List (List Int) := linesOf [] b
theorem linesOf_flat (cur t : List Int) : (linesOf cur t).flatten = cur ++ t := by
  induction t generalizing cur with
  | nil => unfold linesOf; split <;> simp_all
  | cons c t ih =>
    unfold linesOf
    split
    · rw [List.flatten_cons, ih]; simp
    · rw [ih]; simp
theorem ls_flat (b : List Int) : (ls b).flatten = b := by unfold ls; rw [linesOf_flat]; rfl
theorem linesOf_ne (cur t : List Int) : ∀ l ∈ linesOf cur t, 1 ≤ l.length := by
  induction t generalizing cur with
  | nil =>
    intro l hl
    unfold linesOf at hl
    split at hl
    · cases hl
    · rename_i h
      have : l = cur := by simpa using hl
      subst this
      exact List.length_pos_iff.2 h
  | cons c t ih =>
    intro l hl
    unfold linesOf at hl
    split at hl
    · rcases List.mem_cons.1 hl with rfl | hl
      · simp
      · exact ih [] l hl
    · exact ih _ l hl
theorem ls_ne (b : List Int) : ∀ l ∈ ls b, 1 ≤ l.length := linesOf_ne [] b
def offs : Int → List (List Int) → List Int
  | _, [] => []
  | o, l :: t => o :: offs (o + l.length) t
theorem offs_len (o : Int) (L : List (List Int)) : (offs o L).length = L.length := by
  induction L generalizing o with
  | nil => rfl
  | cons l t ih => simp [offs, ih]
theorem begins_lines (t : List Int) : ∀ (o : Int) (cur : List Int), o :: begs (o + cur.length) t = offs o (linesOf cur t) ++ (if endc cur t then [o + cur.length + t.length] else []) := by
  induction t with
  | nil =>
    intro o cur
    unfold linesOf endc begs
    cases cur <;> simp [offs]
  | cons c t ih =>
    intro o cur
    unfold linesOf endc begs
    by_cases h : c = 10
    · rw [if_pos h, if_pos h, if_pos h]
      have := ih (o + cur.length + 1) []
      simp only [List.length_nil, show ((0 : Nat) : Int) = 0 from rfl, Int.add_zero] at this
      simp only [offs, List.cons_append, List.length_append, List.length_cons, List.length_nil]
      rw [show o + (cur.length : Int) + 1 = o + ((cur.length + (0 + 1) : Nat) : Int) by omega] at this ⊢
      rw [this]
      congr 2
      split
      · congr 1; omega
      · rfl
    · rw [if_neg h, if_neg h, if_neg h]
      have := ih o (cur ++ [c])
      simp only [List.length_append, List.length_cons, List.length_nil] at this
      rw [show o + (cur.length : Int) + 1 = o + ((cur.length + (0 + 1) : Nat) : Int) by omega, this]
      congr 1
      split
      · congr 1; simp only [List.length_cons]; omega
      · rfl
def off (L : List (List Int)) (j : Nat) : Nat := ((L.take j).flatten).length
theorem off_zero (L : List (List Int)) : off L 0 = 0 := by simp [off]
theorem off_cons (l : List Int) (L : List (List Int)) (j : Nat) : off (l :: L) (j + 1) = l.length + off L j := by simp [off]
theorem off_succ (L : List (List Int)) (j : Nat) (hj : j < L.length) : off L (j + 1) = off L j + (L.getD j []).length := by
  induction L generalizing j with
  | nil => simp at hj
  | cons l L ih =>
    cases j with
    | zero => rw [off_cons, off_zero]; simp [off]
    | succ j =>
      rw [off_cons, off_cons, ih j (by simpa using hj)]
      simp; omega
theorem off_all (L : List (List Int)) (j : Nat) (hj : L.length ≤ j) : off L j = L.flatten.length := by
  unfold off
  rw [List.take_of_length_le hj]
theorem off_le (L : List (List Int)) (j : Nat) : off L j ≤ L.flatten.length := by
  induction L generalizing j with
  | nil => simp [off]
  | cons l L ih =>
    cases j with
    | zero => simp [off]
    | succ j =>
      rw [off_cons]
      have := ih j
      simp only [List.flatten_cons, List.length_append]
      omega
theorem offs_get (o : Int) (L : List (List Int)) (j : Nat) (hj : j < L.length) : (offs o L).getD j 0 = o + off L j := by
  induction L generalizing o j with
  | nil => simp at hj
  | cons l L ih =>
    cases j with
    | zero => simp [offs, off]
    | succ j =>
      have := ih (o + l.length) j (by simpa using hj)
      simp only [offs, List.getD_cons_succ]
      rw [this, off_cons]; omega
theorem cut_line (L : List (List Int)) (j : Nat) (hj : j < L.length) : (L.flatten.take (off L (j + 1))).drop (off L j) = L.getD j [] := by
  induction L generalizing j with
  | nil => simp at hj
  | cons l L ih =>
    cases j with
    | zero => rw [off_cons, off_zero]; simp [off]
    | succ j =>
      rw [off_cons, off_cons, List.flatten_cons, List.take_append, List.drop_append]
      have := ih j (by simpa using hj)
      rw [List.take_of_length_le (by omega), List.drop_of_length_le (by omega)]
      rw [show l.length + off L (j + 1) - l.length = off L (j + 1) by omega, show l.length + off L j - l.length = off L j by omega, this]
      simp
theorem begins_ls (b : List Int) : begins b = offs 0 (ls b) ++ (if endc [] b then [(b.length : Int)] else []) := by
  have := begins_lines b 0 []
  simp only [List.length_nil, show ((0 : Nat) : Int) = 0 from rfl, Int.add_zero, Int.zero_add] at this
  exact this
theorem begins_lt (b : List Int) (j : Nat) (hj : j < (ls b).length) : (begins b).getD j 0 = (off (ls b) j : Int) := by
  rw [begins_ls, List.getD_eq_getElem?_getD, List.getElem?_append_left (by rw [offs_len]; exact hj), ← List.getD_eq_getElem?_getD, offs_get 0 _ j hj]
  omega
theorem begins_count (b : List Int) : (begins b).length = (ls b).length + (if endc [] b then 1 else 0) := by
  rw [begins_ls, List.length_append, offs_len]
  split <;> rfl
theorem begins_end (b : List Int) (h : endc [] b = true) : (begins b).getD (ls b).length 0 = (b.length : Int) := by
  rw [begins_ls, if_pos h, List.getD_eq_getElem?_getD, List.getElem?_append_right (by rw [offs_len]; exact Nat.le_refl _), offs_len, Nat.sub_self]
  rfl
theorem off_end (b : List Int) : off (ls b) (ls b).length = b.length := by rw [off_all _ _ (Nat.le_refl _), ls_flat]
theorem line_pos (b : List Int) (j : Nat) (hj : j < (ls b).length) : off (ls b) j < off (ls b) (j + 1) := by
  have h := off_succ (ls b) j hj
  have : 1 ≤ ((ls b).getD j []).length := by
    rw [List.getD_eq_getElem?_getD, List.getElem?_eq_getElem hj]
    exact ls_ne b _ (List.getElem_mem hj)
  omega
theorem nlines_ls (b : List Int) : nlines b = ((ls b).length : Int) := by
  unfold nlines
  have hc := begins_count b
  have hl := begins_len b
  cases he : endc [] b
  · rw [he] at hc
    have hc : (begins b).length = (ls b).length := hc
    rw [begins_lt b ((begins b).length - 1) (by omega)]
    have := line_pos b ((begins b).length - 1) (by omega)
    have h2 := off_le (ls b) ((begins b).length - 1 + 1)
    rw [ls_flat] at h2
    rw [if_neg (by omega)]
    omega
  · rw [he] at hc
    have hc : (begins b).length = (ls b).length + 1 := hc
    rw [show (begins b).length - 1 = (ls b).length by omega, begins_end b he, if_pos rfl]
    omega
theorem begins_next (b : List Int) (j : Nat) (hj : j < (ls b).length) : (if (j : Int) + 1 < ((begins b).length : Int) then (begins b).getD (j + 1) 0 else (b.length : Int)) = (off (ls b) (j + 1) : Int) := by
  have hc := begins_count b
  by_cases h : j + 1 < (ls b).length
  · rw [if_pos (by omega), begins_lt b (j + 1) h]
  · have e : j + 1 = (ls b).length := by omega
    cases he : endc [] b
    · rw [he] at hc
      have hc : (begins b).length = (ls b).length := hc
      rw [if_neg (by omega), e, off_end]
    · rw [he] at hc
      have hc : (begins b).length = (ls b).length + 1 := hc
      rw [if_pos (by omega), e, begins_end b he, off_end]
theorem ls_count (b : List Int) : (ls b).length ≤ b.length := by
  have : ∀ n, n ≤ (ls b).length → n ≤ off (ls b) n := by
    intro n
    induction n with
    | zero => intro _; exact Nat.zero_le _
    | succ n ih => intro hn; have := ih (by omega); have := line_pos b n (by omega); omega
  have := this (ls b).length (Nat.le_refl _)
  rw [off_end] at this
  exact this
end Go.Proofs.YtjabpbnlpljlkaaDoor.M
end
section
/- A string's bytes as numbers, and back. -/
namespace Go.Proofs.YtjabpbnlpljlkaaDoor.M
open Go.RowKit Go.Proofs.YtjabpbnlpljlkaaDoorW.PrintWords Go.Proofs.YtjabpbnlpljlkaaDoor.X
set_option linter.unusedVariables false
set_option linter.unusedSimpArgs false
theorem bytesOf_strOfNums {l : List Int} (h : BT l) : bytesOf (strOfNums l) = l := by
  unfold bytesOf
  rw [strOfNums_data, List.map_map]
  induction l with
  | nil => rfl
  | cons x l ih =>
    have hx := h.head
    rw [List.map_cons, ih h.tail]
    congr 1
    simp only [Function.comp_apply, UInt8.toNat_ofNat']
    omega
theorem toList_eq_data (s : ByteArray) : s.toList = s.data.toList := ByteArray.toList_eq s
theorem toList_append (s t : ByteArray) : (s ++ t).toList = s.toList ++ t.toList := by
  rw [toList_eq_data, toList_eq_data, toList_eq_data, ByteArray.data_append, Array.toList_append]
theorem ba_ext {s t : ByteArray} (h : s.toList = t.toList) : s = t := by
  rw [toList_eq_data, toList_eq_data] at h
  cases s; cases t
  simp only [ByteArray.mk.injEq]
  exact Array.toList_inj.1 h
theorem bytesOf_append (s t : ByteArray) : bytesOf (s ++ t) = bytesOf s ++ bytesOf t := by
  unfold bytesOf
  rw [← List.map_append, ← toList_eq_data, ← toList_eq_data, ← toList_eq_data, toList_append]
end Go.Proofs.YtjabpbnlpljlkaaDoor.M
end
section
/- Plain mathematics of changes, continued: what the changes are between; how few go and come. -/
namespace Go.Proofs.YtjabpbnlpljlkaaDoor.M
set_option linter.unusedVariables false
set_option linter.unusedSimpArgs false
def tl (x : List ByteArray) : List (List UInt8) := x.map ByteArray.toList
theorem lcs_sub (x y : List ByteArray) : ∃ s : List (List UInt8), List.Sublist s (tl x) ∧ List.Sublist s (tl y) ∧ s.length = lcs x y := by
  induction x, y using lcs.induct with
  | case1 y => exact ⟨[], List.nil_sublist _, List.nil_sublist _, by rw [lcs_nil]; rfl⟩
  | case2 a x => exact ⟨[], List.nil_sublist _, List.nil_sublist _, by rw [lcs_nil']; rfl⟩
  | case3 a x b y h ih =>
    obtain ⟨s, h1, h2, h3⟩ := ih
    refine ⟨a.toList :: s, List.Sublist.cons_cons _ h1, ?_, by rw [lcs_cons, if_pos h, List.length_cons, h3]⟩
    show List.Sublist (a.toList :: s) (b.toList :: tl y)
    rw [h]
    exact List.Sublist.cons_cons _ h2
  | case4 a x b y h ih1 ih2 =>
    rw [lcs_cons, if_neg h, Nat.max_def]
    split
    · obtain ⟨s, h1, h2, h3⟩ := ih2
      exact ⟨s, h1, List.Sublist.cons _ h2, h3⟩
    · obtain ⟨s, h1, h2, h3⟩ := ih1
      exact ⟨s, List.Sublist.cons _ h1, h2, h3⟩
theorem lcs_max (x y : List ByteArray) : ∀ s : List (List UInt8), List.Sublist s (tl x) → List.Sublist s (tl y) → s.length ≤ lcs x y := by
  induction x, y using lcs.induct with
  | case1 y =>
    intro s h1 h2
    have := h1.length_le
    simp [tl] at this
    simp [this]
  | case2 a x =>
    intro s h1 h2
    have := h2.length_le
    simp [tl] at this
    simp [this]
  | case3 a x b y h ih =>
    intro s h1 h2
    rw [lcs_cons, if_pos h]
    cases s with
    | nil => simp
    | cons c s =>
      have g1 : List.Sublist s (tl x) := by
        have h1' : List.Sublist (c :: s) (a.toList :: tl x) := h1
        cases h1' with
        | cons _ h => exact (List.sublist_cons_self c s).trans h
        | cons_cons _ h => exact h
      have g2 : List.Sublist s (tl y) := by
        have h2' : List.Sublist (c :: s) (b.toList :: tl y) := h2
        cases h2' with
        | cons _ h => exact (List.sublist_cons_self c s).trans h
        | cons_cons _ h => exact h
      have := ih s g1 g2
      rw [List.length_cons]; omega
  | case4 a x b y h ih1 ih2 =>
    intro s h1 h2
    rw [lcs_cons, if_neg h]
    have h1' : List.Sublist s (a.toList :: tl x) := h1
    have h2' : List.Sublist s (b.toList :: tl y) := h2
    rcases List.sublist_cons_iff.1 h1' with g | ⟨r, e1, g⟩
    · have := ih1 s g h2; omega
    · rcases List.sublist_cons_iff.1 h2' with g2 | ⟨r2, e2, g2⟩
      · have := ih2 s h1 g2; omega
      · rw [e1] at e2
        injection e2 with e2 _
        exact absurd e2 h
theorem tl_append (x y : List ByteArray) : tl (x ++ y) = tl x ++ tl y := List.map_append
theorem lcs_snoc (x y : List ByteArray) (a b : ByteArray) (h : a.toList = b.toList) : lcs (x ++ [a]) (y ++ [b]) = lcs x y + 1 := by
  have key : ∀ (s u : List (List UInt8)) (c : List UInt8), List.Sublist s (u ++ [c]) → List.Sublist s.dropLast u := by
    intro s u c hs
    have := List.sublist_append_iff.1 hs
    obtain ⟨s1, s2, rfl, g1, g2⟩ := this
    have hl := g2.length_le
    simp only [List.length_cons, List.length_nil] at hl
    match s2, hl with
    | [], _ => rw [List.append_nil]; exact (List.dropLast_sublist _).trans g1
    | [d], _ => rw [List.dropLast_concat]; exact g1
  apply Nat.le_antisymm
  · obtain ⟨s, h1, h2, h3⟩ := lcs_sub (x ++ [a]) (y ++ [b])
    rw [tl_append] at h1 h2
    have := lcs_max x y s.dropLast (key s (tl x) a.toList h1) (key s (tl y) b.toList h2)
    rw [List.length_dropLast] at this
    omega
  · obtain ⟨s, h1, h2, h3⟩ := lcs_sub x y
    have := lcs_max (x ++ [a]) (y ++ [b]) (s ++ [a.toList]) (by rw [tl_append]; exact List.Sublist.append h1 (List.Sublist.refl _)) (by rw [tl_append, h]; exact List.Sublist.append h2 (List.Sublist.refl _))
    rw [List.length_append, h3] at this
    exact this
theorem lcs_pre : ∀ p q : List ByteArray, lcs p q = pre p q + lcs (p.drop (pre p q)) (q.drop (pre p q))
  | [], q => by rw [pre_nil, List.drop_zero, List.drop_zero, Nat.zero_add]
  | _ :: _, [] => by rw [pre_nil', List.drop_zero, List.drop_zero, Nat.zero_add]
  | a :: x, b :: y => by
    by_cases h : a.toList = b.toList
    · rw [lcs_cons, pre_cons, if_pos h, if_pos h, List.drop_succ_cons, List.drop_succ_cons, lcs_pre x y]; omega
    · rw [pre_cons, if_neg h, List.drop_zero, List.drop_zero, Nat.zero_add]
theorem take_last (x : List ByteArray) (h : 0 < x.length) : x = x.take (x.length - 1) ++ [lastOf x] := by
  have e : x.length - 1 < x.length := by omega
  have h1 := List.take_append_drop (x.length - 1) x
  rw [List.drop_eq_getElem_cons e, List.drop_eq_nil_of_le (show x.length ≤ x.length - 1 + 1 by omega)] at h1
  have : lastOf x = x[x.length - 1] := by unfold lastOf; rw [List.getD_eq_getElem?_getD, List.getElem?_eq_getElem e]; rfl
  rw [this]
  exact h1.symm
theorem strip_parts (x y : List ByteArray) : ∃ s t : List ByteArray, x = (strip x y).1 ++ s ∧ y = (strip x y).2 ++ t ∧ tl s = tl t ∧ lcs x y = lcs (strip x y).1 (strip x y).2 + s.length := by
  by_cases h : 0 < x.length ∧ 0 < y.length ∧ (lastOf x).toList = (lastOf y).toList
  · rw [strip_pos x y h]
    obtain ⟨s, t, h1, h2, h3, h4⟩ := strip_parts (x.take (x.length - 1)) (y.take (y.length - 1))
    refine ⟨s ++ [lastOf x], t ++ [lastOf y], ?_, ?_, ?_, ?_⟩
    · rw [← List.append_assoc, ← h1]; exact take_last x h.1
    · rw [← List.append_assoc, ← h2]; exact take_last y h.2.1
    · rw [tl_append, tl_append, h3]
      congr 1
      show [_] = [_]
      rw [h.2.2]
    · rw [List.length_append, ← Nat.add_assoc, ← h4, List.length_singleton, ← lcs_snoc _ _ _ _ h.2.2, ← take_last x h.1, ← take_last y h.2.1]
  · rw [strip_neg x y h]
    exact ⟨[], [], (List.append_nil _).symm, (List.append_nil _).symm, rfl, rfl⟩
termination_by x.length
decreasing_by rw [List.length_take]; omega
def moves : List Mv → Nat
  | [] => 0
  | .keep :: s => moves s
  | .del :: s => moves s + 1
  | .ins :: s => moves s + 1
theorem moves_script (x y : List ByteArray) : moves (script x y) + 2 * lcs x y = x.length + y.length := by
  induction x, y using script.induct with
  | case1 => rw [script_nil, lcs_nil]; rfl
  | case2 b y ih => rw [lcs_nil] at ih; rw [script_ins, lcs_nil]; simp only [moves, List.length_cons, List.length_nil] at *; omega
  | case3 a x ih => rw [lcs_nil'] at ih; rw [script_del, lcs_nil']; simp only [moves, List.length_cons, List.length_nil] at *; omega
  | case4 a x b y h ih => rw [script_cons, if_pos h, lcs_cons, if_pos h]; simp only [moves, List.length_cons] at *; omega
  | case5 a x b y h h2 ih => rw [script_cons, if_neg h, if_pos h2, lcs_cons, if_neg h, Nat.max_eq_left h2]; simp only [moves, List.length_cons] at *; omega
  | case6 a x b y h h2 ih => rw [script_cons, if_neg h, if_neg h2, lcs_cons, if_neg h, Nat.max_eq_right (by omega)]; simp only [moves, List.length_cons] at *; omega
def ln (p : List ByteArray) (i : Nat) : List UInt8 := (p.getD i ByteArray.empty).toList
def Seg (p q : List ByteArray) (a b n : Nat) : Prop := ∀ t, t < n → ln p (a + t) = ln q (b + t)
def Leads (p q : List ByteArray) : Nat → Nat → List Mv → Nat → Nat → Prop
  | a, b, [], e, f => a = e ∧ b = f
  | a, b, .keep :: s, e, f => a < p.length ∧ b < q.length ∧ ln p a = ln q b ∧ Leads p q (a + 1) (b + 1) s e f
  | a, b, .del :: s, e, f => a < p.length ∧ Leads p q (a + 1) b s e f
  | a, b, .ins :: s, e, f => b < q.length ∧ Leads p q a (b + 1) s e f
theorem ln_drop (p : List ByteArray) (a : Nat) (c : ByteArray) (r : List ByteArray) (h : p.drop a = c :: r) : a < p.length ∧ ln p a = c.toList ∧ p.drop (a + 1) = r := by
  have hl : a < p.length := by
    have := congrArg List.length h
    rw [List.length_drop, List.length_cons] at this
    omega
  rw [List.drop_eq_getElem_cons hl] at h
  injection h with h1 h2
  refine ⟨hl, ?_, h2⟩
  unfold ln
  rw [List.getD_eq_getElem?_getD, List.getElem?_eq_getElem hl, ← h1]
  rfl
theorem script_leads (p q : List ByteArray) (x y : List ByteArray) : ∀ (a b : Nat) (s t : List ByteArray), p.drop a = x ++ s → q.drop b = y ++ t → Leads p q a b (script x y) (a + x.length) (b + y.length) := by
  induction x, y using script.induct with
  | case1 => intro a b s t h1 h2; rw [script_nil]; exact ⟨rfl, rfl⟩
  | case2 c y ih =>
    intro a b s t h1 h2
    rw [script_ins]
    obtain ⟨g1, g2, g3⟩ := ln_drop q b c (y ++ t) h2
    refine ⟨g1, ?_⟩
    have := ih a (b + 1) s t h1 g3
    rw [List.length_cons, show b + (y.length + 1) = b + 1 + y.length by omega]
    exact this
  | case3 c x ih =>
    intro a b s t h1 h2
    rw [script_del]
    obtain ⟨g1, g2, g3⟩ := ln_drop p a c (x ++ s) h1
    refine ⟨g1, ?_⟩
    have := ih (a + 1) b s t g3 h2
    rw [List.length_cons, show a + (x.length + 1) = a + 1 + x.length by omega]
    exact this
  | case4 c x d y h ih =>
    intro a b s t h1 h2
    rw [script_cons, if_pos h]
    obtain ⟨g1, g2, g3⟩ := ln_drop p a c (x ++ s) h1
    obtain ⟨f1, f2, f3⟩ := ln_drop q b d (y ++ t) h2
    refine ⟨g1, f1, by rw [g2, f2, h], ?_⟩
    have := ih (a + 1) (b + 1) s t g3 f3
    rw [List.length_cons, List.length_cons, show a + (x.length + 1) = a + 1 + x.length by omega, show b + (y.length + 1) = b + 1 + y.length by omega]
    exact this
  | case5 c x d y h h2 ih =>
    intro a b s t h1 h2'
    rw [script_cons, if_neg h, if_pos h2]
    obtain ⟨g1, g2, g3⟩ := ln_drop p a c (x ++ s) h1
    refine ⟨g1, ?_⟩
    have := ih (a + 1) b s t g3 h2'
    rw [List.length_cons, show a + (x.length + 1) = a + 1 + x.length by omega]
    exact this
  | case6 c x d y h h2 ih =>
    intro a b s t h1 h2'
    rw [script_cons, if_neg h, if_neg h2]
    obtain ⟨f1, f2, f3⟩ := ln_drop q b d (y ++ t) h2'
    refine ⟨f1, ?_⟩
    have := ih a (b + 1) s t h1 f3
    rw [List.length_cons (a := d), show b + (y.length + 1) = b + 1 + y.length by omega]
    exact this
def GoodC (p q : List ByteArray) : Bool → Nat → Nat → Nat → List Ch → Nat → Prop
  | _, a, b, m, [], tot => a ≤ p.length ∧ b ≤ q.length ∧ p.length - a = q.length - b ∧ Seg p q a b (p.length - a) ∧ tot = m
  | fst, a, b, m, c :: cs, tot => ∃ o os n ns : Nat, c = ⟨o, os, n, ns⟩ ∧ a ≤ o ∧ b ≤ n ∧ o - a = n - b ∧ (fst = false → a < o) ∧ os + ns ≠ 0 ∧ o + os ≤ p.length ∧ n + ns ≤ q.length ∧ Seg p q a b (o - a) ∧ GoodC p q false (o + os) (n + ns) (m + (os + ns)) cs tot
theorem Seg.cat {p q : List ByteArray} {a b n m : Nat} (h : Seg p q a b n) (g : Seg p q (a + n) (b + n) m) : Seg p q a b (n + m) := by
  intro t ht
  by_cases h1 : t < n
  · exact h t h1
  · have := g (t - n) (by omega)
    rw [show a + n + (t - n) = a + t by omega, show b + n + (t - n) = b + t by omega] at this
    exact this
theorem Seg.one {p q : List ByteArray} {a b : Nat} (h : ln p a = ln q b) : Seg p q a b 1 := by
  intro t ht
  obtain rfl : t = 0 := by omega
  exact h
theorem grp_good (p q : List ByteArray) (fr e f : Nat) (he : e ≤ p.length) (hf : f ≤ q.length) (hend : p.length - e = q.length - f) (hseg : Seg p q e f (p.length - e)) : ∀ (s : List Mv) (i k o os n ns a b m : Nat) (fst : Bool),
    Leads p q (fr + i) (fr + k) s e f → o + os = fr + i → n + ns = fr + k → fr + i ≤ p.length → fr + k ≤ q.length → a ≤ o → b ≤ n → o - a = n - b → (fst = false → a < o) → Seg p q a b (o - a) →
    GoodC p q fst a b m (grp fr i k ⟨o, os, n, ns⟩ s) (m + (os + ns) + moves s) := by
  have fin : ∀ (o os n ns a b m : Nat) (fst : Bool), o + os = e → n + ns = f → a ≤ o → b ≤ n → o - a = n - b → (fst = false → a < o) → Seg p q a b (o - a) → GoodC p q fst a b m (flushed ⟨o, os, n, ns⟩) (m + (os + ns)) := by
    intro o os n ns a b m fst h1 h2 h5 h6 h7 h8 h9
    unfold flushed
    by_cases hp : os + ns = 0
    · rw [if_neg (by show ¬ ((os : Int) + (ns : Int) > 0); omega)]
      refine ⟨by omega, by omega, by omega, ?_, by omega⟩
      have := h9.cat (m := p.length - e) (by rw [show a + (o - a) = e by omega, show b + (o - a) = f by omega]; exact hseg)
      rw [show o - a + (p.length - e) = p.length - a by omega] at this
      exact this
    · rw [if_pos (by show ((os : Int) + (ns : Int) > 0); omega)]
      refine ⟨o, os, n, ns, rfl, h5, h6, h7, h8, hp, by omega, by omega, h9, by omega, by omega, by omega, ?_, rfl⟩
      rw [h1, h2]; exact hseg
  intro s
  induction s with
  | nil =>
    intro i k o os n ns a b m fst hL h1 h2 h3 h4 h5 h6 h7 h8 h9
    obtain ⟨l1, l2⟩ := hL
    exact fin o os n ns a b m fst (by omega) (by omega) h5 h6 h7 h8 h9
  | cons v s ih =>
    intro i k o os n ns a b m fst hL h1 h2 h3 h4 h5 h6 h7 h8 h9
    cases v with
    | keep =>
      obtain ⟨l1, l2, l3, l4⟩ := hL
      rw [grp_keep]
      have ec : (⟨(fr : Int) + ((i : Int) + 1), 0, (fr : Int) + ((k : Int) + 1), 0⟩ : Ch) = ⟨((fr + (i + 1) : Nat) : Int), ((0 : Nat) : Int), ((fr + (k + 1) : Nat) : Int), ((0 : Nat) : Int)⟩ := by
        congr 1
      have ei : (i : Int) + 1 = ((i + 1 : Nat) : Int) := by omega
      have ek : (k : Int) + 1 = ((k + 1 : Nat) : Int) := by omega
      rw [ec, ei, ek]
      unfold flushed
      by_cases hp : os + ns = 0
      · rw [if_neg (by show ¬ ((os : Int) + (ns : Int) > 0); omega), List.nil_append]
        have hs' : Seg p q a b (fr + (i + 1) - a) := by
          have := h9.cat (m := 1) (by rw [show a + (o - a) = fr + i by omega, show b + (o - a) = fr + k by omega]; exact Seg.one l3)
          rw [show o - a + 1 = fr + (i + 1) - a by omega] at this
          exact this
        have := ih (i + 1) (k + 1) (fr + (i + 1)) 0 (fr + (k + 1)) 0 a b m fst l4 (by omega) (by omega) (by omega) (by omega) (by omega) (by omega) (by omega) (fun hf => by omega) hs'
        rw [hp]
        exact this
      · rw [if_pos (by show ((os : Int) + (ns : Int) > 0); omega)]
        refine ⟨o, os, n, ns, rfl, h5, h6, h7, h8, hp, by omega, by omega, h9, ?_⟩
        have := ih (i + 1) (k + 1) (fr + (i + 1)) 0 (fr + (k + 1)) 0 (o + os) (n + ns) (m + (os + ns)) false l4 (by omega) (by omega) (by omega) (by omega) (by omega) (by omega) (by omega) (fun hf => by omega)
          (by rw [show fr + (i + 1) - (o + os) = 1 by omega, h1, h2]; exact Seg.one l3)
        exact this
    | del =>
      obtain ⟨l1, l4⟩ := hL
      rw [grp_del]
      have ec : (⟨(o : Int), (os : Int) + 1, (n : Int), (ns : Int)⟩ : Ch) = ⟨(o : Int), ((os + 1 : Nat) : Int), (n : Int), (ns : Int)⟩ := by congr 1
      have ei : (i : Int) + 1 = ((i + 1 : Nat) : Int) := by omega
      simp only
      rw [ec, ei]
      have := ih (i + 1) k o (os + 1) n ns a b m fst l4 (by omega) (by omega) (by omega) (by omega) h5 h6 h7 h8 h9
      rw [show m + (os + 1 + ns) + moves s = m + (os + ns) + (moves s + 1) by omega] at this
      exact this
    | ins =>
      obtain ⟨l1, l4⟩ := hL
      rw [grp_ins]
      have ec : (⟨(o : Int), (os : Int), (n : Int), (ns : Int) + 1⟩ : Ch) = ⟨(o : Int), (os : Int), (n : Int), ((ns + 1 : Nat) : Int)⟩ := by congr 1
      have ek : (k : Int) + 1 = ((k + 1 : Nat) : Int) := by omega
      simp only
      rw [ec, ek]
      have := ih i (k + 1) o os n (ns + 1) a b m fst l4 (by omega) (by omega) (by omega) (by omega) h5 h6 h7 h8 h9
      rw [show m + (os + (ns + 1)) + moves s = m + (os + ns) + (moves s + 1) by omega] at this
      exact this
theorem pre_seg : ∀ (p q : List ByteArray), Seg p q 0 0 (pre p q)
  | [], q => fun t ht => by rw [pre_nil] at ht; omega
  | _ :: _, [] => fun t ht => by rw [pre_nil'] at ht; omega
  | a :: x, b :: y => fun t ht => by
    by_cases h : a.toList = b.toList
    · rw [pre_cons, if_pos h] at ht
      cases t with
      | zero => exact h
      | succ t =>
        have := pre_seg x y t (by omega)
        rw [Nat.zero_add] at this ⊢
        exact this
    · rw [pre_cons, if_neg h] at ht; omega
theorem ln_tail (p : List ByteArray) (e : Nat) (s : List ByteArray) (h : p.drop e = s) (t : Nat) : ln p (e + t) = (tl s).getD t [] := by
  subst h
  unfold ln tl
  rw [List.getD_eq_getElem?_getD, List.getD_eq_getElem?_getD, List.getElem?_map, List.getElem?_drop]
  cases p[e + t]?
  · show ByteArray.empty.toList = []; decide +kernel
  · rfl
theorem chgs_good (p q : List ByteArray) (hp : p.length ≤ 1000) (hq : q.length ≤ 1000) : GoodC p q true 0 0 0 (chgs p q) (p.length + q.length - 2 * lcs p q) := by
  have hpl := pre_le p q
  have hsl := strip_le (p.drop (pre p q)) (q.drop (pre p q))
  obtain ⟨s, t, e1, e2, e3, e4⟩ := strip_parts (p.drop (pre p q)) (q.drop (pre p q))
  have e5 := lcs_pre p q
  have e6 := moves_script (strip (p.drop (pre p q)) (q.drop (pre p q))).1 (strip (p.drop (pre p q)) (q.drop (pre p q))).2
  have hL := script_leads p q _ _ (pre p q) (pre p q) s t e1 e2
  have e7 := congrArg List.length e1
  have e8 := congrArg List.length e2
  have e9 := congrArg List.length e3
  unfold tl at e9
  rw [List.length_map, List.length_map] at e9
  rw [List.length_append, List.length_drop] at e7 e8
  rw [List.length_drop, List.length_drop] at hsl
  unfold chgs
  simp only
  generalize (strip (p.drop (pre p q)) (q.drop (pre p q))).1 = x at *
  generalize (strip (p.drop (pre p q)) (q.drop (pre p q))).2 = y at *
  rw [if_neg (by omega)]
  have d1 : p.drop (pre p q + x.length) = s := by rw [← List.drop_drop, e1, List.drop_left]
  have d2 : q.drop (pre p q + y.length) = t := by rw [← List.drop_drop, e2, List.drop_left]
  have hseg : Seg p q (pre p q + x.length) (pre p q + y.length) (p.length - (pre p q + x.length)) := by
    intro j hj
    rw [ln_tail p _ s d1 j, ln_tail q _ t d2 j, e3]
  have main := grp_good p q (pre p q) (pre p q + x.length) (pre p q + y.length) (by omega) (by omega) (by omega) hseg (script x y) 0 0 (pre p q) 0 (pre p q) 0 0 0 0 true hL rfl rfl (by omega) (by omega) (Nat.zero_le _) (Nat.zero_le _) rfl (fun h => by cases h) (pre_seg p q)
  rw [show 0 + (0 + 0) + moves (script x y) = p.length + q.length - 2 * lcs p q by omega] at main
  exact main
theorem chgs_len (p q : List ByteArray) : (chgs p q).length ≤ p.length + q.length + 1 := by
  have hsl := strip_le (p.drop (pre p q)) (q.drop (pre p q))
  rw [List.length_drop, List.length_drop] at hsl
  unfold chgs
  simp only
  split
  · simp
  · have := grp_len (script (strip (p.drop (pre p q)) (q.drop (pre p q))).1 (strip (p.drop (pre p q)) (q.drop (pre p q))).2) (pre p q) 0 0 ⟨pre p q, 0, pre p q, 0⟩
    have := script_len (strip (p.drop (pre p q)) (q.drop (pre p q))).1 (strip (p.drop (pre p q)) (q.drop (pre p q))).2
    omega
end Go.Proofs.YtjabpbnlpljlkaaDoor.M
end
section
/- Plain mathematics of hunks: lines with their signs; changes that stand near one another. -/
namespace Go.Proofs.YtjabpbnlpljlkaaDoor.M
set_option linter.unusedVariables false
set_option linter.unusedSimpArgs false
structure Ln where
  sg : Int
  tx : ByteArray
  br : Bool
structure Hk where
  o : Int
  os : Int
  n : Int
  ns : Int
  ls : List Ln
def nlEnd (s : ByteArray) : Bool := if 1 ≤ s.size then (s.extract (s.size - 1) s.size).toList == (⟨#[10]⟩ : ByteArray).toList else false
def lineM (sg : Int) (s : ByteArray) : Ln := if nlEnd s then ⟨sg, s.extract 0 (s.size - 1), false⟩ else ⟨sg, s, true⟩
theorem lineM_sg (sg : Int) (s : ByteArray) : (lineM sg s).sg = sg := by unfold lineM; split <;> rfl
def piece (P : List ByteArray) (a b : Nat) : List ByteArray := (P.take b).drop a
theorem piece_len (P : List ByteArray) (a b : Nat) (h : b ≤ P.length) : (piece P a b).length = b - a := by unfold piece; rw [List.length_drop, List.length_take]; omega
def bodyM (P Q : List ByteArray) : Nat → List Ch → List Ln
  | _, [] => []
  | a, c :: cs => (piece P a c.o.toNat).map (lineM 32) ++ ((piece P c.o.toNat (c.o + c.os).toNat).map (lineM 45) ++ ((piece Q c.n.toNat (c.n + c.ns).toNat).map (lineM 43) ++ bodyM P Q (c.o + c.os).toNat cs))
def endM : Nat → List Ch → Nat
  | a, [] => a
  | _, c :: cs => endM (c.o + c.os).toNat cs
def endN : Nat → List Ch → Nat
  | b, [] => b
  | _, c :: cs => endN (c.n + c.ns).toNat cs
theorem bodyM_cons (P Q : List ByteArray) (a : Nat) (c : Ch) (cs : List Ch) : bodyM P Q a (c :: cs) = (piece P a c.o.toNat).map (lineM 32) ++ ((piece P c.o.toNat (c.o + c.os).toNat).map (lineM 45) ++ ((piece Q c.n.toNat (c.n + c.ns).toNat).map (lineM 43) ++ bodyM P Q (c.o + c.os).toNat cs)) := rfl
theorem endM_cons (a : Nat) (c : Ch) (cs : List Ch) : endM a (c :: cs) = endM (c.o + c.os).toNat cs := rfl
theorem endN_cons (a : Nat) (c : Ch) (cs : List Ch) : endN a (c :: cs) = endN (c.n + c.ns).toNat cs := rfl
def cntM (sg : Int) : List Ln → Nat
  | [] => 0
  | l :: t => if l.sg = sg then cntM sg t + 1 else cntM sg t
theorem cntM_cons (sg : Int) (l : Ln) (t : List Ln) : cntM sg (l :: t) = if l.sg = sg then cntM sg t + 1 else cntM sg t := rfl
theorem cntM_append (sg : Int) (x y : List Ln) : cntM sg (x ++ y) = cntM sg x + cntM sg y := by
  induction x with
  | nil => show _ = 0 + _; rw [Nat.zero_add]; rfl
  | cons l t ih =>
    show (if l.sg = sg then cntM sg (t ++ y) + 1 else cntM sg (t ++ y)) = (if l.sg = sg then cntM sg t + 1 else cntM sg t) + _
    rw [ih]; split <;> omega
theorem cntM_map (sg sg' : Int) (x : List ByteArray) : cntM sg (x.map (lineM sg')) = if sg' = sg then x.length else 0 := by
  induction x with
  | nil => split <;> rfl
  | cons l t ih =>
    show (if (lineM sg' l).sg = sg then cntM sg (t.map (lineM sg')) + 1 else cntM sg (t.map (lineM sg'))) = _
    rw [lineM_sg, ih]
    split <;> simp
theorem cntM_le (sg : Int) (x : List Ln) : cntM sg x ≤ x.length := by
  induction x with
  | nil => exact Nat.le_refl _
  | cons l t ih => unfold cntM; rw [List.length_cons]; split <;> omega
def linesM (P Q : List ByteArray) (ctx a : Nat) (l : List Ch) : List Ln := bodyM P Q a l ++ (piece P (endM a l) (min (endM a l + ctx) P.length)).map (lineM 32)
def hunkM (P Q : List ByteArray) (ctx : Nat) (c : Ch) (cs : List Ch) : Hk :=
  let lead := min ctx c.o.toNat
  let a := c.o.toNat - lead
  let L := linesM P Q ctx a (c :: cs)
  ⟨a, (L.length : Int) - (cntM 43 L : Int), c.n - (lead : Int), (L.length : Int) - (cntM 45 L : Int), L⟩
def nearM (ctx : Nat) : Ch → List Ch → Nat
  | _, [] => 0
  | p, c :: cs => if c.o - (p.o + p.os) ≤ 2 * (ctx : Int) then nearM ctx c cs + 1 else 0
theorem nearM_le (ctx : Nat) : ∀ (cs : List Ch) (p : Ch), nearM ctx p cs ≤ cs.length
  | [], _ => Nat.le_refl _
  | c :: cs, p => by
    have := nearM_le ctx cs c
    unfold nearM
    rw [List.length_cons]
    split <;> omega
def makeM (P Q : List ByteArray) (ctx : Nat) : List Ch → List Hk
  | [] => []
  | c :: cs => hunkM P Q ctx c (cs.take (nearM ctx c cs)) :: makeM P Q ctx (cs.drop (nearM ctx c cs))
termination_by l => l.length
decreasing_by rw [List.length_drop, List.length_cons]; omega
theorem makeM_nil (P Q : List ByteArray) (ctx : Nat) : makeM P Q ctx [] = [] := by rw [makeM]
theorem makeM_cons (P Q : List ByteArray) (ctx : Nat) (c : Ch) (cs : List Ch) : makeM P Q ctx (c :: cs) = hunkM P Q ctx c (cs.take (nearM ctx c cs)) :: makeM P Q ctx (cs.drop (nearM ctx c cs)) := by rw [makeM]
def Fit (P Q : List ByteArray) : Nat → List Ch → Prop
  | _, [] => True
  | a, c :: cs => ∃ o os n ns : Nat, c = ⟨o, os, n, ns⟩ ∧ a ≤ o ∧ o + os ≤ P.length ∧ n + ns ≤ Q.length ∧ Fit P Q (o + os) cs
theorem Fit.mono {P Q : List ByteArray} {a a' : Nat} {l : List Ch} (h : Fit P Q a l) (ha : a' ≤ a) : Fit P Q a' l := by
  cases l with
  | nil => trivial
  | cons c cs =>
    obtain ⟨o, os, n, ns, h1, h2, h3, h4, h5⟩ := h
    exact ⟨o, os, n, ns, h1, by omega, h3, h4, h5⟩
theorem Fit.take {P Q : List ByteArray} : ∀ {l : List Ch} {a : Nat} (m : Nat), Fit P Q a l → Fit P Q a (l.take m)
  | [], _, m, _ => by rw [List.take_nil]; trivial
  | _ :: _, _, 0, _ => trivial
  | _ :: _, _, m + 1, ⟨o, os, n, ns, h1, h2, h3, h4, h5⟩ => ⟨o, os, n, ns, h1, h2, h3, h4, h5.take m⟩
theorem Fit.drop {P Q : List ByteArray} : ∀ {l : List Ch} {a : Nat} (m : Nat), Fit P Q a l → Fit P Q a (l.drop m)
  | [], _, m, _ => by rw [List.drop_nil]; trivial
  | _ :: _, _, 0, h => h
  | _ :: _, a, m + 1, ⟨o, os, n, ns, h1, h2, h3, h4, h5⟩ => (h5.drop m).mono (by omega)
theorem GoodC.fit {P Q : List ByteArray} : ∀ {l : List Ch} {fst : Bool} {a b m tot : Nat}, GoodC P Q fst a b m l tot → Fit P Q a l
  | [], _, _, _, _, _, _ => trivial
  | _ :: _, _, _, _, _, _, ⟨o, os, n, ns, h1, h2, h3, h4, h5, h6, h7, h8, h9, h10⟩ => ⟨o, os, n, ns, h1, h2, h7, h8, h10.fit⟩
theorem GoodC.rest {P Q : List ByteArray} : ∀ {l : List Ch} {a b m tot : Nat} (k : Nat), GoodC P Q false a b m l tot → ∃ m', GoodC P Q false (endM a (l.take k)) (endN b (l.take k)) m' (l.drop k) tot
  | [], a, b, m, tot, k, h => ⟨m, by rw [List.take_nil, List.drop_nil]; exact h⟩
  | _ :: _, a, b, m, tot, 0, h => ⟨m, h⟩
  | c :: cs, a, b, m, tot, k + 1, ⟨o, os, n, ns, h1, h2, h3, h4, h5, h6, h7, h8, h9, h10⟩ => by
    obtain ⟨m', h⟩ := h10.rest k
    refine ⟨m', ?_⟩
    subst h1
    exact h
theorem GoodC.rest1 {P Q : List ByteArray} {fst : Bool} {c : Ch} {cs : List Ch} {a b m tot : Nat} (k : Nat) (h : GoodC P Q fst a b m (c :: cs) tot) : ∃ m', GoodC P Q false (endM a (c :: cs.take k)) (endN b (c :: cs.take k)) m' (cs.drop k) tot := by
  obtain ⟨o, os, n, ns, h1, h2, h3, h4, h5, h6, h7, h8, h9, h10⟩ := h
  obtain ⟨m', h⟩ := h10.rest k
  refine ⟨m', ?_⟩
  subst h1
  exact h
theorem body_counts {P Q : List ByteArray} : ∀ (l : List Ch) (fst : Bool) (a b m tot : Nat) (rest : List Ch), GoodC P Q fst a b m (l ++ rest) tot →
    (bodyM P Q a l).length = cntM 43 (bodyM P Q a l) + (endM a l - a) ∧ (bodyM P Q a l).length = cntM 45 (bodyM P Q a l) + (endN b l - b) ∧ a ≤ endM a l ∧ b ≤ endN b l ∧ endM a l ≤ P.length ∧ endN b l ≤ Q.length
  | [], fst, a, b, m, tot, rest, h => by
    have h0 : a ≤ P.length ∧ b ≤ Q.length := by
      cases rest with
      | nil => exact ⟨h.1, h.2.1⟩
      | cons c cs =>
        obtain ⟨o, os, n, ns, h1, h2, h3, h4, h5, h6, h7, h8, h9, h10⟩ := h
        omega
    refine ⟨?_, ?_, Nat.le_refl _, Nat.le_refl _, h0.1, h0.2⟩
    · show 0 = 0 + (a - a); omega
    · show 0 = 0 + (b - b); omega
  | c :: l, fst, a, b, m, tot, rest, h => by
    obtain ⟨o, os, n, ns, h1, h2, h3, h4, h5, h6, h7, h8, h9, h10⟩ := h
    subst h1
    obtain ⟨g1, g2, g3, g4, g5, g6⟩ := body_counts l false (o + os) (n + ns) _ tot rest h10
    have e1 : ((o : Int) + (os : Int)).toNat = o + os := by omega
    have e2 : ((n : Int) + (ns : Int)).toNat = n + ns := by omega
    unfold bodyM endM endN
    simp only [List.length_append, List.length_map, cntM_append, cntM_map, Int.toNat_natCast, e1, e2, show ¬ ((32 : Int) = 43) by decide, show ¬ ((45 : Int) = 43) by decide, show ¬ ((32 : Int) = 45) by decide, show ¬ ((43 : Int) = 45) by decide, if_true, if_false]
    rw [piece_len P a o (by omega), piece_len P o (o + os) h7, piece_len Q n (n + ns) h8]
    refine ⟨by omega, by omega, by omega, by omega, g5, g6⟩
def Gap (ctx a : Nat) : List Ch → Prop
  | [] => True
  | c :: _ => a + 2 * ctx < c.o.toNat
theorem near_gap (P Q : List ByteArray) (ctx : Nat) : ∀ (cs : List Ch) (p : Ch) (a : Nat), Fit P Q a (p :: cs) → Gap ctx (endM a (p :: cs.take (nearM ctx p cs))) (cs.drop (nearM ctx p cs))
  | [], p, a, _ => by rw [List.drop_nil]; trivial
  | c :: cs, p, a, h => by
    obtain ⟨o, os, n, ns, h1, h2, h3, h4, o', os', n', ns', g1, g2, g3, g4, g5⟩ := h
    subst h1
    subst g1
    unfold nearM
    simp only
    by_cases hc : (o' : Int) - ((o : Int) + (os : Int)) ≤ 2 * (ctx : Int)
    · rw [if_pos hc, List.take_succ_cons, List.drop_succ_cons]
      have := near_gap P Q ctx cs ⟨o', os', n', ns'⟩ (o + os) ⟨o', os', n', ns', rfl, g2, g3, g4, g5⟩
      exact this
    · rw [if_neg hc]
      show ((o : Int) + (os : Int)).toNat + 2 * ctx < ((o' : Int)).toNat
      omega
theorem cnt_both (x : List Ln) : cntM 43 x + cntM 45 x ≤ x.length := by
  induction x with
  | nil => exact Nat.le_refl _
  | cons l t ih =>
    rw [cntM_cons, cntM_cons, List.length_cons]
    by_cases h : l.sg = 43
    · rw [if_pos h, if_neg (by omega)]; omega
    · rw [if_neg h]; split <;> omega
def St (ctx a b : Nat) (l : List Ch) : Prop := Gap ctx a l ∨ (a = 0 ∧ b = 0)
theorem GoodC.start {P Q : List ByteArray} {ctx : Nat} {fst : Bool} {a b m tot o os n ns : Nat} {cs : List Ch} (h : GoodC P Q fst a b m (⟨o, os, n, ns⟩ :: cs) tot) (hs : St ctx a b (⟨o, os, n, ns⟩ :: cs)) :
    GoodC P Q true (o - min ctx o) (n - min ctx o) m (⟨o, os, n, ns⟩ :: cs) tot ∧ min ctx o ≤ n ∧ a ≤ o - min ctx o ∧ b ≤ n - min ctx o ∧ o - min ctx o - a = n - min ctx o - b ∧ 0 < os + ns := by
  obtain ⟨o', os', n', ns', h1, h2, h3, h4, h5, h6, h7, h8, h9, h10⟩ := h
  injection h1 with e1 e2 e3 e4
  have e1 : o = o' := by omega
  have e2 : os = os' := by omega
  have e3 : n = n' := by omega
  have e4 : ns = ns' := by omega
  subst e1; subst e2; subst e3; subst e4
  have hl : min ctx o ≤ o - a := by
    rcases hs with hs | ⟨hs, _⟩
    · have hs' : a + 2 * ctx < ((o : Int)).toNat := hs
      omega
    · omega
  refine ⟨⟨o, os, n, ns, rfl, by omega, by omega, by omega, fun h => (by cases h), h6, h7, h8, fun t ht => ?_, h10⟩, by omega, by omega, by omega, by omega, by omega⟩
  have := h9 (o - min ctx o - a + t) (by omega)
  rw [show a + (o - min ctx o - a + t) = o - min ctx o + t by omega, show b + (o - min ctx o - a + t) = n - min ctx o + t by omega] at this
  exact this
theorem body_moved {P Q : List ByteArray} (a : Nat) (cs : List Ch) (o os n ns : Nat) (h : 0 < os + ns) (h1 : o + os ≤ P.length) (h2 : n + ns ≤ Q.length) : 0 < cntM 43 (bodyM P Q a (⟨o, os, n, ns⟩ :: cs)) + cntM 45 (bodyM P Q a (⟨o, os, n, ns⟩ :: cs)) := by
  have t1 : ((o : Int) + (os : Int)).toNat = o + os := by omega
  have t2 : ((n : Int) + (ns : Int)).toNat = n + ns := by omega
  have p1 := piece_len P o (o + os) h1
  have p2 := piece_len Q n (n + ns) h2
  simp only [bodyM_cons, cntM_append, cntM_map, Int.toNat_natCast, t1, t2, show ¬ ((32 : Int) = 43) by decide, show ¬ ((45 : Int) = 43) by decide, show ¬ ((32 : Int) = 45) by decide, show ¬ ((43 : Int) = 45) by decide, if_true, if_false]
  omega
theorem hunk_lines {P Q : List ByteArray} {ctx : Nat} {a b m tot : Nat} (l rest : List Ch) (h : GoodC P Q true a b m (l ++ rest) tot) :
    (linesM P Q ctx a l).length = cntM 43 (linesM P Q ctx a l) + (min (endM a l + ctx) P.length - a) ∧ (linesM P Q ctx a l).length = cntM 45 (linesM P Q ctx a l) + (endN b l + (min (endM a l + ctx) P.length - endM a l) - b) ∧ (linesM P Q ctx a l).length ≤ 2 * P.length + 2 * Q.length := by
  obtain ⟨g1, g2, g3, g4, g5, g6⟩ := body_counts l true a b m tot rest h
  have hb := cnt_both (bodyM P Q a l)
  have hp := piece_len P (endM a l) (min (endM a l + ctx) P.length) (by omega)
  unfold linesM
  simp only [List.length_append, List.length_map, cntM_append, cntM_map, show ¬ ((32 : Int) = 43) by decide, show ¬ ((32 : Int) = 45) by decide, if_false]
  omega
theorem makeM_len (P Q : List ByteArray) (ctx : Nat) : ∀ (k : Nat) (l : List Ch), l.length ≤ k → (makeM P Q ctx l).length ≤ l.length
  | _, [], _ => by rw [makeM_nil]; exact Nat.le_refl _
  | 0, _ :: _, h => by simp at h
  | k + 1, c :: cs, h => by
    rw [makeM_cons, List.length_cons, List.length_cons]
    rw [List.length_cons] at h
    have := makeM_len P Q ctx k (cs.drop (nearM ctx c cs)) (by rw [List.length_drop]; omega)
    rw [List.length_drop] at this
    omega
end Go.Proofs.YtjabpbnlpljlkaaDoor.M
end
section
/- Plain mathematics of hunks: a hunk's lines as a path through both texts' lines. -/
namespace Go.Proofs.YtjabpbnlpljlkaaDoor.M
set_option linter.unusedVariables false
set_option linter.unusedSimpArgs false
def lnB (P : List ByteArray) (i : Nat) : ByteArray := P.getD i ByteArray.empty
theorem toList_ext {a b : ByteArray} (h : a.toList = b.toList) : a = b := by
  apply ByteArray.ext
  apply Array.toList_inj.1
  rw [← ByteArray.toList_eq, ← ByteArray.toList_eq]
  exact h
theorem lnB_eq {P Q : List ByteArray} {a b : Nat} (h : ln P a = ln Q b) : lnB P a = lnB Q b := toList_ext h
def Path (P Q : List ByteArray) : Nat → Nat → List Ln → Nat → Nat → Prop
  | a, b, [], a', b' => a' = a ∧ b' = b ∧ a ≤ P.length ∧ b ≤ Q.length
  | a, b, x :: t, a', b' =>
    (x = lineM 32 (lnB P a) ∧ lnB P a = lnB Q b ∧ a < P.length ∧ b < Q.length ∧ Path P Q (a + 1) (b + 1) t a' b') ∨
    (x = lineM 45 (lnB P a) ∧ a < P.length ∧ Path P Q (a + 1) b t a' b') ∨
    (x = lineM 43 (lnB Q b) ∧ b < Q.length ∧ Path P Q a (b + 1) t a' b')
theorem Path.append {P Q : List ByteArray} : ∀ {x : List Ln} {a b a1 b1 a2 b2 : Nat} {y : List Ln}, Path P Q a b x a1 b1 → Path P Q a1 b1 y a2 b2 → Path P Q a b (x ++ y) a2 b2
  | [], _, _, _, _, _, _, _, ⟨rfl, rfl, _, _⟩, h => h
  | _ :: _, _, _, _, _, _, _, _, h, g => by
    rcases h with ⟨h1, h2, h3, h4, h5⟩ | ⟨h1, h2, h3⟩ | ⟨h1, h2, h3⟩
    · exact .inl ⟨h1, h2, h3, h4, h5.append g⟩
    · exact .inr (.inl ⟨h1, h2, h3.append g⟩)
    · exact .inr (.inr ⟨h1, h2, h3.append g⟩)
theorem piece_nil (P : List ByteArray) (a b : Nat) (h : b ≤ a) : piece P a b = [] := by
  unfold piece
  rw [List.drop_eq_nil_iff, List.length_take]
  omega
theorem piece_step (P : List ByteArray) (a b : Nat) (h : a < b) (hb : b ≤ P.length) : piece P a b = lnB P a :: piece P (a + 1) b := by
  unfold piece
  rw [List.drop_eq_getElem_cons (by rw [List.length_take]; omega), List.getElem_take]
  congr 1
  unfold lnB
  rw [List.getD_eq_getElem?_getD, List.getElem?_eq_getElem (by omega)]
  rfl
theorem path_same {P Q : List ByteArray} : ∀ (n a b : Nat), Seg P Q a b n → a + n ≤ P.length → b + n ≤ Q.length → Path P Q a b ((piece P a (a + n)).map (lineM 32)) (a + n) (b + n)
  | 0, a, b, _, h1, h2 => by
    rw [piece_nil P a (a + 0) (by omega)]
    exact ⟨rfl, rfl, by omega, by omega⟩
  | n + 1, a, b, h, h1, h2 => by
    rw [piece_step P a (a + (n + 1)) (by omega) (by omega)]
    have h0 := lnB_eq (h 0 (by omega))
    have hs : Seg P Q (a + 1) (b + 1) n := fun t ht => by
      have := h (t + 1) (by omega)
      rw [show a + 1 + t = a + (t + 1) by omega, show b + 1 + t = b + (t + 1) by omega]
      exact this
    have := path_same n (a + 1) (b + 1) hs (by omega) (by omega)
    rw [show a + 1 + n = a + (n + 1) by omega, show b + 1 + n = b + (n + 1) by omega] at this
    exact .inl ⟨rfl, h0, by omega, by omega, this⟩
theorem path_old {P Q : List ByteArray} : ∀ (n a b : Nat), a + n ≤ P.length → b ≤ Q.length → Path P Q a b ((piece P a (a + n)).map (lineM 45)) (a + n) b
  | 0, a, b, h1, h2 => by
    rw [piece_nil P a (a + 0) (by omega)]
    exact ⟨rfl, rfl, by omega, by omega⟩
  | n + 1, a, b, h1, h2 => by
    rw [piece_step P a (a + (n + 1)) (by omega) (by omega)]
    have := path_old (P := P) (Q := Q) n (a + 1) b (by omega) (by omega)
    rw [show a + 1 + n = a + (n + 1) by omega] at this
    exact .inr (.inl ⟨rfl, by omega, this⟩)
theorem path_new {P Q : List ByteArray} : ∀ (n a b : Nat), a ≤ P.length → b + n ≤ Q.length → Path P Q a b ((piece Q b (b + n)).map (lineM 43)) a (b + n)
  | 0, a, b, h1, h2 => by
    rw [piece_nil Q b (b + 0) (by omega)]
    exact ⟨rfl, rfl, by omega, by omega⟩
  | n + 1, a, b, h1, h2 => by
    rw [piece_step Q b (b + (n + 1)) (by omega) (by omega)]
    have := path_new (P := P) (Q := Q) n a (b + 1) (by omega) (by omega)
    rw [show b + 1 + n = b + (n + 1) by omega] at this
    exact .inr (.inr ⟨rfl, by omega, this⟩)
theorem body_path {P Q : List ByteArray} : ∀ (l : List Ch) (fst : Bool) (a b m tot : Nat) (rest : List Ch), GoodC P Q fst a b m (l ++ rest) tot → Path P Q a b (bodyM P Q a l) (endM a l) (endN b l)
  | [], fst, a, b, m, tot, rest, h => by
    have h0 : a ≤ P.length ∧ b ≤ Q.length := by
      cases rest with
      | nil => exact ⟨h.1, h.2.1⟩
      | cons c cs =>
        obtain ⟨o, os, n, ns, h1, h2, h3, h4, h5, h6, h7, h8, h9, h10⟩ := h
        omega
    exact ⟨rfl, rfl, h0.1, h0.2⟩
  | c :: l, fst, a, b, m, tot, rest, h => by
    obtain ⟨o, os, n, ns, h1, h2, h3, h4, h5, h6, h7, h8, h9, h10⟩ := h
    subst h1
    have e1 : ((o : Int) + (os : Int)).toNat = o + os := by omega
    have e2 : ((n : Int) + (ns : Int)).toNat = n + ns := by omega
    rw [bodyM_cons, endM_cons, endN_cons]
    simp only [Int.toNat_natCast, e1, e2]
    have p1 := path_same (o - a) a b h9 (by omega) (by omega)
    rw [show a + (o - a) = o by omega, show b + (o - a) = n by omega] at p1
    exact p1.append ((path_old (P := P) (Q := Q) os o n h7 (by omega)).append ((path_new (P := P) (Q := Q) ns (o + os) n h7 h8).append (body_path l false (o + os) (n + ns) _ tot rest h10)))
theorem tail_seg {P Q : List ByteArray} {ctx e f m tot : Nat} {rest : List Ch} (h : GoodC P Q false e f m rest tot) (hg : Gap ctx e rest) : Seg P Q e f (min (e + ctx) P.length - e) ∧ f + (min (e + ctx) P.length - e) ≤ Q.length ∧ e ≤ P.length := by
  cases rest with
  | nil =>
    obtain ⟨h1, h2, h3, h4, h5⟩ := h
    exact ⟨fun t ht => h4 t (by omega), by omega, h1⟩
  | cons c cs =>
    obtain ⟨o, os, n, ns, h1, h2, h3, h4, h5, h6, h7, h8, h9, h10⟩ := h
    subst h1
    have hg' : e + 2 * ctx < ((o : Int)).toNat := hg
    exact ⟨fun t ht => h9 t (by omega), by omega, by omega⟩
def HkPath (P Q : List ByteArray) : Nat → Nat → List Hk → Prop
  | a, b, [] => a ≤ P.length ∧ b ≤ Q.length ∧ P.length - a = Q.length - b ∧ Seg P Q a b (P.length - a)
  | a, b, h :: t => ∃ o n o' n' : Nat, h.o = o ∧ h.n = n ∧ h.os = (o' : Int) - o ∧ h.ns = (n' : Int) - n ∧ a ≤ o ∧ b ≤ n ∧ o - a = n - b ∧ Seg P Q a b (o - a) ∧ h.ls ≠ [] ∧ Path P Q o n h.ls o' n' ∧ HkPath P Q o' n' t
theorem Seg.part {p q : List ByteArray} {a b n : Nat} (h : Seg p q a b n) {i m : Nat} (hi : i + m ≤ n) : Seg p q (a + i) (b + i) m := fun t ht => by
  have := h (i + t) (by omega)
  rw [show a + i + t = a + (i + t) by omega, show b + i + t = b + (i + t) by omega]
  exact this
theorem GoodC.seg {P Q : List ByteArray} {fst : Bool} {a b m tot : Nat} {l : List Ch} (h : GoodC P Q fst a b m l tot) : match l with
    | [] => Seg P Q a b (P.length - a) ∧ P.length - a = Q.length - b ∧ a ≤ P.length ∧ b ≤ Q.length
    | c :: _ => Seg P Q a b (c.o.toNat - a) := by
  cases l with
  | nil => obtain ⟨h1, h2, h3, h4, h5⟩ := h; exact ⟨h4, h3, h1, h2⟩
  | cons c cs =>
    obtain ⟨o, os, n, ns, h1, h2, h3, h4, h5, h6, h7, h8, h9, h10⟩ := h
    subst h1
    simpa using h9
theorem make_path (P Q : List ByteArray) (ctx : Nat) : ∀ (k : Nat) (l : List Ch) (fst : Bool) (a b m tot at_ to_ : Nat), l.length ≤ k → GoodC P Q fst a b m l tot →
    ((Gap ctx a l ∧ at_ = min (a + ctx) P.length ∧ to_ = b + (at_ - a)) ∨ (a = 0 ∧ b = 0 ∧ at_ = 0 ∧ to_ = 0)) → HkPath P Q at_ to_ (makeM P Q ctx l) := by
  intro k
  induction k with
  | zero =>
    intro l fst a b m tot at_ to_ hl hG hs
    cases l with
    | nil =>
      rw [makeM_nil]
      obtain ⟨h1, h2, h3, h4, h5⟩ := hG
      rcases hs with ⟨_, e1, e2⟩ | ⟨rfl, rfl, rfl, rfl⟩
      · refine ⟨by omega, by omega, by omega, ?_⟩
        have := h4.part (i := at_ - a) (m := P.length - at_) (by omega)
        rw [show a + (at_ - a) = at_ by omega, ← e2] at this
        exact this
      · exact ⟨h1, h2, h3, h4⟩
    | cons c cs => simp at hl
  | succ k ih =>
    intro l fst a b m tot at_ to_ hl hG hs
    cases l with
    | nil =>
      rw [makeM_nil]
      obtain ⟨h1, h2, h3, h4, h5⟩ := hG
      rcases hs with ⟨_, e1, e2⟩ | ⟨rfl, rfl, rfl, rfl⟩
      · refine ⟨by omega, by omega, by omega, ?_⟩
        have := h4.part (i := at_ - a) (m := P.length - at_) (by omega)
        rw [show a + (at_ - a) = at_ by omega, ← e2] at this
        exact this
      · exact ⟨h1, h2, h3, h4⟩
    | cons c cs =>
      have hF := hG.fit
      have hng := near_gap P Q ctx cs c a hF
      have hG0 := hG
      obtain ⟨o, os, n, ns, rfl, h1, h2, h3, h4, h5, h6, h7, h8, h9⟩ := hG
      have hst : St ctx a b (⟨o, os, n, ns⟩ :: cs) := by
        rcases hs with ⟨hs, _⟩ | ⟨e1, e2, _⟩
        · exact .inl hs
        · exact .inr ⟨e1, e2⟩
      obtain ⟨s1, s2, s3, s4, s5, s6⟩ := hG0.start hst
      rw [makeM_cons]
      generalize hk : nearM ctx ⟨o, os, n, ns⟩ cs = j at *
      have s1' : GoodC P Q true (o - min ctx o) (n - min ctx o) m ((⟨o, os, n, ns⟩ :: cs.take j) ++ cs.drop j) tot := by rw [List.cons_append, List.take_append_drop]; exact s1
      obtain ⟨l1, l2, l3⟩ := hunk_lines (ctx := ctx) _ _ s1'
      obtain ⟨g1, g2, g3, g4, g5, g6⟩ := body_counts _ true _ _ m tot _ s1'
      have hbp := body_path _ true _ _ m tot _ s1'
      obtain ⟨m', hR⟩ := hG0.rest1 j
      have hmv := body_moved (P := P) (Q := Q) (o - min ctx o) (cs.take j) o os n ns s6 h6 h7
      have eM : endM (o - min ctx o) (⟨o, os, n, ns⟩ :: cs.take j) = endM a (⟨o, os, n, ns⟩ :: cs.take j) := rfl
      have eN : endN (n - min ctx o) (⟨o, os, n, ns⟩ :: cs.take j) = endN b (⟨o, os, n, ns⟩ :: cs.take j) := rfl
      rw [eM] at l1 l2 g3 g5 hbp
      rw [eN] at l2 g4 g6 hbp
      obtain ⟨t1, t2, t3⟩ := tail_seg (ctx := ctx) hR hng
      have hrest := ih (cs.drop j) false _ _ m' tot (min (endM a (⟨o, os, n, ns⟩ :: cs.take j) + ctx) P.length) (endN b (⟨o, os, n, ns⟩ :: cs.take j) + (min (endM a (⟨o, os, n, ns⟩ :: cs.take j) + ctx) P.length - endM a (⟨o, os, n, ns⟩ :: cs.take j))) (by rw [List.length_drop]; rw [List.length_cons] at hl; omega) hR (.inl ⟨hng, rfl, rfl⟩)
      have hne : (linesM P Q ctx (o - min ctx o) (⟨o, os, n, ns⟩ :: cs.take j)) ≠ [] := by
        intro h0
        have hb0 : bodyM P Q (o - min ctx o) (⟨o, os, n, ns⟩ :: cs.take j) = [] := (List.append_eq_nil_iff.1 h0).1
        rw [hb0] at hmv
        exact Nat.lt_irrefl 0 hmv
      have hLp : Path P Q (o - min ctx o) (n - min ctx o) (linesM P Q ctx (o - min ctx o) (⟨o, os, n, ns⟩ :: cs.take j)) (min (endM a (⟨o, os, n, ns⟩ :: cs.take j) + ctx) P.length) (endN b (⟨o, os, n, ns⟩ :: cs.take j) + (min (endM a (⟨o, os, n, ns⟩ :: cs.take j) + ctx) P.length - endM a (⟨o, os, n, ns⟩ :: cs.take j))) := by
        unfold linesM
        rw [eM]
        refine hbp.append ?_
        have := path_same _ _ _ t1 (by omega) t2
        rw [show endM a (⟨o, os, n, ns⟩ :: cs.take j) + (min (endM a (⟨o, os, n, ns⟩ :: cs.take j) + ctx) P.length - endM a (⟨o, os, n, ns⟩ :: cs.take j)) = min (endM a (⟨o, os, n, ns⟩ :: cs.take j) + ctx) P.length by omega] at this
        exact this
      generalize endM a (⟨o, os, n, ns⟩ :: cs.take j) = e at *
      generalize endN b (⟨o, os, n, ns⟩ :: cs.take j) = f at *
      generalize hLs : linesM P Q ctx (o - min ctx o) (⟨o, os, n, ns⟩ :: cs.take j) = Ls at *
      have ho : ((o : Int)).toNat = o := by omega
      refine ⟨o - min ctx o, n - min ctx o, min (e + ctx) P.length, f + (min (e + ctx) P.length - e), ?_, ?_, ?_, ?_, ?_, ?_, ?_, ?_, ?_, ?_, hrest⟩
      · show (((o : Int).toNat - min ctx (o : Int).toNat : Nat) : Int) = _
        rw [ho]
      · unfold hunkM
        simp only [ho]
        omega
      · unfold hunkM
        simp only [ho, hLs]
        omega
      · unfold hunkM
        simp only [ho, hLs]
        omega
      · rcases hs with ⟨hs, e1, e2⟩ | ⟨e1, e2, e3, e4⟩
        · have hs' : a + 2 * ctx < ((o : Int)).toNat := hs
          omega
        · omega
      · rcases hs with ⟨hs, e1, e2⟩ | ⟨e1, e2, e3, e4⟩
        · have hs' : a + 2 * ctx < ((o : Int)).toNat := hs
          omega
        · omega
      · rcases hs with ⟨hs, e1, e2⟩ | ⟨e1, e2, e3, e4⟩
        · have hs' : a + 2 * ctx < ((o : Int)).toNat := hs
          omega
        · omega
      · rcases hs with ⟨hs, e1, e2⟩ | ⟨e1, e2, e3, e4⟩
        · have hs' : a + 2 * ctx < ((o : Int)).toNat := hs
          have := h8.part (i := at_ - a) (m := o - min ctx o - at_) (by omega)
          rw [show a + (at_ - a) = at_ by omega, ← e2] at this
          exact this
        · subst e1; subst e2; subst e3; subst e4
          exact fun t ht => h8 t (by omega)
      · unfold hunkM
        simp only [ho, hLs]
        exact hne
      · unfold hunkM
        simp only [ho, hLs]
        exact hLp
def Cut (P : List ByteArray) : Prop := ∀ i, i + 1 < P.length → nlEnd (lnB P i) = true
theorem lineM_br (sg : Int) (s : ByteArray) : (lineM sg s).br = !nlEnd s := by unfold lineM; split <;> simp_all
def lastL (sg : Int) (l : List Ln) : Bool := l.all fun x => !(decide (x.sg = 32) || decide (sg = 32) || decide (x.sg = sg))
def bareOk : List Ln → Prop
  | [] => True
  | x :: t => (x.br = true → lastL x.sg t = true) ∧ bareOk t
theorem path_sg {P Q : List ByteArray} : ∀ {l : List Ln} {a b a' b' : Nat}, Path P Q a b l a' b' → ∀ x ∈ l, x.sg = 32 ∨ x.sg = 45 ∨ x.sg = 43
  | [], _, _, _, _, _, x, hx => by cases hx
  | y :: t, _, _, _, _, h, x, hx => by
    rcases h with ⟨h1, h2, h3, h4, h5⟩ | ⟨h1, h2, h3⟩ | ⟨h1, h2, h3⟩ <;> rcases List.mem_cons.1 hx with rfl | hx
    · rw [h1, lineM_sg]; simp
    · exact path_sg h5 x hx
    · rw [h1, lineM_sg]; simp
    · exact path_sg h3 x hx
    · rw [h1, lineM_sg]; simp
    · exact path_sg h3 x hx
theorem path_oldEnd {P Q : List ByteArray} : ∀ {l : List Ln} {b a' b' : Nat}, Path P Q P.length b l a' b' → ∀ x ∈ l, x.sg = 43
  | [], _, _, _, _, x, hx => by cases hx
  | y :: t, _, _, _, h, x, hx => by
    rcases h with ⟨h1, h2, h3, h4, h5⟩ | ⟨h1, h2, h3⟩ | ⟨h1, h2, h3⟩
    · omega
    · omega
    · rcases List.mem_cons.1 hx with rfl | hx
      · rw [h1, lineM_sg]
      · exact path_oldEnd h3 x hx
theorem path_newEnd {P Q : List ByteArray} : ∀ {l : List Ln} {a a' b' : Nat}, Path P Q a Q.length l a' b' → ∀ x ∈ l, x.sg = 45
  | [], _, _, _, _, x, hx => by cases hx
  | y :: t, _, _, _, h, x, hx => by
    rcases h with ⟨h1, h2, h3, h4, h5⟩ | ⟨h1, h2, h3⟩ | ⟨h1, h2, h3⟩
    · omega
    · rcases List.mem_cons.1 hx with rfl | hx
      · rw [h1, lineM_sg]
      · exact path_newEnd h3 x hx
    · omega
theorem path_bare {P Q : List ByteArray} (hP : Cut P) (hQ : Cut Q) : ∀ {l : List Ln} {a b a' b' : Nat}, Path P Q a b l a' b' → bareOk l
  | [], _, _, _, _, _ => trivial
  | y :: t, a, b, _, _, h => by
    rcases h with ⟨h1, h2, h3, h4, h5⟩ | ⟨h1, h2, h3⟩ | ⟨h1, h2, h3⟩
    · refine ⟨fun hb => ?_, path_bare hP hQ h5⟩
      rw [h1, lineM_br] at hb
      have ha : a + 1 = P.length := by
        rcases Nat.lt_or_ge (a + 1) P.length with g | g
        · rw [hP a g] at hb; cases hb
        · omega
      have hbq : b + 1 = Q.length := by
        rcases Nat.lt_or_ge (b + 1) Q.length with g | g
        · rw [h2, hQ b g] at hb; cases hb
        · omega
      rw [ha, hbq] at h5
      have : t = [] := by
        cases t with
        | nil => rfl
        | cons z t =>
          have z1 := path_oldEnd h5 z (by simp)
          have z2 := path_newEnd h5 z (by simp)
          omega
      subst this
      rfl
    · refine ⟨fun hb => ?_, path_bare hP hQ h3⟩
      rw [h1, lineM_br] at hb
      have ha : a + 1 = P.length := by
        rcases Nat.lt_or_ge (a + 1) P.length with g | g
        · rw [hP a g] at hb; cases hb
        · omega
      rw [ha] at h3
      rw [h1, lineM_sg]
      unfold lastL
      rw [List.all_eq_true]
      intro x hx
      rw [path_oldEnd h3 x hx]
      decide
    · refine ⟨fun hb => ?_, path_bare hP hQ h3⟩
      rw [h1, lineM_br] at hb
      have ha : b + 1 = Q.length := by
        rcases Nat.lt_or_ge (b + 1) Q.length with g | g
        · rw [hQ b g] at hb; cases hb
        · omega
      rw [ha] at h3
      rw [h1, lineM_sg]
      unfold lastL
      rw [List.all_eq_true]
      intro x hx
      rw [path_newEnd h3 x hx]
      decide
def bares (l : List Ln) : Nat := l.countP (fun x => x.br)
theorem path_ends {P Q : List ByteArray} : ∀ {l : List Ln} {a b a' b' : Nat}, Path P Q a b l a' b' → a ≤ a' ∧ b ≤ b' ∧ a' ≤ P.length ∧ b' ≤ Q.length
  | [], _, _, _, _, ⟨h1, h2, h3, h4⟩ => by omega
  | y :: t, a, b, _, _, h => by
    rcases h with ⟨h1, h2, h3, h4, h5⟩ | ⟨h1, h2, h3⟩ | ⟨h1, h2, h3⟩
    · have := path_ends h5; omega
    · have := path_ends h3; omega
    · have := path_ends h3; omega
theorem path_bares {P Q : List ByteArray} (hP : Cut P) (hQ : Cut Q) : ∀ {l : List Ln} {a b a' b' : Nat}, Path P Q a b l a' b' → bares l + (if a' < P.length then 1 else 0) + (if b' < Q.length then 1 else 0) ≤ (if a < P.length then 1 else 0) + (if b < Q.length then 1 else 0)
  | [], _, _, _, _, ⟨h1, h2, h3, h4⟩ => by subst h1; subst h2; simp [bares]
  | y :: t, a, b, a', b', h => by
    have hc : ∀ s sg, y = lineM sg s → bares (y :: t) = bares t + if nlEnd s = true then 0 else 1 := by
      intro s sg e
      unfold bares
      rw [List.countP_cons, e, lineM_br]
      cases nlEnd s <;> simp
    rcases h with ⟨h1, h2, h3, h4, h5⟩ | ⟨h1, h2, h3⟩ | ⟨h1, h2, h3⟩
    · have ih := path_bares hP hQ h5
      rw [hc _ _ h1]
      have hp := hP a
      by_cases g : nlEnd (lnB P a) = true
      · rw [if_pos g]
        rw [if_pos h3, if_pos h4]
        have c1 : (if a + 1 < P.length then 1 else 0) ≤ 1 := by split <;> omega
        have c2 : (if b + 1 < Q.length then 1 else 0) ≤ 1 := by split <;> omega
        omega
      · have g1 : ¬ a + 1 < P.length := fun h => g (hp h)
        have g2 : ¬ b + 1 < Q.length := fun h => g (by rw [h2]; exact hQ b h)
        rw [if_neg g]
        rw [if_neg g1, if_neg g2] at ih
        rw [if_pos h3, if_pos h4]
        omega
    · have ih := path_bares hP hQ h3
      rw [hc _ _ h1]
      have hp := hP a
      by_cases g : nlEnd (lnB P a) = true
      · rw [if_pos g]
        rw [if_pos h2]
        by_cases q : a + 1 < P.length
        · rw [if_pos q] at ih; omega
        · rw [if_neg q] at ih; omega
      · have g1 : ¬ a + 1 < P.length := fun h => g (hp h)
        rw [if_neg g]
        rw [if_neg g1] at ih
        rw [if_pos h2]
        omega
    · have ih := path_bares hP hQ h3
      rw [hc _ _ h1]
      have hp := hQ b
      by_cases g : nlEnd (lnB Q b) = true
      · rw [if_pos g]
        rw [if_pos h2]
        by_cases q : b + 1 < Q.length
        · rw [if_pos q] at ih; omega
        · rw [if_neg q] at ih; omega
      · have g1 : ¬ b + 1 < Q.length := fun h => g (hp h)
        rw [if_neg g]
        rw [if_neg g1] at ih
        rw [if_pos h2]
        omega
def baresH : List Hk → Nat
  | [] => 0
  | h :: t => bares h.ls + baresH t
theorem hk_bares {P Q : List ByteArray} (hP : Cut P) (hQ : Cut Q) : ∀ {l : List Hk} {a b : Nat}, HkPath P Q a b l → baresH l ≤ (if a < P.length then 1 else 0) + (if b < Q.length then 1 else 0)
  | [], _, _, _ => Nat.zero_le _
  | h :: t, a, b, ⟨o, n, o', n', h1, h2, h3, h4, h5, h6, h7, h8, h9, h10, h11⟩ => by
    have i1 := hk_bares hP hQ h11
    have i2 := path_bares hP hQ h10
    have m1 : (if o < P.length then 1 else 0) ≤ (if a < P.length then 1 else 0) := by split <;> split <;> omega
    have m2 : (if n < Q.length then 1 else 0) ≤ (if b < Q.length then 1 else 0) := by split <;> split <;> omega
    unfold baresH
    omega
end Go.Proofs.YtjabpbnlpljlkaaDoor.M
end
section
/- Plain facts on the lines of hunks, for a print: no newline within; a path's counts. -/
namespace Go.Proofs.YtjabpbnlpljlkaaDoor.M
open Go.RowKit Go.Proofs.YtjabpbnlpljlkaaDoorW.PrintWords Go.Proofs.YtjabpbnlpljlkaaDoor.X
set_option linter.unusedVariables false
set_option linter.unusedSimpArgs false
def NoNl (s : ByteArray) : Prop := ∀ x ∈ bytesOf s, x ≠ 10
def CleanL (P : List ByteArray) : Prop := ∀ i, i < P.length → ∀ sg, NoNl (lineM sg (lnB P i)).tx
theorem linesOf_cut (t : List Int) : ∀ (cur : List Int), (∀ x ∈ cur, x ≠ 10) → ∀ l ∈ linesOf cur t, (∃ u, l = u ++ [10] ∧ ∀ x ∈ u, x ≠ 10) ∨ (∀ x ∈ l, x ≠ 10) := by
  induction t with
  | nil =>
    intro cur hc l hl
    unfold linesOf at hl
    split at hl
    · cases hl
    · rw [List.mem_singleton.1 hl]; exact .inr hc
  | cons c t ih =>
    intro cur hc l hl
    unfold linesOf at hl
    split at hl
    · rename_i h
      subst h
      rcases List.mem_cons.1 hl with rfl | hl
      · exact .inl ⟨cur, rfl, hc⟩
      · exact ih [] (fun x hx => by cases hx) l hl
    · rename_i h
      refine ih (cur ++ [c]) (fun x hx => ?_) l hl
      rcases List.mem_append.1 hx with hx | hx
      · exact hc x hx
      · rw [List.mem_singleton.1 hx]; exact h
theorem linesOf_ends (t : List Int) : ∀ (cur : List Int) (i : Nat), i + 1 < (linesOf cur t).length → ∃ u, (linesOf cur t)[i]? = some (u ++ [10]) := by
  induction t with
  | nil =>
    intro cur i hi
    unfold linesOf at hi
    split at hi <;> simp at hi
  | cons c t ih =>
    intro cur i hi
    unfold linesOf at hi ⊢
    split
    · rename_i h
      rw [if_pos h] at hi
      subst h
      cases i with
      | zero => exact ⟨cur, rfl⟩
      | succ i =>
        obtain ⟨u, hu⟩ := ih [] i (by simpa using hi)
        exact ⟨u, by simpa using hu⟩
    · rename_i h
      rw [if_neg h] at hi
      exact ih _ i hi
theorem ext_list (s : ByteArray) (i j : Nat) : (s.extract i j).toList = (s.data.toList.drop i).take (j - i) := by
  rw [toList_eq_data, ByteArray.data_extract, Array.toList_extract]
theorem son_data (l : List Int) : (strOfNums l).data.toList = l.map (fun n => UInt8.ofNat n.toNat) := strOfNums_data l
theorem nlEnd_yes (u : List Int) : nlEnd (strOfNums (u ++ [10])) = true := by
  unfold nlEnd
  rw [strOfNums_size, List.length_append, List.length_singleton, if_pos (by omega), ext_list, son_data, List.map_append, Nat.add_sub_cancel, List.drop_append_of_le_length (by simp), List.drop_of_length_le (by simp), Nat.add_sub_cancel_left]
  decide +kernel
theorem nlEnd_tx (u : List Int) (hu : BT u) : (strOfNums (u ++ [10])).extract 0 ((strOfNums (u ++ [10])).size - 1) = strOfNums u := by
  apply ba_ext
  rw [ext_list, son_data, strOfNums_size, List.length_append, List.length_singleton, List.drop_zero, Nat.sub_zero, Nat.add_sub_cancel, List.map_append, List.take_append_of_le_length (by simp), List.take_of_length_le (by simp), toList_eq_data, son_data]
theorem nlEnd_no (l : List Int) (hB : BT l) (hl : ∀ x ∈ l, x ≠ 10) : nlEnd (strOfNums l) = false := by
  unfold nlEnd
  rw [strOfNums_size]
  split
  · rename_i h
    rw [ext_list, son_data]
    obtain ⟨z, c, rfl⟩ : ∃ z c, l = z ++ [c] := ⟨l.dropLast, l.getLast (by intro e; rw [e] at h; simp at h), (List.dropLast_concat_getLast _).symm⟩
    rw [List.length_append, List.length_singleton, List.map_append, Nat.add_sub_cancel, List.drop_append_of_le_length (by simp), List.drop_of_length_le (by simp), Nat.add_sub_cancel_left]
    have hc := hB c (by simp)
    have hn := hl c (by simp)
    have : UInt8.ofNat c.toNat ≠ 10 := by
      intro e
      have := congrArg UInt8.toNat e
      rw [UInt8.toNat_ofNat'] at this
      have e2 : (10 : UInt8).toNat = 10 := rfl
      rw [e2] at this
      omega
    rw [beq_eq_false_iff_ne]
    intro e
    have e3 : (⟨#[10]⟩ : ByteArray).toList = [10] := by decide +kernel
    rw [e3] at e
    simp at e
    exact this e
  · rfl
theorem lnB_ls (p : List Int) (i : Nat) (h : i < (ls p).length) : lnB ((ls p).map strOfNums) i = strOfNums (ls p)[i] := by
  unfold lnB
  rw [List.getD_eq_getElem?_getD, List.getElem?_map, List.getElem?_eq_getElem h]
  rfl
theorem ls_BT {p : List Int} (hB : BT p) : ∀ l ∈ ls p, BT l := by
  intro l hl x hx
  refine hB x ?_
  rw [← ls_flat p]
  exact List.mem_flatten.2 ⟨l, hl, hx⟩
theorem clean_ls {p : List Int} (hB : BT p) : CleanL ((ls p).map strOfNums) := by
  intro i hi sg
  rw [List.length_map] at hi
  rw [lnB_ls p i hi]
  have hm := List.getElem_mem hi
  have hb := ls_BT hB _ hm
  rcases linesOf_cut p [] (fun x hx => by cases hx) _ hm with ⟨u, e, hu⟩ | hu
  · rw [e] at hb
    have e' : (ls p)[i] = u ++ [10] := e
    rw [e']
    have hbu : BT u := fun x hx => hb x (by simp [hx])
    unfold lineM
    rw [if_pos (nlEnd_yes u)]
    unfold NoNl
    simp only
    rw [nlEnd_tx u hbu, bytesOf_strOfNums hbu]
    exact hu
  · have hu' : ∀ x ∈ (ls p)[i], x ≠ 10 := hu
    unfold lineM
    rw [nlEnd_no _ hb hu', if_neg (by simp)]
    unfold NoNl
    simp only
    rw [bytesOf_strOfNums hb]
    exact hu'
theorem cut_ls (p : List Int) : Cut ((ls p).map strOfNums) := by
  intro i hi
  rw [List.length_map] at hi
  obtain ⟨u, hu⟩ := linesOf_ends p [] i hi
  rw [lnB_ls p i (by omega)]
  have : (ls p)[i]? = some (u ++ [10]) := hu
  rw [List.getElem?_eq_getElem (by omega)] at this
  rw [Option.some.inj this]
  exact nlEnd_yes u
theorem short_ls {p : List Int} {N : Nat} (h : p.length ≤ N) : ∀ i, (lnB ((ls p).map strOfNums) i).size ≤ N := by
  intro i
  by_cases hi : i < (ls p).length
  · rw [lnB_ls p i hi, strOfNums_size]
    have h1 := off_succ (ls p) i hi
    have h2 := off_le (ls p) (i + 1)
    rw [ls_flat] at h2
    rw [List.getD_eq_getElem?_getD, List.getElem?_eq_getElem hi] at h1
    have h3 : off (ls p) (i + 1) = off (ls p) i + (ls p)[i].length := h1
    omega
  · unfold lnB
    rw [List.getD_eq_getElem?_getD, List.getElem?_eq_none (by rw [List.length_map]; omega)]
    exact Nat.zero_le _
theorem lineM_size (sg : Int) (s : ByteArray) : (lineM sg s).tx.size ≤ s.size := by
  unfold lineM
  split
  · simp only [ByteArray.size_extract]; omega
  · exact Nat.le_refl _
theorem path_counts {P Q : List ByteArray} : ∀ {l : List Ln} {a b a' b' : Nat}, Path P Q a b l a' b' → l.length + a = cntM 43 l + a' ∧ l.length + b = cntM 45 l + b'
  | [], a, b, a', b', ⟨h1, h2, _, _⟩ => by subst h1; subst h2; exact ⟨rfl, rfl⟩
  | x :: t, a, b, a', b', h => by
    rw [List.length_cons, cntM_cons, cntM_cons]
    rcases h with ⟨h1, h2, h3, h4, h5⟩ | ⟨h1, h2, h3⟩ | ⟨h1, h2, h3⟩
    · have ih := path_counts h5
      have e : x.sg = 32 := by rw [h1, lineM_sg]
      rw [e, if_neg (by decide), if_neg (by decide)]
      omega
    · have ih := path_counts h3
      have e : x.sg = 45 := by rw [h1, lineM_sg]
      rw [e, if_neg (by decide), if_pos rfl]
      omega
    · have ih := path_counts h3
      have e : x.sg = 43 := by rw [h1, lineM_sg]
      rw [e, if_pos rfl, if_neg (by decide)]
      omega
theorem path_all {P Q : List ByteArray} (p : Ln → Prop) (hP : ∀ i, i < P.length → ∀ sg, p (lineM sg (lnB P i))) (hQ : ∀ i, i < Q.length → ∀ sg, p (lineM sg (lnB Q i))) : ∀ {l : List Ln} {a b a' b' : Nat}, Path P Q a b l a' b' → ∀ x ∈ l, p x
  | [], _, _, _, _, _, x, hx => by cases hx
  | y :: t, a, b, _, _, h, x, hx => by
    rcases h with ⟨h1, h2, h3, h4, h5⟩ | ⟨h1, h2, h3⟩ | ⟨h1, h2, h3⟩
    · rcases List.mem_cons.1 hx with rfl | hx
      · rw [h1]; exact hP a h3 32
      · exact path_all p hP hQ h5 x hx
    · rcases List.mem_cons.1 hx with rfl | hx
      · rw [h1]; exact hP a h2 45
      · exact path_all p hP hQ h3 x hx
    · rcases List.mem_cons.1 hx with rfl | hx
      · rw [h1]; exact hQ b h2 43
      · exact path_all p hP hQ h3 x hx
def nls (s : ByteArray) : Nat := (bytesOf s).count 10
theorem nls_append (s t : ByteArray) : nls (s ++ t) = nls s + nls t := by unfold nls; rw [bytesOf_append, List.count_append]
theorem nls_none {s : ByteArray} (h : NoNl s) : nls s = 0 := by
  unfold nls
  rw [List.count_eq_zero]
  intro hx
  exact h 10 hx rfl
end Go.Proofs.YtjabpbnlpljlkaaDoor.M
end
