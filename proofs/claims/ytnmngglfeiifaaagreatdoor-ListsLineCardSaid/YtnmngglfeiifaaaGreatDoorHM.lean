/- Plain words, and walks by hand. -/
import Derived.Test.YtnmngglfeiifaaaGreatDoorWAll
import Derived.Lib.ConvBytes
import Derived.Lib.SlBytesConst
import Derived.ChangeKeysEq
import Derived.Laws.BitsLemmas
import Derived.RowKit
import Derived.Laws.Strings
section
/- Words beside the print's: a string's bytes as a slice ('[]byte(s)'), as one step of a walk. -/
namespace Go.Proofs.YtnmngglfeiifaaaGreatDoor.X
open Go.RowKit Go.Proofs.YtnmngglfeiifaaaGreatDoorW.PrintWords Go.Proofs.YtnmngglfeiifaaaGreatDoorW.PrintLast Go.Proofs.YtnmngglfeiifaaaGreatDoorW.PrintMore
set_option linter.unusedVariables false
set_option linter.unusedSimpArgs false

/-- The conversion, told as a call is. -/
def CvCalls (e : TypeId) (s : ByteArray) (w : World) (Q : Ending → World → Prop) : Prop :=
  Q (.returned (.slice (some ⟨w.heap.size, 0, none⟩) s.size (grownCap w s.size 0 e))) (Lib.bytesWorld w e s)
theorem CvCalls.mono {e : TypeId} {s : ByteArray} {w : World} {Q Q' : Ending → World → Prop} (h : CvCalls e s w Q) (hq : ∀ en w', Q en w' → Q' en w') : CvCalls e s w Q' := hq _ _ h
theorem cv_goes {P : Program} {ops : Array Oper} {Q : Exit → Act → World → Prop} {rest : List Oper} {oi : Oper} {a : Act} {w : World} {N : Option Tmp} (hd : oi.dst = N) (hg : oi.guard = none) {src dst e : TypeId} {x : Operand} {s : ByteArray} {u : TypeDesc}
    (hop : oi.op = .convert src dst x) (hx : a.eval x = .string s) (hs : P.underlying src = some u) (hd' : P.underlying dst = some (.slice e)) (he : P.underlying e = some (.int .u8))
    (h : CvCalls e s w fun en w' => ∃ v, en = .returned v ∧ wpList P ops Q rest (a.put N v) w') : wpList P ops Q (oi :: rest) a w := by
  refine wpList_plain hg fun K hK => ?_
  obtain ⟨v, hv, hr⟩ := h
  injection hv with hv
  subst hv
  have hrun : (execOp a.eval oi).run P w = .ok (.value (.slice (some ⟨w.heap.size, 0, none⟩) s.size (grownCap w s.size 0 e))) (Lib.bytesWorld w e s) := by
    unfold execOp
    have := Lib.run_convert_string_bytes w src dst e s hs hd' he
    simp [hop, hx, this]
  unfold Oper.wp
  rw [hrun]
  subst hd
  exact hK _ _ hr
def conv_bytes.f (a0 : ByteArray) : Option (List Int) := if a0.size < 140737488355328 then some (bytesOf a0) else none
theorem bytesOf_getD (s : ByteArray) (j : Nat) (hj : j < s.size) : (bytesOf s).getD j 0 = ((s.data.toList.getD j 0).toNat : Int) := by
  unfold bytesOf
  rw [List.getD_eq_getElem?_getD, List.getD_eq_getElem?_getD, List.getElem?_map, List.getElem?_eq_getElem (by simpa using hj)]
  rfl
theorem bytesWorld_below (w : World) (e : TypeId) (s : ByteArray) : Below w.heap.size w (Lib.bytesWorld w e s) :=
  ⟨rfl, rfl, rfl, by rw [Lib.bytesWorld_size]; omega, fun i hi => Lib.bytesWorld_at_old w e s i hi⟩
theorem conv_bytes.calls {e : Nat} (a0 : ByteArray) (r : List Int) (w : World) (h : conv_bytes.f a0 = some r) :
    CvCalls e a0 w fun en w' => ∃ v0_ : Value, en = .returned (v0_) ∧ Kd.V (Kd.int .u8) e w' w.heap.size (fun k_ => (w.heap.size ≤ k_)) v0_ r ∧ Below w.heap.size w w' := by
  unfold conv_bytes.f at h
  split at h
  · rename_i hs
    injection h with h
    subst h
    have hl : (bytesOf a0).length = a0.size := bytesOf_length a0
    refine ⟨_, rfl, ⟨some ⟨w.heap.size, 0, none⟩, grownCap w a0.size 0 e, by rw [hl], by rw [hl]; exact grownCap_ge _ _ _ _, ?_⟩, bytesWorld_below w e a0⟩
    intro W' hW
    have hb := (hW w.heap.size (Nat.le_refl _) (by rw [Lib.bytesWorld_size]; omega)).trans (Lib.bytesWorld_at_new w e a0)
    refine Kd.C_of_reads (enc := Value.int .u8) (d := (0 : Int)) (h1 := fun _ => rfl) ⟨rfl, by omega, fun hp => ⟨_, rfl, fun j hj => ?_⟩⟩
    rw [add_plain]
    rw [hl] at hj
    rw [bytesOf_getD a0 j hj]
    simp [World.cell?, hb, Lib.bytesCells, Array.getElem?_append, List.getD, hj]
  · cases h
theorem heap_alloc_mark (w : World) (C : Array Value) (e : TypeId) (m : Nat × Nat) : (w.alloc (.cells C e m)).heap[w.heap.size]? = some (.cells C e m) := by
  show (w.heap.push (.cells C e m))[w.heap.size]? = _
  simp
/-- A constant text as bytes: the literal's row, marked; told as a call is. -/
def CstCalls (e : TypeId) (a0 : List Int) (w : World) (Q : Ending → World → Prop) : Prop :=
  Q (.returned (.slice (some ⟨w.heap.size, 0, none⟩) a0.length a0.length)) (w.alloc (.cells (a0.map (Value.int .u8)).toArray e (a0.length, a0.length + 1)))
theorem CstCalls.mono {e : TypeId} {s : List Int} {w : World} {Q Q' : Ending → World → Prop} (h : CstCalls e s w Q) (hq : ∀ en w', Q en w' → Q' en w') : CstCalls e s w Q' := hq _ _ h
theorem const_goes {P : Program} {ops : Array Oper} {Q : Exit → Act → World → Prop} {rest : List Oper} {oi : Oper} {a : Act} {w : World} {N : Option Tmp} (hd : oi.dst = N) (hg : oi.guard = none) {t e : TypeId} {x : Operand} {C : Array Value} {g : Nat} {a0 : List Int}
    (hop : oi.op = .convert t t x) (hx : a.eval x = .slice (some ⟨g, 0, none⟩) a0.length a0.length) (hgs : g = w.heap.size) (hC : C = (a0.map (Value.int .u8)).toArray) (ht : P.underlying t = some (.slice e)) (he : P.underlying e = some (.int .u8))
    (h : CstCalls e a0 w fun en w' => ∃ v, en = .returned v ∧ wpList P ops Q rest (a.put N v) w') : wpList P ops Q (oi :: rest) a (w.alloc (.cells C e)) := by
  refine wpList_plain hg fun K hK => ?_
  obtain ⟨v, hv, hr⟩ := h
  injection hv with hv
  subst hv hgs hC
  have hrun : (execOp a.eval oi).run P (w.alloc (.cells (a0.map (Value.int .u8)).toArray e)) = .ok (.value (.slice (some ⟨w.heap.size, 0, none⟩) a0.length a0.length)) (w.alloc (.cells (a0.map (Value.int .u8)).toArray e (a0.length, a0.length + 1))) := by
    unfold execOp
    have := Lib.run_convert_bytes_const w t e (a0.map (Value.int .u8)).toArray a0.length a0.length ht he
    rw [show (a0.map (Value.int .u8)).toArray.size = a0.length by simp] at this
    simp [hop, hx, this]
  unfold Oper.wp
  rw [hrun]
  subst hd
  exact hK _ _ hr
def const_bytes.f (a0 : List Int) : Option (List Int) := if a0.length < 140737488355328 then some a0 else none
theorem const_bytes.calls {e : Nat} (a0 r : List Int) (w : World) (h : const_bytes.f a0 = some r) :
    CstCalls e a0 w fun en w' => ∃ v0_ : Value, en = .returned (v0_) ∧ Kd.V (Kd.int .u8) e w' w.heap.size (fun k_ => (w.heap.size ≤ k_)) v0_ r ∧ Below w.heap.size w w' := by
  unfold const_bytes.f at h
  split at h
  case isFalse => cases h
  injection h with h
  subst h
  refine ⟨_, rfl, ⟨some ⟨w.heap.size, 0, none⟩, a0.length, rfl, Nat.le_refl _, ?_⟩, below_alloc (Below.refl _ _) _⟩
  intro W' hW
  have hb := (hW w.heap.size (Nat.le_refl _) (by simp)).trans (heap_alloc_mark w (a0.map (Value.int .u8)).toArray e (a0.length, a0.length + 1))
  refine Kd.C_of_reads (enc := Value.int .u8) (d := (0 : Int)) (h1 := fun _ => rfl) ⟨rfl, by omega, fun hp => ⟨_, rfl, fun j hj => ?_⟩⟩
  rw [add_plain]
  simp [World.cell?, hb, List.getD, hj]
section
variable {P : Program} {d n : Nat} {e : TypeId} {xs ys : Array Value} {j : Nat} {js : List Nat} {a b : Value} {r s : Bool} {w : World}
end
end Go.Proofs.YtnmngglfeiifaaaGreatDoor.X
end
section
/- Plain facts on bytes as signs (UTF-8): no program in sight. -/
namespace Go.Proofs.YtnmngglfeiifaaaGreatDoor.M
open Go.RowKit
set_option linter.unusedVariables false
set_option linter.unusedSimpArgs false

theorem w64 {x : Int} (h0 : -9223372036854775808 ≤ x) (h1 : x < 9223372036854775808) : wrap64 x = x := by unfold wrap64; omega
theorem w32 {x : Int} (h0 : -2147483648 ≤ x) (h1 : x < 2147483648) : wrap32 x = x := by unfold wrap32; omega
/-- Bytes. -/
def BT (b : List Int) : Prop := ∀ x ∈ b, 0 ≤ x ∧ x < 256
instance (b : List Int) : Decidable (BT b) := inferInstanceAs (Decidable (∀ x ∈ b, 0 ≤ x ∧ x < 256))
/-- A byte that goes on. -/
def isT (c : Int) : Bool := decide (128 ≤ c) && decide (c < 192)
def v2 (c c1 : Int) : Int := (c - 192) * 64 + (c1 - 128)
def v3 (c c1 c2 : Int) : Int := ((c - 224) * 64 + (c1 - 128)) * 64 + (c2 - 128)
def v4 (c c1 c2 c3 : Int) : Int := (((c - 240) * 64 + (c1 - 128)) * 64 + (c2 - 128)) * 64 + (c3 - 128)
/-- The sign with which bytes begin. -/
def nx : List Int → Int × Int
  | [] => (-1, 0)
  | c :: t =>
    if c < 128 then (c, 1)
    else if 194 ≤ c ∧ c < 224 then
      match t with
      | c1 :: _ => if isT c1 = true then (v2 c c1, 2) else (-1, 1)
      | [] => (-1, 1)
    else if 224 ≤ c ∧ c < 240 then
      match t with
      | c1 :: c2 :: _ => if isT c1 = true ∧ isT c2 = true ∧ 2048 ≤ v3 c c1 c2 ∧ ¬ (55296 ≤ v3 c c1 c2 ∧ v3 c c1 c2 < 57344) then (v3 c c1 c2, 3) else (-1, 1)
      | _ => (-1, 1)
    else if 240 ≤ c ∧ c < 245 then
      match t with
      | c1 :: c2 :: c3 :: _ => if isT c1 = true ∧ isT c2 = true ∧ isT c3 = true ∧ 65536 ≤ v4 c c1 c2 c3 ∧ v4 c c1 c2 c3 ≤ 1114111 then (v4 c c1 c2 c3, 4) else (-1, 1)
      | _ => (-1, 1)
    else (-1, 1)

theorem BT.head {c : Int} {t : List Int} (h : BT (c :: t)) : 0 ≤ c ∧ c < 256 := h c List.mem_cons_self
theorem BT.drop {b : List Int} (h : BT b) (n : Nat) : BT (b.drop n) := fun x hx => h x (List.mem_of_mem_drop hx)
theorem BT.take {b : List Int} (h : BT b) (n : Nat) : BT (b.take n) := fun x hx => h x (List.mem_of_mem_take hx)
/-! ### all signs -/
def usF : Nat → List Int → List (Int × Int)
  | 0, _ => []
  | _ + 1, [] => []
  | f + 1, c :: t => nx (c :: t) :: usF f ((c :: t).drop (nx (c :: t)).2.toNat)
/-- All signs of bytes: the runes, and how many bytes each has. -/
def us (b : List Int) : List (Int × Int) := usF b.length b
/-- How many bytes the first k signs have. -/
def pos (l : List (Int × Int)) (k : Nat) : Int := ((l.take k).map (·.2)).sum
/-! ### runes as bytes -/
def enc (r : Int) : List Int :=
  if r < 128 then [r]
  else if r < 2048 then [192 + r / 64, 128 + r % 64]
  else if r < 65536 then [224 + r / 4096, 128 + r / 64 % 64, 128 + r % 64]
  else [240 + r / 262144, 128 + r / 4096 % 64, 128 + r / 64 % 64, 128 + r % 64]
/-- The runes of bytes; -1: a byte that is none. -/
def rs (b : List Int) : List Int := (us b).map (·.1)
/-- All of bytes are signs. -/
def whole (b : List Int) : Bool := (rs b).all (fun r => decide (0 ≤ r))
end Go.Proofs.YtnmngglfeiifaaaGreatDoor.M
end
section
/- Plain facts on lines: where they begin. No program in sight. -/
namespace Go.Proofs.YtnmngglfeiifaaaGreatDoor.M

/-- Where lines begin behind a newline, counted from i on. -/
def begs : Int → List Int → List Int
  | _, [] => []
  | i, c :: t => if c = 10 then (i + 1) :: begs (i + 1) t else begs (i + 1) t
def begins (b : List Int) : List Int := 0 :: begs 0 b
theorem begs_snoc (i : Int) (l : List Int) (c : Int) : begs i (l ++ [c]) = begs i l ++ (if c = 10 then [i + l.length + 1] else []) := by
  induction l generalizing i with
  | nil => simp [begs]
  | cons x l ih =>
    simp only [List.cons_append, begs, ih, List.length_cons]
    have : i + 1 + (l.length : Int) + 1 = i + ((l.length + 1 : Nat) : Int) + 1 := by omega
    rw [this]
    split <;> simp
theorem begins_snoc (l : List Int) (c : Int) : begins (l ++ [c]) = begins l ++ (if c = 10 then [(l.length : Int) + 1] else []) := by
  unfold begins
  rw [begs_snoc, Int.zero_add]
  rfl
theorem begs_len (i : Int) (l : List Int) : (begs i l).length ≤ l.length := by
  induction l generalizing i with
  | nil => simp [begs]
  | cons x l ih =>
    have := ih (i + 1)
    unfold begs
    split <;> simp <;> omega
theorem begins_len (l : List Int) : 1 ≤ (begins l).length ∧ (begins l).length ≤ l.length + 1 := by
  have := begs_len 0 l
  unfold begins
  simp
  omega
theorem begs_range (i : Int) (l : List Int) : ∀ x ∈ begs i l, i < x ∧ x ≤ i + l.length := by
  induction l generalizing i with
  | nil => intro x hx; cases hx
  | cons c l ih =>
    intro x hx
    unfold begs at hx
    simp only [List.length_cons]
    split at hx
    · rcases List.mem_cons.1 hx with rfl | hx
      · omega
      · have := ih (i + 1) x hx; omega
    · have := ih (i + 1) x hx; omega
theorem begins_range (b : List Int) : ∀ x ∈ begins b, 0 ≤ x ∧ x ≤ b.length := by
  intro x hx
  unfold begins at hx
  rcases List.mem_cons.1 hx with rfl | hx
  · omega
  · have := begs_range 0 b x hx; omega
theorem begins_at (b : List Int) (i : Nat) : 0 ≤ (begins b).getD i 0 ∧ (begins b).getD i 0 ≤ b.length := by
  rw [List.getD_eq_getElem?_getD]
  by_cases h : i < (begins b).length
  · rw [List.getElem?_eq_getElem h]
    exact begins_range b _ (List.getElem_mem h)
  · rw [List.getElem?_eq_none (by omega)]
    simp
/-- How many lines there are. -/
def nlines (b : List Int) : Int := if (begins b).getD ((begins b).length - 1) 0 = (b.length : Int) then (begins b).length - 1 else (begins b).length
/-- How many lines begin up to a place. -/
def upto (b : List Int) (at_ : Int) : Nat := (begins b).countP (fun x => decide (x ≤ at_))
end Go.Proofs.YtnmngglfeiifaaaGreatDoor.M
end
section
/- A string's bytes as numbers, and back. -/
namespace Go.Proofs.YtnmngglfeiifaaaGreatDoor.M
open Go.RowKit Go.Proofs.YtnmngglfeiifaaaGreatDoorW.PrintWords Go.Proofs.YtnmngglfeiifaaaGreatDoor.X
set_option linter.unusedVariables false
set_option linter.unusedSimpArgs false

end Go.Proofs.YtnmngglfeiifaaaGreatDoor.M
end
