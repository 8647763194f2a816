/- Plain words, and walks by hand. -/
import Derived.Test.YtnmngglfeiifaaaGreatDoorWAll
import Derived.Lib.ConvBytes
import Derived.Lib.SlBytesConst
import Derived.ChangeKeysEq
import Derived.Laws.BitsLemmas
import Derived.RowKit
import Derived.Laws.Strings
section
/- Words beside the print's: a string's bytes as a slice ('[]byte(s)'), as one step of a walk. -/
namespace Go.Proofs.YtnmngglfeiifaaaGreatDoor.X
open Go.RowKit Go.Proofs.YtnmngglfeiifaaaGreatDoorW.PrintWords Go.Proofs.YtnmngglfeiifaaaGreatDoorW.PrintLast Go.Proofs.YtnmngglfeiifaaaGreatDoorW.PrintMore
set_option linter.unusedVariables false
set_option linter.unusedSimpArgs false

/-- The conversion, told as a call is. -/
def CvCalls (e : TypeId) (s : ByteArray) (w : World) (Q : Ending → World → Prop) : Prop :=
  Q (.returned (.slice (some ⟨w.heap.size, 0, none⟩) s.size (grownCap w s.size 0 e))) (Lib.bytesWorld w e s)
theorem CvCalls.mono {e : TypeId} {s : ByteArray} {w : World} {Q Q' : Ending → World → Prop} (h : CvCalls e s w Q) (hq : ∀ en w', Q en w' → Q' en w') : CvCalls e s w Q' := hq _ _ h
theorem cv_goes {P : Program} {ops : Array Oper} {Q : Exit → Act → World → Prop} {rest : List Oper} {oi : Oper} {a : Act} {w : World} {N : Option Tmp} (hd : oi.dst = N) (hg : oi.guard = none) {src dst e : TypeId} {x : Operand} {s : ByteArray} {u : TypeDesc}
    (hop : oi.op = .convert src dst x) (hx : a.eval x = .string s) (hs : P.underlying src = some u) (hd' : P.underlying dst = some (.slice e)) (he : P.underlying e = some (.int .u8))
    (h : CvCalls e s w fun en w' => ∃ v, en = .returned v ∧ wpList P ops Q rest (a.put N v) w') : wpList P ops Q (oi :: rest) a w := by
  refine wpList_plain hg fun K hK => ?_
  obtain ⟨v, hv, hr⟩ := h
  injection hv with hv
  subst hv
  have hrun : (execOp a.eval oi).run P w = .ok (.value (.slice (some ⟨w.heap.size, 0, none⟩) s.size (grownCap w s.size 0 e))) (Lib.bytesWorld w e s) := by
    unfold execOp
    have := Lib.run_convert_string_bytes w src dst e s hs hd' he
    simp [hop, hx, this]
  unfold Oper.wp
  rw [hrun]
  subst hd
  exact hK _ _ hr
def conv_bytes.f (a0 : ByteArray) : Option (List Int) := if a0.size < 140737488355328 then some (bytesOf a0) else none
theorem bytesOf_getD (s : ByteArray) (j : Nat) (hj : j < s.size) : (bytesOf s).getD j 0 = ((s.data.toList.getD j 0).toNat : Int) := by
  unfold bytesOf
  rw [List.getD_eq_getElem?_getD, List.getD_eq_getElem?_getD, List.getElem?_map, List.getElem?_eq_getElem (by simpa using hj)]
  rfl
theorem bytesWorld_below (w : World) (e : TypeId) (s : ByteArray) : Below w.heap.size w (Lib.bytesWorld w e s) :=
  ⟨rfl, rfl, rfl, by rw [Lib.bytesWorld_size]; omega, fun i hi => Lib.bytesWorld_at_old w e s i hi⟩
theorem conv_bytes.calls {e : Nat} (a0 : ByteArray) (r : List Int) (w : World) (h : conv_bytes.f a0 = some r) :
    CvCalls e a0 w fun en w' => ∃ v0_ : Value, en = .returned (v0_) ∧ Kd.V (Kd.int .u8) e w' w.heap.size (fun k_ => (w.heap.size ≤ k_)) v0_ r ∧ Below w.heap.size w w' := by
  unfold conv_bytes.f at h
  split at h
  · rename_i hs
    injection h with h
    subst h
    have hl : (bytesOf a0).length = a0.size := bytesOf_length a0
    refine ⟨_, rfl, ⟨some ⟨w.heap.size, 0, none⟩, grownCap w a0.size 0 e, by rw [hl], by rw [hl]; exact grownCap_ge _ _ _ _, ?_⟩, bytesWorld_below w e a0⟩
    intro W' hW
    have hb := (hW w.heap.size (Nat.le_refl _) (by rw [Lib.bytesWorld_size]; omega)).trans (Lib.bytesWorld_at_new w e a0)
    refine Kd.C_of_reads (enc := Value.int .u8) (d := (0 : Int)) (h1 := fun _ => rfl) ⟨rfl, by omega, fun hp => ⟨_, rfl, fun j hj => ?_⟩⟩
    rw [add_plain]
    rw [hl] at hj
    rw [bytesOf_getD a0 j hj]
    simp [World.cell?, hb, Lib.bytesCells, Array.getElem?_append, List.getD, hj]
  · cases h
theorem heap_alloc_mark (w : World) (C : Array Value) (e : TypeId) (m : Nat × Nat) : (w.alloc (.cells C e m)).heap[w.heap.size]? = some (.cells C e m) := by
  show (w.heap.push (.cells C e m))[w.heap.size]? = _
  simp
/-- A constant text as bytes: the literal's row, marked; told as a call is. -/
def CstCalls (e : TypeId) (a0 : List Int) (w : World) (Q : Ending → World → Prop) : Prop :=
  Q (.returned (.slice (some ⟨w.heap.size, 0, none⟩) a0.length a0.length)) (w.alloc (.cells (a0.map (Value.int .u8)).toArray e (a0.length, a0.length + 1)))
theorem CstCalls.mono {e : TypeId} {s : List Int} {w : World} {Q Q' : Ending → World → Prop} (h : CstCalls e s w Q) (hq : ∀ en w', Q en w' → Q' en w') : CstCalls e s w Q' := hq _ _ h
theorem const_goes {P : Program} {ops : Array Oper} {Q : Exit → Act → World → Prop} {rest : List Oper} {oi : Oper} {a : Act} {w : World} {N : Option Tmp} (hd : oi.dst = N) (hg : oi.guard = none) {t e : TypeId} {x : Operand} {C : Array Value} {g : Nat} {a0 : List Int}
    (hop : oi.op = .convert t t x) (hx : a.eval x = .slice (some ⟨g, 0, none⟩) a0.length a0.length) (hgs : g = w.heap.size) (hC : C = (a0.map (Value.int .u8)).toArray) (ht : P.underlying t = some (.slice e)) (he : P.underlying e = some (.int .u8))
    (h : CstCalls e a0 w fun en w' => ∃ v, en = .returned v ∧ wpList P ops Q rest (a.put N v) w') : wpList P ops Q (oi :: rest) a (w.alloc (.cells C e)) := by
  refine wpList_plain hg fun K hK => ?_
  obtain ⟨v, hv, hr⟩ := h
  injection hv with hv
  subst hv hgs hC
  have hrun : (execOp a.eval oi).run P (w.alloc (.cells (a0.map (Value.int .u8)).toArray e)) = .ok (.value (.slice (some ⟨w.heap.size, 0, none⟩) a0.length a0.length)) (w.alloc (.cells (a0.map (Value.int .u8)).toArray e (a0.length, a0.length + 1))) := by
    unfold execOp
    have := Lib.run_convert_bytes_const w t e (a0.map (Value.int .u8)).toArray a0.length a0.length ht he
    rw [show (a0.map (Value.int .u8)).toArray.size = a0.length by simp] at this
    simp [hop, hx, this]
  unfold Oper.wp
  rw [hrun]
  subst hd
  exact hK _ _ hr
def const_bytes.f (a0 : List Int) : Option (List Int) := if a0.length < 140737488355328 then some a0 else none
theorem const_bytes.calls {e : Nat} (a0 r : List Int) (w : World) (h : const_bytes.f a0 = some r) :
    CstCalls e a0 w fun en w' => ∃ v0_ : Value, en = .returned (v0_) ∧ Kd.V (Kd.int .u8) e w' w.heap.size (fun k_ => (w.heap.size ≤ k_)) v0_ r ∧ Below w.heap.size w w' := by
  unfold const_bytes.f at h
  split at h
  case isFalse => cases h
  injection h with h
  subst h
  refine ⟨_, rfl, ⟨some ⟨w.heap.size, 0, none⟩, a0.length, rfl, Nat.le_refl _, ?_⟩, below_alloc (Below.refl _ _) _⟩
  intro W' hW
  have hb := (hW w.heap.size (Nat.le_refl _) (by simp)).trans (heap_alloc_mark w (a0.map (Value.int .u8)).toArray e (a0.length, a0.length + 1))
  refine Kd.C_of_reads (enc := Value.int .u8) (d := (0 : Int)) (h1 := fun _ => rfl) ⟨rfl, by omega, fun hp => ⟨_, rfl, fun j hj => ?_⟩⟩
  rw [add_plain]
  simp [World.cell?, hb, List.getD, hj]
section
variable {P : Program} {d n : Nat} {e : TypeId} {xs ys : Array Value} {j : Nat} {js : List Nat} {a b : Value} {r s : Bool} {w : World}
end
end Go.Proofs.YtnmngglfeiifaaaGreatDoor.X
end
section
/- Plain facts on bytes as signs (UTF-8): no program in sight. -/
namespace Go.Proofs.YtnmngglfeiifaaaGreatDoor.M
open Go.RowKit
set_option linter.unusedVariables false
set_option linter.unusedSimpArgs false

theorem w64 {x : Int} (h0 : -9223372036854775808 ≤ x) (h1 : x < 9223372036854775808) : wrap64 x = x := by unfold wrap64; omega
theorem w32 {x : Int} (h0 : -2147483648 ≤ x) (h1 : x < 2147483648) : wrap32 x = x := by unfold wrap32; omega
/-- One step of a chain. -/
theorem ob {α β : Type} {x : Option α} {a : α} {f : α → Option β} {r : Option β} (h : x = some a) (h2 : f a = r) : x.bind f = r := by rw [h]; exact h2

/-- Bytes. -/
def BT (b : List Int) : Prop := ∀ x ∈ b, 0 ≤ x ∧ x < 256
instance (b : List Int) : Decidable (BT b) := inferInstanceAs (Decidable (∀ x ∈ b, 0 ≤ x ∧ x < 256))
/-- A byte that goes on. -/
def isT (c : Int) : Bool := decide (128 ≤ c) && decide (c < 192)
def v2 (c c1 : Int) : Int := (c - 192) * 64 + (c1 - 128)
def v3 (c c1 c2 : Int) : Int := ((c - 224) * 64 + (c1 - 128)) * 64 + (c2 - 128)
def v4 (c c1 c2 c3 : Int) : Int := (((c - 240) * 64 + (c1 - 128)) * 64 + (c2 - 128)) * 64 + (c3 - 128)
/-- The sign with which bytes begin. -/
def nx : List Int → Int × Int
  | [] => (-1, 0)
  | c :: t =>
    if c < 128 then (c, 1)
    else if 194 ≤ c ∧ c < 224 then
      match t with
      | c1 :: _ => if isT c1 = true then (v2 c c1, 2) else (-1, 1)
      | [] => (-1, 1)
    else if 224 ≤ c ∧ c < 240 then
      match t with
      | c1 :: c2 :: _ => if isT c1 = true ∧ isT c2 = true ∧ 2048 ≤ v3 c c1 c2 ∧ ¬ (55296 ≤ v3 c c1 c2 ∧ v3 c c1 c2 < 57344) then (v3 c c1 c2, 3) else (-1, 1)
      | _ => (-1, 1)
    else if 240 ≤ c ∧ c < 245 then
      match t with
      | c1 :: c2 :: c3 :: _ => if isT c1 = true ∧ isT c2 = true ∧ isT c3 = true ∧ 65536 ≤ v4 c c1 c2 c3 ∧ v4 c c1 c2 c3 ≤ 1114111 then (v4 c c1 c2 c3, 4) else (-1, 1)
      | _ => (-1, 1)
    else (-1, 1)

theorem BT.tail {c : Int} {t : List Int} (h : BT (c :: t)) : BT t := fun x hx => h x (List.mem_cons_of_mem _ hx)
theorem BT.head {c : Int} {t : List Int} (h : BT (c :: t)) : 0 ≤ c ∧ c < 256 := h c List.mem_cons_self
theorem BT.drop {b : List Int} (h : BT b) (n : Nat) : BT (b.drop n) := fun x hx => h x (List.mem_of_mem_drop hx)
theorem BT.take {b : List Int} (h : BT b) (n : Nat) : BT (b.take n) := fun x hx => h x (List.mem_of_mem_take hx)
theorem isT_iff (c : Int) : isT c = true ↔ 128 ≤ c ∧ c < 192 := by simp [isT]

/-- What a sign's answer is, one way or the other. -/
theorem nx_cases (c : Int) (t : List Int) :
    (nx (c :: t) = (c, 1) ∧ c < 128) ∨
    (nx (c :: t) = (-1, 1) ∧ ¬ c < 128) ∨
    (∃ c1 t', t = c1 :: t' ∧ isT c1 = true ∧ 194 ≤ c ∧ c < 224 ∧ nx (c :: t) = (v2 c c1, 2)) ∨
    (∃ c1 c2 t', t = c1 :: c2 :: t' ∧ isT c1 = true ∧ isT c2 = true ∧ 224 ≤ c ∧ c < 240 ∧ 2048 ≤ v3 c c1 c2 ∧ ¬ (55296 ≤ v3 c c1 c2 ∧ v3 c c1 c2 < 57344) ∧ nx (c :: t) = (v3 c c1 c2, 3)) ∨
    (∃ c1 c2 c3 t', t = c1 :: c2 :: c3 :: t' ∧ isT c1 = true ∧ isT c2 = true ∧ isT c3 = true ∧ 240 ≤ c ∧ c < 245 ∧ 65536 ≤ v4 c c1 c2 c3 ∧ v4 c c1 c2 c3 ≤ 1114111 ∧ nx (c :: t) = (v4 c c1 c2 c3, 4)) := by
  by_cases h1 : c < 128
  · exact .inl ⟨by simp [nx, h1], h1⟩
  by_cases h2 : 194 ≤ c ∧ c < 224
  · rcases t with _ | ⟨c1, t'⟩
    · exact .inr (.inl ⟨by simp [nx, h1, h2], h1⟩)
    · by_cases h3 : isT c1 = true
      · exact .inr (.inr (.inl ⟨c1, t', rfl, h3, h2.1, h2.2, by simp [nx, h1, h2, h3]⟩))
      · exact .inr (.inl ⟨by simp [nx, h1, h2, h3], h1⟩)
  by_cases h3 : 224 ≤ c ∧ c < 240
  · rcases t with _ | ⟨c1, _ | ⟨c2, t'⟩⟩
    · exact .inr (.inl ⟨by simp [nx, h1, h2, h3], h1⟩)
    · exact .inr (.inl ⟨by simp [nx, h1, h2, h3], h1⟩)
    · by_cases h4 : isT c1 = true ∧ isT c2 = true ∧ 2048 ≤ v3 c c1 c2 ∧ ¬ (55296 ≤ v3 c c1 c2 ∧ v3 c c1 c2 < 57344)
      · exact .inr (.inr (.inr (.inl ⟨c1, c2, t', rfl, h4.1, h4.2.1, h3.1, h3.2, h4.2.2.1, h4.2.2.2, by simp only [nx]; rw [if_neg h1, if_neg h2, if_pos h3, if_pos h4]⟩)))
      · exact .inr (.inl ⟨by simp only [nx]; rw [if_neg h1, if_neg h2, if_pos h3, if_neg h4], h1⟩)
  by_cases h4 : 240 ≤ c ∧ c < 245
  · rcases t with _ | ⟨c1, _ | ⟨c2, _ | ⟨c3, t'⟩⟩⟩
    · exact .inr (.inl ⟨by simp [nx, h1, h2, h3, h4], h1⟩)
    · exact .inr (.inl ⟨by simp [nx, h1, h2, h3, h4], h1⟩)
    · exact .inr (.inl ⟨by simp [nx, h1, h2, h3, h4], h1⟩)
    · by_cases h5 : isT c1 = true ∧ isT c2 = true ∧ isT c3 = true ∧ 65536 ≤ v4 c c1 c2 c3 ∧ v4 c c1 c2 c3 ≤ 1114111
      · exact .inr (.inr (.inr (.inr ⟨c1, c2, c3, t', rfl, h5.1, h5.2.1, h5.2.2.1, h4.1, h4.2, h5.2.2.2.1, h5.2.2.2.2, by simp only [nx]; rw [if_neg h1, if_neg h2, if_neg h3, if_pos h4, if_pos h5]⟩)))
      · exact .inr (.inl ⟨by simp only [nx]; rw [if_neg h1, if_neg h2, if_neg h3, if_pos h4, if_neg h5], h1⟩)
  · exact .inr (.inl ⟨by simp [nx, h1, h2, h3, h4], h1⟩)

/-- Signs have from one to four bytes. -/
theorem nx_len {b : List Int} (hb : b ≠ []) : 1 ≤ (nx b).2 ∧ (nx b).2 ≤ b.length ∧ (nx b).2 ≤ 4 := by
  rcases b with _ | ⟨c, t⟩
  · exact absurd rfl hb
  rcases nx_cases c t with ⟨h, _⟩ | ⟨h, _⟩ | ⟨c1, t', rfl, _, _, _, h⟩ | ⟨c1, c2, t', rfl, _, _, _, _, _, _, h⟩ | ⟨c1, c2, c3, t', rfl, _, _, _, _, _, _, _, h⟩ <;> rw [h] <;> simp <;> omega
/-- No sign: one byte. -/
theorem nx_neg {b : List Int} (hB : BT b) (hb : b ≠ []) (hn : (nx b).1 < 0) : nx b = (-1, 1) := by
  rcases b with _ | ⟨c, t⟩
  · exact absurd rfl hb
  have := hB.head
  rcases nx_cases c t with ⟨h, _⟩ | ⟨h, _⟩ | ⟨c1, t', rfl, _, _, _, h⟩ | ⟨c1, c2, t', rfl, _, _, _, _, _, _, h⟩ | ⟨c1, c2, c3, t', rfl, _, _, _, _, _, _, _, h⟩ <;> rw [h] at hn ⊢
  · simp at hn; omega
  · simp [v2, isT_iff] at *; omega
  · simp at hn; omega
  · simp at hn; omega
/-! ### all signs -/
def usF : Nat → List Int → List (Int × Int)
  | 0, _ => []
  | _ + 1, [] => []
  | f + 1, c :: t => nx (c :: t) :: usF f ((c :: t).drop (nx (c :: t)).2.toNat)
theorem usF_stable : ∀ (f g : Nat) (b : List Int), b.length ≤ f → b.length ≤ g → usF f b = usF g b
  | 0, 0, _, _, _ => rfl
  | 0, g + 1, b, h, _ => by
    have : b = [] := List.eq_nil_of_length_eq_zero (by omega)
    subst this; rfl
  | f + 1, 0, b, _, h => by
    have : b = [] := List.eq_nil_of_length_eq_zero (by omega)
    subst this; rfl
  | f + 1, g + 1, [], _, _ => rfl
  | f + 1, g + 1, c :: t, h, h' => by
    have hl := nx_len (b := c :: t) (by simp)
    have hd : ((c :: t).drop (nx (c :: t)).2.toNat).length ≤ t.length := by
      rw [List.length_drop]; simp only [List.length_cons] at *; omega
    simp only [usF]
    rw [usF_stable f g _ (by simp at h; omega) (by simp at h'; omega)]
/-- All signs of bytes: the runes, and how many bytes each has. -/
def us (b : List Int) : List (Int × Int) := usF b.length b
theorem us_nil : us [] = [] := rfl
theorem us_cons {b : List Int} (hb : b ≠ []) : us b = nx b :: us (b.drop (nx b).2.toNat) := by
  rcases b with _ | ⟨c, t⟩
  · exact absurd rfl hb
  have hl := nx_len (b := c :: t) (by simp)
  unfold us
  simp only [List.length_cons, usF]
  rw [usF_stable t.length _ _ (by rw [List.length_drop]; simp only [List.length_cons] at *; omega) (Nat.le_refl _)]
/-- An induction over signs. -/
theorem us_ind {P : List Int → Prop} (h0 : P []) (h1 : ∀ b, b ≠ [] → P (b.drop (nx b).2.toNat) → P b) : ∀ b, P b := by
  intro b
  generalize hn : b.length = n
  induction n using Nat.strongRecOn generalizing b with
  | _ n ih =>
    by_cases hb : b = []
    · subst hb; exact h0
    · have hl := nx_len hb
      exact h1 b hb (ih _ (by rw [List.length_drop]; omega) _ rfl)
/-- How many bytes the first k signs have. -/
def pos (l : List (Int × Int)) (k : Nat) : Int := ((l.take k).map (·.2)).sum
theorem pos_cons (x : Int × Int) (l : List (Int × Int)) (k : Nat) : pos (x :: l) (k + 1) = x.2 + pos l k := by simp [pos]
theorem us_len (b : List Int) : (us b).length ≤ b.length := by
  induction b using us_ind with
  | h0 => simp [us_nil]
  | h1 b hb ih =>
    have hl := nx_len hb
    rw [us_cons hb, List.length_cons]
    rw [List.length_drop] at ih
    omega
/-! ### runes as bytes -/
/-- May a number be a rune? -/
def okR (r : Int) : Bool := decide (0 ≤ r) && decide (r ≤ 1114111) && !(decide (55296 ≤ r) && decide (r < 57344))
theorem okR_iff (r : Int) : okR r = true ↔ 0 ≤ r ∧ r ≤ 1114111 ∧ ¬ (55296 ≤ r ∧ r < 57344) := by
  unfold okR
  simp only [Bool.and_eq_true, Bool.not_eq_true', Bool.and_eq_false_iff, decide_eq_true_eq, decide_eq_false_iff_not]
  omega
def enc (r : Int) : List Int :=
  if r < 128 then [r]
  else if r < 2048 then [192 + r / 64, 128 + r % 64]
  else if r < 65536 then [224 + r / 4096, 128 + r / 64 % 64, 128 + r % 64]
  else [240 + r / 262144, 128 + r / 4096 % 64, 128 + r / 64 % 64, 128 + r % 64]
/-- What is read, and put again, is what it was. -/
theorem enc_nx {b : List Int} (hB : BT b) (h : 0 ≤ (nx b).1) : okR (nx b).1 = true ∧ enc (nx b).1 = b.take (nx b).2.toNat := by
  rcases b with _ | ⟨c, t⟩
  · simp [nx] at h
  have hc := hB.head
  rcases nx_cases c t with ⟨e, h'⟩ | ⟨e, h'⟩ | ⟨c1, t', rfl, g1, g2, g3, e⟩ | ⟨c1, c2, t', rfl, g1, g2, g3, g4, g5, g6, e⟩ | ⟨c1, c2, c3, t', rfl, g1, g2, g3, g4, g5, g6, g7, e⟩
  · rw [e]
    refine ⟨(okR_iff _).2 (by omega), ?_⟩
    simp only [enc]
    rw [if_pos h']
    rfl
  · rw [e] at h; simp at h
  · rw [e]
    have := (isT_iff c1).1 g1
    have hv : v2 c c1 = (c - 192) * 64 + (c1 - 128) := rfl
    refine ⟨(okR_iff _).2 (by dsimp only; omega), ?_⟩
    simp only [enc]
    rw [if_neg (by omega), if_pos (by omega), show 192 + v2 c c1 / 64 = c by omega, show 128 + v2 c c1 % 64 = c1 by omega]
    rfl
  · rw [e]
    have t1 := (isT_iff c1).1 g1
    have t2 := (isT_iff c2).1 g2
    have hv : v3 c c1 c2 = ((c - 224) * 64 + (c1 - 128)) * 64 + (c2 - 128) := rfl
    refine ⟨(okR_iff _).2 (by dsimp only; omega), ?_⟩
    simp only [enc]
    rw [if_neg (by omega), if_neg (by omega), if_pos (by omega), show 224 + v3 c c1 c2 / 4096 = c by omega, show 128 + v3 c c1 c2 / 64 % 64 = c1 by omega, show 128 + v3 c c1 c2 % 64 = c2 by omega]
    rfl
  · rw [e]
    have t1 := (isT_iff c1).1 g1
    have t2 := (isT_iff c2).1 g2
    have t3 := (isT_iff c3).1 g3
    have hv : v4 c c1 c2 c3 = (((c - 240) * 64 + (c1 - 128)) * 64 + (c2 - 128)) * 64 + (c3 - 128) := rfl
    refine ⟨(okR_iff _).2 (by dsimp only; omega), ?_⟩
    simp only [enc]
    rw [if_neg (by omega), if_neg (by omega), if_neg (by omega), show 240 + v4 c c1 c2 c3 / 262144 = c by omega, show 128 + v4 c c1 c2 c3 / 4096 % 64 = c1 by omega, show 128 + v4 c c1 c2 c3 / 64 % 64 = c2 by omega, show 128 + v4 c c1 c2 c3 % 64 = c3 by omega]
    rfl
/-- The runes of bytes; -1: a byte that is none. -/
def rs (b : List Int) : List Int := (us b).map (·.1)
theorem rs_cons {b : List Int} (hb : b ≠ []) : rs b = (nx b).1 :: rs (b.drop (nx b).2.toNat) := by
  unfold rs; rw [us_cons hb]; rfl
theorem rs_len (b : List Int) : (rs b).length = (us b).length := by simp [rs]
theorem rs_each (b : List Int) (hB : BT b) : ∀ r ∈ rs b, r = -1 ∨ okR r = true := by
  induction b using us_ind with
  | h0 => intro r hr; cases hr
  | h1 b hb ih =>
    rw [rs_cons hb]
    intro r hr
    rcases List.mem_cons.1 hr with rfl | hr
    · by_cases h : 0 ≤ (nx b).1
      · exact .inr (enc_nx hB h).1
      · exact .inl (by rw [nx_neg hB hb (by omega)])
    · exact ih (hB.drop _) r hr
/-- All of bytes are signs. -/
def whole (b : List Int) : Bool := (rs b).all (fun r => decide (0 ≤ r))
end Go.Proofs.YtnmngglfeiifaaaGreatDoor.M
end
section
/- Plain facts on lines: where they begin. No program in sight. -/
namespace Go.Proofs.YtnmngglfeiifaaaGreatDoor.M

/-- Where lines begin behind a newline, counted from i on. -/
def begs : Int → List Int → List Int
  | _, [] => []
  | i, c :: t => if c = 10 then (i + 1) :: begs (i + 1) t else begs (i + 1) t
def begins (b : List Int) : List Int := 0 :: begs 0 b
theorem begs_snoc (i : Int) (l : List Int) (c : Int) : begs i (l ++ [c]) = begs i l ++ (if c = 10 then [i + l.length + 1] else []) := by
  induction l generalizing i with
  | nil => simp [begs]
  | cons x l ih =>
    simp only [List.cons_append, begs, ih, List.length_cons]
    have : i + 1 + (l.length : Int) + 1 = i + ((l.length + 1 : Nat) : Int) + 1 := by omega
    rw [this]
    split <;> simp
theorem begins_snoc (l : List Int) (c : Int) : begins (l ++ [c]) = begins l ++ (if c = 10 then [(l.length : Int) + 1] else []) := by
  unfold begins
  rw [begs_snoc, Int.zero_add]
  rfl
theorem begs_len (i : Int) (l : List Int) : (begs i l).length ≤ l.length := by
  induction l generalizing i with
  | nil => simp [begs]
  | cons x l ih =>
    have := ih (i + 1)
    unfold begs
    split <;> simp <;> omega
theorem begins_len (l : List Int) : 1 ≤ (begins l).length ∧ (begins l).length ≤ l.length + 1 := by
  have := begs_len 0 l
  unfold begins
  simp
  omega
theorem begs_range (i : Int) (l : List Int) : ∀ x ∈ begs i l, i < x ∧ x ≤ i + l.length := by
  induction l generalizing i with
  | nil => intro x hx; cases hx
  | cons c l ih =>
    intro x hx
    unfold begs at hx
    simp only [List.length_cons]
    split at hx
    · rcases List.mem_cons.1 hx with rfl | hx
      · omega
      · have := ih (i + 1) x hx; omega
    · have := ih (i + 1) x hx; omega
theorem begins_range (b : List Int) : ∀ x ∈ begins b, 0 ≤ x ∧ x ≤ b.length := by
  intro x hx
  unfold begins at hx
  rcases List.mem_cons.1 hx with rfl | hx
  · omega
  · have := begs_range 0 b x hx; omega
theorem begins_at (b : List Int) (i : Nat) : 0 ≤ (begins b).getD i 0 ∧ (begins b).getD i 0 ≤ b.length := by
  rw [List.getD_eq_getElem?_getD]
  by_cases h : i < (begins b).length
  · rw [List.getElem?_eq_getElem h]
    exact begins_range b _ (List.getElem_mem h)
  · rw [List.getElem?_eq_none (by omega)]
    simp
/-- How many lines there are. -/
def nlines (b : List Int) : Int := if (begins b).getD ((begins b).length - 1) 0 = (b.length : Int) then (begins b).length - 1 else (begins b).length
/-- How many lines begin up to a place. -/
def upto (b : List Int) (at_ : Int) : Nat := (begins b).countP (fun x => decide (x ≤ at_))
end Go.Proofs.YtnmngglfeiifaaaGreatDoor.M
end
section
/- A string's bytes as numbers, and back. -/
namespace Go.Proofs.YtnmngglfeiifaaaGreatDoor.M
open Go.RowKit Go.Proofs.YtnmngglfeiifaaaGreatDoorW.PrintWords Go.Proofs.YtnmngglfeiifaaaGreatDoor.X
set_option linter.unusedVariables false
set_option linter.unusedSimpArgs false

theorem bytesOf_BT (s : ByteArray) : BT (bytesOf s) := by
  intro x hx
  unfold bytesOf at hx
  obtain ⟨u, _, rfl⟩ := List.mem_map.1 hx
  have := u.toNat_lt
  omega
theorem conv_of_str (s : ByteArray) (hl : s.size < 140737488355328) : conv_bytes.f s = some (bytesOf s) := by
  unfold conv_bytes.f
  rw [if_pos hl]
end Go.Proofs.YtnmngglfeiifaaaGreatDoor.M
end
section
/- Letters and their cases, plainly. No program in sight. -/
namespace Go.Proofs.YtnmngglfeiifaaaGreatDoor.M

def great (r : Int) : Bool := (decide (65 ≤ r) && decide (r ≤ 90)) || (decide (192 ≤ r) && decide (r ≤ 222) && decide (r ≠ 215))
def small (r : Int) : Bool := great (r - 32)
def letter (r : Int) : Bool := great r || small r || decide (r = 223) || (decide (255 ≤ r) && decide (r ≤ 591)) || (decide (880 ≤ r) && decide (r ≤ 1327))
theorem great_iff (r : Int) : great r = true ↔ (65 ≤ r ∧ r ≤ 90) ∨ (192 ≤ r ∧ r ≤ 222 ∧ r ≠ 215) := by simp [great, and_assoc]
theorem great_not (r : Int) : great r = false ↔ ¬ ((65 ≤ r ∧ r ≤ 90) ∨ (192 ≤ r ∧ r ≤ 222 ∧ r ≠ 215)) := by rw [← great_iff]; simp
theorem small_iff (r : Int) : small r = true ↔ (97 ≤ r ∧ r ≤ 122) ∨ (224 ≤ r ∧ r ≤ 254 ∧ r ≠ 247) := by
  unfold small; rw [great_iff]; omega
theorem small_not (r : Int) : small r = false ↔ ¬ ((97 ≤ r ∧ r ≤ 122) ∨ (224 ≤ r ∧ r ≤ 254 ∧ r ≠ 247)) := by rw [← small_iff]; simp
theorem letter_iff (r : Int) : letter r = true ↔ (great r = true ∨ small r = true ∨ r = 223 ∨ (255 ≤ r ∧ r ≤ 591) ∨ (880 ≤ r ∧ r ≤ 1327)) := by
  simp [letter, or_assoc]
end Go.Proofs.YtnmngglfeiifaaaGreatDoor.M
end
