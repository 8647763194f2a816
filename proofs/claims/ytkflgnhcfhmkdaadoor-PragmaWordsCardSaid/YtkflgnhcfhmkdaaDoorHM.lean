/- Plain words, and walks by hand. -/
import Derived.Test.YtkflgnhcfhmkdaaDoorWAll
import Derived.Lib.ConvBytes
import Derived.Lib.SlBytesConst
import Derived.ChangeKeysEq
import Derived.Laws.BitsLemmas
import Derived.RowKit
import Derived.Laws.Strings
section
/- Words beside the print's: a string's bytes as a slice ('[]byte(s)'), as one step of a walk. -/
namespace Go.Proofs.YtkflgnhcfhmkdaaDoor.X
open Go.RowKit Go.Proofs.YtkflgnhcfhmkdaaDoorW.PrintWords Go.Proofs.YtkflgnhcfhmkdaaDoorW.PrintLast Go.Proofs.YtkflgnhcfhmkdaaDoorW.PrintMore
set_option linter.unusedVariables false
set_option linter.unusedSimpArgs false

/-- The conversion, told as a call is. -/
def CvCalls (e : TypeId) (s : ByteArray) (w : World) (Q : Ending → World → Prop) : Prop :=
  Q (.returned (.slice (some ⟨w.heap.size, 0, none⟩) s.size (grownCap w s.size 0 e))) (Lib.bytesWorld w e s)
theorem CvCalls.mono {e : TypeId} {s : ByteArray} {w : World} {Q Q' : Ending → World → Prop} (h : CvCalls e s w Q) (hq : ∀ en w', Q en w' → Q' en w') : CvCalls e s w Q' := hq _ _ h
theorem cv_goes {P : Program} {ops : Array Oper} {Q : Exit → Act → World → Prop} {rest : List Oper} {oi : Oper} {a : Act} {w : World} {N : Option Tmp} (hd : oi.dst = N) (hg : oi.guard = none) {src dst e : TypeId} {x : Operand} {s : ByteArray} {u : TypeDesc}
    (hop : oi.op = .convert src dst x) (hx : a.eval x = .string s) (hs : P.underlying src = some u) (hd' : P.underlying dst = some (.slice e)) (he : P.underlying e = some (.int .u8))
    (h : CvCalls e s w fun en w' => ∃ v, en = .returned v ∧ wpList P ops Q rest (a.put N v) w') : wpList P ops Q (oi :: rest) a w := by
  refine wpList_plain hg fun K hK => ?_
  obtain ⟨v, hv, hr⟩ := h
  injection hv with hv
  subst hv
  have hrun : (execOp a.eval oi).run P w = .ok (.value (.slice (some ⟨w.heap.size, 0, none⟩) s.size (grownCap w s.size 0 e))) (Lib.bytesWorld w e s) := by
    unfold execOp
    have := Lib.run_convert_string_bytes w src dst e s hs hd' he
    simp [hop, hx, this]
  unfold Oper.wp
  rw [hrun]
  subst hd
  exact hK _ _ hr
def conv_bytes.f (a0 : ByteArray) : Option (List Int) := if a0.size < 140737488355328 then some (bytesOf a0) else none
theorem bytesOf_getD (s : ByteArray) (j : Nat) (hj : j < s.size) : (bytesOf s).getD j 0 = ((s.data.toList.getD j 0).toNat : Int) := by
  unfold bytesOf
  rw [List.getD_eq_getElem?_getD, List.getD_eq_getElem?_getD, List.getElem?_map, List.getElem?_eq_getElem (by simpa using hj)]
  rfl
theorem bytesWorld_below (w : World) (e : TypeId) (s : ByteArray) : Below w.heap.size w (Lib.bytesWorld w e s) :=
  ⟨rfl, rfl, rfl, by rw [Lib.bytesWorld_size]; omega, fun i hi => Lib.bytesWorld_at_old w e s i hi⟩
theorem conv_bytes.calls {e : Nat} (a0 : ByteArray) (r : List Int) (w : World) (h : conv_bytes.f a0 = some r) :
    CvCalls e a0 w fun en w' => ∃ v0_ : Value, en = .returned (v0_) ∧ Kd.V (Kd.int .u8) e w' w.heap.size (fun k_ => (w.heap.size ≤ k_)) v0_ r ∧ Below w.heap.size w w' := by
  unfold conv_bytes.f at h
  split at h
  · rename_i hs
    injection h with h
    subst h
    have hl : (bytesOf a0).length = a0.size := bytesOf_length a0
    refine ⟨_, rfl, ⟨some ⟨w.heap.size, 0, none⟩, grownCap w a0.size 0 e, by rw [hl], by rw [hl]; exact grownCap_ge _ _ _ _, ?_⟩, bytesWorld_below w e a0⟩
    intro W' hW
    have hb := (hW w.heap.size (Nat.le_refl _) (by rw [Lib.bytesWorld_size]; omega)).trans (Lib.bytesWorld_at_new w e a0)
    refine Kd.C_of_reads (enc := Value.int .u8) (d := (0 : Int)) (h1 := fun _ => rfl) ⟨rfl, by omega, fun hp => ⟨_, rfl, fun j hj => ?_⟩⟩
    rw [add_plain]
    rw [hl] at hj
    rw [bytesOf_getD a0 j hj]
    simp [World.cell?, hb, Lib.bytesCells, Array.getElem?_append, List.getD, hj]
  · cases h
theorem heap_alloc_mark (w : World) (C : Array Value) (e : TypeId) (m : Nat × Nat) : (w.alloc (.cells C e m)).heap[w.heap.size]? = some (.cells C e m) := by
  show (w.heap.push (.cells C e m))[w.heap.size]? = _
  simp
/-- A constant text as bytes: the literal's row, marked; told as a call is. -/
def CstCalls (e : TypeId) (a0 : List Int) (w : World) (Q : Ending → World → Prop) : Prop :=
  Q (.returned (.slice (some ⟨w.heap.size, 0, none⟩) a0.length a0.length)) (w.alloc (.cells (a0.map (Value.int .u8)).toArray e (a0.length, a0.length + 1)))
theorem CstCalls.mono {e : TypeId} {s : List Int} {w : World} {Q Q' : Ending → World → Prop} (h : CstCalls e s w Q) (hq : ∀ en w', Q en w' → Q' en w') : CstCalls e s w Q' := hq _ _ h
theorem const_goes {P : Program} {ops : Array Oper} {Q : Exit → Act → World → Prop} {rest : List Oper} {oi : Oper} {a : Act} {w : World} {N : Option Tmp} (hd : oi.dst = N) (hg : oi.guard = none) {t e : TypeId} {x : Operand} {C : Array Value} {g : Nat} {a0 : List Int}
    (hop : oi.op = .convert t t x) (hx : a.eval x = .slice (some ⟨g, 0, none⟩) a0.length a0.length) (hgs : g = w.heap.size) (hC : C = (a0.map (Value.int .u8)).toArray) (ht : P.underlying t = some (.slice e)) (he : P.underlying e = some (.int .u8))
    (h : CstCalls e a0 w fun en w' => ∃ v, en = .returned v ∧ wpList P ops Q rest (a.put N v) w') : wpList P ops Q (oi :: rest) a (w.alloc (.cells C e)) := by
  refine wpList_plain hg fun K hK => ?_
  obtain ⟨v, hv, hr⟩ := h
  injection hv with hv
  subst hv hgs hC
  have hrun : (execOp a.eval oi).run P (w.alloc (.cells (a0.map (Value.int .u8)).toArray e)) = .ok (.value (.slice (some ⟨w.heap.size, 0, none⟩) a0.length a0.length)) (w.alloc (.cells (a0.map (Value.int .u8)).toArray e (a0.length, a0.length + 1))) := by
    unfold execOp
    have := Lib.run_convert_bytes_const w t e (a0.map (Value.int .u8)).toArray a0.length a0.length ht he
    rw [show (a0.map (Value.int .u8)).toArray.size = a0.length by simp] at this
    simp [hop, hx, this]
  unfold Oper.wp
  rw [hrun]
  subst hd
  exact hK _ _ hr
def const_bytes.f (a0 : List Int) : Option (List Int) := if a0.length < 140737488355328 then some a0 else none
theorem const_bytes.calls {e : Nat} (a0 r : List Int) (w : World) (h : const_bytes.f a0 = some r) :
    CstCalls e a0 w fun en w' => ∃ v0_ : Value, en = .returned (v0_) ∧ Kd.V (Kd.int .u8) e w' w.heap.size (fun k_ => (w.heap.size ≤ k_)) v0_ r ∧ Below w.heap.size w w' := by
  unfold const_bytes.f at h
  split at h
  case isFalse => cases h
  injection h with h
  subst h
  refine ⟨_, rfl, ⟨some ⟨w.heap.size, 0, none⟩, a0.length, rfl, Nat.le_refl _, ?_⟩, below_alloc (Below.refl _ _) _⟩
  intro W' hW
  have hb := (hW w.heap.size (Nat.le_refl _) (by simp)).trans (heap_alloc_mark w (a0.map (Value.int .u8)).toArray e (a0.length, a0.length + 1))
  refine Kd.C_of_reads (enc := Value.int .u8) (d := (0 : Int)) (h1 := fun _ => rfl) ⟨rfl, by omega, fun hp => ⟨_, rfl, fun j hj => ?_⟩⟩
  rw [add_plain]
  simp [World.cell?, hb, List.getD, hj]
section
variable {P : Program} {d n : Nat} {e : TypeId} {xs ys : Array Value} {j : Nat} {js : List Nat} {a b : Value} {r s : Bool} {w : World}
end
end Go.Proofs.YtkflgnhcfhmkdaaDoor.X
end
section
/- Plain facts on bytes as signs (UTF-8): no program in sight. -/
namespace Go.Proofs.YtkflgnhcfhmkdaaDoor.M
open Go.RowKit
set_option linter.unusedVariables false
set_option linter.unusedSimpArgs false

theorem w64 {x : Int} (h0 : -9223372036854775808 ≤ x) (h1 : x < 9223372036854775808) : wrap64 x = x := by unfold wrap64; omega
theorem w32 {x : Int} (h0 : -2147483648 ≤ x) (h1 : x < 2147483648) : wrap32 x = x := by unfold wrap32; omega
/-- One step of a chain. -/
theorem ob {α β : Type} {x : Option α} {a : α} {f : α → Option β} {r : Option β} (h : x = some a) (h2 : f a = r) : x.bind f = r := by rw [h]; exact h2

/-- Bytes. -/
def BT (b : List Int) : Prop := ∀ x ∈ b, 0 ≤ x ∧ x < 256
instance (b : List Int) : Decidable (BT b) := inferInstanceAs (Decidable (∀ x ∈ b, 0 ≤ x ∧ x < 256))
/-- A byte that goes on. -/
def isT (c : Int) : Bool := decide (128 ≤ c) && decide (c < 192)
def v2 (c c1 : Int) : Int := (c - 192) * 64 + (c1 - 128)
def v3 (c c1 c2 : Int) : Int := ((c - 224) * 64 + (c1 - 128)) * 64 + (c2 - 128)
def v4 (c c1 c2 c3 : Int) : Int := (((c - 240) * 64 + (c1 - 128)) * 64 + (c2 - 128)) * 64 + (c3 - 128)
/-- The sign with which bytes begin. -/
def nx : List Int → Int × Int
  | [] => (-1, 0)
  | c :: t =>
    if c < 128 then (c, 1)
    else if 194 ≤ c ∧ c < 224 then
      match t with
      | c1 :: _ => if isT c1 = true then (v2 c c1, 2) else (-1, 1)
      | [] => (-1, 1)
    else if 224 ≤ c ∧ c < 240 then
      match t with
      | c1 :: c2 :: _ => if isT c1 = true ∧ isT c2 = true ∧ 2048 ≤ v3 c c1 c2 ∧ ¬ (55296 ≤ v3 c c1 c2 ∧ v3 c c1 c2 < 57344) then (v3 c c1 c2, 3) else (-1, 1)
      | _ => (-1, 1)
    else if 240 ≤ c ∧ c < 245 then
      match t with
      | c1 :: c2 :: c3 :: _ => if isT c1 = true ∧ isT c2 = true ∧ isT c3 = true ∧ 65536 ≤ v4 c c1 c2 c3 ∧ v4 c c1 c2 c3 ≤ 1114111 then (v4 c c1 c2 c3, 4) else (-1, 1)
      | _ => (-1, 1)
    else (-1, 1)

theorem BT.tail {c : Int} {t : List Int} (h : BT (c :: t)) : BT t := fun x hx => h x (List.mem_cons_of_mem _ hx)
theorem BT.head {c : Int} {t : List Int} (h : BT (c :: t)) : 0 ≤ c ∧ c < 256 := h c List.mem_cons_self
theorem BT.drop {b : List Int} (h : BT b) (n : Nat) : BT (b.drop n) := fun x hx => h x (List.mem_of_mem_drop hx)
theorem BT.take {b : List Int} (h : BT b) (n : Nat) : BT (b.take n) := fun x hx => h x (List.mem_of_mem_take hx)
theorem BT.app {a b : List Int} (h : BT a) (h' : BT b) : BT (a ++ b) := fun x hx => (List.mem_append.1 hx).elim (h x) (h' x)
theorem isT_iff (c : Int) : isT c = true ↔ 128 ≤ c ∧ c < 192 := by simp [isT]

/-- What a sign's answer is, one way or the other. -/
theorem nx_cases (c : Int) (t : List Int) :
    (nx (c :: t) = (c, 1) ∧ c < 128) ∨
    (nx (c :: t) = (-1, 1) ∧ ¬ c < 128) ∨
    (∃ c1 t', t = c1 :: t' ∧ isT c1 = true ∧ 194 ≤ c ∧ c < 224 ∧ nx (c :: t) = (v2 c c1, 2)) ∨
    (∃ c1 c2 t', t = c1 :: c2 :: t' ∧ isT c1 = true ∧ isT c2 = true ∧ 224 ≤ c ∧ c < 240 ∧ 2048 ≤ v3 c c1 c2 ∧ ¬ (55296 ≤ v3 c c1 c2 ∧ v3 c c1 c2 < 57344) ∧ nx (c :: t) = (v3 c c1 c2, 3)) ∨
    (∃ c1 c2 c3 t', t = c1 :: c2 :: c3 :: t' ∧ isT c1 = true ∧ isT c2 = true ∧ isT c3 = true ∧ 240 ≤ c ∧ c < 245 ∧ 65536 ≤ v4 c c1 c2 c3 ∧ v4 c c1 c2 c3 ≤ 1114111 ∧ nx (c :: t) = (v4 c c1 c2 c3, 4)) := by
  by_cases h1 : c < 128
  · exact .inl ⟨by simp [nx, h1], h1⟩
  by_cases h2 : 194 ≤ c ∧ c < 224
  · rcases t with _ | ⟨c1, t'⟩
    · exact .inr (.inl ⟨by simp [nx, h1, h2], h1⟩)
    · by_cases h3 : isT c1 = true
      · exact .inr (.inr (.inl ⟨c1, t', rfl, h3, h2.1, h2.2, by simp [nx, h1, h2, h3]⟩))
      · exact .inr (.inl ⟨by simp [nx, h1, h2, h3], h1⟩)
  by_cases h3 : 224 ≤ c ∧ c < 240
  · rcases t with _ | ⟨c1, _ | ⟨c2, t'⟩⟩
    · exact .inr (.inl ⟨by simp [nx, h1, h2, h3], h1⟩)
    · exact .inr (.inl ⟨by simp [nx, h1, h2, h3], h1⟩)
    · by_cases h4 : isT c1 = true ∧ isT c2 = true ∧ 2048 ≤ v3 c c1 c2 ∧ ¬ (55296 ≤ v3 c c1 c2 ∧ v3 c c1 c2 < 57344)
      · exact .inr (.inr (.inr (.inl ⟨c1, c2, t', rfl, h4.1, h4.2.1, h3.1, h3.2, h4.2.2.1, h4.2.2.2, by simp only [nx]; rw [if_neg h1, if_neg h2, if_pos h3, if_pos h4]⟩)))
      · exact .inr (.inl ⟨by simp only [nx]; rw [if_neg h1, if_neg h2, if_pos h3, if_neg h4], h1⟩)
  by_cases h4 : 240 ≤ c ∧ c < 245
  · rcases t with _ | ⟨c1, _ | ⟨c2, _ | ⟨c3, t'⟩⟩⟩
    · exact .inr (.inl ⟨by simp [nx, h1, h2, h3, h4], h1⟩)
    · exact .inr (.inl ⟨by simp [nx, h1, h2, h3, h4], h1⟩)
    · exact .inr (.inl ⟨by simp [nx, h1, h2, h3, h4], h1⟩)
    · by_cases h5 : isT c1 = true ∧ isT c2 = true ∧ isT c3 = true ∧ 65536 ≤ v4 c c1 c2 c3 ∧ v4 c c1 c2 c3 ≤ 1114111
      · exact .inr (.inr (.inr (.inr ⟨c1, c2, c3, t', rfl, h5.1, h5.2.1, h5.2.2.1, h4.1, h4.2, h5.2.2.2.1, h5.2.2.2.2, by simp only [nx]; rw [if_neg h1, if_neg h2, if_neg h3, if_pos h4, if_pos h5]⟩)))
      · exact .inr (.inl ⟨by simp only [nx]; rw [if_neg h1, if_neg h2, if_neg h3, if_pos h4, if_neg h5], h1⟩)
  · exact .inr (.inl ⟨by simp [nx, h1, h2, h3, h4], h1⟩)

/-- Signs have from one to four bytes. -/
theorem nx_len {b : List Int} (hb : b ≠ []) : 1 ≤ (nx b).2 ∧ (nx b).2 ≤ b.length ∧ (nx b).2 ≤ 4 := by
  rcases b with _ | ⟨c, t⟩
  · exact absurd rfl hb
  rcases nx_cases c t with ⟨h, _⟩ | ⟨h, _⟩ | ⟨c1, t', rfl, _, _, _, h⟩ | ⟨c1, c2, t', rfl, _, _, _, _, _, _, h⟩ | ⟨c1, c2, c3, t', rfl, _, _, _, _, _, _, _, h⟩ <;> rw [h] <;> simp <;> omega
/-- No sign: one byte. -/
theorem nx_neg {b : List Int} (hB : BT b) (hb : b ≠ []) (hn : (nx b).1 < 0) : nx b = (-1, 1) := by
  rcases b with _ | ⟨c, t⟩
  · exact absurd rfl hb
  have := hB.head
  rcases nx_cases c t with ⟨h, _⟩ | ⟨h, _⟩ | ⟨c1, t', rfl, _, _, _, h⟩ | ⟨c1, c2, t', rfl, _, _, _, _, _, _, h⟩ | ⟨c1, c2, c3, t', rfl, _, _, _, _, _, _, _, h⟩ <;> rw [h] at hn ⊢
  · simp at hn; omega
  · simp [v2, isT_iff] at *; omega
  · simp at hn; omega
  · simp at hn; omega
/-! ### all signs -/
def usF : Nat → List Int → List (Int × Int)
  | 0, _ => []
  | _ + 1, [] => []
  | f + 1, c :: t => nx (c :: t) :: usF f ((c :: t).drop (nx (c :: t)).2.toNat)
theorem usF_stable : ∀ (f g : Nat) (b : List Int), b.length ≤ f → b.length ≤ g → usF f b = usF g b
  | 0, 0, _, _, _ => rfl
  | 0, g + 1, b, h, _ => by
    have : b = [] := List.eq_nil_of_length_eq_zero (by omega)
    subst this; rfl
  | f + 1, 0, b, _, h => by
    have : b = [] := List.eq_nil_of_length_eq_zero (by omega)
    subst this; rfl
  | f + 1, g + 1, [], _, _ => rfl
  | f + 1, g + 1, c :: t, h, h' => by
    have hl := nx_len (b := c :: t) (by simp)
    have hd : ((c :: t).drop (nx (c :: t)).2.toNat).length ≤ t.length := by
      rw [List.length_drop]; simp only [List.length_cons] at *; omega
    simp only [usF]
    rw [usF_stable f g _ (by simp at h; omega) (by simp at h'; omega)]
/-- All signs of bytes: the runes, and how many bytes each has. -/
def us (b : List Int) : List (Int × Int) := usF b.length b
theorem us_nil : us [] = [] := rfl
theorem us_cons {b : List Int} (hb : b ≠ []) : us b = nx b :: us (b.drop (nx b).2.toNat) := by
  rcases b with _ | ⟨c, t⟩
  · exact absurd rfl hb
  have hl := nx_len (b := c :: t) (by simp)
  unfold us
  simp only [List.length_cons, usF]
  rw [usF_stable t.length _ _ (by rw [List.length_drop]; simp only [List.length_cons] at *; omega) (Nat.le_refl _)]
/-- An induction over signs. -/
theorem us_ind {P : List Int → Prop} (h0 : P []) (h1 : ∀ b, b ≠ [] → P (b.drop (nx b).2.toNat) → P b) : ∀ b, P b := by
  intro b
  generalize hn : b.length = n
  induction n using Nat.strongRecOn generalizing b with
  | _ n ih =>
    by_cases hb : b = []
    · subst hb; exact h0
    · have hl := nx_len hb
      exact h1 b hb (ih _ (by rw [List.length_drop]; omega) _ rfl)
/-- How many bytes the first k signs have. -/
def pos (l : List (Int × Int)) (k : Nat) : Int := ((l.take k).map (·.2)).sum
theorem pos_cons (x : Int × Int) (l : List (Int × Int)) (k : Nat) : pos (x :: l) (k + 1) = x.2 + pos l k := by simp [pos]
theorem us_len (b : List Int) : (us b).length ≤ b.length := by
  induction b using us_ind with
  | h0 => simp [us_nil]
  | h1 b hb ih =>
    have hl := nx_len hb
    rw [us_cons hb, List.length_cons]
    rw [List.length_drop] at ih
    omega
/-! ### runes as bytes -/
/-- May a number be a rune? -/
def okR (r : Int) : Bool := decide (0 ≤ r) && decide (r ≤ 1114111) && !(decide (55296 ≤ r) && decide (r < 57344))
theorem okR_iff (r : Int) : okR r = true ↔ 0 ≤ r ∧ r ≤ 1114111 ∧ ¬ (55296 ≤ r ∧ r < 57344) := by
  unfold okR
  simp only [Bool.and_eq_true, Bool.not_eq_true', Bool.and_eq_false_iff, decide_eq_true_eq, decide_eq_false_iff_not]
  omega
def enc (r : Int) : List Int :=
  if r < 128 then [r]
  else if r < 2048 then [192 + r / 64, 128 + r % 64]
  else if r < 65536 then [224 + r / 4096, 128 + r / 64 % 64, 128 + r % 64]
  else [240 + r / 262144, 128 + r / 4096 % 64, 128 + r / 64 % 64, 128 + r % 64]
/-- Runes as bytes; those that are none are left out. -/
def encL : List Int → List Int
  | [] => []
  | r :: l => (if okR r = true then enc r else []) ++ encL l
theorem enc_len (r : Int) : 1 ≤ (enc r).length ∧ (enc r).length ≤ 4 := by
  unfold enc
  split
  · simp
  split
  · simp
  split <;> simp
theorem encL_len (l : List Int) : (encL l).length ≤ 4 * l.length := by
  induction l with
  | nil => simp [encL]
  | cons r l ih =>
    unfold encL
    have := enc_len r
    split <;> simp <;> omega
/-- What is read, and put again, is what it was. -/
theorem enc_nx {b : List Int} (hB : BT b) (h : 0 ≤ (nx b).1) : okR (nx b).1 = true ∧ enc (nx b).1 = b.take (nx b).2.toNat := by
  rcases b with _ | ⟨c, t⟩
  · simp [nx] at h
  have hc := hB.head
  rcases nx_cases c t with ⟨e, h'⟩ | ⟨e, h'⟩ | ⟨c1, t', rfl, g1, g2, g3, e⟩ | ⟨c1, c2, t', rfl, g1, g2, g3, g4, g5, g6, e⟩ | ⟨c1, c2, c3, t', rfl, g1, g2, g3, g4, g5, g6, g7, e⟩
  · rw [e]
    refine ⟨(okR_iff _).2 (by omega), ?_⟩
    simp only [enc]
    rw [if_pos h']
    rfl
  · rw [e] at h; simp at h
  · rw [e]
    have := (isT_iff c1).1 g1
    have hv : v2 c c1 = (c - 192) * 64 + (c1 - 128) := rfl
    refine ⟨(okR_iff _).2 (by dsimp only; omega), ?_⟩
    simp only [enc]
    rw [if_neg (by omega), if_pos (by omega), show 192 + v2 c c1 / 64 = c by omega, show 128 + v2 c c1 % 64 = c1 by omega]
    rfl
  · rw [e]
    have t1 := (isT_iff c1).1 g1
    have t2 := (isT_iff c2).1 g2
    have hv : v3 c c1 c2 = ((c - 224) * 64 + (c1 - 128)) * 64 + (c2 - 128) := rfl
    refine ⟨(okR_iff _).2 (by dsimp only; omega), ?_⟩
    simp only [enc]
    rw [if_neg (by omega), if_neg (by omega), if_pos (by omega), show 224 + v3 c c1 c2 / 4096 = c by omega, show 128 + v3 c c1 c2 / 64 % 64 = c1 by omega, show 128 + v3 c c1 c2 % 64 = c2 by omega]
    rfl
  · rw [e]
    have t1 := (isT_iff c1).1 g1
    have t2 := (isT_iff c2).1 g2
    have t3 := (isT_iff c3).1 g3
    have hv : v4 c c1 c2 c3 = (((c - 240) * 64 + (c1 - 128)) * 64 + (c2 - 128)) * 64 + (c3 - 128) := rfl
    refine ⟨(okR_iff _).2 (by dsimp only; omega), ?_⟩
    simp only [enc]
    rw [if_neg (by omega), if_neg (by omega), if_neg (by omega), show 240 + v4 c c1 c2 c3 / 262144 = c by omega, show 128 + v4 c c1 c2 c3 / 4096 % 64 = c1 by omega, show 128 + v4 c c1 c2 c3 / 64 % 64 = c2 by omega, show 128 + v4 c c1 c2 c3 % 64 = c3 by omega]
    rfl
/-- The runes of bytes; -1: a byte that is none. -/
def rs (b : List Int) : List Int := (us b).map (·.1)
theorem rs_cons {b : List Int} (hb : b ≠ []) : rs b = (nx b).1 :: rs (b.drop (nx b).2.toNat) := by
  unfold rs; rw [us_cons hb]; rfl
theorem rs_len (b : List Int) : (rs b).length = (us b).length := by simp [rs]
theorem rs_each (b : List Int) (hB : BT b) : ∀ r ∈ rs b, r = -1 ∨ okR r = true := by
  induction b using us_ind with
  | h0 => intro r hr; cases hr
  | h1 b hb ih =>
    rw [rs_cons hb]
    intro r hr
    rcases List.mem_cons.1 hr with rfl | hr
    · by_cases h : 0 ≤ (nx b).1
      · exact .inr (enc_nx hB h).1
      · exact .inl (by rw [nx_neg hB hb (by omega)])
    · exact ih (hB.drop _) r hr
/-- All of bytes are signs. -/
def whole (b : List Int) : Bool := (rs b).all (fun r => decide (0 ≤ r))
end Go.Proofs.YtkflgnhcfhmkdaaDoor.M
end
section
/- Plain facts on lines: where they begin. No program in sight. -/
namespace Go.Proofs.YtkflgnhcfhmkdaaDoor.M

/-- Where lines begin behind a newline, counted from i on. -/
def begs : Int → List Int → List Int
  | _, [] => []
  | i, c :: t => if c = 10 then (i + 1) :: begs (i + 1) t else begs (i + 1) t
def begins (b : List Int) : List Int := 0 :: begs 0 b
theorem begs_snoc (i : Int) (l : List Int) (c : Int) : begs i (l ++ [c]) = begs i l ++ (if c = 10 then [i + l.length + 1] else []) := by
  induction l generalizing i with
  | nil => simp [begs]
  | cons x l ih =>
    simp only [List.cons_append, begs, ih, List.length_cons]
    have : i + 1 + (l.length : Int) + 1 = i + ((l.length + 1 : Nat) : Int) + 1 := by omega
    rw [this]
    split <;> simp
theorem begins_snoc (l : List Int) (c : Int) : begins (l ++ [c]) = begins l ++ (if c = 10 then [(l.length : Int) + 1] else []) := by
  unfold begins
  rw [begs_snoc, Int.zero_add]
  rfl
theorem begs_len (i : Int) (l : List Int) : (begs i l).length ≤ l.length := by
  induction l generalizing i with
  | nil => simp [begs]
  | cons x l ih =>
    have := ih (i + 1)
    unfold begs
    split <;> simp <;> omega
theorem begins_len (l : List Int) : 1 ≤ (begins l).length ∧ (begins l).length ≤ l.length + 1 := by
  have := begs_len 0 l
  unfold begins
  simp
  omega
theorem begs_range (i : Int) (l : List Int) : ∀ x ∈ begs i l, i < x ∧ x ≤ i + l.length := by
  induction l generalizing i with
  | nil => intro x hx; cases hx
  | cons c l ih =>
    intro x hx
    unfold begs at hx
    simp only [List.length_cons]
    split at hx
    · rcases List.mem_cons.1 hx with rfl | hx
      · omega
      · have := ih (i + 1) x hx; omega
    · have := ih (i + 1) x hx; omega
theorem begins_range (b : List Int) : ∀ x ∈ begins b, 0 ≤ x ∧ x ≤ b.length := by
  intro x hx
  unfold begins at hx
  rcases List.mem_cons.1 hx with rfl | hx
  · omega
  · have := begs_range 0 b x hx; omega
theorem begins_at (b : List Int) (i : Nat) : 0 ≤ (begins b).getD i 0 ∧ (begins b).getD i 0 ≤ b.length := by
  rw [List.getD_eq_getElem?_getD]
  by_cases h : i < (begins b).length
  · rw [List.getElem?_eq_getElem h]
    exact begins_range b _ (List.getElem_mem h)
  · rw [List.getElem?_eq_none (by omega)]
    simp
/-- How many lines there are. -/
def nlines (b : List Int) : Int := if (begins b).getD ((begins b).length - 1) 0 = (b.length : Int) then (begins b).length - 1 else (begins b).length
/-- How many lines begin up to a place. -/
def upto (b : List Int) (at_ : Int) : Nat := (begins b).countP (fun x => decide (x ≤ at_))
end Go.Proofs.YtkflgnhcfhmkdaaDoor.M
end
section
/- Plain facts on lines as lists of bytes. No program in sight. -/
namespace Go.Proofs.YtkflgnhcfhmkdaaDoor.M

/-- The lines of what follows, behind what the current line has already. -/
def linesOf : List Int → List Int → List (List Int)
  | cur, [] => if cur = [] then [] else [cur]
  | cur, c :: t => if c = 10 then (cur ++ [c]) :: linesOf [] t else linesOf (cur ++ [c]) t
/-- Does it end behind a newline (or with nothing)? -/
def endc : List Int → List Int → Bool
  | cur, [] => cur.isEmpty
  | cur, c :: t => if c = 10 then endc [] t else endc (cur ++ [c]) t
/-- A text's lines. -/
def ls (b : List Int) : List (List Int) := linesOf [] b
theorem linesOf_flat (cur t : List Int) : (linesOf cur t).flatten = cur ++ t := by
  induction t generalizing cur with
  | nil => unfold linesOf; split <;> simp_all
  | cons c t ih =>
    unfold linesOf
    split
    · rw [List.flatten_cons, ih]; simp
    · rw [ih]; simp
theorem ls_flat (b : List Int) : (ls b).flatten = b := by unfold ls; rw [linesOf_flat]; rfl
theorem linesOf_ne (cur t : List Int) : ∀ l ∈ linesOf cur t, 1 ≤ l.length := by
  induction t generalizing cur with
  | nil =>
    intro l hl
    unfold linesOf at hl
    split at hl
    · cases hl
    · rename_i h
      have : l = cur := by simpa using hl
      subst this
      exact List.length_pos_iff.2 h
  | cons c t ih =>
    intro l hl
    unfold linesOf at hl
    split at hl
    · rcases List.mem_cons.1 hl with rfl | hl
      · simp
      · exact ih [] l hl
    · exact ih _ l hl
theorem ls_ne (b : List Int) : ∀ l ∈ ls b, 1 ≤ l.length := linesOf_ne [] b
/-- Lines' beginnings, from o on. -/
def offs : Int → List (List Int) → List Int
  | _, [] => []
  | o, l :: t => o :: offs (o + l.length) t
theorem offs_len (o : Int) (L : List (List Int)) : (offs o L).length = L.length := by
  induction L generalizing o with
  | nil => rfl
  | cons l t ih => simp [offs, ih]
theorem begins_lines (t : List Int) : ∀ (o : Int) (cur : List Int), o :: begs (o + cur.length) t = offs o (linesOf cur t) ++ (if endc cur t then [o + cur.length + t.length] else []) := by
  induction t with
  | nil =>
    intro o cur
    unfold linesOf endc begs
    cases cur <;> simp [offs]
  | cons c t ih =>
    intro o cur
    unfold linesOf endc begs
    by_cases h : c = 10
    · rw [if_pos h, if_pos h, if_pos h]
      have := ih (o + cur.length + 1) []
      simp only [List.length_nil, show ((0 : Nat) : Int) = 0 from rfl, Int.add_zero] at this
      simp only [offs, List.cons_append, List.length_append, List.length_cons, List.length_nil]
      rw [show o + (cur.length : Int) + 1 = o + ((cur.length + (0 + 1) : Nat) : Int) by omega] at this ⊢
      rw [this]
      congr 2
      split
      · congr 1; omega
      · rfl
    · rw [if_neg h, if_neg h, if_neg h]
      have := ih o (cur ++ [c])
      simp only [List.length_append, List.length_cons, List.length_nil] at this
      rw [show o + (cur.length : Int) + 1 = o + ((cur.length + (0 + 1) : Nat) : Int) by omega, this]
      congr 1
      split
      · congr 1; simp only [List.length_cons]; omega
      · rfl
/-- Where the line of index j begins. -/
def off (L : List (List Int)) (j : Nat) : Nat := ((L.take j).flatten).length
theorem off_zero (L : List (List Int)) : off L 0 = 0 := by simp [off]
theorem off_cons (l : List Int) (L : List (List Int)) (j : Nat) : off (l :: L) (j + 1) = l.length + off L j := by simp [off]
theorem off_succ (L : List (List Int)) (j : Nat) (hj : j < L.length) : off L (j + 1) = off L j + (L.getD j []).length := by
  induction L generalizing j with
  | nil => simp at hj
  | cons l L ih =>
    cases j with
    | zero => rw [off_cons, off_zero]; simp [off]
    | succ j =>
      rw [off_cons, off_cons, ih j (by simpa using hj)]
      simp; omega
theorem off_all (L : List (List Int)) (j : Nat) (hj : L.length ≤ j) : off L j = L.flatten.length := by
  unfold off
  rw [List.take_of_length_le hj]
theorem off_le (L : List (List Int)) (j : Nat) : off L j ≤ L.flatten.length := by
  induction L generalizing j with
  | nil => simp [off]
  | cons l L ih =>
    cases j with
    | zero => simp [off]
    | succ j =>
      rw [off_cons]
      have := ih j
      simp only [List.flatten_cons, List.length_append]
      omega
theorem offs_get (o : Int) (L : List (List Int)) (j : Nat) (hj : j < L.length) : (offs o L).getD j 0 = o + off L j := by
  induction L generalizing o j with
  | nil => simp at hj
  | cons l L ih =>
    cases j with
    | zero => simp [offs, off]
    | succ j =>
      have := ih (o + l.length) j (by simpa using hj)
      simp only [offs, List.getD_cons_succ]
      rw [this, off_cons]; omega
theorem cut_line (L : List (List Int)) (j : Nat) (hj : j < L.length) : (L.flatten.take (off L (j + 1))).drop (off L j) = L.getD j [] := by
  induction L generalizing j with
  | nil => simp at hj
  | cons l L ih =>
    cases j with
    | zero => rw [off_cons, off_zero]; simp [off]
    | succ j =>
      rw [off_cons, off_cons, List.flatten_cons, List.take_append, List.drop_append]
      have := ih j (by simpa using hj)
      rw [List.take_of_length_le (by omega), List.drop_of_length_le (by omega)]
      rw [show l.length + off L (j + 1) - l.length = off L (j + 1) by omega, show l.length + off L j - l.length = off L j by omega, this]
      simp
theorem begins_ls (b : List Int) : begins b = offs 0 (ls b) ++ (if endc [] b then [(b.length : Int)] else []) := by
  have := begins_lines b 0 []
  simp only [List.length_nil, show ((0 : Nat) : Int) = 0 from rfl, Int.add_zero, Int.zero_add] at this
  exact this
theorem begins_lt (b : List Int) (j : Nat) (hj : j < (ls b).length) : (begins b).getD j 0 = (off (ls b) j : Int) := by
  rw [begins_ls, List.getD_eq_getElem?_getD, List.getElem?_append_left (by rw [offs_len]; exact hj), ← List.getD_eq_getElem?_getD, offs_get 0 _ j hj]
  omega
theorem begins_count (b : List Int) : (begins b).length = (ls b).length + (if endc [] b then 1 else 0) := by
  rw [begins_ls, List.length_append, offs_len]
  split <;> rfl
theorem begins_end (b : List Int) (h : endc [] b = true) : (begins b).getD (ls b).length 0 = (b.length : Int) := by
  rw [begins_ls, if_pos h, List.getD_eq_getElem?_getD, List.getElem?_append_right (by rw [offs_len]; exact Nat.le_refl _), offs_len, Nat.sub_self]
  rfl
theorem off_end (b : List Int) : off (ls b) (ls b).length = b.length := by rw [off_all _ _ (Nat.le_refl _), ls_flat]
theorem line_pos (b : List Int) (j : Nat) (hj : j < (ls b).length) : off (ls b) j < off (ls b) (j + 1) := by
  have h := off_succ (ls b) j hj
  have : 1 ≤ ((ls b).getD j []).length := by
    rw [List.getD_eq_getElem?_getD, List.getElem?_eq_getElem hj]
    exact ls_ne b _ (List.getElem_mem hj)
  omega
theorem nlines_ls (b : List Int) : nlines b = ((ls b).length : Int) := by
  unfold nlines
  have hc := begins_count b
  have hl := begins_len b
  cases he : endc [] b
  · rw [he] at hc
    have hc : (begins b).length = (ls b).length := hc
    rw [begins_lt b ((begins b).length - 1) (by omega)]
    have := line_pos b ((begins b).length - 1) (by omega)
    have h2 := off_le (ls b) ((begins b).length - 1 + 1)
    rw [ls_flat] at h2
    rw [if_neg (by omega)]
    omega
  · rw [he] at hc
    have hc : (begins b).length = (ls b).length + 1 := hc
    rw [show (begins b).length - 1 = (ls b).length by omega, begins_end b he, if_pos rfl]
    omega
/-- Where the line behind the j-th begins, or all ends. -/
theorem begins_next (b : List Int) (j : Nat) (hj : j < (ls b).length) : (if (j : Int) + 1 < ((begins b).length : Int) then (begins b).getD (j + 1) 0 else (b.length : Int)) = (off (ls b) (j + 1) : Int) := by
  have hc := begins_count b
  by_cases h : j + 1 < (ls b).length
  · rw [if_pos (by omega), begins_lt b (j + 1) h]
  · have e : j + 1 = (ls b).length := by omega
    cases he : endc [] b
    · rw [he] at hc
      have hc : (begins b).length = (ls b).length := hc
      rw [if_neg (by omega), e, off_end]
    · rw [he] at hc
      have hc : (begins b).length = (ls b).length + 1 := hc
      rw [if_pos (by omega), e, begins_end b he, off_end]
theorem ls_count (b : List Int) : (ls b).length ≤ b.length := by
  have : ∀ n, n ≤ (ls b).length → n ≤ off (ls b) n := by
    intro n
    induction n with
    | zero => intro _; exact Nat.zero_le _
    | succ n ih => intro hn; have := ih (by omega); have := line_pos b n (by omega); omega
  have := this (ls b).length (Nat.le_refl _)
  rw [off_end] at this
  exact this
end Go.Proofs.YtkflgnhcfhmkdaaDoor.M
end
section
/- A string's bytes as numbers, and back. -/
namespace Go.Proofs.YtkflgnhcfhmkdaaDoor.M
open Go.RowKit Go.Proofs.YtkflgnhcfhmkdaaDoorW.PrintWords Go.Proofs.YtkflgnhcfhmkdaaDoor.X
set_option linter.unusedVariables false
set_option linter.unusedSimpArgs false

theorem bytesOf_BT (s : ByteArray) : BT (bytesOf s) := by
  intro x hx
  unfold bytesOf at hx
  obtain ⟨u, _, rfl⟩ := List.mem_map.1 hx
  have := u.toNat_lt
  omega
theorem bytesOf_strOfNums {l : List Int} (h : BT l) : bytesOf (strOfNums l) = l := by
  unfold bytesOf
  rw [strOfNums_data, List.map_map]
  induction l with
  | nil => rfl
  | cons x l ih =>
    have hx := h.head
    rw [List.map_cons, ih h.tail]
    congr 1
    simp only [Function.comp_apply, UInt8.toNat_ofNat']
    omega
theorem strOfNums_inj {a b : List Int} (ha : BT a) (hb : BT b) (h : strOfNums a = strOfNums b) : a = b := by
  rw [← bytesOf_strOfNums ha, h, bytesOf_strOfNums hb]
theorem toList_eq_data (s : ByteArray) : s.toList = s.data.toList := ByteArray.toList_eq s
theorem toList_append (s t : ByteArray) : (s ++ t).toList = s.toList ++ t.toList := by
  rw [toList_eq_data, toList_eq_data, toList_eq_data, ByteArray.data_append, Array.toList_append]
theorem ba_ext {s t : ByteArray} (h : s.toList = t.toList) : s = t := by
  rw [toList_eq_data, toList_eq_data] at h
  cases s; cases t
  simp only [ByteArray.mk.injEq]
  exact Array.toList_inj.1 h
theorem strOfNums_beq {a b : List Int} (ha : BT a) (hb : BT b) : ((strOfNums a).toList == (strOfNums b).toList) = (a == b) := by
  rw [Bool.eq_iff_iff, beq_iff_eq, beq_iff_eq]
  exact ⟨fun h => strOfNums_inj ha hb (ba_ext h), fun h => by rw [h]⟩
theorem strOfNums_bytesOf (s : ByteArray) : strOfNums (bytesOf s) = s := by
  apply ba_ext
  rw [toList_eq_data, toList_eq_data, strOfNums_data]
  unfold bytesOf
  rw [List.map_map]
  have : (fun n : Int => UInt8.ofNat n.toNat) ∘ (fun b : UInt8 => (b.toNat : Int)) = id := by
    funext u
    simp
  rw [this, List.map_id]
theorem strOfNums_append (a b : List Int) : strOfNums (a ++ b) = strOfNums a ++ strOfNums b := by
  apply ba_ext
  rw [toList_append, toList_eq_data, strOfNums_data, List.map_append, ← strOfNums_data, ← strOfNums_data, ← toList_eq_data, ← toList_eq_data]
theorem conv_of {l : List Int} (h : BT l) (hl : l.length < 140737488355328) : conv_bytes.f (strOfNums l) = some l := by
  unfold conv_bytes.f
  rw [if_pos (by rw [strOfNums_size]; exact hl), bytesOf_strOfNums h]
theorem conv_of_str (s : ByteArray) (hl : s.size < 140737488355328) : conv_bytes.f s = some (bytesOf s) := by
  unfold conv_bytes.f
  rw [if_pos hl]
end Go.Proofs.YtkflgnhcfhmkdaaDoor.M
end
section
/- Letters and their cases, plainly. No program in sight. -/
namespace Go.Proofs.YtkflgnhcfhmkdaaDoor.M

def great (r : Int) : Bool := (decide (65 ≤ r) && decide (r ≤ 90)) || (decide (192 ≤ r) && decide (r ≤ 222) && decide (r ≠ 215))
def small (r : Int) : Bool := great (r - 32)
def letter (r : Int) : Bool := great r || small r || decide (r = 223) || (decide (255 ≤ r) && decide (r ≤ 591)) || (decide (880 ≤ r) && decide (r ≤ 1327))
def downR (r : Int) : Int := if great r = true then r + 32 else r
theorem great_iff (r : Int) : great r = true ↔ (65 ≤ r ∧ r ≤ 90) ∨ (192 ≤ r ∧ r ≤ 222 ∧ r ≠ 215) := by simp [great, and_assoc]
theorem great_not (r : Int) : great r = false ↔ ¬ ((65 ≤ r ∧ r ≤ 90) ∨ (192 ≤ r ∧ r ≤ 222 ∧ r ≠ 215)) := by rw [← great_iff]; simp
theorem small_iff (r : Int) : small r = true ↔ (97 ≤ r ∧ r ≤ 122) ∨ (224 ≤ r ∧ r ≤ 254 ∧ r ≠ 247) := by
  unfold small; rw [great_iff]; omega
theorem small_not (r : Int) : small r = false ↔ ¬ ((97 ≤ r ∧ r ≤ 122) ∨ (224 ≤ r ∧ r ≤ 254 ∧ r ≠ 247)) := by rw [← small_iff]; simp
theorem letter_iff (r : Int) : letter r = true ↔ (great r = true ∨ small r = true ∨ r = 223 ∨ (255 ≤ r ∧ r ≤ 591) ∨ (880 ≤ r ∧ r ≤ 1327)) := by
  simp [letter, or_assoc]
theorem great_small {r : Int} (h : great r = true) : small r = false := by
  rw [small_not]; rw [great_iff] at h; omega
theorem down_small {r : Int} (h : small r = true) : downR r = r := by
  unfold downR
  rw [if_neg]
  intro h2
  rw [great_small h2] at h; cases h
end Go.Proofs.YtkflgnhcfhmkdaaDoor.M
end
section
/- Go's decoding of a text and the plain signs: the same, but for what stands for a wrong byte. -/
namespace Go.Proofs.YtkflgnhcfhmkdaaDoor.M
open Go.RowKit Go.Proofs.YtkflgnhcfhmkdaaDoorW.PrintWords Go.Proofs.YtkflgnhcfhmkdaaDoorW.PrintLast Go.Proofs.YtkflgnhcfhmkdaaDoor.X
set_option linter.unusedVariables false
set_option linter.unusedSimpArgs false

theorem drop_bytes (s : ByteArray) (j : Nat) (h : j < s.size) : (bytesOf s).drop j = ((s.get! j).toNat : Int) :: (bytesOf s).drop (j + 1) := by
  have hl : (bytesOf s).length = s.size := bytesOf_length s
  rw [List.drop_eq_getElem_cons (by omega)]
  congr 1
  have h1 := bytesOf_getD s j h
  rw [List.getD_eq_getElem?_getD, List.getElem?_eq_getElem (by omega)] at h1
  have h2 : s.data.toList.getD j 0 = s.get! j := by
    rw [List.getD_eq_getElem?_getD, Array.getElem?_toList]
    show (s.data[j]?).getD 0 = s.data[j]!
    rw [getElem!_def]
    cases s.data[j]? <;> rfl
  rw [h2] at h1
  exact h1
theorem nx_c (c : Int) (t : List Int) : nx (c :: t) = ((if c < 128 then (c, 1)
    else if 194 ≤ c ∧ c < 224 then
      match t with
      | c1 :: _ => if isT c1 = true then (v2 c c1, 2) else (-1, 1)
      | [] => (-1, 1)
    else if 224 ≤ c ∧ c < 240 then
      match t with
      | c1 :: c2 :: _ => if isT c1 = true ∧ isT c2 = true ∧ 2048 ≤ v3 c c1 c2 ∧ ¬ (55296 ≤ v3 c c1 c2 ∧ v3 c c1 c2 < 57344) then (v3 c c1 c2, 3) else (-1, 1)
      | _ => (-1, 1)
    else if 240 ≤ c ∧ c < 245 then
      match t with
      | c1 :: c2 :: c3 :: _ => if isT c1 = true ∧ isT c2 = true ∧ isT c3 = true ∧ 65536 ≤ v4 c c1 c2 c3 ∧ v4 c c1 c2 c3 ≤ 1114111 then (v4 c c1 c2 c3, 4) else (-1, 1)
      | _ => (-1, 1)
    else (-1, 1)) : Int × Int) := rfl
theorem dec_nx (s : ByteArray) (i : Nat) (h : i < s.size) :
    (0 ≤ (nx ((bytesOf s).drop i)).1 ∧ Utf8.decode s i = ((nx ((bytesOf s).drop i)).1.toNat, (nx ((bytesOf s).drop i)).2.toNat)) ∨ (nx ((bytesOf s).drop i) = (-1, 1) ∧ Utf8.decode s i = (65533, 1)) := by
  have hl : (bytesOf s).length = s.size := bytesOf_length s
  have d0 := drop_bytes s i h
  have d1 : i + 1 < s.size → _ := drop_bytes s (i + 1)
  have d2 : i + 1 + 1 < s.size → _ := drop_bytes s (i + 1 + 1)
  have d3 : i + 1 + 1 + 1 < s.size → _ := drop_bytes s (i + 1 + 1 + 1)
  have e1 : (bytesOf s).drop (i + 1) = [] ∨ i + 1 < s.size := by
    rcases Nat.lt_or_ge (i + 1) s.size with h | h
    · exact .inr h
    · exact .inl (List.drop_of_length_le (by omega))
  have e2 : (bytesOf s).drop (i + 1 + 1) = [] ∨ i + 1 + 1 < s.size := by
    rcases Nat.lt_or_ge (i + 1 + 1) s.size with h | h
    · exact .inr h
    · exact .inl (List.drop_of_length_le (by omega))
  have e3 : (bytesOf s).drop (i + 1 + 1 + 1) = [] ∨ i + 1 + 1 + 1 < s.size := by
    rcases Nat.lt_or_ge (i + 1 + 1 + 1) s.size with h | h
    · exact .inr h
    · exact .inl (List.drop_of_length_le (by omega))
  have g0 := (s.get! i).toNat_lt
  have g1 := (s.get! (i + 1)).toNat_lt
  have g2 := (s.get! (i + 1 + 1)).toNat_lt
  have g3 := (s.get! (i + 1 + 1 + 1)).toNat_lt
  have hdec : Utf8.decode s i = (if (s.get! i).toNat < 0x80 then ((s.get! i).toNat, 1)
    else if ((s.get! i).toNat / 32 == 6 && (decide (i + 1 < s.size) && (s.get! (i + 1)).toNat / 64 == 2)) = true then
      (if (s.get! i).toNat % 32 * 64 + (s.get! (i + 1)).toNat % 64 ≥ 0x80 then ((s.get! i).toNat % 32 * 64 + (s.get! (i + 1)).toNat % 64, 2) else (65533, 1))
    else if ((s.get! i).toNat / 16 == 14 && (decide (i + 1 < s.size) && (s.get! (i + 1)).toNat / 64 == 2) && (decide (i + 1 + 1 < s.size) && (s.get! (i + 1 + 1)).toNat / 64 == 2)) = true then
      (if ((s.get! i).toNat % 16 * 4096 + (s.get! (i + 1)).toNat % 64 * 64 + (s.get! (i + 1 + 1)).toNat % 64 ≥ 0x800 && Utf8.valid (((s.get! i).toNat % 16 * 4096 + (s.get! (i + 1)).toNat % 64 * 64 + (s.get! (i + 1 + 1)).toNat % 64 : Nat) : Int)) = true then ((s.get! i).toNat % 16 * 4096 + (s.get! (i + 1)).toNat % 64 * 64 + (s.get! (i + 1 + 1)).toNat % 64, 3) else (65533, 1))
    else if ((s.get! i).toNat / 8 == 30 && (decide (i + 1 < s.size) && (s.get! (i + 1)).toNat / 64 == 2) && (decide (i + 1 + 1 < s.size) && (s.get! (i + 1 + 1)).toNat / 64 == 2) && (decide (i + 1 + 1 + 1 < s.size) && (s.get! (i + 1 + 1 + 1)).toNat / 64 == 2)) = true then
      (if ((s.get! i).toNat % 8 * 262144 + (s.get! (i + 1)).toNat % 64 * 4096 + (s.get! (i + 1 + 1)).toNat % 64 * 64 + (s.get! (i + 1 + 1 + 1)).toNat % 64 ≥ 0x10000 && Utf8.valid (((s.get! i).toNat % 8 * 262144 + (s.get! (i + 1)).toNat % 64 * 4096 + (s.get! (i + 1 + 1)).toNat % 64 * 64 + (s.get! (i + 1 + 1 + 1)).toNat % 64 : Nat) : Int)) = true then ((s.get! i).toNat % 8 * 262144 + (s.get! (i + 1)).toNat % 64 * 4096 + (s.get! (i + 1 + 1)).toNat % 64 * 64 + (s.get! (i + 1 + 1 + 1)).toNat % 64, 4) else (65533, 1))
    else (65533, 1)) := rfl
  rw [hdec, d0]
  clear hdec d0
  generalize (s.get! i).toNat = a at *
  generalize (s.get! (i + 1)).toNat = b at *
  generalize (s.get! (i + 1 + 1)).toNat = c at *
  generalize (s.get! (i + 1 + 1 + 1)).toNat = d at *
  by_cases ha : a < 128
  · rw [if_pos ha]
    left
    have : nx ((a : Int) :: (bytesOf s).drop (i + 1)) = ((a : Int), 1) := by rw [nx_c, if_pos (by omega)]
    rw [this]
    exact ⟨by omega, by simp⟩
  rw [if_neg ha]
  have bad : ∀ r : Nat × Nat, nx ((a : Int) :: (bytesOf s).drop (i + 1)) = (-1, 1) → r = (65533, 1) → (0 ≤ (nx ((a : Int) :: (bytesOf s).drop (i + 1))).1 ∧ r = ((nx ((a : Int) :: (bytesOf s).drop (i + 1))).1.toNat, (nx ((a : Int) :: (bytesOf s).drop (i + 1))).2.toNat)) ∨ (nx ((a : Int) :: (bytesOf s).drop (i + 1)) = (-1, 1) ∧ r = (65533, 1)) := fun r h1 h2 => .inr ⟨h1, h2⟩
  have good : ∀ (r : Nat × Nat) (v n : Int), nx ((a : Int) :: (bytesOf s).drop (i + 1)) = (v, n) → 0 ≤ v → r = (v.toNat, n.toNat) → (0 ≤ (nx ((a : Int) :: (bytesOf s).drop (i + 1))).1 ∧ r = ((nx ((a : Int) :: (bytesOf s).drop (i + 1))).1.toNat, (nx ((a : Int) :: (bytesOf s).drop (i + 1))).2.toNat)) ∨ (nx ((a : Int) :: (bytesOf s).drop (i + 1)) = (-1, 1) ∧ r = (65533, 1)) := fun r v n h1 h2 h3 => .inl (by rw [h1]; exact ⟨h2, h3⟩)
  have q1 : (decide (i + 1 < s.size) && b / 64 == 2) = true ↔ (i + 1 < s.size ∧ 128 ≤ b ∧ b < 192) := by simp; omega
  have q2 : (decide (i + 1 + 1 < s.size) && c / 64 == 2) = true ↔ (i + 1 + 1 < s.size ∧ 128 ≤ c ∧ c < 192) := by simp; omega
  have q3 : (decide (i + 1 + 1 + 1 < s.size) && d / 64 == 2) = true ↔ (i + 1 + 1 + 1 < s.size ∧ 128 ≤ d ∧ d < 192) := by simp; omega
  have hv : ∀ n : Nat, Utf8.valid (n : Int) = true ↔ (n < 55296 ∨ (57344 ≤ n ∧ n ≤ 1114111)) := by
    intro n; unfold Utf8.valid; simp; omega
  generalize (decide (i + 1 < s.size) && b / 64 == 2) = B1 at *
  generalize (decide (i + 1 + 1 < s.size) && c / 64 == 2) = B2 at *
  generalize (decide (i + 1 + 1 + 1 < s.size) && d / 64 == 2) = B3 at *
  by_cases h2 : 192 ≤ a ∧ a < 224
  · have t6 : (a / 32 == 6) = true := by rw [beq_iff_eq]; omega
    have t14 : (a / 16 == 14) = false := by rw [beq_eq_false_iff_ne]; omega
    have t30 : (a / 8 == 30) = false := by rw [beq_eq_false_iff_ne]; omega
    rw [t6, t14, t30]
    simp only [Bool.true_and, Bool.false_and, Bool.false_eq_true, if_false]
    by_cases hB : B1 = true
    · rw [if_pos hB]
      obtain ⟨p1, p2, p3⟩ := q1.1 hB
      rw [d1 p1] at *
      have hT : isT (b : Int) = true := by rw [isT_iff]; omega
      by_cases hc : a < 194
      · rw [if_neg (by omega)]
        refine bad _ ?_ rfl
        rw [nx_c]
        rw [if_neg (by omega), if_neg (by omega), if_neg (by omega), if_neg (by omega)]
      · rw [if_pos (by omega)]
        refine good _ (v2 a b) 2 ?_ (by unfold v2; omega) ?_
        · rw [nx_c]
          rw [if_neg (by omega), if_pos (by omega)]
          show (if isT (b : Int) = true then _ else _) = _
          rw [if_pos hT]
        · unfold v2
          congr 1
          omega
    · rw [if_neg hB]
      refine bad _ ?_ rfl
      rw [nx_c]
      rw [if_neg (by omega)]
      by_cases hc : a < 194
      · rw [if_neg (by omega), if_neg (by omega), if_neg (by omega)]
      · rw [if_pos (by omega)]
        rcases e1 with e | e
        · rw [e]
        · rw [d1 e]
          show (if isT (b : Int) = true then _ else _) = _
          rw [if_neg]
          intro hT
          rw [isT_iff] at hT
          exact hB (q1.2 ⟨e, by omega, by omega⟩)
  by_cases h3 : 224 ≤ a ∧ a < 240
  · have t6 : (a / 32 == 6) = false := by rw [beq_eq_false_iff_ne]; omega
    have t14 : (a / 16 == 14) = true := by rw [beq_iff_eq]; omega
    have t30 : (a / 8 == 30) = false := by rw [beq_eq_false_iff_ne]; omega
    rw [t6, t14, t30]
    simp only [Bool.true_and, Bool.false_and, Bool.false_eq_true, if_false]
    have hn3 : ∀ t, nx ((a : Int) :: t) = match t with
      | c1 :: c2 :: _ => if isT c1 = true ∧ isT c2 = true ∧ 2048 ≤ v3 a c1 c2 ∧ ¬ (55296 ≤ v3 a c1 c2 ∧ v3 a c1 c2 < 57344) then (v3 a c1 c2, 3) else (-1, 1)
      | _ => (-1, 1) := by
      intro t
      rw [nx_c, if_neg (by omega), if_neg (by omega), if_pos (by omega)]
    by_cases hB : (B1 && B2) = true
    · rw [if_pos hB]
      rw [Bool.and_eq_true] at hB
      obtain ⟨p1, p2, p3⟩ := q1.1 hB.1
      obtain ⟨p4, p5, p6⟩ := q2.1 hB.2
      have hT : isT (b : Int) = true := by rw [isT_iff]; omega
      have hT2 : isT (c : Int) = true := by rw [isT_iff]; omega
      have hval : v3 (a : Int) b c = ((a % 16 * 4096 + b % 64 * 64 + c % 64 : Nat) : Int) := by unfold v3; omega
      have hnx := hn3 ((bytesOf s).drop (i + 1))
      rw [d1 p1, d2 p4] at hnx
      rw [d1 p1, d2 p4] at bad good ⊢
      have hnx : nx ((a : Int) :: (b : Int) :: (c : Int) :: (bytesOf s).drop (i + 1 + 1 + 1)) = if isT (b : Int) = true ∧ isT (c : Int) = true ∧ 2048 ≤ v3 a b c ∧ ¬ (55296 ≤ v3 a b c ∧ v3 a b c < 57344) then (v3 a b c, 3) else (-1, 1) := hnx
      by_cases hk : 2048 ≤ v3 (a : Int) b c ∧ ¬ (55296 ≤ v3 (a : Int) b c ∧ v3 (a : Int) b c < 57344)
      · rw [if_pos ⟨hT, hT2, hk⟩] at hnx
        rw [if_pos (by rw [Bool.and_eq_true, decide_eq_true_iff, hv]; omega)]
        refine good _ _ _ hnx (by omega) ?_
        rw [hval]; rfl
      · rw [if_neg (fun h => hk h.2.2)] at hnx
        rw [if_neg (by rw [Bool.and_eq_true, decide_eq_true_iff, hv]; omega)]
        exact bad _ hnx rfl
    · rw [if_neg hB]
      refine bad _ ?_ rfl
      rw [hn3]
      rcases e1 with e | e
      · rw [e]
      · rw [d1 e]
        rcases e2 with f | f
        · rw [f]
        · rw [d2 f]
          show (if isT (b : Int) = true ∧ isT (c : Int) = true ∧ _ then _ else _) = _
          rw [if_neg]
          rintro ⟨hT, hT2, _⟩
          rw [isT_iff] at hT hT2
          exact hB (by rw [q1.2 ⟨e, by omega, by omega⟩, q2.2 ⟨f, by omega, by omega⟩]; rfl)
  have t6 : (a / 32 == 6) = false := by rw [beq_eq_false_iff_ne]; omega
  have t14 : (a / 16 == 14) = false := by rw [beq_eq_false_iff_ne]; omega
  rw [t6, t14]
  simp only [Bool.true_and, Bool.false_and, Bool.false_eq_true, if_false]
  by_cases h4 : 240 ≤ a ∧ a < 248
  · have t30 : (a / 8 == 30) = true := by rw [beq_iff_eq]; omega
    rw [t30]
    simp only [Bool.true_and]
    have hn4 : a < 245 → ∀ t, nx ((a : Int) :: t) = match t with
      | c1 :: c2 :: c3 :: _ => if isT c1 = true ∧ isT c2 = true ∧ isT c3 = true ∧ 65536 ≤ v4 a c1 c2 c3 ∧ v4 a c1 c2 c3 ≤ 1114111 then (v4 a c1 c2 c3, 4) else (-1, 1)
      | _ => (-1, 1) := by
      intro hk t
      rw [nx_c, if_neg (by omega), if_neg (by omega), if_neg (by omega), if_pos (by omega)]
    have hn5 : 245 ≤ a → ∀ t, nx ((a : Int) :: t) = (-1, 1) := by
      intro hk t
      rw [nx_c]
      rw [if_neg (by omega), if_neg (by omega), if_neg (by omega), if_neg (by omega)]
    by_cases hB : (B1 && B2 && B3) = true
    · rw [if_pos hB]
      rw [Bool.and_eq_true, Bool.and_eq_true] at hB
      obtain ⟨p1, p2, p3⟩ := q1.1 hB.1.1
      obtain ⟨p4, p5, p6⟩ := q2.1 hB.1.2
      obtain ⟨p7, p8, p9⟩ := q3.1 hB.2
      have hT : isT (b : Int) = true := by rw [isT_iff]; omega
      have hT2 : isT (c : Int) = true := by rw [isT_iff]; omega
      have hT3 : isT (d : Int) = true := by rw [isT_iff]; omega
      have hval : v4 (a : Int) b c d = ((a % 8 * 262144 + b % 64 * 4096 + c % 64 * 64 + d % 64 : Nat) : Int) := by unfold v4; omega
      by_cases h5 : a < 245
      · have hnx := hn4 h5 ((bytesOf s).drop (i + 1))
        rw [d1 p1, d2 p4, d3 p7] at hnx
        rw [d1 p1, d2 p4, d3 p7] at bad good ⊢
        have hnx : nx ((a : Int) :: (b : Int) :: (c : Int) :: (d : Int) :: (bytesOf s).drop (i + 1 + 1 + 1 + 1)) = if isT (b : Int) = true ∧ isT (c : Int) = true ∧ isT (d : Int) = true ∧ 65536 ≤ v4 a b c d ∧ v4 a b c d ≤ 1114111 then (v4 a b c d, 4) else (-1, 1) := hnx
        by_cases hk : 65536 ≤ v4 (a : Int) b c d ∧ v4 (a : Int) b c d ≤ 1114111
        · rw [if_pos ⟨hT, hT2, hT3, hk⟩] at hnx
          rw [if_pos (by rw [Bool.and_eq_true, decide_eq_true_iff, hv]; omega)]
          refine good _ _ _ hnx (by omega) ?_
          rw [hval]; rfl
        · rw [if_neg (fun h => hk h.2.2.2)] at hnx
          rw [if_neg (by rw [Bool.and_eq_true, decide_eq_true_iff, hv]; omega)]
          exact bad _ hnx rfl
      · refine bad _ (hn5 (by omega) _) ?_
        rw [if_neg (by rw [Bool.and_eq_true, decide_eq_true_iff, hv]; omega)]
    · rw [if_neg hB]
      refine bad _ ?_ rfl
      by_cases h5 : a < 245
      · rw [hn4 h5]
        rcases e1 with e | e
        · rw [e]
        · rw [d1 e]
          rcases e2 with f | f
          · rw [f]
          · rw [d2 f]
            rcases e3 with g | g
            · rw [g]
            · rw [d3 g]
              show (if isT (b : Int) = true ∧ isT (c : Int) = true ∧ isT (d : Int) = true ∧ _ then _ else _) = _
              rw [if_neg]
              rintro ⟨hT, hT2, hT3, _⟩
              rw [isT_iff] at hT hT2 hT3
              exact hB (by rw [q1.2 ⟨e, by omega, by omega⟩, q2.2 ⟨f, by omega, by omega⟩, q3.2 ⟨g, by omega, by omega⟩]; rfl)
      · exact hn5 (by omega) _
  · have t30 : (a / 8 == 30) = false := by rw [beq_eq_false_iff_ne]; omega
    rw [t30]
    simp only [Bool.false_and, Bool.false_eq_true, if_false]
    refine .inr ⟨?_, trivial⟩
    rw [nx_c]
    rw [if_neg (by omega), if_neg (by omega), if_neg (by omega), if_neg (by omega)]
end Go.Proofs.YtkflgnhcfhmkdaaDoor.M
end
