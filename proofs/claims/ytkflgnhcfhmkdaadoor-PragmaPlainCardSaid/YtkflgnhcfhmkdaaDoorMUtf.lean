/- Plain facts on bytes as signs (UTF-8): no program in sight. -/
import Derived.Laws.BitsLemmas
import Derived.RowKit
namespace Go.Proofs.YtkflgnhcfhmkdaaDoor.M
open Go.RowKit
set_option linter.unusedVariables false
set_option linter.unusedSimpArgs false

theorem w64 {x : Int} (h0 : -9223372036854775808 ≤ x) (h1 : x < 9223372036854775808) : wrap64 x = x := by unfold wrap64; omega
theorem w32 {x : Int} (h0 : -2147483648 ≤ x) (h1 : x < 2147483648) : wrap32 x = x := by unfold wrap32; omega
/-- One step of a chain. -/
theorem ob {α β : Type} {x : Option α} {a : α} {f : α → Option β} {r : Option β} (h : x = some a) (h2 : f a = r) : x.bind f = r := by rw [h]; exact h2

/-- Bytes. -/
def BT (b : List Int) : Prop := ∀ x ∈ b, 0 ≤ x ∧ x < 256
instance (b : List Int) : Decidable (BT b) := inferInstanceAs (Decidable (∀ x ∈ b, 0 ≤ x ∧ x < 256))
/-- A byte that goes on. -/
def isT (c : Int) : Bool := decide (128 ≤ c) && decide (c < 192)
def v2 (c c1 : Int) : Int := (c - 192) * 64 + (c1 - 128)
def v3 (c c1 c2 : Int) : Int := ((c - 224) * 64 + (c1 - 128)) * 64 + (c2 - 128)
def v4 (c c1 c2 c3 : Int) : Int := (((c - 240) * 64 + (c1 - 128)) * 64 + (c2 - 128)) * 64 + (c3 - 128)
/-- The sign with which bytes begin. -/
def nx : List Int → Int × Int
  | [] => (-1, 0)
  | c :: t =>
    if c < 128 then (c, 1)
    else if 194 ≤ c ∧ c < 224 then
      match t with
      | c1 :: _ => if isT c1 = true then (v2 c c1, 2) else (-1, 1)
      | [] => (-1, 1)
    else if 224 ≤ c ∧ c < 240 then
      match t with
      | c1 :: c2 :: _ => if isT c1 = true ∧ isT c2 = true ∧ 2048 ≤ v3 c c1 c2 ∧ ¬ (55296 ≤ v3 c c1 c2 ∧ v3 c c1 c2 < 57344) then (v3 c c1 c2, 3) else (-1, 1)
      | _ => (-1, 1)
    else if 240 ≤ c ∧ c < 245 then
      match t with
      | c1 :: c2 :: c3 :: _ => if isT c1 = true ∧ isT c2 = true ∧ isT c3 = true ∧ 65536 ≤ v4 c c1 c2 c3 ∧ v4 c c1 c2 c3 ≤ 1114111 then (v4 c c1 c2 c3, 4) else (-1, 1)
      | _ => (-1, 1)
    else (-1, 1)

theorem BT.tail {c : Int} {t : List Int} (h : BT (c :: t)) : BT t := fun x hx => h x (List.mem_cons_of_mem _ hx)
theorem BT.head {c : Int} {t : List Int} (h : BT (c :: t)) : 0 ≤ c ∧ c < 256 := h c List.mem_cons_self
theorem BT.drop {b : List Int} (h : BT b) (n : Nat) : BT (b.drop n) := fun x hx => h x (List.mem_of_mem_drop hx)
theorem BT.take {b : List Int} (h : BT b) (n : Nat) : BT (b.take n) := fun x hx => h x (List.mem_of_mem_take hx)
theorem isT_iff (c : Int) : isT c = true ↔ 128 ≤ c ∧ c < 192 := by simp [isT]

/-- What a sign's answer is, one way or the other. -/
theorem nx_cases (c : Int) (t : List Int) :
    (nx (c :: t) = (c, 1) ∧ c < 128) ∨
    (nx (c :: t) = (-1, 1) ∧ ¬ c < 128) ∨
    (∃ c1 t', t = c1 :: t' ∧ isT c1 = true ∧ 194 ≤ c ∧ c < 224 ∧ nx (c :: t) = (v2 c c1, 2)) ∨
    (∃ c1 c2 t', t = c1 :: c2 :: t' ∧ isT c1 = true ∧ isT c2 = true ∧ 224 ≤ c ∧ c < 240 ∧ 2048 ≤ v3 c c1 c2 ∧ ¬ (55296 ≤ v3 c c1 c2 ∧ v3 c c1 c2 < 57344) ∧ nx (c :: t) = (v3 c c1 c2, 3)) ∨
    (∃ c1 c2 c3 t', t = c1 :: c2 :: c3 :: t' ∧ isT c1 = true ∧ isT c2 = true ∧ isT c3 = true ∧ 240 ≤ c ∧ c < 245 ∧ 65536 ≤ v4 c c1 c2 c3 ∧ v4 c c1 c2 c3 ≤ 1114111 ∧ nx (c :: t) = (v4 c c1 c2 c3, 4)) := by
  by_cases h1 : c < 128
  · exact .inl ⟨by simp [nx, h1], h1⟩
  by_cases h2 : 194 ≤ c ∧ c < 224
  · rcases t with _ | ⟨c1, t'⟩
    · exact .inr (.inl ⟨by simp [nx, h1, h2], h1⟩)
    · by_cases h3 : isT c1 = true
      · exact .inr (.inr (.inl ⟨c1, t', rfl, h3, h2.1, h2.2, by simp [nx, h1, h2, h3]⟩))
      · exact .inr (.inl ⟨by simp [nx, h1, h2, h3], h1⟩)
  by_cases h3 : 224 ≤ c ∧ c < 240
  · rcases t with _ | ⟨c1, _ | ⟨c2, t'⟩⟩
    · exact .inr (.inl ⟨by simp [nx, h1, h2, h3], h1⟩)
    · exact .inr (.inl ⟨by simp [nx, h1, h2, h3], h1⟩)
    · by_cases h4 : isT c1 = true ∧ isT c2 = true ∧ 2048 ≤ v3 c c1 c2 ∧ ¬ (55296 ≤ v3 c c1 c2 ∧ v3 c c1 c2 < 57344)
      · exact .inr (.inr (.inr (.inl ⟨c1, c2, t', rfl, h4.1, h4.2.1, h3.1, h3.2, h4.2.2.1, h4.2.2.2, by simp only [nx]; rw [if_neg h1, if_neg h2, if_pos h3, if_pos h4]⟩)))
      · exact .inr (.inl ⟨by simp only [nx]; rw [if_neg h1, if_neg h2, if_pos h3, if_neg h4], h1⟩)
  by_cases h4 : 240 ≤ c ∧ c < 245
  · rcases t with _ | ⟨c1, _ | ⟨c2, _ | ⟨c3, t'⟩⟩⟩
    · exact .inr (.inl ⟨by simp [nx, h1, h2, h3, h4], h1⟩)
    · exact .inr (.inl ⟨by simp [nx, h1, h2, h3, h4], h1⟩)
    · exact .inr (.inl ⟨by simp [nx, h1, h2, h3, h4], h1⟩)
    · by_cases h5 : isT c1 = true ∧ isT c2 = true ∧ isT c3 = true ∧ 65536 ≤ v4 c c1 c2 c3 ∧ v4 c c1 c2 c3 ≤ 1114111
      · exact .inr (.inr (.inr (.inr ⟨c1, c2, c3, t', rfl, h5.1, h5.2.1, h5.2.2.1, h4.1, h4.2, h5.2.2.2.1, h5.2.2.2.2, by simp only [nx]; rw [if_neg h1, if_neg h2, if_neg h3, if_pos h4, if_pos h5]⟩)))
      · exact .inr (.inl ⟨by simp only [nx]; rw [if_neg h1, if_neg h2, if_neg h3, if_pos h4, if_neg h5], h1⟩)
  · exact .inr (.inl ⟨by simp [nx, h1, h2, h3, h4], h1⟩)

/-- Signs have from one to four bytes. -/
theorem nx_len {b : List Int} (hb : b ≠ []) : 1 ≤ (nx b).2 ∧ (nx b).2 ≤ b.length ∧ (nx b).2 ≤ 4 := by
  rcases b with _ | ⟨c, t⟩
  · exact absurd rfl hb
  rcases nx_cases c t with ⟨h, _⟩ | ⟨h, _⟩ | ⟨c1, t', rfl, _, _, _, h⟩ | ⟨c1, c2, t', rfl, _, _, _, _, _, _, h⟩ | ⟨c1, c2, c3, t', rfl, _, _, _, _, _, _, _, h⟩ <;> rw [h] <;> simp <;> omega
/-- No sign: one byte. -/
theorem nx_neg {b : List Int} (hB : BT b) (hb : b ≠ []) (hn : (nx b).1 < 0) : nx b = (-1, 1) := by
  rcases b with _ | ⟨c, t⟩
  · exact absurd rfl hb
  have := hB.head
  rcases nx_cases c t with ⟨h, _⟩ | ⟨h, _⟩ | ⟨c1, t', rfl, _, _, _, h⟩ | ⟨c1, c2, t', rfl, _, _, _, _, _, _, h⟩ | ⟨c1, c2, c3, t', rfl, _, _, _, _, _, _, _, h⟩ <;> rw [h] at hn ⊢
  · simp at hn; omega
  · simp [v2, isT_iff] at *; omega
  · simp at hn; omega
  · simp at hn; omega
/-! ### all signs -/
def usF : Nat → List Int → List (Int × Int)
  | 0, _ => []
  | _ + 1, [] => []
  | f + 1, c :: t => nx (c :: t) :: usF f ((c :: t).drop (nx (c :: t)).2.toNat)
theorem usF_stable : ∀ (f g : Nat) (b : List Int), b.length ≤ f → b.length ≤ g → usF f b = usF g b
  | 0, 0, _, _, _ => rfl
  | 0, g + 1, b, h, _ => by
    have : b = [] := List.eq_nil_of_length_eq_zero (by omega)
    subst this; rfl
  | f + 1, 0, b, _, h => by
    have : b = [] := List.eq_nil_of_length_eq_zero (by omega)
    subst this; rfl
  | f + 1, g + 1, [], _, _ => rfl
  | f + 1, g + 1, c :: t, h, h' => by
    have hl := nx_len (b := c :: t) (by simp)
    have hd : ((c :: t).drop (nx (c :: t)).2.toNat).length ≤ t.length := by
      rw [List.length_drop]; simp only [List.length_cons] at *; omega
    simp only [usF]
    rw [usF_stable f g _ (by simp at h; omega) (by simp at h'; omega)]
/-- All signs of bytes: the runes, and how many bytes each has. -/
def us (b : List Int) : List (Int × Int) := usF b.length b
theorem us_nil : us [] = [] := rfl
theorem us_cons {b : List Int} (hb : b ≠ []) : us b = nx b :: us (b.drop (nx b).2.toNat) := by
  rcases b with _ | ⟨c, t⟩
  · exact absurd rfl hb
  have hl := nx_len (b := c :: t) (by simp)
  unfold us
  simp only [List.length_cons, usF]
  rw [usF_stable t.length _ _ (by rw [List.length_drop]; simp only [List.length_cons] at *; omega) (Nat.le_refl _)]
/-- An induction over signs. -/
theorem us_ind {P : List Int → Prop} (h0 : P []) (h1 : ∀ b, b ≠ [] → P (b.drop (nx b).2.toNat) → P b) : ∀ b, P b := by
  intro b
  generalize hn : b.length = n
  induction n using Nat.strongRecOn generalizing b with
  | _ n ih =>
    by_cases hb : b = []
    · subst hb; exact h0
    · have hl := nx_len hb
      exact h1 b hb (ih _ (by rw [List.length_drop]; omega) _ rfl)
/-- How many bytes the first k signs have. -/
def pos (l : List (Int × Int)) (k : Nat) : Int := ((l.take k).map (·.2)).sum
theorem pos_cons (x : Int × Int) (l : List (Int × Int)) (k : Nat) : pos (x :: l) (k + 1) = x.2 + pos l k := by simp [pos]
theorem us_len (b : List Int) : (us b).length ≤ b.length := by
  induction b using us_ind with
  | h0 => simp [us_nil]
  | h1 b hb ih =>
    have hl := nx_len hb
    rw [us_cons hb, List.length_cons]
    rw [List.length_drop] at ih
    omega
/-! ### runes as bytes -/
/-- May a number be a rune? -/
def okR (r : Int) : Bool := decide (0 ≤ r) && decide (r ≤ 1114111) && !(decide (55296 ≤ r) && decide (r < 57344))
theorem okR_iff (r : Int) : okR r = true ↔ 0 ≤ r ∧ r ≤ 1114111 ∧ ¬ (55296 ≤ r ∧ r < 57344) := by
  unfold okR
  simp only [Bool.and_eq_true, Bool.not_eq_true', Bool.and_eq_false_iff, decide_eq_true_eq, decide_eq_false_iff_not]
  omega
def enc (r : Int) : List Int :=
  if r < 128 then [r]
  else if r < 2048 then [192 + r / 64, 128 + r % 64]
  else if r < 65536 then [224 + r / 4096, 128 + r / 64 % 64, 128 + r % 64]
  else [240 + r / 262144, 128 + r / 4096 % 64, 128 + r / 64 % 64, 128 + r % 64]
/-- Runes as bytes; those that are none are left out. -/
def encL : List Int → List Int
  | [] => []
  | r :: l => (if okR r = true then enc r else []) ++ encL l
theorem enc_len (r : Int) : 1 ≤ (enc r).length ∧ (enc r).length ≤ 4 := by
  unfold enc
  split
  · simp
  split
  · simp
  split <;> simp
theorem encL_len (l : List Int) : (encL l).length ≤ 4 * l.length := by
  induction l with
  | nil => simp [encL]
  | cons r l ih =>
    unfold encL
    have := enc_len r
    split <;> simp <;> omega
/-- What is read, and put again, is what it was. -/
theorem enc_nx {b : List Int} (hB : BT b) (h : 0 ≤ (nx b).1) : okR (nx b).1 = true ∧ enc (nx b).1 = b.take (nx b).2.toNat := by
  rcases b with _ | ⟨c, t⟩
  · simp [nx] at h
  have hc := hB.head
  rcases nx_cases c t with ⟨e, h'⟩ | ⟨e, h'⟩ | ⟨c1, t', rfl, g1, g2, g3, e⟩ | ⟨c1, c2, t', rfl, g1, g2, g3, g4, g5, g6, e⟩ | ⟨c1, c2, c3, t', rfl, g1, g2, g3, g4, g5, g6, g7, e⟩
  · rw [e]
    refine ⟨(okR_iff _).2 (by omega), ?_⟩
    simp only [enc]
    rw [if_pos h']
    rfl
  · rw [e] at h; simp at h
  · rw [e]
    have := (isT_iff c1).1 g1
    have hv : v2 c c1 = (c - 192) * 64 + (c1 - 128) := rfl
    refine ⟨(okR_iff _).2 (by dsimp only; omega), ?_⟩
    simp only [enc]
    rw [if_neg (by omega), if_pos (by omega), show 192 + v2 c c1 / 64 = c by omega, show 128 + v2 c c1 % 64 = c1 by omega]
    rfl
  · rw [e]
    have t1 := (isT_iff c1).1 g1
    have t2 := (isT_iff c2).1 g2
    have hv : v3 c c1 c2 = ((c - 224) * 64 + (c1 - 128)) * 64 + (c2 - 128) := rfl
    refine ⟨(okR_iff _).2 (by dsimp only; omega), ?_⟩
    simp only [enc]
    rw [if_neg (by omega), if_neg (by omega), if_pos (by omega), show 224 + v3 c c1 c2 / 4096 = c by omega, show 128 + v3 c c1 c2 / 64 % 64 = c1 by omega, show 128 + v3 c c1 c2 % 64 = c2 by omega]
    rfl
  · rw [e]
    have t1 := (isT_iff c1).1 g1
    have t2 := (isT_iff c2).1 g2
    have t3 := (isT_iff c3).1 g3
    have hv : v4 c c1 c2 c3 = (((c - 240) * 64 + (c1 - 128)) * 64 + (c2 - 128)) * 64 + (c3 - 128) := rfl
    refine ⟨(okR_iff _).2 (by dsimp only; omega), ?_⟩
    simp only [enc]
    rw [if_neg (by omega), if_neg (by omega), if_neg (by omega), show 240 + v4 c c1 c2 c3 / 262144 = c by omega, show 128 + v4 c c1 c2 c3 / 4096 % 64 = c1 by omega, show 128 + v4 c c1 c2 c3 / 64 % 64 = c2 by omega, show 128 + v4 c c1 c2 c3 % 64 = c3 by omega]
    rfl
/-- The runes of bytes; -1: a byte that is none. -/
def rs (b : List Int) : List Int := (us b).map (·.1)
theorem rs_cons {b : List Int} (hb : b ≠ []) : rs b = (nx b).1 :: rs (b.drop (nx b).2.toNat) := by
  unfold rs; rw [us_cons hb]; rfl
theorem rs_len (b : List Int) : (rs b).length = (us b).length := by simp [rs]
theorem rs_each (b : List Int) (hB : BT b) : ∀ r ∈ rs b, r = -1 ∨ okR r = true := by
  induction b using us_ind with
  | h0 => intro r hr; cases hr
  | h1 b hb ih =>
    rw [rs_cons hb]
    intro r hr
    rcases List.mem_cons.1 hr with rfl | hr
    · by_cases h : 0 ≤ (nx b).1
      · exact .inr (enc_nx hB h).1
      · exact .inl (by rw [nx_neg hB hb (by omega)])
    · exact ih (hB.drop _) r hr
/-- All of bytes are signs. -/
def whole (b : List Int) : Bool := (rs b).all (fun r => decide (0 ≤ r))
end Go.Proofs.YtkflgnhcfhmkdaaDoor.M
