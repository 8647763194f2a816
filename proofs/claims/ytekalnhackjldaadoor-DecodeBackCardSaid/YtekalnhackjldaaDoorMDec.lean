/- Plain words on escapes, and on the sign with which bytes of a format and a label begin. -/
import Derived.Test.YtekalnhackjldaaDoorHEnt
import Derived.Laws.Bits64b
namespace Go.Proofs.YtekalnhackjldaaDoor.M
open Go.RowKit Go.Proofs.YtekalnhackjldaaDoorW.PrintWords Go.Proofs.YtekalnhackjldaaDoor.H
set_option linter.unusedVariables false

theorem or4 (x d : Int) (hx : 0 ≤ x) (hx1 : x < 1152921504606846976) (hd : 0 ≤ d) (hd1 : d < 16) : Go.bits .or .u64 (IntKind.u64.wrap (x * 16)) d = x * 16 + d := by
  rw [IntKind.wrap_u64, show x * 16 % 18446744073709551616 = x * 16 by omega]
  obtain ⟨a, rfl⟩ : ∃ a : Nat, x = a := ⟨x.toNat, by omega⟩
  obtain ⟨b, rfl⟩ : ∃ b : Nat, d = b := ⟨d.toNat, by omega⟩
  have h := bits_or_u64_nat (a * 16) b (by omega) (by omega)
  have e : a * 16 ||| b = a * 16 + b := by
    have := Nat.shiftLeft_add_eq_or_of_lt (i := 4) (b := b) (by omega) a
    rw [Nat.shiftLeft_eq, show (2 : Nat) ^ 4 = 16 from rfl] at this
    omega
  rw [e] at h
  rw [show ((a : Int) * 16) = ((a * 16 : Nat) : Int) by omega, h]
  omega
/-- A digit of base sixteen. -/
def hexD (c : Int) : Option Int := if 48 ≤ c ∧ c ≤ 57 then some (c - 48) else if 97 ≤ c ∧ c ≤ 102 then some (c - 87) else if 65 ≤ c ∧ c ≤ 70 then some (c - 55) else none
theorem hexD_range {c d : Int} (h : hexD c = some d) : 0 ≤ d ∧ d < 16 := by
  unfold hexD at h
  split at h
  · injection h; omega
  · split at h
    · injection h; omega
    · split at h
      · injection h; omega
      · cases h
/-- The number that digits of base sixteen write. -/
def hexM : Int → List Int → Option Int
  | acc, [] => some acc
  | acc, c :: t => (hexD c).bind fun d => hexM (acc * 16 + d) t
def okV (v : Int) : Bool := decide (0 < v) && decide (v ≤ 1114111) && !(decide (55296 ≤ v) && decide (v < 57344))
theorem okV_iff (v : Int) : okV v = true ↔ 0 < v ∧ v ≤ 1114111 ∧ ¬ (55296 ≤ v ∧ v < 57344) := by
  unfold okV
  simp only [Bool.and_eq_true, decide_eq_true_eq, Bool.not_eq_true', Bool.and_eq_false_iff, decide_eq_false_iff_not]
  omega
/-- An escape's sign by its digits. -/
def escH (w : Nat) (b : List Int) : Int × Int × Bool :=
  if b.length < 2 + w then entNo else match hexM 0 ((b.drop 2).take w) with
    | none => entNo
    | some v => if okV v = true then (v, 2 + (w : Int), true) else entNo
/-- An escape's sign. -/
def escM (f : Int) (b : List Int) : Int × Int × Bool :=
  if b.length < 2 ∨ rd b 0 ≠ 92 ∨ 128 ≤ rd b 1 then entNo
  else if f = 7 then (if rd b 1 = 34 ∨ rd b 1 = 92 ∨ rd b 1 = 36 ∨ rd b 1 = 96 then (rd b 1, 2, true) else entNo)
  else if rd b 1 = 110 then (10, 2, true) else if rd b 1 = 114 then (13, 2, true) else if rd b 1 = 116 then (9, 2, true)
  else if rd b 1 = 85 then escH 8 b else if rd b 1 = 117 then escH 4 b else if rd b 1 = 120 then escH 2 b else (rd b 1, 2, true)
/-- Is a byte a sign that is neither letter, digit nor blank? -/
def punM (c : Int) : Bool := decide (32 < c) && decide (c < 127) && !(decide (48 ≤ c) && decide (c ≤ 57)) && !(decide (97 ≤ c) && decide (c ≤ 122)) && !(decide (65 ≤ c) && decide (c ≤ 90))
/-- The sign with which bytes of a format and a label begin, and how many bytes it has. -/
def oneM (f lab : Int) (b : List Int) : Int × Int :=
  if lab = 1 ∧ (f = 1 ∨ f = 2) ∧ rd b 0 = 38 then (if (entF b).2.2 = true then ((entF b).1, (entF b).2.1) else nx b)
  else if lab = 1 ∧ f = 2 ∧ rd b 0 = 92 ∧ 1 < b.length ∧ punM (rd b 1) = true then (rd b 1, 2)
  else if lab = 5 ∧ f = 8 ∧ 1 < b.length ∧ rd b 0 = 39 ∧ rd b 1 = 39 then (39, 2)
  else if lab = 5 ∧ rd b 0 = 92 ∧ 4 ≤ f ∧ f ≤ 7 then (if (escM f b).2.2 = true then ((escM f b).1, (escM f b).2.1) else nx b)
  else nx b
theorem endN_le12 (l : List Int) : endN l 12 0 ≤ 12 := by
  have := (endN_spec l 12 0 (Nat.zero_le _)).2.1
  omega
theorem entNamesL_width (s : ByteArray) (n : Int) : ∀ L : List (List UInt8 × Int), (entNamesL s n L).2.2 = true → (entNamesL s n L).2.1 = n
  | [], h => by cases h
  | (a, r) :: t, h => by
    unfold entNamesL at h ⊢
    split
    · rfl
    · rename_i hq
      rw [if_neg hq] at h
      exact entNamesL_width s n t h
theorem entDig_width (b : Nat) (s : ByteArray) (n : Int) (h : (entDig b s n).2.2 = true) : (entDig b s n).2.1 = n := by
  unfold entDig at h ⊢
  split at h
  · cases h
  · rename_i h1
    rw [if_neg h1]
    split at h
    · cases h
    · rename_i h2
      rw [if_neg h2]
      split at h
      · cases h
      · rename_i h3
        rw [if_neg h3]
        cases hv : numM b 0 s.data.toList with
        | none => rw [hv] at h; cases h
        | some v =>
          rw [hv] at h
          by_cases h4 : validN v = true
          · show (if validN v = true then ((v : Int), n, true) else entNo).2.1 = n
            rw [if_pos h4]
          · have h' : (if validN v = true then ((v : Int), n, true) else entNo).2.2 = true := h
            rw [if_neg h4] at h'
            cases h'
theorem entB_width (s : ByteArray) (n : Int) (h : (entB s n).2.2 = true) : (entB s n).2.1 = n := by
  unfold entB at h ⊢
  split
  · rename_i h1
    rw [if_pos h1] at h
    unfold entNum at h ⊢
    split
    · rename_i h2; rw [if_pos h2] at h; exact entDig_width _ _ _ h
    · rename_i h2
      rw [if_neg h2] at h
      split
      · rename_i h3; rw [if_pos h3] at h; exact entDig_width _ _ _ h
      · rename_i h3
        rw [if_neg h3] at h
        split
        · rename_i h4; rw [if_pos h4] at h; exact entDig_width _ _ _ h
        · rename_i h4; rw [if_neg h4] at h; exact entDig_width _ _ _ h
  · rename_i h1
    rw [if_neg h1] at h
    exact entNamesL_width s n _ h
/-- How many bytes an entity has. -/
theorem entF_width (b : List Int) (h : (entF b).2.2 = true) : 3 ≤ (entF b).2.1 ∧ (entF b).2.1 ≤ b.length ∧ (entF b).2.1 ≤ 13 := by
  have h12 := endN_le12 b
  have hl := (endN_spec b 12 0 (Nat.zero_le _)).2.2
  unfold entF at h ⊢
  split at h
  · cases h
  · rename_i h1
    rw [if_neg h1]
    rw [entB_width _ _ h]
    omega
theorem escH_width (w : Nat) (b : List Int) (h : (escH w b).2.2 = true) : (escH w b).2.1 = 2 + (w : Int) ∧ 2 + w ≤ b.length := by
  unfold escH at h ⊢
  split at h
  · cases h
  · rename_i h1
    rw [if_neg h1]
    cases hv : hexM 0 ((b.drop 2).take w) with
    | none => rw [hv] at h; cases h
    | some v =>
      rw [hv] at h
      by_cases h2 : okV v = true
      · refine ⟨?_, by omega⟩
        show (if okV v = true then (v, 2 + (w : Int), true) else entNo).2.1 = 2 + (w : Int)
        rw [if_pos h2]
      · have h' : (if okV v = true then (v, 2 + (w : Int), true) else entNo).2.2 = true := h
        rw [if_neg h2] at h'
        cases h'
theorem escM_width (f : Int) (b : List Int) (h : (escM f b).2.2 = true) : 2 ≤ (escM f b).2.1 ∧ (escM f b).2.1 ≤ b.length ∧ (escM f b).2.1 ≤ 10 := by
  have g1 := escH_width 8 b
  have g2 := escH_width 4 b
  have g3 := escH_width 2 b
  by_cases h0 : b.length < 2 ∨ rd b 0 ≠ 92 ∨ 128 ≤ rd b 1
  · unfold escM at h; rw [if_pos h0] at h; cases h
  unfold escM at h ⊢
  rw [if_neg h0] at h ⊢
  by_cases h7 : f = 7
  · rw [if_pos h7] at h ⊢
    by_cases h8 : rd b 1 = 34 ∨ rd b 1 = 92 ∨ rd b 1 = 36 ∨ rd b 1 = 96
    · rw [if_pos h8]; exact ⟨by show (2 : Int) ≤ 2; omega, by show (2 : Int) ≤ b.length; omega, by show (2 : Int) ≤ 10; omega⟩
    · rw [if_neg h8] at h; cases h
  rw [if_neg h7] at h ⊢
  have two : ∀ r : Int, 2 ≤ ((r, (2 : Int), true) : Int × Int × Bool).2.1 ∧ ((r, (2 : Int), true) : Int × Int × Bool).2.1 ≤ b.length ∧ ((r, (2 : Int), true) : Int × Int × Bool).2.1 ≤ 10 := fun r => ⟨by show (2 : Int) ≤ 2; omega, by show (2 : Int) ≤ b.length; omega, by show (2 : Int) ≤ 10; omega⟩
  by_cases c1 : rd b 1 = 110
  · rw [if_pos c1]; exact two _
  rw [if_neg c1] at h ⊢
  by_cases c2 : rd b 1 = 114
  · rw [if_pos c2]; exact two _
  rw [if_neg c2] at h ⊢
  by_cases c3 : rd b 1 = 116
  · rw [if_pos c3]; exact two _
  rw [if_neg c3] at h ⊢
  by_cases c4 : rd b 1 = 85
  · rw [if_pos c4] at h ⊢; have := g1 h; omega
  rw [if_neg c4] at h ⊢
  by_cases c5 : rd b 1 = 117
  · rw [if_pos c5] at h ⊢; have := g2 h; omega
  rw [if_neg c5] at h ⊢
  by_cases c6 : rd b 1 = 120
  · rw [if_pos c6] at h ⊢; have := g3 h; omega
  rw [if_neg c6]; exact two _
/-- A sign has from one byte on to all. -/
theorem oneM_width (f lab : Int) (b : List Int) (hb : b ≠ []) : 1 ≤ (oneM f lab b).2 ∧ (oneM f lab b).2 ≤ b.length := by
  have hn := nx_len hb
  unfold oneM
  split
  · split
    · rename_i h; have := entF_width b h; show 1 ≤ (entF b).2.1 ∧ (entF b).2.1 ≤ b.length; omega
    · omega
  · split
    · rename_i h; exact ⟨by show (1 : Int) ≤ 2; omega, by show (2 : Int) ≤ b.length; omega⟩
    · split
      · rename_i h; exact ⟨by show (1 : Int) ≤ 2; omega, by show (2 : Int) ≤ b.length; omega⟩
      · split
        · split
          · rename_i h; have := escM_width f b h; show 1 ≤ (escM f b).2.1 ∧ (escM f b).2.1 ≤ b.length; omega
          · omega
        · omega
/-- The signs of bytes of a format and a label. -/
def uM (f lab : Int) : Nat → List Int → List (Int × Int)
  | 0, _ => []
  | n + 1, b => if b = [] then [] else oneM f lab b :: uM f lab n (b.drop (oneM f lab b).2.toNat)
theorem uM_nil (f lab : Int) (n : Nat) : uM f lab n [] = [] := by cases n <;> simp [uM]
theorem uM_stable (f lab : Int) : ∀ (n m : Nat) (b : List Int), b.length ≤ n → b.length ≤ m → uM f lab n b = uM f lab m b
  | 0, m, b, h, _ => by
    have : b = [] := List.length_eq_zero_iff.1 (by omega)
    subst this
    rw [uM_nil, uM_nil]
  | n + 1, 0, b, _, h => by
    have : b = [] := List.length_eq_zero_iff.1 (by omega)
    subst this
    rw [uM_nil, uM_nil]
  | n + 1, m + 1, b, h, h' => by
    unfold uM
    by_cases hb : b = []
    · rw [if_pos hb, if_pos hb]
    · have hw := oneM_width f lab b hb
      rw [if_neg hb, if_neg hb, uM_stable f lab n m _ (by rw [List.length_drop]; omega) (by rw [List.length_drop]; omega)]
end Go.Proofs.YtekalnhackjldaaDoor.M
