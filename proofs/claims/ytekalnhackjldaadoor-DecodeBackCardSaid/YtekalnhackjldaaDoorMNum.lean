/- Plain words on numbers: the document's saturating one, and the program's. -/
import Derived.Test.YtekalnhackjldaaDoorMDec
namespace Go.Proofs.YtekalnhackjldaaDoor.M
open Go.RowKit Go.Proofs.YtekalnhackjldaaDoorW.PrintWords Go.Proofs.YtekalnhackjldaaDoor.H
set_option linter.unusedVariables false
set_option linter.unusedSimpArgs false

/-- The document's digit. -/
def refdig (b c : Int) : Option Int :=
  if 48 ≤ c ∧ c ≤ 57 then (if c - 48 < b then some (c - 48) else none)
  else if 97 ≤ c ∧ c ≤ 102 then (if c - 87 < b then some (c - 87) else none)
  else if 65 ≤ c ∧ c ≤ 70 then (if c - 55 < b then some (c - 55) else none)
  else none
/-- The document's number: it does not grow any more once it is too great. -/
def sat (b : Int) : Int → List Int → Option Int
  | n, [] => some n
  | n, c :: t => (refdig b c).bind fun d => sat b (if n ≤ 1114111 then n * b + d else n) t
theorem refdig_range {b c d : Int} (hb : b ≤ 16) (h : refdig b c = some d) : 0 ≤ d ∧ d < 16 := by
  unfold refdig at h
  split at h
  · split at h
    · injection h; omega
    · cases h
  · split at h
    · split at h
      · injection h; omega
      · cases h
    · split at h
      · split at h
        · injection h; omega
        · cases h
      · cases h
theorem refdig_digB (b : Nat) (hb : b = 10 ∨ b = 16) (c : Nat) : refdig (b : Int) (c : Int) = (digB b c).map (fun d => (d : Int)) := by
  unfold refdig digB
  by_cases h1 : 48 ≤ c ∧ c ≤ 57
  · rw [if_pos (by omega), if_pos h1, if_pos (by omega)]
    simp; omega
  rw [if_neg (by omega), if_neg h1]
  by_cases h2 : 97 ≤ c ∧ c ≤ 102
  · rw [if_pos (by omega), if_pos (show 97 ≤ c ∧ c ≤ 122 by omega)]
    by_cases h3 : c - 87 < b
    · rw [if_pos (by omega), if_pos h3]; simp; omega
    · rw [if_neg (by omega), if_neg h3]; rfl
  rw [if_neg (by omega)]
  by_cases h3 : 65 ≤ c ∧ c ≤ 70
  · rw [if_pos (by omega), if_neg (show ¬ (97 ≤ c ∧ c ≤ 122) by omega), if_pos (show 65 ≤ c ∧ c ≤ 90 by omega)]
    by_cases h4 : c - 55 < b
    · rw [if_pos (by omega), if_pos h4]; simp; omega
    · rw [if_neg (by omega), if_neg h4]; rfl
  rw [if_neg (by omega)]
  by_cases h5 : 97 ≤ c ∧ c ≤ 122
  · rw [if_pos h5, if_neg (by omega)]; rfl
  rw [if_neg h5]
  by_cases h6 : 65 ≤ c ∧ c ≤ 90
  · rw [if_pos h6, if_neg (by omega)]; rfl
  rw [if_neg h6]; rfl
theorem refdig_hexD (c : Int) : refdig 16 c = hexD c := by
  unfold refdig hexD
  by_cases h1 : 48 ≤ c ∧ c ≤ 57
  · rw [if_pos h1, if_pos h1, if_pos (by omega)]
  rw [if_neg h1, if_neg h1]
  by_cases h2 : 97 ≤ c ∧ c ≤ 102
  · rw [if_pos h2, if_pos h2, if_pos (by omega)]
  rw [if_neg h2, if_neg h2]
  by_cases h3 : 65 ≤ c ∧ c ≤ 70
  · rw [if_pos h3, if_pos h3, if_pos (by omega)]
  rw [if_neg h3, if_neg h3]
/-- One number, told in two ways. -/
def RelN (v s : Int) : Prop := 0 ≤ v ∧ ((v ≤ 1114111 ∧ s = v) ∨ (1114111 < v ∧ 1114111 < s))
theorem RelN.step {v s d b : Int} (h : RelN v s) (hb : b = 10 ∨ b = 16) (h0 : 0 ≤ d) (h1 : d < 16) : RelN (v * b + d) (if s ≤ 1114111 then s * b + d else s) := by
  obtain ⟨hv, h | h⟩ := h
  · obtain ⟨h2, rfl⟩ := h
    rw [if_pos h2]
    rcases hb with rfl | rfl
    · exact ⟨by omega, by omega⟩
    · exact ⟨by omega, by omega⟩
  · rw [if_neg (by omega)]
    rcases hb with rfl | rfl
    · exact ⟨by omega, .inr (by omega)⟩
    · exact ⟨by omega, .inr (by omega)⟩
theorem sat_big (b : Int) : ∀ (l : List Int) (s : Int), 1114111 < s → sat b s l = none ∨ ∃ r, sat b s l = some r ∧ 1114111 < r
  | [], s, h => .inr ⟨s, rfl, h⟩
  | c :: t, s, h => by
    unfold sat
    cases hd : refdig b c with
    | none => exact .inl rfl
    | some d =>
      simp only [Option.bind_some]
      rw [if_neg (by omega)]
      exact sat_big b t s h
/-- What a program's number is, told by the document's. -/
def NumRel (o : Option Nat) (r : Option Int) : Prop := match o with
  | none => r = none ∨ ∃ s, r = some s ∧ 1114111 < s
  | some v => ∃ s, r = some s ∧ RelN (v : Int) s
theorem numM_sat (b : Nat) (hb : b = 10 ∨ b = 16) : ∀ (l : List UInt8) (acc : Nat) (s : Int), RelN (acc : Int) s → NumRel (numM b acc l) (sat (b : Int) s (l.map fun u => ((u.toNat : Nat) : Int)))
  | [], acc, s, h => ⟨s, rfl, h⟩
  | c :: t, acc, s, h => by
    have hd := refdig_digB b hb c.toNat
    simp only [List.map_cons, numM, sat]
    rw [hd]
    cases hq : digB b c.toNat with
    | none => exact .inl rfl
    | some d =>
      simp only [Option.map_some, Option.bind_some]
      have hdr := refdig_range (b := (b : Int)) (c := ((c.toNat : Nat) : Int)) (d := (d : Int)) (by omega) (by rw [hd, hq]; rfl)
      have hst := h.step (b := (b : Int)) (d := (d : Int)) (by omega) hdr.1 hdr.2
      rw [show (acc : Int) * (b : Int) + (d : Int) = ((acc * b + d : Nat) : Int) by rw [Int.natCast_add, Int.natCast_mul]] at hst
      by_cases ho : 4294967295 < acc * b + d
      · rw [if_pos ho]
        refine sat_big (b : Int) _ _ ?_
        rcases hst.2 with h2 | h2
        · omega
        · exact h2.2
      · rw [if_neg ho]
        exact numM_sat b hb t _ _ hst
theorem hexM_sat : ∀ (l : List Int) (acc s : Int), RelN acc s → (hexM acc l = none ∧ sat 16 s l = none) ∨ ∃ v r, hexM acc l = some v ∧ sat 16 s l = some r ∧ RelN v r
  | [], acc, s, h => .inr ⟨acc, s, rfl, rfl, h⟩
  | c :: t, acc, s, h => by
    unfold hexM sat
    rw [refdig_hexD]
    cases hq : hexD c with
    | none => exact .inl ⟨rfl, rfl⟩
    | some d =>
      simp only [Option.bind_some]
      have hdr := hexD_range hq
      exact hexM_sat t _ _ (h.step (.inr rfl) hdr.1 hdr.2)
/-- The document's answer of a number. -/
def rnum (b : Int) (l : List Int) : Int := if l = [] then -1 else (sat b 0 l).getD (-1)
theorem validN_okV (n : Nat) : validN n = okV (n : Int) := by
  rw [Bool.eq_iff_iff, okV_iff]
  unfold validN
  rw [decide_eq_true_eq]
  omega
theorem relN_okV {v s : Int} (h : RelN v s) : okV s = okV v ∧ (okV v = true → s = v) := by
  obtain ⟨h0, h | h⟩ := h
  · rw [h.2]; exact ⟨rfl, fun _ => rfl⟩
  · have h1 : okV v = false := by rw [Bool.eq_false_iff, Ne, okV_iff]; omega
    have h2 : okV s = false := by rw [Bool.eq_false_iff, Ne, okV_iff]; omega
    exact ⟨by rw [h1, h2], fun h => by rw [h1] at h; cases h⟩
/-- What a number's sign is by the document. -/
def rsign (b : Int) (l : List Int) (n : Int) : Int × Int × Bool := if okV (rnum b l) = true then (rnum b l, n, true) else entNo
theorem rsign_hex (w : Nat) (hw : 0 < w) (b : List Int) (hl : 2 + w ≤ b.length) : rsign 16 ((b.drop 2).take w) (2 + (w : Int)) = escH w b := by
  unfold rsign rnum escH
  have hne : (b.drop 2).take w ≠ [] := by
    intro h; have := congrArg List.length h; rw [List.length_take, List.length_drop] at this; simp at this; omega
  rw [if_neg hne, if_neg (show ¬ b.length < 2 + w by omega)]
  rcases hexM_sat ((b.drop 2).take w) 0 0 ⟨by omega, .inl ⟨by omega, rfl⟩⟩ with ⟨h1, h2⟩ | ⟨v, r, h1, h2, h3⟩
  · rw [h1, h2]; rfl
  · rw [h1, h2]
    obtain ⟨k1, k2⟩ := relN_okV h3
    show (if okV r = true then (r, 2 + (w : Int), true) else entNo) = (if okV v = true then (v, 2 + (w : Int), true) else entNo)
    rw [k1]
    by_cases hk : okV v = true
    · rw [if_pos hk, if_pos hk, k2 hk]
    · rw [if_neg hk, if_neg hk]
theorem rsign_dig (b : Nat) (hb : b = 10 ∨ b = 16) (s : ByteArray) (n : Int) : rsign (b : Int) (bytesOf s) n = entDig b s n := by
  unfold rsign rnum entDig
  have hlen : (bytesOf s).length = s.size := bytesOf_length s
  by_cases h0 : s.size = 0
  · rw [if_pos (List.length_eq_zero_iff.1 (by omega)), if_pos h0]; rfl
  have hbn : ¬ bytesOf s = [] := by
    intro h
    rw [h, List.length_nil] at hlen
    omega
  rw [if_neg hbn, if_neg h0]
  have hm := numM_sat b hb s.data.toList 0 0 ⟨by omega, .inl ⟨by omega, rfl⟩⟩
  have hbo : (s.data.toList.map fun u => ((u.toNat : Nat) : Int)) = bytesOf s := rfl
  rw [hbo] at hm
  have hno : ∀ c : Int, (c = 43 ∨ c = 45) → bt s 0 = c → (sat (b : Int) 0 (bytesOf s)) = none := by
    intro c hc hbt
    cases hq : bytesOf s with
    | nil => rw [hq] at hlen; simp at hlen; omega
    | cons x t =>
      have hx : x = bt s 0 := by
        unfold bt
        rw [dif_pos (show (0 : Int).toNat < s.size by show 0 < s.size; omega)]
        have h1 := congrArg (·[0]?) hq
        unfold bytesOf at h1
        simp only [List.getElem?_map, List.getElem?_cons_zero] at h1
        rw [show s.data.toList[0]? = some (s.data.toList[0]'(by rw [Array.length_toList]; have := s.size_data; omega)) from List.getElem?_eq_getElem _] at h1
        simp only [Option.map_some, Option.some.injEq] at h1
        rw [← h1]
        rfl
      unfold sat
      have : refdig (b : Int) x = none := by
        rw [hx, hbt]
        unfold refdig
        rcases hc with rfl | rfl <;> rfl
      rw [this]
      rfl
  by_cases h43 : bt s 0 = 43
  · rw [if_pos h43, hno 43 (.inl rfl) h43]; rfl
  rw [if_neg h43]
  by_cases h45 : bt s 0 = 45
  · rw [if_pos h45, hno 45 (.inr rfl) h45]; rfl
  rw [if_neg h45]
  cases hq : numM b 0 s.data.toList with
  | none =>
    rw [hq] at hm
    show _ = entNo
    rcases hm with h | ⟨r, h, hr⟩
    · rw [h]; rfl
    · rw [h]
      show (if okV r = true then (r, n, true) else entNo) = entNo
      rw [if_neg (by rw [okV_iff]; omega)]
  | some v =>
    rw [hq] at hm
    obtain ⟨r, h, hr⟩ := hm
    rw [h]
    obtain ⟨k1, k2⟩ := relN_okV hr
    show (if okV r = true then (r, n, true) else entNo) = (if validN v = true then ((v : Int), n, true) else entNo)
    rw [k1, validN_okV]
    by_cases hk : okV (v : Int) = true
    · rw [if_pos hk, if_pos hk, k2 hk]
    · rw [if_neg hk, if_neg hk]
/-- A byte of a text, as a number. -/
theorem bt_bytesOf (s : ByteArray) (i : Nat) (h : i < s.size) : bt s (i : Int) = rd (bytesOf s) (i : Int) := by
  unfold bt rd bytesOf
  rw [dif_pos (by rw [Int.toNat_natCast]; exact h)]
  simp only [Int.toNat_natCast]
  rw [List.getD_eq_getElem?_getD, List.getElem?_map, List.getElem?_eq_getElem (by rw [Array.length_toList]; have := s.size_data; omega)]
  rfl
end Go.Proofs.YtekalnhackjldaaDoor.M
