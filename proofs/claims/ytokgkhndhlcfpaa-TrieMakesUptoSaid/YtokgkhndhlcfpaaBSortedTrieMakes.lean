/- The printed Sorted: texts of at most twelve signs, rising. -/
import Derived.Test.YtokgkhndhlcfpaaBTMakeTrieMakes
import Derived.Test.YtokgkhndhlcfpaaBPutTrieMakes
namespace Go.Proofs.Ytokgkhndhlcfpaa.Pure
open Go.RowKit Go.Proofs.Ytokgkhndhlcfpaa.PTrieMakes Go.Proofs.YtokgkhndhlcfpaaW.PrintWords Go.Proofs.YtokgkhndhlcfpaaW.PrintLast
open Go.Proofs.Ytokgkhndhlcfpaa.M Go.Proofs.Ytokgkhndhlcfpaa.X
set_option linter.unusedVariables false
set_option linter.unusedSimpArgs false

/-- A short text that may be a word. -/
def Fine (s : ByteArray) : Prop := GoodT s ∧ s.size ≤ 48 ∧ (rns s).length ≤ 12
/-- A list as Sorted makes it. -/
def OutOK (l : List ByteArray) : Prop := (∀ s ∈ l, Fine s) ∧ l.Pairwise Less
theorem rns_of {r : List Int} (h : ∀ x ∈ r, okR x = true) : rns (strOfNums (encL r)) = r := by
  unfold rns
  rw [bytesOf_strOfNums (encL_BT r)]
  have := rs_encL r []
  rw [List.append_nil, rs_nil, List.append_nil] at this
  rw [this, List.filter_eq_self]
  exact h
theorem fine_of {r : List Int} (h : ∀ x ∈ r, okR x = true) (hl : r.length ≤ 12) (hne : (strOfNums (encL r)).toList ≠ []) : Fine (strOfNums (encL r)) := by
  have h1 := encL_len r
  have h2 : (strOfNums (encL r)).size ≤ 48 := by rw [strOfNums_size]; omega
  refine ⟨⟨hne, by omega, ?_⟩, h2, by rw [rns_of h]; exact hl⟩
  rw [rns_of h]
  intro hm
  have := (okR_iff _).1 (h _ hm)
  omega
theorem rdOf_nat (l : List ByteArray) (j : Nat) : rdOf ByteArray.empty l (j : Int) = l.getD j ByteArray.empty := by
  unfold rdOf
  rw [Int.toNat_natCast]
section
variable {l : List ByteArray} {n c : Int} {res : List ByteArray}
theorem sorted_l2 (out : List ByteArray) (hO : OutOK out) (hol : out.length ≤ 1000) (s : ByteArray) (hs : s.toList ≠ [] → Fine s) : ∀ (d j : Nat), out.length - j = d → j ≤ out.length → (∀ x ∈ out.take j, Less x s) →
    ∃ out', OutOK out' ∧ out'.length ≤ out.length + 1 ∧ (s.toList = [] → out' = out) ∧ (s.toList ≠ [] → s ∈ out') ∧ (∀ x ∈ out, x ∈ out') ∧ (∀ x ∈ out', x ∈ out ∨ x = s) ∧ (∀ res, Ev (fun k => redpenlaw07_Sorted.l0 k out' l n (wrap64 (c + 1))) res → Ev (fun k => redpenlaw07_Sorted.l2 k out s (j : Int) l n c) res) := by
  have ins : ∀ j : Nat, j ≤ out.length → s.toList ≠ [] → (∀ x ∈ out.take j, Less x s) → (∀ x ∈ out.drop j, Less s x) → OutOK (out.take j ++ [s] ++ out.drop j) ∧ (out.take j ++ [s] ++ out.drop j).length ≤ out.length + 1 ∧ (∀ x ∈ out, x ∈ out.take j ++ [s] ++ out.drop j) ∧ (∀ x ∈ out.take j ++ [s] ++ out.drop j, x ∈ out ∨ x = s) := by
    intro j hj hne h1 h2
    refine ⟨⟨?_, rise_put hj hO.2 h1 h2⟩, by simp; omega, ?_, ?_⟩
    · intro x hx
      simp only [List.mem_append, List.mem_singleton] at hx
      rcases hx with (hx | rfl) | hx
      · exact hO.1 x (List.mem_of_mem_take hx)
      · exact hs hne
      · exact hO.1 x (List.mem_of_mem_drop hx)
    · intro x hx
      rw [← List.take_append_drop j out] at hx
      simp only [List.mem_append, List.mem_singleton] at hx ⊢
      rcases hx with hx | hx
      · exact .inl (.inl hx)
      · exact .inr hx
    · intro x hx
      simp only [List.mem_append, List.mem_singleton] at hx
      rcases hx with (hx | rfl) | hx
      · exact .inl (List.mem_of_mem_take hx)
      · exact .inr rfl
      · exact .inl (List.mem_of_mem_drop hx)
  intro d
  induction d with
  | zero =>
    intro j hd hj hless
    obtain rfl : j = out.length := by omega
    by_cases he : s.toList = []
    · refine ⟨out, hO, by omega, fun _ => rfl, fun h => absurd he h, fun _ h => h, fun _ h => .inl h, fun _ h => Ev.step (fun k => ?_) h⟩
      simp only [redpenlaw07_Sorted.l2]
      rw [if_neg (by omega), if_pos he]
    · obtain ⟨q1, q2, q3, q4⟩ := ins out.length (Nat.le_refl _) he hless (fun x hx => by rw [List.drop_length] at hx; cases hx)
      refine ⟨_, q1, q2, fun h => absurd h he, fun _ => by simp, q3, q4, fun _ h => Ev.step (fun k => ?_) h⟩
      simp only [redpenlaw07_Sorted.l2, Option.bind_some, List.nil_append]
      rw [if_neg (by omega), if_neg he, if_pos trivial, if_pos (by omega), if_pos (by omega), if_pos (by simp; omega), if_pos (by simp; omega), if_pos (by simp; omega), Int.toNat_natCast]
  | succ d ih =>
    intro j hd hj hless
    have hlt : j < out.length := by omega
    have hg : out.getD j ByteArray.empty = out[j] := by rw [List.getD_eq_getElem?_getD, List.getElem?_eq_getElem hlt]; rfl
    by_cases hb : Op.bytesLess (rdOf ByteArray.empty out (j : Int)).toList s.toList = true
    · obtain ⟨out', p1, p2, p3, p4, p5, p6, p7⟩ := ih (j + 1) (by omega) (by omega) (fun x hx => by
        rw [List.take_succ_eq_append_getElem hlt] at hx
        rcases List.mem_append.1 hx with hx | hx
        · exact hless x hx
        · rw [List.mem_singleton.1 hx, ← hg, ← rdOf_nat]
          exact hb)
      refine ⟨out', p1, p2, p3, p4, p5, p6, fun r h => Ev.step (fun k => ?_) (p7 r h)⟩
      simp only [redpenlaw07_Sorted.l2]
      rw [if_pos (by omega), if_pos (by omega), if_pos hb, show wrap64 ((j : Int) + 1) = ((j + 1 : Nat) : Int) by rw [w64 (by omega) (by omega)]; omega]
    · by_cases he : s.toList = []
      · refine ⟨out, hO, by omega, fun _ => rfl, fun h => absurd he h, fun _ h => h, fun _ h => .inl h, fun _ h => Ev.step (fun k => ?_) h⟩
        simp only [redpenlaw07_Sorted.l2]
        rw [if_pos (by omega), if_pos (by omega), if_neg hb, if_pos he]
      · by_cases hq : (rdOf ByteArray.empty out (j : Int)).toList = s.toList
        · refine ⟨out, hO, by omega, fun _ => rfl, fun _ => ?_, fun _ h => h, fun _ h => .inl h, fun _ h => Ev.step (fun k => ?_) h⟩
          · rw [← ba_ext hq, rdOf_nat, hg]
            exact List.getElem_mem hlt
          · simp only [redpenlaw07_Sorted.l2]
            rw [if_pos (by omega), if_pos (by omega), if_neg hb, if_neg he, if_neg (by omega), if_pos hq]
        · rw [rdOf_nat] at hb hq
          obtain ⟨q1, q2, q3, q4⟩ := ins j hj he hless (rise_place hlt hO.2 hb (fun e => hq (by rw [e])))
          refine ⟨_, q1, q2, fun h => absurd h he, fun _ => by simp, q3, q4, fun _ h => Ev.step (fun k => ?_) h⟩
          simp only [redpenlaw07_Sorted.l2, Option.bind_some, List.nil_append, rdOf_nat]
          rw [if_pos (by omega), if_pos (by omega), if_neg hb, if_neg he, if_neg (by omega), if_neg hq, if_pos (by omega), if_pos (by simp; omega), if_pos (by simp; omega), if_pos (by simp; omega), Int.toNat_natCast]
theorem sorted_l1 (out : List ByteArray) (u : List Int) (hu : u.length < 1000000000) : ∀ (d i : Nat) (acc : List Int), u.length - i = d → i ≤ u.length → acc.length ≤ i →
    Ev (fun k => (utf_Text.f k ((acc ++ (u.drop i).filter (fun x => decide (0 ≤ x))).take 12)).bind fun t => redpenlaw07_Sorted.l2 k out t 0 l n c) res → Ev (fun k => redpenlaw07_Sorted.l1 k out acc l n c u (u.length : Int) (i : Int)) res := by
  intro d
  induction d with
  | zero =>
    intro i acc hd hi ha h
    rw [List.drop_of_length_le (by omega), List.filter_nil, List.append_nil] at h
    refine Ev.step (fun k => ?_) h
    simp only [redpenlaw07_Sorted.l1]
    have hm : mn (acc.length : Int) 12 = ((min acc.length 12 : Nat) : Int) := by unfold mn; split <;> omega
    rw [if_neg (by omega), hm, if_pos (by omega), if_pos (by omega), Int.toNat_natCast]
    have : acc.take (min acc.length 12) = acc.take 12 := by
      by_cases h12 : acc.length ≤ 12
      · rw [Nat.min_eq_left h12, List.take_length, List.take_of_length_le h12]
      · rw [Nat.min_eq_right (by omega)]
    rw [this]
  | succ d ih =>
    intro i acc hd hi ha h
    have hlt : i < u.length := by omega
    rw [drop_rd u i hlt, List.filter_cons] at h
    have ew : wrap64 ((i : Int) + 1) = ((i + 1 : Nat) : Int) := by rw [w64 (by omega) (by omega)]; omega
    by_cases h0 : 0 ≤ rd u (i : Int)
    · rw [if_pos (by simpa using h0), show acc ++ rd u (i : Int) :: (u.drop (i + 1)).filter (fun x => decide (0 ≤ x)) = (acc ++ [rd u (i : Int)]) ++ (u.drop (i + 1)).filter (fun x => decide (0 ≤ x)) by simp] at h
      refine Ev.step (fun k => ?_) (ih (i + 1) (acc ++ [rd u (i : Int)]) (by omega) (by omega) (by simp; omega) h)
      simp only [redpenlaw07_Sorted.l1, Option.bind_some]
      rw [if_pos (by omega), if_pos (by omega), if_pos (by omega), if_pos h0, if_pos (by simp; omega), ew]
    · rw [if_neg (by simpa using h0)] at h
      refine Ev.step (fun k => ?_) (ih (i + 1) acc (by omega) (by omega) (by omega) h)
      simp only [redpenlaw07_Sorted.l1, Option.bind_some]
      rw [if_pos (by omega), if_pos (by omega), if_pos (by omega), if_neg h0, ew]
end
theorem sorted_l0 (l : List ByteArray) (hl : l.length < 1000000000) (hls : ∀ s ∈ l, s.size < 100000000) : ∀ (d i : Nat) (out : List ByteArray), l.length - i = d → i ≤ l.length → OutOK out → out.length ≤ i → out.length ≤ 61 →
    ∃ res, Ev (fun k => redpenlaw07_Sorted.l0 k out l (l.length : Int) (i : Int)) res ∧ OutOK res ∧ res.length ≤ 61 := by
  intro d
  induction d with
  | zero =>
    intro i out hd hi hO h1 h2
    refine ⟨out, Ev.step (f := fun _ => some out) (fun k => ?_) (Ev.now _), hO, h2⟩
    simp only [redpenlaw07_Sorted.l0]
    rw [if_neg (by omega)]
  | succ d ih =>
    intro i out hd hi hO h1 h2
    have hlt : i < l.length := by omega
    by_cases h60 : (i : Int) > 60
    · refine ⟨out, Ev.step (f := fun _ => some out) (fun k => ?_) (Ev.now _), hO, h2⟩
      simp only [redpenlaw07_Sorted.l0]
      rw [if_pos (by omega), if_pos (by omega), if_pos (by omega), if_pos h60]
    · have hsz : (rdOf ByteArray.empty l (i : Int)).size < 100000000 := by
        rw [rdOf_nat, List.getD_eq_getElem?_getD, List.getElem?_eq_getElem hlt]
        exact hls _ (List.getElem_mem hlt)
      obtain ⟨u, hu⟩ : ∃ u, u = rns (rdOf ByteArray.empty l (i : Int)) := ⟨_, rfl⟩
      have hul : u.length < 100000000 := by rw [hu]; have := rns_len (rdOf ByteArray.empty l (i : Int)); omega
      have hok : ∀ x ∈ (u.filter (fun x => decide (0 ≤ x))).take 12, okR x = true := by
        intro x hx
        have hx := List.mem_of_mem_take hx
        rw [List.mem_filter] at hx
        rw [hu] at hx
        rcases rs_each _ (bytesOf_BT _) x hx.1 with e | e
        · rw [e] at hx
          simp at hx
        · exact e
      obtain ⟨t, ht⟩ : ∃ t, t = strOfNums (encL ((u.filter (fun x => decide (0 ≤ x))).take 12)) := ⟨_, rfl⟩
      have htx : Ev (fun k => utf_Text.f k ((u.filter (fun x => decide (0 ≤ x))).take 12)) t := by
        rw [ht]
        exact ⟨14, fun k hk => text_eq (by rw [List.length_take]; omega) (by rw [List.length_take]; omega)⟩
      obtain ⟨out', o1, o2, _, _, _, _, o7⟩ := sorted_l2 (l := l) (n := (l.length : Int)) (c := (i : Int)) out hO (by omega) t (fun hne => by rw [ht] at hne ⊢; exact fine_of hok (by rw [List.length_take]; omega) hne) _ 0 rfl (by omega) (by simp)
      obtain ⟨res, e, r1, r2⟩ := ih (i + 1) out' (by omega) (by omega) o1 (by omega) (by omega)
      refine ⟨res, ?_, r1, r2⟩
      have ew : wrap64 ((i : Int) + 1) = ((i + 1 : Nat) : Int) := by rw [w64 (by omega) (by omega)]; omega
      have e2 := o7 res (by rw [ew]; exact e)
      have e3 := sorted_l1 (l := l) (n := (l.length : Int)) (c := (i : Int)) (res := res) out u (by omega) _ 0 [] rfl (by omega) (by simp) (by
        rw [List.drop_zero, List.nil_append]
        exact Ev.bind htx e2)
      refine Ev.step (f := fun k => (utf_Runes.f k (rdOf ByteArray.empty l (i : Int))).bind fun t => redpenlaw07_Sorted.l1 k out ([] : List Int) l (l.length : Int) (i : Int) t (t.length : Int) 0) (fun k => ?_) (Ev.bind (runes_ev _ (by omega)) (by rw [← hu]; exact e3))
      simp only [redpenlaw07_Sorted.l0]
      rw [if_pos (by omega), if_pos (by omega), if_pos (by omega), if_neg h60]
theorem sorted_spec (l : List ByteArray) (hl : l.length < 1000000000) (hls : ∀ s ∈ l, s.size < 100000000) : ∃ res, Ev (fun k => redpenlaw07_Sorted.f k l) res ∧ OutOK res ∧ res.length ≤ 61 :=
  sorted_l0 l hl hls _ 0 [] rfl (by omega) ⟨fun _ h => (by cases h), List.Pairwise.nil⟩ (by simp) (by simp)
end Go.Proofs.Ytokgkhndhlcfpaa.Pure
