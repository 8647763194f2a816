/- TrieMore: with one word more just that one is there, too, and there are no more nodes than it has signs. For all lists of texts and any text, each of at most 1048576 bytes. -/
import Derived.Test.YtokgkhndhlcfpaaBSortedTrieMore
namespace Go.Proofs.Ytokgkhndhlcfpaa.Pure
open Go.RowKit Go.Proofs.Ytokgkhndhlcfpaa.PTrieMore Go.Proofs.YtokgkhndhlcfpaaW.PrintWords Go.Proofs.YtokgkhndhlcfpaaW.PrintLast
open Go.Proofs.Ytokgkhndhlcfpaa.M Go.Proofs.Ytokgkhndhlcfpaa.X
set_option linter.unusedVariables false
set_option linter.unusedSimpArgs false

theorem trie_awake : Ev (fun f => redpenlaw07_Awake.f f) true := Ev.of redpenlaw07_Awake.mono (k := 60) (by decide +kernel)
theorem OutOK.good {l : List ByteArray} (h : OutOK l) : ∀ s ∈ l, GoodT s := fun s hs => (h.1 s hs).1
theorem OfL.word {L : List ByteArray} {ns : List Nd} {P W : List (List Int)} (h : OfL L ns P W) (hL : ∀ s ∈ L, GoodT s) (s : ByteArray) (hs : GoodT s) : rns s ∈ W ↔ s ∈ L := by
  rw [h.words]
  constructor
  · rintro ⟨x, hx, e⟩
    rw [rns_inj hs.2.2 (hL x hx).2.2 e]
    exact hx
  · intro hm
    exact ⟨s, hm, rfl⟩
theorem OfL.has_t {L : List ByteArray} {ns : List Nd} {P W : List (List Int)} (h : OfL L ns P W) (hL : ∀ s ∈ L, GoodT s) (hl : L.length ≤ 1000) (w : Int) (s : ByteArray) (hs : GoodT s) (hm : s ∈ L) : Ev (fun k => trie_Trie_Has.f k [(ns, w)] s) true := by
  have h1 := has_spec h.inv w (by have := h.small; omega) s (by have := hs.2.1; omega)
  rwa [decide_eq_true ((h.word hL s hs).2 hm)] at h1
theorem OfL.has_f {L : List ByteArray} {ns : List Nd} {P W : List (List Int)} (h : OfL L ns P W) (hL : ∀ s ∈ L, GoodT s) (hl : L.length ≤ 1000) (w : Int) (s : ByteArray) (hs : GoodT s) (hm : s ∉ L) : Ev (fun k => trie_Trie_Has.f k [(ns, w)] s) false := by
  have h1 := has_spec h.inv w (by have := h.small; omega) s (by have := hs.2.1; omega)
  rwa [decide_eq_false (fun e => hm ((h.word hL s hs).1 e))] at h1
theorem OfL.size {L : List ByteArray} {ns : List Nd} {P W : List (List Int)} (h : OfL L ns P W) (hl : L.length ≤ 1000) (w : Int) : trie_Trie_Size.f [(ns, w)] = some ((P.length : Int) - 1) := by
  unfold trie_Trie_Size.f
  simp only
  rw [if_pos (by have := h.small; omega), h.inv.len]
theorem num_len {a b : Nat} (h : b = a + 1) (ha : a ≤ 900) : (b : Int) = wrap64 ((a : Int) + 1) := by
  rw [w64 (by omega) (by omega)]
  omega
theorem num_ge {p q : Nat} (h : p ≤ q) : ((q : Int) - 1) ≥ (p : Int) - 1 := by omega
theorem num_le {p q r : Nat} (h : q ≤ p + r) (hp : p ≤ 1000000) (hr : r ≤ 1000) : decide (((q : Int) - 1) ≤ wrap64 (((p : Int) - 1) + (r : Int))) = true := by
  rw [w64 (by omega) (by omega)]
  exact decide_eq_true (by omega)
section
variable {L M : List ByteArray} {w : ByteArray} (hL : ∀ s ∈ L, GoodT s) (hM : ∀ s ∈ M, GoodT s) (hw : GoodT w) (hl : L.length ≤ 900) (hml : M.length = L.length + 1) (hmm : ∀ x, x ∈ M ↔ x ∈ L ∨ x = w) (hn : w ∉ L)
  {nsA nsB : List Nd} {PA PB WA WB : List (List Int)} (hA : OfL L nsA PA WA) (hB : OfL M nsB PB WB)
include hmm hA hB
theorem more_sizes : PA.length ≤ PB.length ∧ PB.length ≤ PA.length + (rns w).length := by
  constructor
  · refine nodup_le PA PB hA.inv.nodup (fun q hq => ?_)
    rw [hA.nodes] at hq
    rw [hB.nodes]
    rcases hq with hq | ⟨s, hs, hq⟩
    · exact .inl hq
    · exact .inr ⟨s, (hmm s).2 (.inl hs), hq⟩
  · have h1 := nodup_le PB (PA ++ (List.range (rns w).length).map (fun i => (rns w).take (i + 1))) hB.inv.nodup (fun q hq => by
      rw [hB.nodes] at hq
      rw [List.mem_append, hA.nodes]
      rcases hq with hq | ⟨s, hs, hq⟩
      · exact .inl (.inl hq)
      · rcases (hmm s).1 hs with hs | rfl
        · exact .inl (.inr ⟨s, hs, hq⟩)
        · by_cases h0 : q = []
          · exact .inl (.inl h0)
          · refine .inr (List.mem_map.2 ⟨q.length - 1, List.mem_range.2 ?_, ?_⟩)
            · have := hq.length_le
              have : 0 < q.length := List.length_pos_iff.2 h0
              omega
            · have : 0 < q.length := List.length_pos_iff.2 h0
              rw [show q.length - 1 + 1 = q.length by omega]
              exact (List.prefix_iff_eq_take.1 hq).symm)
    rwa [List.length_append, List.length_map, List.length_range] at h1
include hL hM hw hl hml hn
theorem more_l1 : ∀ (d i : Nat), L.length - i = d → i ≤ L.length → Ev (fun k => redpenlaw07_TrieMore.l1 k w [(nsA, (L.length : Int))] 0 [(nsB, (M.length : Int))] 0 L (L.length : Int) (i : Int)) true := by
  intro d
  induction d with
  | zero =>
    intro i hd hi
    obtain ⟨s1, s2⟩ := more_sizes hmm hA hB
    have a1 := hA.has_f hL (by omega) (L.length : Int) w hw hn
    have b1 := hB.has_t hM (by omega) (M.length : Int) w hw ((hmm w).2 (.inr rfl))
    have hrl : (rns w).length ≤ 1000 := Nat.le_trans (rns_len w) (Nat.le_trans hw.2.1 (by omega))
    have hws : w.size < 5864062014805 := Nat.lt_of_le_of_lt hw.2.1 (by omega)
    have pal : PA.length ≤ 1000000 := by rw [hA.inv.len]; exact Nat.le_trans hA.small (by omega)
    have e1 := num_len hml hl
    have e2 := num_ge s1
    have e3 := num_le s2 pal hrl
    have g1 := hA.size (Nat.le_trans hl (by omega)) (L.length : Int)
    have g2 := hB.size (by omega) (M.length : Int)
    have hLL : ¬ (i : Int) < (L.length : Int) := by omega
    clear s1 s2 pal hrl hd hi
    refine Ev.step (f := fun k => (trie_Trie_Has.f k [(nsA, (L.length : Int))] w).bind fun t320 => (if t320 = true then (some false) else ((trie_Trie_Has.f k [(nsB, (M.length : Int))] w).bind fun t321 => (if t321 = true then ((trie_Trie_Len.f [(nsB, (M.length : Int))]).bind fun t322 => ((trie_Trie_Len.f [(nsA, (L.length : Int))]).bind fun t323 => (if t322 = (wrap64 (t323 + 1)) then ((trie_Trie_Size.f [(nsB, (M.length : Int))]).bind fun t324 => ((trie_Trie_Size.f [(nsA, (L.length : Int))]).bind fun t325 => (if t324 ≥ t325 then ((trie_Trie_Size.f [(nsB, (M.length : Int))]).bind fun t326 => ((trie_Trie_Size.f [(nsA, (L.length : Int))]).bind fun t327 => ((utf_Runes.f k w).bind fun t328 => (some (decide (t326 ≤ (wrap64 (t327 + (t328.length : Int))))))))) else (some false)))) else (some false)))) else (some false))))) (fun k => ?_) (Ev.bind a1 ?_)
    · simp only [redpenlaw07_TrieMore.l1]
      rw [if_neg hLL, if_pos trivial, if_pos trivial]
    · simp only [Bool.false_eq_true, if_false]
      refine Ev.bind b1 ?_
      simp only [if_true]
      refine Ev.bind (a := (M.length : Int)) ⟨0, fun _ _ => rfl⟩ (Ev.bind (a := (L.length : Int)) ⟨0, fun _ _ => rfl⟩ ?_)
      simp only [if_pos e1]
      refine Ev.bind ⟨0, fun _ _ => g2⟩ (Ev.bind ⟨0, fun _ _ => g1⟩ ?_)
      simp only [if_pos e2]
      refine Ev.bind ⟨0, fun _ _ => g2⟩ (Ev.bind ⟨0, fun _ _ => g1⟩ (Ev.bind (runes_ev w hws) ?_))
      rw [e3]
      exact Ev.now _
  | succ d ih =>
    intro i hd hi
    have hlt : i < L.length := by omega
    have hx : rdOf ByteArray.empty L (i : Int) ∈ L := by
      rw [rdOf_nat, List.getD_eq_getElem?_getD, List.getElem?_eq_getElem hlt]
      exact List.getElem_mem hlt
    have b1 := hB.has_t hM (by omega) (M.length : Int) _ (hL _ hx) ((hmm _).2 (.inl hx))
    refine Ev.step (f := fun k => (trie_Trie_Has.f k [(nsB, (M.length : Int))] (rdOf ByteArray.empty L (i : Int))).bind fun t319 => if t319 = true then redpenlaw07_TrieMore.l1 k w [(nsA, (L.length : Int))] 0 [(nsB, (M.length : Int))] 0 L (L.length : Int) (wrap64 ((i : Int) + 1)) else some false) (fun k => ?_) (Ev.bind b1 ?_)
    · simp only [redpenlaw07_TrieMore.l1]
      rw [if_pos (by omega), if_pos (by omega), if_pos (by omega)]
    · simp only [if_true, show wrap64 ((i : Int) + 1) = ((i + 1 : Nat) : Int) by rw [w64 (by omega) (by omega)]; omega]
      exact ih (i + 1) (by omega) (by omega)
end
theorem more_j1 (L : List ByteArray) (hO : OutOK L) (hl : L.length ≤ 61) (w : ByteArray) (hw : Fine w) (j : Nat) (hj : j ≤ L.length) (hless : ∀ x ∈ L.take j, Less x w) (hge : j < L.length → ¬ Less (L.getD j ByteArray.empty) w) : Ev (fun k => redpenlaw07_TrieMore.j1 k L w (j : Int)) true := by
  obtain ⟨nsA, PA, WA, eA, hA⟩ := make_spec L hO.good hO.2 (by omega)
  obtain ⟨M, hM⟩ : ∃ M, M = L.take j ++ [w] ++ L.drop j := ⟨_, rfl⟩
  have hst : ∀ b, Ev (fun k => redpenlaw07_TrieMore.j2 k L w M [(nsA, (L.length : Int))] 0 b) true → (b = if j < L.length then ((rdOf ByteArray.empty L (j : Int)).toList == w.toList) else false) → Ev (fun k => redpenlaw07_TrieMore.j1 k L w (j : Int)) true := by
    intro b hb hbe
    refine Ev.step (f := fun k => (trie_Make.f k L).bind fun bt308 => if (j : Int) < (L.length : Int) then redpenlaw07_TrieMore.j2 k L w M bt308.1 bt308.2 ((rdOf ByteArray.empty L (j : Int)).toList == w.toList) else redpenlaw07_TrieMore.j2 k L w M bt308.1 bt308.2 false) (fun k => ?_) (Ev.bind eA ?_)
    · simp only [redpenlaw07_TrieMore.j1, Option.bind_some, List.nil_append]
      rw [if_pos (by omega), if_pos (by omega), if_pos (by simp; omega), if_pos (by simp; omega), if_pos (by simp; omega), Int.toNat_natCast, ← hM]
    · by_cases hlt : j < L.length
      · simp only [if_pos (show (j : Int) < (L.length : Int) by omega)]
        rw [if_pos hlt] at hbe
        rw [← hbe]
        exact hb
      · simp only [if_neg (show ¬ (j : Int) < (L.length : Int) by omega)]
        rw [if_neg hlt] at hbe
        rw [← hbe]
        exact hb
  have hgt : j < L.length → L.getD j ByteArray.empty ≠ w → ∀ x ∈ L.drop j, Less w x := fun h1 h2 => rise_place h1 hO.2 (hge h1) h2
  have other : (∀ x ∈ L.drop j, Less w x) → Ev (fun k => redpenlaw07_TrieMore.j2 k L w M [(nsA, (L.length : Int))] 0 false) true := by
    intro h2
    have hmm : ∀ x, x ∈ M ↔ x ∈ L ∨ x = w := by
      intro x
      rw [hM]
      conv => rhs; rw [← List.take_append_drop j L]
      simp only [List.mem_append, List.mem_singleton]
      constructor
      · rintro ((h | h) | h)
        · exact .inl (.inl h)
        · exact .inr h
        · exact .inl (.inr h)
      · rintro ((h | h) | h)
        · exact .inl (.inl h)
        · exact .inr h
        · exact .inl (.inr h)
    have hgM : ∀ s ∈ M, GoodT s := fun s hs => ((hmm s).1 hs).elim (fun h => hO.good s h) (fun h => h ▸ hw.1)
    have hml : M.length = L.length + 1 := by rw [hM]; simp; omega
    have hn : w ∉ L := by
      intro h
      rw [← List.take_append_drop j L, List.mem_append] at h
      rcases h with h | h
      · exact Less.irrefl w (hless w h)
      · exact Less.irrefl w (h2 w h)
    obtain ⟨nsB, PB, WB, eB, hB⟩ := make_spec M hgM (by rw [hM]; exact rise_put hj hO.2 hless h2) (by omega)
    refine Ev.step (f := fun k => (trie_Make.f k M).bind fun bt314 => redpenlaw07_TrieMore.l1 k w [(nsA, (L.length : Int))] 0 bt314.1 bt314.2 L (L.length : Int) 0) (fun k => ?_) (Ev.bind eB (more_l1 hO.good hgM hw.1 (by omega) hml hmm hn hA hB _ 0 rfl (by omega)))
    simp only [redpenlaw07_TrieMore.j2]
    rw [if_neg (by simp)]
  by_cases hlt : j < L.length
  · by_cases he : L.getD j ByteArray.empty = w
    · refine hst true ?_ (by rw [if_pos hlt, rdOf_nat, he]; simp)
      have hm : w ∈ L := by
        rw [← he, List.getD_eq_getElem?_getD, List.getElem?_eq_getElem hlt]
        exact List.getElem_mem hlt
      have a1 := hA.has_t hO.good (by omega) (L.length : Int) w hw.1 hm
      refine Ev.step (f := fun k => (trie_Trie_Has.f k [(nsA, (L.length : Int))] w).bind fun t313 => some t313) (fun k => ?_) (Ev.bind a1 (Ev.now _))
      simp only [redpenlaw07_TrieMore.j2]
      rw [if_pos trivial, if_pos trivial]
    · refine hst false (other (hgt hlt he)) ?_
      rw [if_pos hlt, rdOf_nat]
      exact (beq_eq_false_iff_ne.2 (fun h => he (ba_ext h))).symm
  · exact hst false (other (fun x hx => by rw [List.drop_of_length_le (by omega)] at hx; cases hx)) (by rw [if_neg hlt])
theorem more_l0 (L : List ByteArray) (hO : OutOK L) (hl : L.length ≤ 61) (w : ByteArray) (hw : Fine w) : ∀ (d j : Nat), L.length - j = d → j ≤ L.length → (∀ x ∈ L.take j, Less x w) → Ev (fun k => redpenlaw07_TrieMore.l0 k L w (j : Int)) true := by
  intro d
  induction d with
  | zero =>
    intro j hd hj hless
    refine Ev.step (fun k => ?_) (more_j1 L hO hl w hw j hj hless (fun h => by omega))
    simp only [redpenlaw07_TrieMore.l0]
    rw [if_neg (by omega)]
  | succ d ih =>
    intro j hd hj hless
    have hlt : j < L.length := by omega
    have hg : L.getD j ByteArray.empty = L[j] := by rw [List.getD_eq_getElem?_getD, List.getElem?_eq_getElem hlt]; rfl
    by_cases hb : Op.bytesLess (rdOf ByteArray.empty L (j : Int)).toList w.toList = true
    · refine Ev.step (fun k => ?_) (ih (j + 1) (by omega) (by omega) (fun x hx => by
        rw [List.take_succ_eq_append_getElem hlt] at hx
        rcases List.mem_append.1 hx with hx | hx
        · exact hless x hx
        · rw [List.mem_singleton.1 hx, ← hg, ← rdOf_nat]
          exact hb))
      simp only [redpenlaw07_TrieMore.l0]
      rw [if_pos (by omega), if_pos (by omega), if_pos hb, show wrap64 ((j : Int) + 1) = ((j + 1 : Nat) : Int) by rw [w64 (by omega) (by omega)]; omega]
    · refine Ev.step (fun k => ?_) (more_j1 L hO hl w hw j hj hless (fun _ h => hb (by rw [rdOf_nat]; exact h)))
      simp only [redpenlaw07_TrieMore.l0]
      rw [if_pos (by omega), if_pos (by omega), if_neg hb]
theorem TrieMore (l0 : List ByteArray) (a1 : ByteArray) (h0 : l0.length ≤ 1048576) (h1 : ∀ x ∈ l0, x.size ≤ 1048576) (h2 : a1.size ≤ 1048576) : ∃ k, redpenlaw07_TrieMore.f k l0 a1 = some true := by
  refine Ev.rounds ?_
  unfold redpenlaw07_TrieMore.f
  refine Ev.bind trie_awake ?_
  simp only [if_true]
  obtain ⟨L, e1, hO, hl⟩ := sorted_spec l0 (by omega) (fun s hs => by have := h1 s hs; omega)
  obtain ⟨V, e2, hV, _⟩ := sorted_spec [a1] (by simp) (fun s hs => by rw [List.mem_singleton.1 hs]; omega)
  refine Ev.bind e1 (Ev.bind e2 ?_)
  by_cases hv : V = []
  · subst hv
    simp only [List.length_nil]
    exact Ev.now _
  · have hvl : 0 < V.length := List.length_pos_iff.2 hv
    simp only [if_neg (show ¬ (V.length : Int) = 0 by omega), if_pos (show 0 < (V.length : Int) by omega)]
    refine more_l0 L hO hl _ (hV.1 _ ?_) _ 0 rfl (by omega) (by simp)
    rw [show (0 : Int) = ((0 : Nat) : Int) from rfl, rdOf_nat, List.getD_eq_getElem?_getD, List.getElem?_eq_getElem hvl]
    exact List.getElem_mem hvl
end Go.Proofs.Ytokgkhndhlcfpaa.Pure
