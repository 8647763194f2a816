/- TrieHas: just the words are there: no beginning of one, nor a longer one, unless it is a word. For all lists of texts, any text, any numbers, where what comes in is of bulk at most 1048576. -/
import Derived.Test.YtokgkhndhlcfpaaBSortedTrieHas
namespace Go.Proofs.Ytokgkhndhlcfpaa.Pure
open Go.RowKit Go.Proofs.Ytokgkhndhlcfpaa.PTrieHas Go.Proofs.YtokgkhndhlcfpaaW.PrintWords Go.Proofs.YtokgkhndhlcfpaaW.PrintLast
open Go.Proofs.Ytokgkhndhlcfpaa.M Go.Proofs.Ytokgkhndhlcfpaa.X
set_option linter.unusedVariables false
set_option linter.unusedSimpArgs false

theorem trie_awake : Ev (fun f => redpenlaw07_Awake.f f) true := Ev.of redpenlaw07_Awake.mono (k := 60) (by decide +kernel)
theorem has1_l0 (x : ByteArray) (L : List ByteArray) (hl : L.length < 1000000) : ∀ (d i : Nat), L.length - i = d → i ≤ L.length →
    (x ∈ L.drop i → Ev (fun k => redpenlaw07_TrieHas_1.l0 k x L (L.length : Int) (i : Int)) true) ∧ (x ∉ L.drop i → Ev (fun k => redpenlaw07_TrieHas_1.l0 k x L (L.length : Int) (i : Int)) false) := by
  intro d
  induction d with
  | zero =>
    intro i hd hi
    rw [List.drop_of_length_le (by omega)]
    refine ⟨fun h => (by cases h), fun _ => Ev.step (f := fun _ => some false) (fun k => ?_) (Ev.now _)⟩
    simp only [redpenlaw07_TrieHas_1.l0]
    rw [if_neg (by omega)]
  | succ d ih =>
    intro i hd hi
    have hlt : i < L.length := by omega
    obtain ⟨i1, i2⟩ := ih (i + 1) (by omega) (by omega)
    have ew : wrap64 ((i : Int) + 1) = ((i + 1 : Nat) : Int) := by rw [w64 (by omega) (by omega)]; omega
    have hg : rdOf ByteArray.empty L (i : Int) = L[i] := by rw [rdOf_nat, List.getD_eq_getElem?_getD, List.getElem?_eq_getElem hlt]; rfl
    rw [List.drop_eq_getElem_cons hlt]
    by_cases he : (rdOf ByteArray.empty L (i : Int)).toList = x.toList
    · refine ⟨fun _ => Ev.step (f := fun _ => some true) (fun k => ?_) (Ev.now _), fun h => absurd (List.mem_cons.2 (.inl ?_)) h⟩
      · simp only [redpenlaw07_TrieHas_1.l0]
        rw [if_pos (by omega), if_pos (by omega), if_pos (by omega), if_pos he]
      · rw [← hg]
        exact (ba_ext he).symm
    · have hne : x ≠ L[i] := fun e => he (by rw [hg, e])
      have st : ∀ b, Ev (fun k => redpenlaw07_TrieHas_1.l0 k x L (L.length : Int) ((i + 1 : Nat) : Int)) b → Ev (fun k => redpenlaw07_TrieHas_1.l0 k x L (L.length : Int) (i : Int)) b := by
        intro b h
        refine Ev.step (fun k => ?_) h
        simp only [redpenlaw07_TrieHas_1.l0]
        rw [if_pos (by omega), if_pos (by omega), if_pos (by omega), if_neg he, ew]
      refine ⟨fun h => st _ (i1 ?_), fun h => st _ (i2 (fun e => h (List.mem_cons_of_mem _ e)))⟩
      rcases List.mem_cons.1 h with h | h
      · exact absurd h hne
      · exact h
theorem has_word {L : List ByteArray} {ns : List Nd} {P W : List (List Int)} (h : OfL L ns P W) (hL : ∀ s ∈ L, GoodT s) (x : ByteArray) : rns x ∈ W ↔ x ∈ L := by
  rw [h.words]
  constructor
  · rintro ⟨s, hs, e⟩
    have h1 := (hL s hs).2.2
    rw [rns_inj (by rw [e]; exact h1) h1 e]
    exact hs
  · intro hm
    exact ⟨x, hm, rfl⟩
theorem has_law {L : List ByteArray} {ns : List Nd} {P W : List (List Int)} (h : OfL L ns P W) (hL : ∀ s ∈ L, GoodT s) (hl : L.length ≤ 61) (w : Int) (X : List ByteArray) (hX : X.length < 1000) : ∀ (d i : Nat), X.length - i = d → i ≤ X.length →
    Ev (fun k => redpenlaw07_TrieHas.l0 k [(ns, w)] 0 X (X.length : Int) (i : Int) L) true := by
  have hns : ns.length < 1000000000000 := by have := h.small; omega
  intro d
  induction d with
  | zero =>
    intro i hd hi
    refine Ev.step (f := fun _ => some true) (fun k => ?_) (Ev.now _)
    simp only [redpenlaw07_TrieHas.l0]
    rw [if_neg (by omega)]
    rfl
  | succ d ih =>
    intro i hd hi
    have ew : wrap64 ((i : Int) + 1) = ((i + 1 : Nat) : Int) := by rw [w64 (by omega) (by omega)]; omega
    have hn := ih (i + 1) (by omega) (by omega)
    obtain ⟨x, hx⟩ : ∃ x, rdOf ByteArray.empty X (i : Int) = x := ⟨_, rfl⟩
    by_cases hs : (x.size : Int) < 500
    · have hb := has_spec h.inv w hns x (by omega)
      obtain ⟨c1, c2⟩ := has1_l0 x L (by omega) _ 0 rfl (by omega)
      rw [List.drop_zero] at c1 c2
      have both : ∃ b, Ev (fun k => trie_Trie_Has.f k [(ns, w)] x) b ∧ Ev (fun k => redpenlaw07_TrieHas_1.f k x L) b := by
        by_cases hm : x ∈ L
        · rw [decide_eq_true ((has_word h hL x).2 hm)] at hb
          exact ⟨true, hb, c1 hm⟩
        · rw [decide_eq_false (fun e => hm ((has_word h hL x).1 e))] at hb
          exact ⟨false, hb, c2 hm⟩
      obtain ⟨b, h1, h2⟩ := both
      refine Ev.step (f := fun k => (trie_Trie_Has.f k [(ns, w)] x).bind fun t294 => ((redpenlaw07_TrieHas_1.f k x L).bind fun t295 => (if (t294 != t295) = true then (some false) else (redpenlaw07_TrieHas.l0 k [(ns, w)] 0 X (X.length : Int) ((i + 1 : Nat) : Int) L)))) (fun k => ?_) (Ev.bind h1 (Ev.bind h2 ?_))
      · simp only [redpenlaw07_TrieHas.l0]
        rw [if_pos (by omega), if_pos (by omega), if_pos (by omega), hx, if_pos hs, ew]
      · simp only [bne_self_eq_false, Bool.false_eq_true, if_false]
        exact hn
    · refine Ev.step (fun k => ?_) hn
      simp only [redpenlaw07_TrieHas.l0]
      rw [if_pos (by omega), if_pos (by omega), if_pos (by omega), hx, if_neg hs, ew]
theorem tmod_nat (a b : Nat) : Int.tmod (a : Int) (b : Int) = ((a % b : Nat) : Int) := rfl
theorem TrieHas (l0 : List ByteArray) (a1 : ByteArray) (a2 a3 : Int) (h0 : l0.length ≤ 1048576) (h1 : ∀ x ∈ l0, x.size ≤ 1048576) (h2 : a1.size ≤ 1048576) (h3 : (Lit.int .u8 a2).wf = true) (h4 : (Lit.int .u8 a3).wf = true) : ∃ k, redpenlaw07_TrieHas.f k l0 a1 a2 a3 = some true := by
  have b2 : 0 ≤ a2 ∧ a2 < 256 := by
    simp [Lit.wf, IntKind.min, IntKind.max, IntKind.bits, IntKind.signed] at h3
    omega
  have b3 : 0 ≤ a3 ∧ a3 < 256 := by
    simp [Lit.wf, IntKind.min, IntKind.max, IntKind.bits, IntKind.signed] at h4
    omega
  obtain ⟨n2, rfl⟩ := Int.eq_ofNat_of_zero_le b2.1
  obtain ⟨n3, rfl⟩ := Int.eq_ofNat_of_zero_le b3.1
  refine Ev.rounds ?_
  unfold redpenlaw07_TrieHas.f
  refine Ev.bind trie_awake ?_
  simp only [if_true]
  obtain ⟨L, e1, hO, hl⟩ := sorted_spec l0 (by omega) (fun s hs => by have := h1 s hs; omega)
  have hL : ∀ s ∈ L, GoodT s := fun s hs => (hO.1 s hs).1
  obtain ⟨ns, P, W, eM, hA⟩ := make_spec L hL hO.2 (by omega)
  refine Ev.bind e1 (Ev.bind eM (Ev.bind (Ev.now _) ?_))
  have fin : ∀ X : List ByteArray, X.length < 1000 → Ev (fun k => redpenlaw07_TrieHas.j0 k [(ns, (L.length : Int))] 0 X L) true := by
    intro X hX
    refine Ev.step (fun k => ?_) (has_law hA hL hl (L.length : Int) X hX _ 0 rfl (by omega))
    simp only [redpenlaw07_TrieHas.j0]
    rfl
  by_cases hz : L.length = 0
  · simp only [if_neg (show ¬ (L.length : Int) > 0 by omega)]
    exact fin _ (by simp)
  · generalize hz2 : Int.tmod (wrap64 (n2 : Int)) (L.length : Int) = z2
    have e2 : z2 = ((n2 % L.length : Nat) : Int) := by rw [← hz2, w64 (by omega) (by omega)]; exact tmod_nat n2 L.length
    have lt2 : n2 % L.length < L.length := Nat.mod_lt _ (by omega)
    generalize n2 % L.length = j2 at e2 lt2
    have hsz : (rdOf ByteArray.empty L z2).size ≤ 48 := by
      rw [e2, rdOf_nat, List.getD_eq_getElem?_getD, List.getElem?_eq_getElem lt2]
      exact (hO.1 _ (List.getElem_mem lt2)).2.1
    generalize rdOf ByteArray.empty L z2 = s at hsz
    generalize hw : wrap64 ((s.size : Int) + 1) = q
    have eq_ : q = ((s.size + 1 : Nat) : Int) := by rw [← hw, w64 (by omega) (by omega)]; omega
    generalize hz3 : Int.tmod (wrap64 (n3 : Int)) q = z3
    have e3 : z3 = ((n3 % (s.size + 1) : Nat) : Int) := by rw [← hz3, w64 (by omega) (by omega), eq_]; exact tmod_nat n3 (s.size + 1)
    have lt3 : n3 % (s.size + 1) < s.size + 1 := Nat.mod_lt _ (by omega)
    generalize n3 % (s.size + 1) = j3 at e3 lt3
    have g1 : (L.length : Int) > 0 := by omega
    have g2 : ¬ (L.length : Int) = 0 := by omega
    have g3 : 0 ≤ z2 := by omega
    have g4 : z2 < (L.length : Int) := by omega
    have g5 : ¬ q = 0 := by omega
    have g6 : 0 ≤ z3 := by omega
    have g7 : z3 ≤ (s.size : Int) := by omega
    have g8 : s.size + a1.size ≤ 9223372036854775807 := by omega
    have g9 : s.size + 1 ≤ 9223372036854775807 := by omega
    have g10 : ([a1, (⟨#[]⟩ : ByteArray)] : List ByteArray).length + ([s, s.extract 0 (z3 : Int).toNat, s ++ a1, s ++ (⟨#[97]⟩ : ByteArray)] : List ByteArray).length < 8796093022208 := by simp only [List.length_cons, List.length_nil]; omega
    refine Ev.congr (fun k => (if_pos g1).trans ((if_neg g2).trans ((if_pos g3).trans ((if_pos g4).trans ((if_neg g5).trans ((if_pos g6).trans ((if_pos g7).trans ((if_pos g8).trans ((if_pos g9).trans (if_pos (e := none) g10)))))))))) (fin ([a1, (⟨#[]⟩ : ByteArray)] ++ [s, s.extract 0 (z3 : Int).toNat, s ++ a1, s ++ (⟨#[97]⟩ : ByteArray)]) (by simp only [List.length_append, List.length_cons, List.length_nil]; omega))
end Go.Proofs.Ytokgkhndhlcfpaa.Pure
