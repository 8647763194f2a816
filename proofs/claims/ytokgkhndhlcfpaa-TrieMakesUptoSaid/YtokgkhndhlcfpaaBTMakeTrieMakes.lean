/- The printed trie.Make on lists of texts that rise. -/
import Derived.Test.YtokgkhndhlcfpaaBTrieTrieMakes
namespace Go.Proofs.Ytokgkhndhlcfpaa.Pure
open Go.RowKit Go.Proofs.Ytokgkhndhlcfpaa.PTrieMakes Go.Proofs.YtokgkhndhlcfpaaW.PrintWords Go.Proofs.YtokgkhndhlcfpaaW.PrintLast
open Go.Proofs.Ytokgkhndhlcfpaa.M Go.Proofs.Ytokgkhndhlcfpaa.X
set_option linter.unusedVariables false
set_option linter.unusedSimpArgs false

/-- A text that may be a word. -/
def GoodT (s : ByteArray) : Prop := s.toList ≠ [] ∧ s.size ≤ 64 ∧ (-1 : Int) ∉ rns s
theorem rns_len (s : ByteArray) : (rns s).length ≤ s.size := by
  rw [rs_len]
  have := us_len (bytesOf s)
  rw [bytesOf_length] at this
  exact this
theorem rns_enc {s : ByteArray} (h : (-1 : Int) ∉ rns s) : encL (rns s) = bytesOf s := by
  refine encL_rs _ (bytesOf_BT s) ?_
  unfold whole
  rw [List.all_eq_true]
  intro r hr
  rcases rs_each _ (bytesOf_BT s) r hr with e | e
  · rw [e] at hr
    exact absurd hr h
  · have := (okR_iff r).1 e
    simpa using this.1
theorem rns_inj {s s' : ByteArray} (h : (-1 : Int) ∉ rns s) (h' : (-1 : Int) ∉ rns s') (e : rns s = rns s') : s = s' := by
  have h1 := rns_enc h
  rw [e, rns_enc h'] at h1
  rw [← strOfNums_bytesOf s, ← h1, strOfNums_bytesOf]
theorem make_lp : ∀ (t : List ByteArray) (ns : List Nd) (P W : List (List Int)) (i : Nat) (p : ByteArray), TrI ns P W → (∀ s ∈ t, GoodT s) → t.Pairwise Less → (0 < i → ∀ s ∈ t, Less p s) → (∀ s ∈ t, rns s ∉ W) → i + t.length ≤ 4096 → ns.length + 64 * t.length < 1000000000 →
    ∃ ns' P' W', Ev (fun k => trie_Make.lp k ns (i : Int) i p t) ([(ns', ((i + t.length : Nat) : Int))], 0) ∧ TrI ns' P' W' ∧ (∀ q, q ∈ W' ↔ q ∈ W ∨ ∃ s ∈ t, q = rns s) ∧ (∀ q, q ∈ P' ↔ q ∈ P ∨ (q ≠ [] ∧ ∃ s ∈ t, q <+: rns s)) ∧ ns'.length ≤ ns.length + 64 * t.length
  | [], ns, P, W, i, p, h, _, _, _, _, _, _ => ⟨ns, P, W, Ev.now _, h, by simp, by simp, by simp⟩
  | s :: t, ns, P, W, i, p, h, hg, hr, hp, hw, hi, hl => by
    simp only [List.length_cons] at hi hl
    obtain ⟨g1, g2, g3⟩ := hg s List.mem_cons_self
    have hrl := rns_len s
    rw [List.pairwise_cons] at hr
    obtain ⟨ns1, P1, e1, i1, m1, l1⟩ := putF_spec h (i : Int) (rns s) (hw s List.mem_cons_self) (by omega)
    have ew : wrap64 ((i : Int) + 1) = ((i + 1 : Nat) : Int) := by rw [w64 (by omega) (by omega)]; omega
    rw [ew] at e1
    obtain ⟨ns2, P2, W2, e2, i2, w2, m2, l2⟩ := make_lp t ns1 P1 (rns s :: W) (i + 1) s i1 (fun x hx => hg x (List.mem_cons_of_mem _ hx)) hr.2 (fun _ x hx => hr.1 x hx) (fun x hx hm => by
      rcases List.mem_cons.1 hm with e | hm
      · exact Less.ne (hr.1 x hx) (rns_inj g3 (hg x (List.mem_cons_of_mem _ hx)).2.2 e.symm)
      · exact hw x (List.mem_cons_of_mem _ hx) hm) (by omega) (by omega)
    refine ⟨ns2, P2, W2, ?_, i2, fun q => ?_, fun q => ?_, by simp only [List.length_cons]; omega⟩
    · have htail : Ev (fun k => (utf_Runes.f k s).bind fun rs => (slices_Contains_rune_rune.f k rs (-1)).bind fun c => if c = true then some ([], 5) else if rs.length < 1000000000000 then (putF k ns (i : Int) rs).bind fun q => trie_Make.lp k q.1 q.2 (i + 1) s t else none) ([(ns2, ((i + (t.length + 1) : Nat) : Int))], 0) := by
        refine Ev.bind (runes_ev s (by omega)) (Ev.bind (contains_eq (rns s) (-1) (by omega)) ?_)
        rw [decide_eq_false g3]
        simp only [Bool.false_eq_true, if_false, if_pos (show (rns s).length < 1000000000000 by omega)]
        refine Ev.bind e1 ?_
        rw [show i + (t.length + 1) = i + 1 + t.length by omega]
        exact e2
      refine Ev.congr (fun k => ?_) htail
      simp only [trie_Make.lp]
      rw [if_neg g1]
      by_cases h0 : 0 < i
      · rw [if_pos h0, if_pos (show Op.bytesLess p.toList s.toList = true from hp h0 s List.mem_cons_self), if_neg (by omega), if_neg (by omega)]
      · rw [if_neg h0, if_neg (by omega)]
    · rw [w2]
      simp only [List.mem_cons]
      constructor
      · rintro ((rfl | hq) | ⟨x, hx, rfl⟩)
        · exact .inr ⟨s, .inl rfl, rfl⟩
        · exact .inl hq
        · exact .inr ⟨x, .inr hx, rfl⟩
      · rintro (hq | ⟨x, rfl | hx, rfl⟩)
        · exact .inl (.inr hq)
        · exact .inl (.inl rfl)
        · exact .inr ⟨x, hx, rfl⟩
    · rw [m2, m1]
      simp only [List.mem_cons]
      constructor
      · rintro ((hq | ⟨h1, h2⟩) | ⟨h1, x, hx, h2⟩)
        · exact .inl hq
        · exact .inr ⟨h1, s, .inl rfl, h2⟩
        · exact .inr ⟨h1, x, .inr hx, h2⟩
      · rintro (hq | ⟨h1, x, rfl | hx, h2⟩)
        · exact .inl (.inl hq)
        · exact .inl (.inr ⟨h1, h2⟩)
        · exact .inr ⟨h1, x, hx, h2⟩
/-- What a trie of a list is. -/
structure OfL (L : List ByteArray) (ns : List Nd) (P W : List (List Int)) : Prop where
  inv : TrI ns P W
  words : ∀ q, q ∈ W ↔ ∃ s ∈ L, q = rns s
  nodes : ∀ q, q ∈ P ↔ q = [] ∨ ∃ s ∈ L, q <+: rns s
  small : ns.length ≤ 1 + 64 * L.length
theorem make_spec (L : List ByteArray) (hg : ∀ s ∈ L, GoodT s) (hr : L.Pairwise Less) (hl : L.length ≤ 4096) :
    ∃ ns P W, Ev (fun k => trie_Make.f k L) ([(ns, (L.length : Int))], 0) ∧ OfL L ns P W := by
  obtain ⟨ns, P, W, e, i, w, m, l⟩ := make_lp L [nd0] [[]] [] 0 ByteArray.empty start_inv hg hr (fun h => absurd h (by omega)) (fun _ _ h => by cases h) (by omega) (by simp; omega)
  rw [Nat.zero_add] at e
  refine ⟨ns, P, W, ?_, i, fun q => by rw [w]; simp, fun q => ?_, by simpa using l⟩
  · refine Ev.congr (fun k => ?_) e
    unfold trie_Make.f
    rw [if_pos (by omega)]
    rfl
  · rw [m]
    simp only [List.mem_singleton]
    constructor
    · rintro (h | ⟨_, h⟩)
      · exact .inl h
      · exact .inr h
    · rintro (h | h)
      · exact .inl h
      · by_cases hq : q = []
        · exact .inl hq
        · exact .inr ⟨hq, h⟩
end Go.Proofs.Ytokgkhndhlcfpaa.Pure
