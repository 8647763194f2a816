/- The printed trie.Make on any list: its first fault, as a plain function tells it; and trie.Words of what is made. -/
import Derived.Test.YtokgkhndhlcfpaaBTMakeTrieMakes
import Derived.Test.YtokgkhndhlcfpaaMWalk
import Derived.Test.YtokgkhndhlcfpaaBPutTrieMakes
namespace Go.Proofs.Ytokgkhndhlcfpaa.Pure
open Go.RowKit Go.Proofs.Ytokgkhndhlcfpaa.PTrieMakes Go.Proofs.YtokgkhndhlcfpaaW.PrintWords Go.Proofs.YtokgkhndhlcfpaaW.PrintLast
open Go.Proofs.Ytokgkhndhlcfpaa.M Go.Proofs.Ytokgkhndhlcfpaa.X
set_option linter.unusedVariables false
set_option linter.unusedSimpArgs false

/-- The first fault of words, as a number; 0: none. -/
def rightC : Nat → ByteArray → List ByteArray → Int
  | _, _, [] => 0
  | i, p, s :: t => if s.toList = ([] : List UInt8) then 5 else if 0 < i ∧ Op.bytesLess p.toList s.toList = false then 8 else if 64 < s.size then 3 else if 4096 ≤ i then 4 else if (-1 : Int) ∈ rns s then 5 else rightC (i + 1) s t
theorem right_good : ∀ (t : List ByteArray) (i : Nat) (p : ByteArray), rightC i p t = 0 → (∀ s ∈ t, GoodT s) ∧ t.Pairwise Less ∧ (0 < i → ∀ s ∈ t, Less p s) ∧ (t ≠ [] → i + t.length ≤ 4096)
  | [], _, _, _ => ⟨by simp, List.Pairwise.nil, by simp, fun h => absurd rfl h⟩
  | s :: t, i, p, h => by
    unfold rightC at h
    by_cases c1 : s.toList = ([] : List UInt8)
    · rw [if_pos c1] at h; cases h
    rw [if_neg c1] at h
    by_cases c2 : 0 < i ∧ Op.bytesLess p.toList s.toList = false
    · rw [if_pos c2] at h; cases h
    rw [if_neg c2] at h
    by_cases c3 : 64 < s.size
    · rw [if_pos c3] at h; cases h
    rw [if_neg c3] at h
    by_cases c4 : 4096 ≤ i
    · rw [if_pos c4] at h; cases h
    rw [if_neg c4] at h
    by_cases c5 : (-1 : Int) ∈ rns s
    · rw [if_pos c5] at h; cases h
    rw [if_neg c5] at h
    obtain ⟨q1, q2, q3, q4⟩ := right_good t (i + 1) s h
    have hps : 0 < i → Less p s := fun h0 => by
      unfold Less
      cases hb : Op.bytesLess p.toList s.toList with
      | true => rfl
      | false => exact absurd ⟨h0, hb⟩ c2
    refine ⟨fun x hx => ?_, ?_, fun h0 x hx => ?_, fun _ => ?_⟩
    · rcases List.mem_cons.1 hx with rfl | hx
      · exact ⟨c1, by omega, c5⟩
      · exact q1 x hx
    · rw [List.pairwise_cons]
      exact ⟨q3 (by omega), q2⟩
    · rcases List.mem_cons.1 hx with rfl | hx
      · exact hps h0
      · exact (hps h0).trans (q3 (by omega) x hx)
    · by_cases ht : t = []
      · subst ht; simp; omega
      · have := q4 ht
        simp only [List.length_cons]
        omega
theorem make_err : ∀ (t : List ByteArray) (ns : List Nd) (P W : List (List Int)) (i : Nat) (p : ByteArray), TrI ns P W → (i = 0 → W = []) → (∀ q ∈ W, ∃ x, q = rns x ∧ (-1 : Int) ∉ rns x ∧ (x = p ∨ Less x p)) → rightC i p t ≠ 0 → ns.length + 64 * t.length < 1000000000 →
    Ev (fun k => trie_Make.lp k ns (i : Int) i p t) ([], rightC i p t)
  | [], _, _, _, _, _, _, _, _, h, _ => absurd rfl h
  | s :: t, ns, P, W, i, p, h, h0, hw, hr, hl => by
    simp only [List.length_cons] at hl
    unfold rightC at hr ⊢
    by_cases c1 : s.toList = ([] : List UInt8)
    · rw [if_pos c1]
      refine Ev.congr (fun k => ?_) (Ev.now _)
      simp only [trie_Make.lp]
      rw [if_pos c1]
    rw [if_neg c1] at hr ⊢
    by_cases c2 : 0 < i ∧ Op.bytesLess p.toList s.toList = false
    · rw [if_pos c2]
      refine Ev.congr (fun k => ?_) (Ev.now _)
      simp only [trie_Make.lp]
      rw [if_neg c1, if_pos c2.1, if_neg (by rw [c2.2]; simp)]
    rw [if_neg c2] at hr ⊢
    have hps : 0 < i → Op.bytesLess p.toList s.toList = true := fun h0 => by
      cases hb : Op.bytesLess p.toList s.toList with
      | true => rfl
      | false => exact absurd ⟨h0, hb⟩ c2
    by_cases c3 : 64 < s.size
    · rw [if_pos c3]
      refine Ev.congr (fun k => ?_) (Ev.now _)
      simp only [trie_Make.lp]
      rw [if_neg c1]
      by_cases hi : 0 < i
      · rw [if_pos hi, if_pos (hps hi), if_pos c3]
      · rw [if_neg hi, if_pos c3]
    rw [if_neg c3] at hr ⊢
    by_cases c4 : 4096 ≤ i
    · rw [if_pos c4]
      refine Ev.congr (fun k => ?_) (Ev.now _)
      simp only [trie_Make.lp]
      rw [if_neg c1, if_pos (by omega), if_pos (hps (by omega)), if_neg c3, if_pos c4]
    rw [if_neg c4] at hr ⊢
    have hrl := rns_len s
    have tail : ∀ r, Ev (fun k => (utf_Runes.f k s).bind fun rs => (slices_Contains_rune_rune.f k rs (-1)).bind fun c => if c = true then some ([], 5) else if rs.length < 1000000000000 then (putF k ns (i : Int) rs).bind fun q => trie_Make.lp k q.1 q.2 (i + 1) s t else none) r → Ev (fun k => trie_Make.lp k ns (i : Int) i p (s :: t)) r := by
      intro r hE
      refine Ev.congr (fun k => ?_) hE
      simp only [trie_Make.lp]
      rw [if_neg c1]
      by_cases hi : 0 < i
      · rw [if_pos hi, if_pos (hps hi), if_neg c3, if_neg c4]
      · rw [if_neg hi, if_neg c3]
    refine tail _ (Ev.bind (runes_ev s (by omega)) (Ev.bind (contains_eq (rns s) (-1) (by omega)) ?_))
    by_cases c5 : (-1 : Int) ∈ rns s
    · rw [if_pos c5, decide_eq_true c5]
      simp only [if_true]
      exact Ev.now _
    · rw [if_neg c5] at hr ⊢
      rw [decide_eq_false c5]
      simp only [Bool.false_eq_true, if_false, if_pos (show (rns s).length < 1000000000000 by omega)]
      have hnw : rns s ∉ W := by
        intro hm
        by_cases hi : i = 0
        · rw [h0 hi] at hm; cases hm
        · obtain ⟨x, e, hx, hlt⟩ := hw _ hm
          have : x = s := (rns_inj c5 hx e).symm
          subst this
          have hpx : Less p x := hps (by omega)
          rcases hlt with rfl | hlt
          · exact Less.irrefl _ hpx
          · exact Less.irrefl _ (hlt.trans hpx)
      obtain ⟨ns1, P1, e1, i1, m1, l1⟩ := putF_spec h (i : Int) (rns s) hnw (by omega)
      have ew : wrap64 ((i : Int) + 1) = ((i + 1 : Nat) : Int) := by rw [w64 (by omega) (by omega)]; omega
      rw [ew] at e1
      refine Ev.bind e1 (make_err t ns1 P1 (rns s :: W) (i + 1) s i1 (fun h => by omega) (fun q hq => ?_) hr (by omega))
      rcases List.mem_cons.1 hq with rfl | hq
      · exact ⟨s, rfl, c5, .inl rfl⟩
      · by_cases hi : i = 0
        · rw [h0 hi] at hq; cases hq
        · obtain ⟨x, e, hx, hlt⟩ := hw q hq
          have hpx : Less p s := hps (by omega)
          refine ⟨x, e, hx, .inr ?_⟩
          rcases hlt with rfl | hlt
          · exact hpx
          · exact hlt.trans hpx
theorem make_bad (L : List ByteArray) (hr : rightC 0 ByteArray.empty L ≠ 0) (hl : L.length ≤ 1000) : Ev (fun k => trie_Make.f k L) ([], rightC 0 ByteArray.empty L) := by
  refine Ev.congr (fun k => ?_) (make_err L [nd0] [[]] [] 0 ByteArray.empty start_inv (fun _ => rfl) (fun _ h => by cases h) hr (by simp; omega))
  unfold trie_Make.f
  rw [if_pos (by omega)]
  rfl
/-- The words of a trie that is made of a list are the list. -/
theorem words_spec (L : List ByteArray) (hg : ∀ s ∈ L, GoodT s) (hp : L.Pairwise Less) {ns : List Nd} {P W : List (List Int)} (h : OfL L ns P W) (hl : L.length ≤ 4096) : Ev (fun k => walkF (fun l => utf_Text.f k l) k ns true 0 [] []) L := by
  have hPL : ∀ p ∈ P, p.length ≤ 64 := by
    intro p hpm
    rcases (h.nodes p).1 hpm with rfl | ⟨s, hs, hpre⟩
    · simp
    · have h1 := hpre.length_le
      have h2 := rns_len s
      have h3 := (hg s hs).2.1
      omega
  have hok : ∀ p ∈ W, ∀ x ∈ p, okR x = true := by
    intro p hpm x hx
    obtain ⟨s, hs, rfl⟩ := (h.words p).1 hpm
    rcases rs_each _ (bytesOf_BT s) x hx with e | e
    · subst e
      exact absurd hx (hg s hs).2.2
    · exact e
  have hlen : ∀ res : List (List Int), res.Pairwise Lx → (∀ q, q ∈ res ↔ q ∈ W) → res.length < 1000000000000 := by
    intro res hp1 hm
    have h1 := nodup_le res P (hp1.imp (fun hh => hh.ne)) (fun q hq => h.inv.words q ((hm q).1 hq))
    have := h.small
    rw [h.inv.len] at h1
    omega
  obtain ⟨res, e, hp1, hm⟩ := walk_all (T := fun k l => utf_Text.f k l) (tx := fun p => strOfNums (encL p)) (K0 := 66) h.inv (fun k hk p hpm => text_eq (by have := hPL p hpm; omega) (by have := hPL p hpm; omega)) hPL (by omega) hlen
  have : res.map (fun p => strOfNums (encL p)) = L := by
    refine rise_eq ?_ hp (fun x => ?_)
    · rw [List.pairwise_map]
      exact hp1.imp_of_mem (fun ha hb hh => hh.less (hok _ ((hm _).1 ha)) (hok _ ((hm _).1 hb)))
    · rw [List.mem_map]
      constructor
      · rintro ⟨p, hpm, rfl⟩
        obtain ⟨s, hs, rfl⟩ := (h.words p).1 ((hm p).1 hpm)
        rw [rns_enc (hg s hs).2.2, strOfNums_bytesOf]
        exact hs
      · intro hx
        exact ⟨rns x, (hm _).2 ((h.words _).2 ⟨x, hx, rfl⟩), by rw [rns_enc (hg x hx).2.2, strOfNums_bytesOf]⟩
  rw [this] at e
  exact e
end Go.Proofs.Ytokgkhndhlcfpaa.Pure
