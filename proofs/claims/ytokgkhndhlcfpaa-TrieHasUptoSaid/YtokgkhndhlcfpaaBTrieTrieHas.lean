/- The printed functions of package trie on lists of texts: Contains, Has, Make. -/
import Derived.Test.YtokgkhndhlcfpaaBRunesTrieHas
import Derived.Test.YtokgkhndhlcfpaaMTrie
import Derived.Test.YtokgkhndhlcfpaaMLess
namespace Go.Proofs.Ytokgkhndhlcfpaa.Pure
open Go.RowKit Go.Proofs.Ytokgkhndhlcfpaa.PTrieHas Go.Proofs.YtokgkhndhlcfpaaW.PrintWords Go.Proofs.YtokgkhndhlcfpaaW.PrintLast
open Go.Proofs.Ytokgkhndhlcfpaa.M Go.Proofs.Ytokgkhndhlcfpaa.X
set_option linter.unusedVariables false
set_option linter.unusedSimpArgs false

theorem index_l0 (l : List Int) (v : Int) (hl : l.length < 1000000000000) : ∀ (d i : Nat), l.length - i = d → i ≤ l.length → ∃ r, Ev (fun k => slices_Index_rune_rune.l0 k l v (l.length : Int) (i : Int)) r ∧ (0 ≤ r ↔ v ∈ l.drop i) := by
  intro d
  induction d with
  | zero =>
    intro i hd hi
    refine ⟨-1, Ev.step (f := fun _ => some (-1)) (fun k => ?_) (Ev.now _), ?_⟩
    · simp only [slices_Index_rune_rune.l0]
      rw [if_neg (by omega)]
    · rw [List.drop_of_length_le (by omega)]
      simp
  | succ d ih =>
    intro i hd hi
    have hlt : i < l.length := by omega
    by_cases hv : v = rd l (i : Int)
    · refine ⟨(i : Int), Ev.step (f := fun _ => some (i : Int)) (fun k => ?_) (Ev.now _), ?_⟩
      · simp only [slices_Index_rune_rune.l0]
        rw [if_pos (by omega), if_pos (by omega), if_pos (by omega), if_pos hv]
      · rw [drop_rd l i hlt, ← hv]
        simp
    · obtain ⟨r, h1, h2⟩ := ih (i + 1) (by omega) (by omega)
      refine ⟨r, Ev.step (f := fun k => slices_Index_rune_rune.l0 k l v (l.length : Int) ((i + 1 : Nat) : Int)) (fun k => ?_) h1, ?_⟩
      · simp only [slices_Index_rune_rune.l0]
        rw [if_pos (by omega), if_pos (by omega), if_pos (by omega), if_neg hv, show wrap64 ((i : Int) + 1) = ((i + 1 : Nat) : Int) by rw [w64 (by omega) (by omega)]; omega]
      · rw [drop_rd l i hlt, h2, List.mem_cons]
        constructor
        · exact .inr
        · rintro (e | e)
          · exact absurd e hv
          · exact e
theorem contains_eq (l : List Int) (v : Int) (hl : l.length < 1000000000000) : Ev (fun k => slices_Contains_rune_rune.f k l v) (decide (v ∈ l)) := by
  obtain ⟨r, h1, h2⟩ := index_l0 l v hl _ 0 rfl (by omega)
  rw [List.drop_zero] at h2
  refine Ev.bind h1 ?_
  have : decide (r ≥ 0) = decide (v ∈ l) := by
    rw [decide_eq_decide]
    exact h2
  simp only [this]
  exact Ev.now _
/-- A text's signs. -/
abbrev rns (s : ByteArray) : List Int := rs (bytesOf s)
theorem runes_ev (s : ByteArray) (hs : s.size < 5864062014805) : Ev (fun k => utf_Runes.f k s) (rns s) := ⟨s.size + 8, fun k hk => runes_eq s hs hk⟩
theorem has_l1 {T : List TrT} {x : Int} {xs ys : List Int} {n m : Int} (hxl : xs.length = ys.length) (hl : xs.length < 1000000000000) {l : List Int} {res : Bool} : ∀ (d i : Nat) (a : Int), xs.length - i = d → i ≤ xs.length →
    Ev (fun k => if pickG x (xs.drop i) (ys.drop i) a < 0 then some false else trie_Trie_Has.l0 k T (pickG x (xs.drop i) (ys.drop i) a) l n (wrap64 (m + 1))) res → Ev (fun k => trie_Trie_Has.l1 k T a x ys l n m xs (xs.length : Int) (i : Int)) res := by
  intro d
  induction d with
  | zero =>
    intro i a hd hi h
    rw [List.drop_of_length_le (by omega), List.drop_of_length_le (by omega)] at h
    refine Ev.step (fun k => ?_) h
    simp only [trie_Trie_Has.l1, pickG]
    rw [if_neg (by omega)]
    rfl
  | succ d ih =>
    intro i a hd hi h
    have hlt : i < xs.length := by omega
    rw [drop_rd xs i hlt, drop_rd ys i (by omega)] at h
    have h1 := ih (i + 1) (if rd xs (i : Int) = x then rd ys (i : Int) else a) (by omega) (by omega) h
    refine Ev.step (fun k => ?_) h1
    simp only [trie_Trie_Has.l1]
    rw [if_pos (by omega), if_pos (by omega), if_pos (by omega), if_pos (show (i : Int) < (ys.length : Int) by omega), show wrap64 ((i : Int) + 1) = ((i + 1 : Nat) : Int) by rw [w64 (by omega) (by omega)]; omega]
    split <;> rfl
theorem has_l0 {ns : List Nd} {P W : List (List Int)} (h : TrI ns P W) (w : Int) (hns : ns.length < 1000000000000) {l : List Int} (hl : l.length < 1000000000000) : ∀ (d i a : Nat) (p : List Int), l.length - i = d → i ≤ l.length → P[a]? = some p →
    Ev (fun k => trie_Trie_Has.l0 k [(ns, w)] (a : Int) l (l.length : Int) (i : Int)) (decide (p ++ l.drop i ∈ W)) := by
  intro d
  induction d with
  | zero =>
    intro i a p hd hi ha
    rw [List.drop_of_length_le (by omega), List.append_nil]
    refine Ev.step (f := fun _ => some (decide (p ∈ W))) (fun k => ?_) (Ev.now _)
    simp only [trie_Trie_Has.l0]
    rw [if_neg (by omega), ends_spec h ha w]
    rfl
  | succ d ih =>
    intro i a p hd hi ha
    have hlt : i < l.length := by omega
    obtain ⟨ks, k1, k2, k3, k4, k5⟩ := kids_spec h ha w hns
    rw [drop_rd l i hlt]
    refine Ev.step (f := fun k => (trie_Trie_Kids.f k [(ns, w)] (a : Int)).bind fun bt => trie_Trie_Has.l1 k [(ns, w)] (-1) (rd l (i : Int)) bt.2 l (l.length : Int) (i : Int) bt.1 (bt.1.length : Int) 0) (fun k => ?_) (Ev.bind k1 ?_)
    · simp only [trie_Trie_Has.l0]
      rw [if_pos (by omega), if_pos (by omega), if_pos (by omega)]
    · refine has_l1 (by simp) (by simp; omega) _ 0 (-1) rfl (by simp) ?_
      simp only [List.drop_zero]
      by_cases hx : ∃ j ∈ ks, (nd ns j).r = rd l (i : Int)
      · obtain ⟨j, hj, hr⟩ := hx
        rw [pick_some ks (-1) k2 j hj hr]
        have h1 := ih (i + 1) j _ (by omega) (by omega) (k3 j hj)
        rw [hr, List.append_assoc] at h1
        simp only [show ¬ ((j : Int) < 0) by omega, if_false, show wrap64 ((i : Int) + 1) = ((i + 1 : Nat) : Int) by rw [w64 (by omega) (by omega)]; omega]
        exact h1
      · rw [pick_none ks (-1) (fun j hj hr => hx ⟨j, hj, hr⟩)]
        have : decide (p ++ rd l (i : Int) :: l.drop (i + 1) ∈ W) = false := by
          rw [decide_eq_false_iff_not]
          intro hm
          refine hx (k4 _ (TrI.closed h _ (l.drop (i + 1)) rfl ?_))
          rw [List.append_assoc]
          exact h.words _ hm
        rw [this]
        simp only [show ((-1 : Int) < 0) by omega, if_true]
        exact Ev.now _
theorem has_spec {ns : List Nd} {P W : List (List Int)} (h : TrI ns P W) (w : Int) (hns : ns.length < 1000000000000) (s : ByteArray) (hs : s.size < 100000000) : Ev (fun k => trie_Trie_Has.f k [(ns, w)] s) (decide (rns s ∈ W)) := by
  refine Ev.bind (runes_ev s (by omega)) ?_
  have hl : (rns s).length ≤ s.size := by
    rw [rs_len]
    have := us_len (bytesOf s)
    rw [bytesOf_length] at this
    exact this
  exact has_l0 h w hns (by omega) _ 0 0 [] rfl (by omega) h.root
end Go.Proofs.Ytokgkhndhlcfpaa.Pure
