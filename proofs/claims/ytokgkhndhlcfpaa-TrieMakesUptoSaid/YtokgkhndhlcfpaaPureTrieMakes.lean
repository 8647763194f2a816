/- TrieMakes: a trie is made of any list just if the words rise, none is empty, too long or no text; then it has those words, in their order; else the error is the document's. For all lists of texts, each of at most 1048576 bytes. -/
import Derived.Test.YtokgkhndhlcfpaaBSortedTrieMakes
import Derived.Test.YtokgkhndhlcfpaaBTRightTrieMakes
import Derived.Test.YtokgkhndhlcfpaaBRefMTrieMakes
namespace Go.Proofs.Ytokgkhndhlcfpaa.Pure
open Go.RowKit Go.Proofs.Ytokgkhndhlcfpaa.PTrieMakes Go.Proofs.YtokgkhndhlcfpaaW.PrintWords Go.Proofs.YtokgkhndhlcfpaaW.PrintLast
open Go.Proofs.Ytokgkhndhlcfpaa.M Go.Proofs.Ytokgkhndhlcfpaa.X
set_option linter.unusedVariables false
set_option linter.unusedSimpArgs false

theorem trie_awake : Ev (fun f => redpenlaw07_Awake.f f) true := Ev.of redpenlaw07_Awake.mono (k := 60) (by decide +kernel)
theorem rns_each (s : ByteArray) : ∀ x ∈ rns s, x = -1 ∨ 0 ≤ x := by
  intro x hx
  rcases rs_each _ (bytesOf_BT s) x hx with e | e
  · exact .inl e
  · exact .inr ((okR_iff x).1 e).1
theorem right_l1 (L : List ByteArray) (s : ByteArray) (hs : s.size ≤ 64) (i : Int) {res : Int} (h : Ev (fun k => redpenref06_Right.l0 k L (wrap64 (i + 1))) res) : ∀ (d j : Nat), (rns s).length - j = d → j ≤ (rns s).length →
    Ev (fun k => redpenref06_Right.l1 k L i (mkU 0 (us (bytesOf s))) (j : Int)) (if (-1 : Int) ∈ (rns s).drop j then 5 else res) := by
  have hl := rns_len s
  have hul : (mkU 0 (us (bytesOf s))).length = (rns s).length := by rw [mkU_len, rs_len]
  intro d
  induction d with
  | zero =>
    intro j hd hj
    rw [List.drop_of_length_le (by omega), if_neg (by simp)]
    refine Ev.step (fun k => ?_) h
    simp only [redpenref06_Right.l1]
    rw [if_neg (by omega)]
  | succ d ih =>
    intro j hd hj
    have hlt : j < (rns s).length := by omega
    have hr : (rd_T92 (mkU 0 (us (bytesOf s))) (j : Int)).f0 = rd (rns s) (j : Int) := by
      rw [mkU_rune 0 (us (bytesOf s)) j (by rw [rs_len] at hlt; exact hlt)]
      unfold rd
      rw [Int.toNat_natCast]
      rfl
    rw [drop_rd (rns s) j hlt]
    have hm : rd (rns s) (j : Int) ∈ rns s := by
      unfold rd
      rw [Int.toNat_natCast, List.getD_eq_getElem?_getD, List.getElem?_eq_getElem hlt]
      exact List.getElem_mem hlt
    by_cases hn : rd (rns s) (j : Int) < 0
    · have e1 : rd (rns s) (j : Int) = -1 := by
        rcases rns_each s _ hm with e | e
        · exact e
        · omega
      rw [if_pos (by rw [e1]; exact List.mem_cons_self)]
      refine Ev.step (f := fun _ => some 5) (fun k => ?_) (Ev.now _)
      simp only [redpenref06_Right.l1]
      rw [if_pos (by omega), if_pos (by omega), hr, if_pos hn]
    · have e2 : ((-1 : Int) ∈ rd (rns s) (j : Int) :: (rns s).drop (j + 1)) ↔ (-1 : Int) ∈ (rns s).drop (j + 1) := by
        rw [List.mem_cons]
        constructor
        · rintro (e | e)
          · omega
          · exact e
        · exact .inr
      have e3 : (if (-1 : Int) ∈ rd (rns s) (j : Int) :: (rns s).drop (j + 1) then (5 : Int) else res) = if (-1 : Int) ∈ (rns s).drop (j + 1) then 5 else res := by
        by_cases hc : (-1 : Int) ∈ (rns s).drop (j + 1)
        · rw [if_pos hc, if_pos (e2.2 hc)]
        · rw [if_neg hc, if_neg (fun x => hc (e2.1 x))]
      rw [e3]
      refine Ev.step (fun k => ?_) (ih (j + 1) (by omega) (by omega))
      simp only [redpenref06_Right.l1]
      rw [if_pos (by omega), if_pos (by omega), hr, if_neg hn, show wrap64 ((j : Int) + 1) = ((j + 1 : Nat) : Int) by rw [w64 (by omega) (by omega)]; omega]
theorem right_l0 (L : List ByteArray) (hL : L.length ≤ 1000) : ∀ (d i : Nat) (p : ByteArray), L.length - i = d → i ≤ L.length → (∀ j : Nat, i = j + 1 → p = rdOf ByteArray.empty L (j : Int)) → Ev (fun k => redpenref06_Right.l0 k L (i : Int)) (rightC i p (L.drop i)) := by
  intro d
  induction d with
  | zero =>
    intro i p hd hi _
    rw [List.drop_of_length_le (by omega)]
    refine Ev.step (f := fun _ => some 0) (fun k => ?_) (Ev.now _)
    simp only [redpenref06_Right.l0]
    rw [if_neg (by omega)]
  | succ d ih =>
    intro i p hd hi hp
    have hlt : i < L.length := by omega
    obtain ⟨s, hs⟩ : ∃ s, s = rdOf ByteArray.empty L (i : Int) := ⟨_, rfl⟩
    have hdr : L.drop i = s :: L.drop (i + 1) := by
      rw [List.drop_eq_getElem_cons hlt, hs, rdOf_nat, List.getD_eq_getElem?_getD, List.getElem?_eq_getElem hlt]
      rfl
    rw [hdr]
    unfold rightC
    have ew : wrap64 ((i : Int) + 1) = ((i + 1 : Nat) : Int) := by rw [w64 (by omega) (by omega)]; omega
    have hnext := ih (i + 1) s (by omega) (by omega) (fun j hj => by rw [hs, show j = i by omega])
    by_cases c1 : s.toList = ([] : List UInt8)
    · rw [if_pos c1]
      refine Ev.step (f := fun _ => some 5) (fun k => ?_) (Ev.now _)
      simp only [redpenref06_Right.l0]
      rw [if_pos (by omega), if_pos (by omega), ← hs, if_pos c1]
    rw [if_neg c1]
    -- behind the order's test
    have rest : ∀ b : Bool, (b = true ↔ 0 < i ∧ Op.bytesLess p.toList s.toList = false) → Ev (fun k => redpenref06_Right.j1 k L (i : Int) b) (if 0 < i ∧ Op.bytesLess p.toList s.toList = false then 8 else if 64 < s.size then 3 else if 4096 ≤ i then 4 else if (-1 : Int) ∈ rns s then 5 else rightC (i + 1) s (L.drop (i + 1))) := by
      intro b hb
      cases b with
      | true =>
        rw [if_pos (hb.1 rfl)]
        refine Ev.step (f := fun _ => some 8) (fun k => ?_) (Ev.now _)
        simp only [redpenref06_Right.j1]
        rw [if_pos trivial]
      | false =>
        rw [if_neg (fun x => by have := hb.2 x; cases this)]
        by_cases c3 : 64 < s.size
        · rw [if_pos c3]
          refine Ev.step (f := fun _ => some 3) (fun k => ?_) (Ev.now _)
          simp only [redpenref06_Right.j1]
          rw [if_neg (by simp), if_pos (by omega), if_pos (by omega), ← hs, if_pos (by omega)]
        · rw [if_neg c3, if_neg (by omega)]
          have h1 := right_l1 L s (by omega) (i : Int) (res := rightC (i + 1) s (L.drop (i + 1))) (by rw [ew]; exact hnext) _ 0 rfl (by omega)
          rw [List.drop_zero] at h1
          refine Ev.step (f := fun k => (conv_bytes.f s).bind fun t => (redpenref01_Units.f k t).bind fun u => redpenref06_Right.l1 k L (i : Int) u 0) (fun k => ?_) ?_
          · simp only [redpenref06_Right.j1]
            rw [if_neg (by simp), if_pos (by omega), if_pos (by omega), ← hs, if_neg (by omega), if_neg (by omega)]
          · refine Ev.bind ⟨0, fun _ _ => conv_of_str s (by omega)⟩ (Ev.bind ⟨(bytesOf s).length + 7, fun k hk => refunits_eq (bytesOf_BT s) (by rw [bytesOf_length]; omega) hk⟩ ?_)
            exact h1
    by_cases h0 : 0 < i
    · have hpe : p = rdOf ByteArray.empty L ((i : Int) - 1) := by rw [hp (i - 1) (by omega), show ((i - 1 : Nat) : Int) = (i : Int) - 1 by omega]
      refine Ev.step (fun k => ?_) (rest (!(Op.bytesLess p.toList s.toList)) (by simp [h0]))
      simp only [redpenref06_Right.l0]
      rw [if_pos (by omega), if_pos (by omega), ← hs, if_neg c1, if_pos (by omega), show wrap64 ((i : Int) - 1) = (i : Int) - 1 from w64 (by omega) (by omega), if_pos (by omega), if_pos (by omega), ← hpe]
    · refine Ev.step (fun k => ?_) (rest false (by simp [h0]))
      simp only [redpenref06_Right.l0]
      rw [if_pos (by omega), if_pos (by omega), ← hs, if_neg c1, if_neg (by omega)]
theorem same_l0 (L : List ByteArray) (hL : L.length ≤ 1000) : ∀ (d i : Nat), L.length - i = d → i ≤ L.length → Ev (fun k => redpenref06_Same.l0 k L L (i : Int)) true := by
  intro d
  induction d with
  | zero =>
    intro i hd hi
    refine Ev.step (f := fun _ => some true) (fun k => ?_) (Ev.now _)
    simp only [redpenref06_Same.l0]
    rw [if_neg (by omega)]
  | succ d ih =>
    intro i hd hi
    refine Ev.step (fun k => ?_) (ih (i + 1) (by omega) (by omega))
    simp only [redpenref06_Same.l0]
    rw [if_pos (by omega), if_pos (by omega), if_pos (by omega), if_pos trivial, show wrap64 ((i : Int) + 1) = ((i + 1 : Nat) : Int) by rw [w64 (by omega) (by omega)]; omega]
theorem makes_of (L : List ByteArray) (hL : L.length ≤ 200) : Ev (fun k => redpenlaw07_TrieMakes.g k L) true := by
  have hR : Ev (fun k => redpenref06_Right.f k L) (rightC 0 ByteArray.empty L) := by
    have := right_l0 L (by omega) _ 0 ByteArray.empty rfl (by omega) (fun j hj => by omega)
    rw [List.drop_zero] at this
    exact this
  by_cases hr : rightC 0 ByteArray.empty L = 0
  · rw [hr] at hR
    obtain ⟨g1, g2, _, _⟩ := right_good L 0 ByteArray.empty hr
    obtain ⟨ns, P, W, e, hO⟩ := make_spec L g1 g2 (by omega)
    refine Ev.bind e (Ev.bind hR ?_)
    simp only [if_true]
    refine Ev.bind (a := (L.length : Int)) ⟨0, fun _ _ => rfl⟩ ?_
    simp only [if_true]
    have hw : Ev (fun k => trie_Trie_Words.f k [(ns, (L.length : Int))]) L := words_spec L g1 g2 hO (by omega)
    refine Ev.bind hw ?_
    refine Ev.congr (fun k => ?_) (same_l0 L (by omega) _ 0 rfl (by omega))
    unfold redpenref06_Same.f
    rw [if_pos rfl]
    rfl
  · refine Ev.bind (make_bad L hr (by omega)) (Ev.bind hR ?_)
    simp only [if_neg hr]
    refine Ev.congr (fun k => ?_) (Ev.now _)
    simp
theorem TrieMakes (l0 : List ByteArray) (a1 : Bool) (h0 : l0.length ≤ 1048576) (h1 : ∀ x ∈ l0, x.size ≤ 1048576) : ∃ k, redpenlaw07_TrieMakes.f k l0 a1 = some true := by
  refine Ev.rounds ?_
  unfold redpenlaw07_TrieMakes.f
  refine Ev.bind trie_awake ?_
  simp only [if_true]
  by_cases h2 : 200 < l0.length
  · simp only [if_pos h2]
    exact Ev.now _
  · simp only [if_neg h2]
    cases a1 with
    | true =>
      simp only [if_true]
      obtain ⟨L, e1, hO, hl⟩ := sorted_spec l0 (by omega) (fun s hs => by have := h1 s hs; omega)
      exact Ev.bind e1 (makes_of L (by omega))
    | false =>
      simp only [Bool.false_eq_true, if_false]
      exact makes_of l0 (by omega)
end Go.Proofs.Ytokgkhndhlcfpaa.Pure
