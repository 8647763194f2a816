/- TokenLengths: of all words those are told that have from least to most signs, in their order; no others. For any bytes. No condition beyond the statement's own. -/
import Derived.Test.YtmnohlmdckcdeaaBWordsUTokenLengths
namespace Go.Proofs.Ytmnohlmdckcdeaa.Pure
open Go.RowKit Go.Proofs.Ytmnohlmdckcdeaa.PTokenLengths Go.Proofs.YtmnohlmdckcdeaaW.PrintWords Go.Proofs.YtmnohlmdckcdeaaW.PrintLast
open Go.Proofs.Ytmnohlmdckcdeaa.M Go.Proofs.Ytmnohlmdckcdeaa.X
set_option linter.unusedVariables false
set_option linter.unusedSimpArgs false

theorem tok_awake : Ev (fun f => redpenlaw16_Awake.f f) true := Ev.of redpenlaw16_Awake.mono (k := 60) (by decide +kernel)
theorem pieces_small : ∀ ps, redpenlaw16_pieces.f = some ps → ∀ p ∈ ps, p.size ≤ 100 := by
  intro ps h
  injection h with h
  subst h
  decide +kernel
theorem samewords_from (x : List S50) (hx : x.length < 1000000000) : ∀ (d i : Nat), x.length - i = d → i ≤ x.length → Ev (fun f => redpenref15_SameWords.l0 f x x (i : Int)) true := by
  intro d
  induction d with
  | zero =>
    intro i hd hi
    refine Ev.step (f := fun _ => some true) (fun f => ?_) (Ev.now _)
    simp only [redpenref15_SameWords.l0]
    rw [if_neg (by omega)]
  | succ d ih =>
    intro i hd hi
    refine Ev.step (f := fun f => redpenref15_SameWords.l0 f x x ((i + 1 : Nat) : Int)) (fun f => ?_) (ih (i + 1) (by omega) (by omega))
    simp only [redpenref15_SameWords.l0]
    rw [if_pos (by omega), if_pos (by omega), if_pos (by omega), if_neg (by simp), show wrap64 ((i : Int) + 1) = ((i + 1 : Nat) : Int) by rw [w64 (by omega) (by omega)]; omega]
theorem samewords_eq (x : List S50) (hx : x.length < 1000000000) : Ev (fun f => redpenref15_SameWords.f f x x) true := by
  refine Ev.congr (f := fun f => redpenref15_SameWords.l0 f x x ((0 : Nat) : Int)) (fun f => ?_) (samewords_from x hx _ 0 rfl (by omega))
  unfold redpenref15_SameWords.f
  rw [if_pos rfl]
  rfl
/-- A part's word has as many signs as the part. -/
theorem part_count {b : List Int} (hB : BT b) (hbl : b.length < 1000000) {p : Nat × Nat} (h1 : p.1 < p.2) (h2 : p.2 ≤ (rs b).length) (hin : ∀ t : Nat, p.1 ≤ t → t < p.2 → inn (rs b) (t : Int) = true) : ∃ l : List Int, Ev (fun f => utf_Runes.f f (strOfNums (bytesAt b p))) l ∧ l.length = p.2 - p.1 := by
  have h2' : p.2 ≤ (us b).length := by rw [rs_len] at h2; exact h2
  have hl := us_len b
  have hBB : BT (bytesAt b p) := (hB.take _).drop _
  have hlen : (bytesAt b p).length ≤ b.length := by unfold bytesAt; rw [List.length_drop, List.length_take]; omega
  refine ⟨rs (bytesAt b p), ⟨(bytesAt b p).length + 8, fun k hk => runes_of hBB (by omega) hk⟩, ?_⟩
  rw [bytesAt_rs p (by omega) h2', List.length_drop, List.length_take]
  omega
theorem allOk_count {R : List Int} : ∀ (Q : List (Nat × Nat)) (s : Nat), AllOk R s Q → s ≤ R.length → Q.length ≤ R.length - s
  | [], _, _, _ => by simp
  | (a, c) :: Q, s, h, hs => by
    obtain ⟨h1, h2, h3, _, _, h6⟩ := h
    have := allOk_count Q c h6 h3
    simp only [List.length_cons]
    omega
/-- One step of the law's loop. -/
theorem lengths_step (b : List Int) (u : List S53) (lo hi : Int) (acc W : List S50) (i : Nat) (w : S50) (hi' : i < W.length) (hW : W.length < 1000000) (ha : acc.length < 1000000) (hw : rd_T50 W (i : Int) = w) (n : Nat) (hl : ∃ l : List Int, Ev (fun f => utf_Runes.f f w.f0) l ∧ l.length = n)
    (hy : lo ≤ (n : Int) ∧ (n : Int) ≤ hi → Ev (fun f => redpenlaw16_TokenLengths.l0 f b u lo hi (acc ++ [w]) W (W.length : Int) ((i + 1 : Nat) : Int)) true)
    (hn : ¬ (lo ≤ (n : Int) ∧ (n : Int) ≤ hi) → Ev (fun f => redpenlaw16_TokenLengths.l0 f b u lo hi acc W (W.length : Int) ((i + 1 : Nat) : Int)) true) :
    Ev (fun f => redpenlaw16_TokenLengths.l0 f b u lo hi acc W (W.length : Int) (i : Int)) true := by
  have ew : wrap64 ((i : Int) + 1) = ((i + 1 : Nat) : Int) := by rw [w64 (by omega) (by omega)]; omega
  obtain ⟨l, hl, rfl⟩ := hl
  subst hw
  have e0 : ∀ f, redpenlaw16_TokenLengths.l0 (f + 1) b u lo hi acc W (W.length : Int) (i : Int) = (utf_Runes.f f (rd_T50 W (i : Int)).f0).bind fun t => if (t.length : Int) ≥ lo then (if (t.length : Int) ≤ hi then redpenlaw16_TokenLengths.l0 f b u lo hi (acc ++ [rd_T50 W (i : Int)]) W (W.length : Int) ((i + 1 : Nat) : Int) else redpenlaw16_TokenLengths.l0 f b u lo hi acc W (W.length : Int) ((i + 1 : Nat) : Int)) else redpenlaw16_TokenLengths.l0 f b u lo hi acc W (W.length : Int) ((i + 1 : Nat) : Int) := by
    intro f
    simp only [redpenlaw16_TokenLengths.l0]
    rw [if_pos (show (i : Int) < (W.length : Int) by omega), if_pos (show (0 : Int) ≤ (i : Int) by omega), ew]
    simp only [if_pos (show (i : Int) < (W.length : Int) by omega), if_pos (show acc.length < 3518437208883 by omega)]
  refine Ev.step e0 (Ev.bind hl ?_)
  by_cases q1 : (l.length : Int) ≥ lo
  · by_cases q2 : (l.length : Int) ≤ hi
    · simp only [if_pos q1, if_pos q2]
      exact hy ⟨q1, q2⟩
    · simp only [if_pos q1, if_neg q2]
      exact hn (fun h => q2 h.2)
  · simp only [if_neg q1]
    exact hn (fun h => q1 h.1)
theorem lengths_from {b : List Int} (hB : BT b) (hbl : b.length < 1000000) (Q : List (Nat × Nat)) (hQ : ∀ p ∈ Q, p.1 < p.2 ∧ p.2 ≤ (rs b).length ∧ ∀ t : Nat, p.1 ≤ t → t < p.2 → inn (rs b) (t : Int) = true) (hql : Q.length < 1000000) (lo hi : Int) (u : List S53)
    (hE : Ev (fun f => token_Words.f f b u lo hi) ((Q.filter (sel lo hi)).map (wdU b))) : ∀ (d i : Nat), Q.length - i = d → i ≤ Q.length →
    Ev (fun f => redpenlaw16_TokenLengths.l0 f b u lo hi (((Q.take i).filter (sel lo hi)).map (wdU b)) (Q.map (wdU b)) ((Q.map (wdU b)).length : Int) (i : Int)) true := by
  intro d
  induction d with
  | zero =>
    intro i hd hi'
    refine Ev.step (f := fun f => (token_Words.f f b u lo hi).bind fun t => (redpenref15_SameWords.f f t (((Q.take i).filter (sel lo hi)).map (wdU b))).bind fun r => some r) (fun f => ?_) (Ev.bind hE ?_)
    · simp only [redpenlaw16_TokenLengths.l0]
      rw [if_neg (by rw [List.length_map]; omega)]
    · rw [List.take_of_length_le (by omega)]
      have hfl := List.length_filter_le (sel lo hi) Q
      exact Ev.bind (samewords_eq _ (by rw [List.length_map]; omega)) (Ev.now _)
  | succ d ih =>
    intro i hd hi'
    have hlt : i < Q.length := by omega
    obtain ⟨h1, h2, h3⟩ := hQ Q[i] (List.getElem_mem hlt)
    obtain ⟨l, hl, hll⟩ := part_count hB hbl h1 h2 h3
    have hget : rd_T50 (Q.map (wdU b)) (i : Int) = wdU b Q[i] := by
      unfold rd_T50
      rw [Int.toNat_natCast, List.getD_eq_getElem?_getD, List.getElem?_map, List.getElem?_eq_getElem hlt]
      rfl
    have hfl := List.length_filter_le (sel lo hi) (Q.take i)
    rw [List.length_take] at hfl
    have htk : (Q.take (i + 1)).filter (sel lo hi) = (Q.take i).filter (sel lo hi) ++ (if sel lo hi Q[i] = true then [Q[i]] else []) := by
      rw [List.take_succ_eq_append_getElem hlt, List.filter_append]
      congr 1
      rw [List.filter_cons]
      simp
    have hn := ih (i + 1) (by omega) (by omega)
    rw [htk, List.map_append] at hn
    refine lengths_step b u lo hi _ _ i (wdU b Q[i]) (by rw [List.length_map]; omega) (by rw [List.length_map]; omega) (by rw [List.length_map]; omega) hget (Q[i].2 - Q[i].1) ⟨l, hl, hll⟩ (fun q => ?_) (fun q => ?_)
    · have hs : sel lo hi Q[i] = true := by unfold sel; rw [decide_eq_true q.1, decide_eq_true q.2]; rfl
      rw [if_pos hs] at hn
      exact hn
    · have hs : ¬ sel lo hi Q[i] = true := by
        unfold sel
        rw [Bool.and_eq_true, decide_eq_true_eq, decide_eq_true_eq]
        exact q
      rw [if_neg hs, List.map_nil, List.append_nil] at hn
      exact hn
theorem TokenLengths : redpenlaw16_TokenLengths.Pure := by
  intro l0 l1 a2 a3 _ h0 hB0 _ h1 hB1 hw2 hw3
  have b0 := BT_of_wf hB0
  have b1 := BT_of_wf hB1
  refine Ev.rounds ?_
  unfold redpenlaw16_TokenLengths.f
  refine Ev.bind tok_awake ?_
  by_cases hl : (l0.length : Int) > 500
  · simp only [if_pos hl, if_true]
    exact Ev.now _
  · simp only [if_neg hl, if_true]
    obtain ⟨ps, hps⟩ : ∃ ps, redpenlaw16_pieces.f = some ps := ⟨_, rfl⟩
    simp only [hps, Option.bind_some]
    obtain ⟨b, hB, hbl, hb⟩ := bits_eq ps (pieces_small ps hps) l0 l1 b0 b1 (by omega) (by omega)
    refine Ev.bind hb (Ev.bind (units_ev hB (by omega)) ?_)
    obtain ⟨Q, hQ, hE⟩ := wordsU_eq hB (by omega)
    have hul := us_len b
    have hrl := rs_len b
    have hcount := allOk_count Q 0 hQ (Nat.zero_le _)
    have hmem := allOk_mem Q 0 hQ
    have hall : Q.filter (sel 0 1073741824) = Q := by
      rw [List.filter_eq_self]
      intro p hp
      obtain ⟨_, g1, g2, _⟩ := hmem p hp
      unfold sel
      rw [decide_eq_true (by omega), decide_eq_true (by omega)]
      rfl
    have h0' := hE 0 1073741824
    rw [hall] at h0'
    refine Ev.bind h0' ?_
    have := lengths_from hB (by omega) Q (fun p hp => (hmem p hp).2) (by omega) (wrap64 (Int.tmod a2 6)) (wrap64 (Int.tmod a3 14)) (mkU 0 (us b)) (hE _ _) _ 0 rfl (by omega)
    simpa using this
end Go.Proofs.Ytmnohlmdckcdeaa.Pure
