/- The printed token.Words: the parts of all runs, those that are wanted, as words. -/
import Derived.Test.YtmnohlmdckcdeaaBTokLTokenCases
namespace Go.Proofs.Ytmnohlmdckcdeaa.Pure
open Go.RowKit Go.Proofs.Ytmnohlmdckcdeaa.PTokenCases Go.Proofs.YtmnohlmdckcdeaaW.PrintWords Go.Proofs.YtmnohlmdckcdeaaW.PrintLast
open Go.Proofs.Ytmnohlmdckcdeaa.M Go.Proofs.Ytmnohlmdckcdeaa.X
set_option linter.unusedVariables false
set_option linter.unusedSimpArgs false

/-- Signs from a place up to another one. -/
def sub (u : List S53) (p : Nat × Nat) : List S53 := (u.take p.2).drop p.1
theorem sub_len (u : List S53) {p : Nat × Nat} (h : p.2 ≤ u.length) : (sub u p).length = p.2 - p.1 := by
  unfold sub
  rw [List.length_drop, List.length_take]
  omega
theorem sub_get (u : List S53) {p : Nat × Nat} (h : p.2 ≤ u.length) (i : Nat) (hi : p.1 + i < p.2) : rd_T53 (sub u p) (i : Int) = rd_T53 u ((p.1 + i : Nat) : Int) := by
  unfold rd_T53 sub
  rw [Int.toNat_natCast, Int.toNat_natCast, List.getD_eq_getElem?_getD, List.getD_eq_getElem?_getD, List.getElem?_drop, List.getElem?_take_of_lt hi]
/-- A word's place. -/
def spanAt (u : List S53) (p : Nat × Nat) : S48 := ⟨(rd_T53 u (p.1 : Int)).f1.f0, wrap64 (wrap64 ((rd_T53 u ((p.2 - 1 : Nat) : Int)).f1.f0 + (rd_T53 u ((p.2 - 1 : Nat) : Int)).f1.f1) - (rd_T53 u (p.1 : Int)).f1.f0)⟩
/-- Is a part wanted? -/
def sel (lo hi : Int) (p : Nat × Nat) : Bool := decide (lo ≤ ((p.2 - p.1 : Nat) : Int)) && decide (((p.2 - p.1 : Nat) : Int) ≤ hi)
section
variable (x : List Int) (u : List S53) (lo hi : Int) (tx : Nat × Nat → ByteArray) (lt : Nat × Nat → Bool)
def wdG (p : Nat × Nat) : S50 := ⟨tx p, spanAt u p, lt p⟩
theorem words_l1 (hn : u.length < 1000000000) (hT : ∀ p : Nat × Nat, p.1 < p.2 → p.2 ≤ u.length → (∀ t : Nat, p.1 ≤ t → t < p.2 → inn (runesOf u) (t : Int) = true) → Ev (fun f => decode_Text.f f (sub u p)) (tx p)) (hL : ∀ p : Nat × Nat, p.1 < p.2 → p.2 ≤ u.length → (∀ t : Nat, p.1 ≤ t → t < p.2 → inn (runesOf u) (t : Int) = true) → Ev (fun f => decode_Literal.f f x (sub u p)) (lt p))
    (RS : List S33) (n i : Int) (b : Nat) (hb : b ≤ u.length) (r : List S50) : ∀ (ps dn : List (Nat × Nat)) (a : Nat), PartsOk a b ps → (∀ t : Nat, a ≤ t → t < b → inn (runesOf u) (t : Int) = true) → (dn ++ ps).length < 1000000000 → ∀ acc : List S50, acc.length ≤ a →
    ((acc ++ (ps.filter (sel lo hi)).map (wdG u tx lt)).length ≤ b → Ev (fun f => token_Words.l0 f x u lo hi (acc ++ (ps.filter (sel lo hi)).map (wdG u tx lt)) RS n (wrap64 (i + 1))) r) →
    Ev (fun f => token_Words.l1 f x u lo hi acc RS n i ((dn ++ ps).map mkP) (((dn ++ ps).map mkP).length : Int) (dn.length : Int)) r := by
  intro ps
  induction ps with
  | nil =>
    intro dn a hP hin hl acc ha hr
    have hab : a = b := hP
    refine Ev.step (f := fun f => token_Words.l0 f x u lo hi acc RS n (wrap64 (i + 1))) (fun f => ?_) (by
      have := hr (by simp; omega)
      simpa using this)
    simp only [token_Words.l1]
    rw [if_neg (by simp)]
  | cons p ps ih =>
    intro dn a hP hin hl acc ha hr
    obtain ⟨p1, p2⟩ := p
    obtain ⟨rfl, h1, h2, h3⟩ := hP
    have hlen : (((dn ++ (p1, p2) :: ps).map mkP).length : Int) = ((dn.length + ps.length + 1 : Nat) : Int) := by simp; omega
    have hget : rd_T33 ((dn ++ (p1, p2) :: ps).map mkP) (dn.length : Int) = mkP (p1, p2) := by
      unfold rd_T33
      rw [Int.toNat_natCast, List.getD_eq_getElem?_getD, List.getElem?_map, List.getElem?_append_right (Nat.le_refl _)]
      simp
    simp only [List.length_append, List.length_cons] at hl
    have ew : wrap64 ((dn.length : Int) + 1) = ((dn ++ [(p1, p2)]).length : Int) := by rw [w64 (by omega) (by omega)]; simp
    have hs := sub_len u (p := (p1, p2)) (by show p2 ≤ _; omega)
    have hs' : ((sub u (p1, p2)).length : Int) = ((p2 - p1 : Nat) : Int) := by rw [hs]
    -- what follows, with this word or without it
    have next : ∀ acc' : List S50, acc'.length ≤ p2 → acc' ++ (ps.filter (sel lo hi)).map (wdG u tx lt) = acc ++ (((p1, p2) :: ps).filter (sel lo hi)).map (wdG u tx lt) →
        Ev (fun f => token_Words.l1 f x u lo hi acc' RS n i ((dn ++ (p1, p2) :: ps).map mkP) (((dn ++ (p1, p2) :: ps).map mkP).length : Int) ((dn ++ [(p1, p2)]).length : Int)) r := by
      intro acc' ha' he
      have := ih (dn ++ [(p1, p2)]) p2 h3 (fun t q q' => hin t (by omega) q') (by simp; omega) acc' ha' (fun hb' => by rw [he] at hb' ⊢; exact hr hb')
      simpa using this
    have step : ∀ k, token_Words.l1 (k + 1) x u lo hi acc RS n i ((dn ++ (p1, p2) :: ps).map mkP) (((dn ++ (p1, p2) :: ps).map mkP).length : Int) (dn.length : Int) =
        token_Words.j2 k x u lo hi acc (sub u (p1, p2)) RS n i ((dn ++ (p1, p2) :: ps).map mkP) (((dn ++ (p1, p2) :: ps).map mkP).length : Int) (dn.length : Int) (!sel lo hi (p1, p2)) := by
      intro k
      simp only [token_Words.l1]
      rw [hget, if_pos (by rw [hlen]; omega), if_pos (by omega), if_pos (by rw [hlen]; omega), if_pos (show (0 : Int) ≤ (mkP (p1, p2)).f0 from Int.natCast_nonneg p1), if_pos (show (mkP (p1, p2)).f0 ≤ (mkP (p1, p2)).f1 by show (p1 : Int) ≤ (p2 : Int); omega),
        if_pos (show (mkP (p1, p2)).f1 ≤ (u.length : Int) by show (p2 : Int) ≤ (u.length : Int); omega)]
      simp only [Option.bind_some]
      show (if ((sub u (p1, p2)).length : Int) < lo then token_Words.j2 k x u lo hi acc (sub u (p1, p2)) RS n i _ _ _ true else token_Words.j2 k x u lo hi acc (sub u (p1, p2)) RS n i _ _ _ (decide (((sub u (p1, p2)).length : Int) > hi))) = _
      rw [hs']
      unfold sel
      by_cases q1 : ((p2 - p1 : Nat) : Int) < lo
      · rw [if_pos q1, decide_eq_false (show ¬ lo ≤ ((p2 - p1 : Nat) : Int) by omega)]
        rfl
      · rw [if_neg q1, decide_eq_true (show lo ≤ ((p2 - p1 : Nat) : Int) by omega), Bool.true_and]
        by_cases q2 : ((p2 - p1 : Nat) : Int) ≤ hi
        · rw [decide_eq_true q2, decide_eq_false (show ¬ ((p2 - p1 : Nat) : Int) > hi by omega)]
          rfl
        · rw [decide_eq_false q2, decide_eq_true (show ((p2 - p1 : Nat) : Int) > hi by omega)]
          rfl
    refine Ev.step step ?_
    cases hsel : sel lo hi (p1, p2)
    · refine Ev.step (f := fun f => token_Words.l1 f x u lo hi acc RS n i ((dn ++ (p1, p2) :: ps).map mkP) (((dn ++ (p1, p2) :: ps).map mkP).length : Int) ((dn ++ [(p1, p2)]).length : Int)) (fun f => ?_) (next acc (by omega) (by rw [List.filter_cons, if_neg (by rw [hsel]; decide)]))
      simp only [token_Words.j2, Bool.not_false, if_true]
      rw [ew]
    · have hL0 : wrap64 (((p2 - p1 : Nat) : Int) - 1) = ((p2 - p1 - 1 : Nat) : Int) := by rw [w64 (by omega) (by omega)]; omega
      have g0 := sub_get u (p := (p1, p2)) (by show p2 ≤ _; omega) 0 (by show p1 + 0 < p2; omega)
      have g1 := sub_get u (p := (p1, p2)) (by show p2 ≤ _; omega) (p2 - p1 - 1) (by show p1 + (p2 - p1 - 1) < p2; omega)
      simp only [show p1 + (p2 - p1 - 1) = p2 - 1 by omega, Nat.add_zero] at g0 g1
      have hw : (⟨tx (p1, p2), (⟨(rd_T53 (sub u (p1, p2)) 0).f1.f0, wrap64 ((wrap64 (((rd_T53 (sub u (p1, p2)) ((p2 - p1 - 1 : Nat) : Int)).f1.f0) + ((rd_T53 (sub u (p1, p2)) ((p2 - p1 - 1 : Nat) : Int)).f1.f1))) - ((rd_T53 (sub u (p1, p2)) 0).f1.f0))⟩ : S48), lt (p1, p2)⟩ : S50) = wdG u tx lt (p1, p2) := by
        have g0' : rd_T53 (sub u (p1, p2)) 0 = rd_T53 u (p1 : Int) := g0
        rw [g0', g1]
        rfl
      refine Ev.step (f := fun f => (decode_Text.f f (sub u (p1, p2))).bind fun t => (decode_Literal.f f x (sub u (p1, p2))).bind fun l => token_Words.l1 f x u lo hi (acc ++ [(⟨t, (⟨(rd_T53 (sub u (p1, p2)) 0).f1.f0, wrap64 ((wrap64 (((rd_T53 (sub u (p1, p2)) ((p2 - p1 - 1 : Nat) : Int)).f1.f0) + ((rd_T53 (sub u (p1, p2)) ((p2 - p1 - 1 : Nat) : Int)).f1.f1))) - ((rd_T53 (sub u (p1, p2)) 0).f1.f0))⟩ : S48), l⟩ : S50)]) RS n i ((dn ++ (p1, p2) :: ps).map mkP) (((dn ++ (p1, p2) :: ps).map mkP).length : Int) ((dn ++ [(p1, p2)]).length : Int)) (fun f => ?_) (Ev.bind (hT (p1, p2) h1 (by show p2 ≤ _; omega) (fun t q q' => hin t q (Nat.lt_of_lt_of_le q' h2))) (Ev.bind (hL (p1, p2) h1 (by show p2 ≤ _; omega) (fun t q q' => hin t q (Nat.lt_of_lt_of_le q' h2))) ?_))
      · simp only [token_Words.j2, Bool.not_true, Bool.false_eq_true, if_false]
        rw [hs', hL0, if_pos (by omega), if_pos (by omega), if_pos (by omega), ew]
        simp only [if_pos (show acc.length < 3518437208883 by omega)]
      · rw [hw]
        exact next (acc ++ [wdG u tx lt (p1, p2)]) (by simp; omega) (by rw [List.filter_cons, if_pos hsel, List.map_cons, List.append_assoc]; rfl)
/-- The parts of all runs from a place on. -/
def AllOk (R : List Int) : Nat → List (Nat × Nat) → Prop
  | s, [] => ∀ t : Nat, s ≤ t → inn R (t : Int) = false
  | s, (p, q) :: Q => s ≤ p ∧ p < q ∧ q ≤ R.length ∧ (∀ t : Nat, s ≤ t → t < p → inn R (t : Int) = false) ∧ (∀ t : Nat, p ≤ t → t < q → inn R (t : Int) = true) ∧ AllOk R q Q
theorem allOk_parts {R : List Int} {b : Nat} {Q : List (Nat × Nat)} (hQ : AllOk R b Q) (hb : b ≤ R.length) : ∀ (ps : List (Nat × Nat)) (a : Nat), PartsOk a b ps → (∀ t : Nat, a ≤ t → t < b → inn R (t : Int) = true) → AllOk R a (ps ++ Q)
  | [], a, h, _ => by have : a = b := h; rw [this]; exact hQ
  | (p, q) :: ps, a, h, hin => by
    obtain ⟨rfl, h1, h2, h3⟩ := h
    exact ⟨Nat.le_refl _, h1, by omega, fun t h h' => by omega, fun t h h' => hin t h (by omega), allOk_parts hQ hb ps q h3 (fun t h h' => hin t (by omega) h')⟩
theorem allOk_later {R : List Int} {s s' : Nat} {Q : List (Nat × Nat)} (hQ : AllOk R s Q) (h : s' ≤ s) (hf : ∀ t : Nat, s' ≤ t → t < s → inn R (t : Int) = false) : AllOk R s' Q := by
  cases Q with
  | nil => exact fun t ht => if e : t < s then hf t ht e else hQ t (by omega)
  | cons p Q =>
    obtain ⟨p, q⟩ := p
    obtain ⟨h1, h2, h3, h4, h5, h6⟩ := hQ
    exact ⟨by omega, h2, h3, fun t a b => if e : t < s then hf t a e else h4 t (by omega) b, h5, h6⟩
/-- The parts, run by run, each cut where it is to be. -/
def QOk (R : List Int) : List (Nat × Nat) → List (Nat × Nat) → Prop
  | [], Q => Q = []
  | (a, b) :: rs, Q => ∃ ps Q' : List (Nat × Nat), Q = ps ++ Q' ∧ PartsOk a b ps ∧ (∀ p ∈ ps.tail, cutAt R (a : Int) (b : Int) (p.1 : Int) = true) ∧ (∀ t : Nat, a < t → t < b → cutAt R (a : Int) (b : Int) (t : Int) = true → ∃ p ∈ ps.tail, p.1 = t) ∧ QOk R rs Q'
theorem words_l0 (hn : u.length < 1000000000) (hT : ∀ p : Nat × Nat, p.1 < p.2 → p.2 ≤ u.length → (∀ t : Nat, p.1 ≤ t → t < p.2 → inn (runesOf u) (t : Int) = true) → Ev (fun f => decode_Text.f f (sub u p)) (tx p)) (hL : ∀ p : Nat × Nat, p.1 < p.2 → p.2 ≤ u.length → (∀ t : Nat, p.1 ≤ t → t < p.2 → inn (runesOf u) (t : Int) = true) → Ev (fun f => decode_Literal.f f x (sub u p)) (lt p)) :
    ∀ (rs dn : List (Nat × Nat)) (s : Nat), RunsOk (runesOf u) s rs → (dn ++ rs).length < 1000000000 → ∃ Q : List (Nat × Nat), AllOk (runesOf u) s Q ∧ QOk (runesOf u) rs Q ∧ ∀ (lo hi : Int) (acc : List S50), acc.length ≤ s →
      Ev (fun f => token_Words.l0 f x u lo hi acc ((dn ++ rs).map mkP) (((dn ++ rs).map mkP).length : Int) (dn.length : Int)) (acc ++ (Q.filter (sel lo hi)).map (wdG u tx lt)) := by
  intro rs
  induction rs with
  | nil =>
    intro dn s hR hl
    refine ⟨[], hR, rfl, fun lo hi acc ha => Ev.step (f := fun _ => some acc) (fun f => ?_) (by simpa using Ev.now acc)⟩
    simp only [token_Words.l0]
    rw [if_neg (by simp)]
  | cons p rs ih =>
    intro dn s hR hl
    obtain ⟨a, b⟩ := p
    obtain ⟨h1, h2, h3, h4, h5, h6, h7, h8⟩ := hR
    rw [runesOf_len] at h3
    simp only [List.length_append, List.length_cons] at hl
    obtain ⟨Q, hQ, hK, hE⟩ := ih (dn ++ [(a, b)]) b h8 (by simp; omega)
    obtain ⟨ps, q1, q2, q3, q4⟩ := toksplit_eq u hn (a : Int) (b : Int)
    have hm : mx (a : Int) 0 = (a : Int) := by unfold mx; split <;> omega
    have hm2 : mn (b : Int) (u.length : Int) = (b : Int) := by unfold mn; split <;> omega
    rw [hm, hm2] at q1
    have q1c := q1 (by omega)
    simp only [Int.toNat_natCast] at q1c
    have q1' := q1c.1
    refine ⟨ps ++ Q, allOk_later (allOk_parts hQ (by rw [runesOf_len]; exact h3) ps a q1' h5) h1 h4, ⟨ps, Q, rfl, q1', q1c.2.1, q1c.2.2, hK⟩, fun lo hi acc ha => ?_⟩
    have hlen : (((dn ++ (a, b) :: rs).map mkP).length : Int) = ((dn.length + rs.length + 1 : Nat) : Int) := by simp; omega
    have hget : rd_T33 ((dn ++ (a, b) :: rs).map mkP) (dn.length : Int) = mkP (a, b) := by
      unfold rd_T33
      rw [Int.toNat_natCast, List.getD_eq_getElem?_getD, List.getElem?_map, List.getElem?_append_right (Nat.le_refl _)]
      simp
    have ew : wrap64 ((dn.length : Int) + 1) = ((dn ++ [(a, b)]).length : Int) := by rw [w64 (by omega) (by omega)]; simp
    refine Ev.step (f := fun f => (token_Split.f f u (a : Int) (b : Int)).bind fun t => token_Words.l1 f x u lo hi acc ((dn ++ (a, b) :: rs).map mkP) (((dn ++ (a, b) :: rs).map mkP).length : Int) (dn.length : Int) t (t.length : Int) 0) (fun f => ?_) (Ev.bind q4 ?_)
    · simp only [token_Words.l0]
      rw [hget, if_pos (by rw [hlen]; omega), if_pos (by omega), if_pos (by rw [hlen]; omega)]
      rfl
    · have := words_l1 x u lo hi tx lt hn hT hL ((dn ++ (a, b) :: rs).map mkP) (((dn ++ (a, b) :: rs).map mkP).length : Int) (dn.length : Int) b h3 (acc ++ ((ps ++ Q).filter (sel lo hi)).map (wdG u tx lt)) ps [] a q1' h5 (by simp; omega) acc (by omega) (fun hb => by
        rw [ew]
        have h := hE lo hi (acc ++ (ps.filter (sel lo hi)).map (wdG u tx lt)) hb
        simpa using h)
      simpa using this
/-- The words, and how they are cut. -/
theorem words_cut (hn : u.length < 1000000000) (hT : ∀ p : Nat × Nat, p.1 < p.2 → p.2 ≤ u.length → (∀ t : Nat, p.1 ≤ t → t < p.2 → inn (runesOf u) (t : Int) = true) → Ev (fun f => decode_Text.f f (sub u p)) (tx p)) (hL : ∀ p : Nat × Nat, p.1 < p.2 → p.2 ≤ u.length → (∀ t : Nat, p.1 ≤ t → t < p.2 → inn (runesOf u) (t : Int) = true) → Ev (fun f => decode_Literal.f f x (sub u p)) (lt p)) :
    ∃ rs Q : List (Nat × Nat), RunsOk (runesOf u) 0 rs ∧ QOk (runesOf u) rs Q ∧ AllOk (runesOf u) 0 Q ∧ ∀ lo hi : Int, Ev (fun f => token_Words.f f x u lo hi) ((Q.filter (sel lo hi)).map (wdG u tx lt)) := by
  obtain ⟨rs, h1, h2, h3⟩ := tokruns_eq u hn
  obtain ⟨Q, hQ, hK, hE⟩ := words_l0 x u tx lt hn hT hL rs [] 0 h1 (by simpa using Nat.lt_of_le_of_lt h2 hn)
  refine ⟨rs, Q, h1, hK, hQ, fun lo hi => ?_⟩
  have h := hE lo hi [] (Nat.le_refl _)
  refine Ev.bind h3 ?_
  simpa using h
/-- The words. -/
theorem words_in (hn : u.length < 1000000000) (hT : ∀ p : Nat × Nat, p.1 < p.2 → p.2 ≤ u.length → (∀ t : Nat, p.1 ≤ t → t < p.2 → inn (runesOf u) (t : Int) = true) → Ev (fun f => decode_Text.f f (sub u p)) (tx p)) (hL : ∀ p : Nat × Nat, p.1 < p.2 → p.2 ≤ u.length → (∀ t : Nat, p.1 ≤ t → t < p.2 → inn (runesOf u) (t : Int) = true) → Ev (fun f => decode_Literal.f f x (sub u p)) (lt p)) :
    ∃ Q : List (Nat × Nat), AllOk (runesOf u) 0 Q ∧ ∀ lo hi : Int, Ev (fun f => token_Words.f f x u lo hi) ((Q.filter (sel lo hi)).map (wdG u tx lt)) := by
  obtain ⟨_, Q, _, _, hQ, hE⟩ := words_cut x u tx lt hn hT hL
  exact ⟨Q, hQ, hE⟩
end
end Go.Proofs.Ytmnohlmdckcdeaa.Pure
