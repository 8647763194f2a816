/- The reference's runs and parts are the text's. -/
import Derived.Test.YtmnohlmdckcdeaaBTokTokenRuns
namespace Go.Proofs.Ytmnohlmdckcdeaa.Pure
open Go.RowKit Go.Proofs.Ytmnohlmdckcdeaa.PTokenRuns Go.Proofs.YtmnohlmdckcdeaaW.PrintWords Go.Proofs.YtmnohlmdckcdeaaW.PrintLast
open Go.Proofs.Ytmnohlmdckcdeaa.M Go.Proofs.Ytmnohlmdckcdeaa.X
set_option linter.unusedVariables false
set_option linter.unusedSimpArgs false

theorem rgreat_eq (r : Int) : redpenref01_Great.f r = some (great r) := by
  unfold redpenref01_Great.f
  cases h : great r
  · rw [great_not] at h
    (repeat' split) <;> first | rfl | omega | (rw [Option.some.injEq, bne_eq_false_iff_eq]; omega)
  · rw [great_iff] at h
    (repeat' split) <;> first | rfl | omega | (rw [Option.some.injEq, bne_iff_ne]; omega)
theorem rsmall_eq {r : Int} (h0 : -2147483600 ≤ r) (h1 : r < 2147483648) : redpenref01_Small.f r = some (small r) := by
  unfold redpenref01_Small.f
  rw [w32 (by omega) (by omega)]
  exact ob (rgreat_eq _) rfl
theorem rletter_eq {r : Int} (h0 : -2147483600 ≤ r) (h1 : r < 2147483648) : redpenref01_Letter.f r = some (letter r) := by
  unfold redpenref01_Letter.f
  refine ob (rgreat_eq r) ?_
  have hi := letter_iff r
  cases hg : great r
  · rw [if_neg (by decide)]
    refine ob (rsmall_eq h0 h1) ?_
    cases hs : small r
    · rw [if_neg (by decide)]
      rw [hg, hs] at hi
      simp only [Bool.false_eq_true, false_or] at hi
      cases hl : letter r
      · rw [hl] at hi
        simp only [Bool.false_eq_true, false_iff] at hi
        (repeat' split) <;> first | rfl | omega | (rw [Option.some.injEq, decide_eq_false_iff_not]; omega)
      · have h := hi.1 hl
        (repeat' split) <;> first | rfl | omega | (rw [Option.some.injEq, decide_eq_true_iff]; omega)
    · rw [if_pos rfl, hi.2 (.inr (.inl hs))]
  · rw [if_pos rfl, hi.2 (.inl hg)]
/-- Runes are within bounds. -/
def RB (u : List S53) : Prop := ∀ r ∈ runesOf u, -1 ≤ r ∧ r ≤ 1114111
theorem RB.rd {u : List S53} (h : RB u) (i : Int) : -1 ≤ rd (runesOf u) i ∧ rd (runesOf u) i ≤ 1114111 := by
  unfold Go.Proofs.YtmnohlmdckcdeaaW.PrintWords.rd
  rw [List.getD_eq_getElem?_getD]
  cases e : (runesOf u)[i.toNat]? with
  | none => simp
  | some x => exact h x (List.mem_of_getElem? e)
theorem refletter_eq {u : List S53} (hu : RB u) (i : Int) : redpenref15_letter.f u i = some (ltr (runesOf u) i) := by
  unfold redpenref15_letter.f ltr
  rw [runesOf_len]
  by_cases h0 : 0 ≤ i
  · rw [if_pos (show i ≥ 0 from h0), decide_eq_true h0]
    by_cases h1 : i < (u.length : Int)
    · rw [if_pos h1, if_pos h0, decide_eq_true h1, rd_unit]
      have := hu.rd i
      exact ob (rletter_eq (by omega) (by omega)) (by simp)
    · rw [if_neg h1, decide_eq_false h1]
      simp
  · rw [if_neg (show ¬ i ≥ 0 from h0), decide_eq_false h0]
    simp
theorem refinner_eq {u : List S53} (hu : RB u) (hn : u.length < 1000000000) (i : Int) : redpenref15_inner.f u i = some (inn (runesOf u) i) := by
  unfold redpenref15_inner.f inn
  refine ob (refletter_eq hu i) ?_
  rw [runesOf_len]
  cases hl : ltr (runesOf u) i
  · rw [if_neg (by decide)]
    by_cases h0 : 0 < i
    · rw [if_pos (show i > 0 from h0), decide_eq_true h0]
      by_cases h1 : i < (u.length : Int)
      · rw [if_pos h1, if_pos (by omega), decide_eq_true h1, rd_unit]
        by_cases h39 : rd (runesOf u) i = 39
        · rw [if_pos h39, beq_iff_eq.2 h39, w64 (x := i - 1) (by omega) (by omega), w64 (x := i + 1) (by omega) (by omega)]
          refine ob (refletter_eq hu (i - 1)) ?_
          cases ltr (runesOf u) (i - 1)
          · rfl
          · rw [if_pos rfl]
            exact ob (refletter_eq hu (i + 1)) (by simp)
        · rw [if_neg h39, beq_eq_false_iff_ne.2 h39]
          rfl
      · rw [if_neg h1, decide_eq_false h1]
        rfl
    · rw [if_neg (show ¬ i > 0 from h0), decide_eq_false h0]
      rfl
  · rfl
theorem refruns_inner {u : List S53} (hu : RB u) (hn : u.length < 1000000000) (k : Nat) (hk : k ≤ u.length) (hkf : inn (runesOf u) (k : Int) = false) (i : Int) (acc r : List S33) (ha : acc.length < 8796093022208)
    (hr : Ev (fun f => redpenref15_Runs.l0 f u (acc ++ [⟨i, (k : Int)⟩]) (k : Int)) r) : ∀ (d j : Nat), k - j = d → j ≤ k → (∀ t : Nat, j ≤ t → t < k → inn (runesOf u) (t : Int) = true) → Ev (fun f => redpenref15_Runs.l1 f u acc i (j : Int)) r := by
  intro d
  induction d with
  | zero =>
    intro j hd hj hin
    obtain rfl : j = k := by omega
    refine Ev.step (f := fun f => redpenref15_Runs.l0 f u (acc ++ [⟨i, (j : Int)⟩]) (j : Int)) (fun f => ?_) hr
    simp only [redpenref15_Runs.l1]
    refine ob (refinner_eq hu hn _) ?_
    rw [hkf, if_neg (by decide), if_pos ha, w64 (x := (j : Int) - 1) (by omega) (by omega), w64 (x := (j : Int) - 1 + 1) (by omega) (by omega)]
    congr 1
    omega
  | succ d ih =>
    intro j hd hj hin
    refine Ev.step (f := fun f => redpenref15_Runs.l1 f u acc i ((j + 1 : Nat) : Int)) (fun f => ?_) (ih (j + 1) (by omega) (by omega) (fun t h1 h2 => hin t (by omega) h2))
    simp only [redpenref15_Runs.l1]
    refine ob (refinner_eq hu hn _) ?_
    rw [hin j (Nat.le_refl _) (by omega), if_pos rfl, w64 (x := (j : Int) + 1) (by omega) (by omega)]
    rfl
theorem refruns_main {u : List S53} (hu : RB u) (hn : u.length < 1000000000) : ∀ (d i : Nat) (rs : List (Nat × Nat)), u.length - i ≤ d → RunsOk (runesOf u) i rs → ∀ acc : List S33, acc.length ≤ i → Ev (fun f => redpenref15_Runs.l0 f u acc (i : Int)) (acc ++ rs.map mkP) := by
  intro d
  induction d with
  | zero =>
    intro i rs hd hR acc ha
    have : rs = [] := by
      cases rs with
      | nil => rfl
      | cons p r => obtain ⟨a, b⟩ := p; obtain ⟨h1, h2, h3, _⟩ := hR; rw [runesOf_len] at h3; omega
    subst this
    refine Ev.step (f := fun _ => some acc) (fun f => ?_) (by rw [List.map_nil, List.append_nil]; exact Ev.now _)
    simp only [redpenref15_Runs.l0]
    rw [if_neg (by omega)]
  | succ d ih =>
    intro i rs hd hR acc ha
    by_cases hlt : i < u.length
    · have ew : wrap64 ((i : Int) + 1) = ((i + 1 : Nat) : Int) := by rw [w64 (by omega) (by omega)]; omega
      cases hi : inn (runesOf u) (i : Int)
      · have hR' : RunsOk (runesOf u) (i + 1) rs := by
          cases rs with
          | nil => exact fun t ht => hR t (by omega)
          | cons p r =>
            obtain ⟨a, b⟩ := p
            obtain ⟨q1, q2, q3, q4, q5, q6⟩ := hR
            have : a ≠ i := fun e => by have := q5 i (by omega) (by omega); rw [hi] at this; cases this
            exact ⟨by omega, q2, q3, fun t h1 h2 => q4 t (by omega) h2, q5, q6⟩
        refine Ev.step (f := fun f => redpenref15_Runs.l0 f u acc ((i + 1 : Nat) : Int)) (fun f => ?_) (ih (i + 1) rs (by omega) hR' acc (by omega))
        simp only [redpenref15_Runs.l0]
        rw [if_pos (by omega)]
        refine ob (refinner_eq hu hn _) ?_
        rw [hi, if_neg (by decide), ew]
      · cases rs with
        | nil => have := hR i (Nat.le_refl _); rw [hi] at this; cases this
        | cons p r =>
          obtain ⟨a, b⟩ := p
          obtain ⟨q1, q2, q3, q4, q5, q6, q7, q8⟩ := hR
          have ea : a = i := by
            by_cases e : a = i
            · exact e
            · have := q4 i (Nat.le_refl _) (by omega); rw [hi] at this; cases this
          subst ea
          rw [runesOf_len] at q3
          refine Ev.step (f := fun f => redpenref15_Runs.l1 f u acc (a : Int) (a : Int)) (fun f => ?_) (refruns_inner hu hn b q3 q6 (a : Int) acc _ (by omega) ?_ _ a rfl (by omega) q5)
          · simp only [redpenref15_Runs.l0]
            rw [if_pos (by omega)]
            refine ob (refinner_eq hu hn _) ?_
            rw [hi, if_pos rfl]
          · have := ih b r (by omega) q8 (acc ++ [⟨(a : Int), (b : Int)⟩]) (by simp; omega)
            rw [List.append_assoc] at this
            exact this
    · exact ih i rs (by omega) hR acc ha
theorem refruns_eq {u : List S53} (hu : RB u) (hn : u.length < 1000000000) {rs : List (Nat × Nat)} (h : RunsOk (runesOf u) 0 rs) : Ev (fun f => redpenref15_Runs.f f u) (rs.map mkP) :=
  refruns_main hu hn _ 0 rs (Nat.le_refl _) h [] (Nat.le_refl _)
/-- The reference's parts, from a part's begin on. -/
theorem refsplit_from {u : List S53} (hu : RB u) (hn : u.length < 1000000000) (a tz : Nat) (ht : tz ≤ u.length) : ∀ (d j b : Nat) (ps : List (Nat × Nat)), tz - j = d → a ≤ b → b < j → j ≤ tz → PartsOk b tz ps → (∀ p ∈ ps.tail, cutAt (runesOf u) (a : Int) (tz : Int) (p.1 : Int) = true) →
    (∀ t : Nat, j ≤ t → t < tz → cutAt (runesOf u) (a : Int) (tz : Int) (t : Int) = true → ∃ p ∈ ps.tail, p.1 = t) → (∀ p ∈ ps.tail, j ≤ p.1) → ∀ acc : List S33, acc.length ≤ b → Ev (fun f => redpenref15_Split.l1 f u (tz : Int) acc (b : Int) (j : Int)) (acc ++ ps.map mkP) := by
  intro d
  induction d with
  | zero =>
    intro j b ps hd hab hbj hj hP hC hC' hJ acc ha
    obtain rfl : j = tz := by omega
    have : ps = [(b, j)] := by
      cases ps with
      | nil => have : b = j := hP; omega
      | cons p r =>
        obtain ⟨x, y⟩ := p
        obtain ⟨rfl, h2, h3, h4⟩ := hP
        cases r with
        | nil => have : y = j := h4; rw [this]
        | cons q r => obtain ⟨x', y'⟩ := q; have := hJ (x', y') (by simp); obtain ⟨e, h5, h6, _⟩ := h4; simp at this; omega
    subst this
    refine ⟨2, fun k hk => ?_⟩
    obtain ⟨k, rfl⟩ : ∃ m, k = m + 2 := ⟨k - 2, by omega⟩
    simp only [redpenref15_Split.l1]
    rw [if_neg (by omega), if_pos (by omega)]
    simp only [redpenref15_Split.l0]
    rw [if_neg (by omega)]
    rfl
  | succ d ih =>
    intro j b ps hd hab hbj hj hP hC hC' hJ acc ha
    have ew : wrap64 ((j : Int) + 1) = ((j + 1 : Nat) : Int) := by rw [w64 (by omega) (by omega)]; omega
    have ew1 : wrap64 ((j : Int) - 1) = (j : Int) - 1 := w64 (by omega) (by omega)
    have hja : ((j : Int) == (a : Int)) = false := beq_eq_false_iff_ne.2 (by omega)
    have hr0 := hu.rd (j : Int)
    have hr1 := hu.rd ((j : Int) - 1)
    have hr2 := hu.rd ((j : Int) + 1)
    have hcut : cutAt (runesOf u) (a : Int) (tz : Int) (j : Int) = (great (rd (runesOf u) j) && (small (rd (runesOf u) ((j : Int) - 1)) || (great (rd (runesOf u) ((j : Int) - 1)) && decide ((j : Int) + 1 < tz) && small (rd (runesOf u) ((j : Int) + 1))))) := by
      unfold cutAt; rw [hja]; rfl
    -- one step: to the break, or on
    have step : ∀ k, redpenref15_Split.l1 (k + 2) u (tz : Int) acc (b : Int) (j : Int) = if cutAt (runesOf u) (a : Int) (tz : Int) (j : Int) = true then redpenref15_Split.l0 k u (tz : Int) (acc ++ [⟨(b : Int), (j : Int)⟩]) (j : Int) else redpenref15_Split.l1 k u (tz : Int) acc (b : Int) ((j + 1 : Nat) : Int) := by
      intro k
      rw [hcut]
      simp only [redpenref15_Split.l1]
      rw [if_pos (by omega), ew1, if_pos (by omega), if_pos (by omega), if_pos (by omega), if_pos (by omega)]
      simp only [rd_unit]
      refine ob (rgreat_eq _) ?_
      cases hg : great (rd (runesOf u) (j : Int))
      · rw [if_neg (by decide)]
        simp only [redpenref15_Split.j4]
        rw [if_neg (by decide)]
        refine ob (rgreat_eq _) ?_
        rw [hg, if_neg (by decide), ew]
        simp
      · rw [if_pos rfl]
        refine ob (rsmall_eq (by omega) (by omega)) ?_
        simp only [redpenref15_Split.j4]
        cases hs : small (rd (runesOf u) ((j : Int) - 1))
        · rw [if_neg (by decide)]
          refine ob (rgreat_eq _) ?_
          rw [hg, if_pos rfl]
          refine ob (rgreat_eq _) ?_
          cases hgg : great (rd (runesOf u) ((j : Int) - 1))
          · rw [if_neg (by decide), ew]; simp
          · rw [if_pos rfl, ew]
            by_cases hlt : ((j + 1 : Nat) : Int) < (tz : Int)
            · rw [if_pos hlt, if_pos (by omega), if_pos (by omega), rd_unit, show ((j + 1 : Nat) : Int) = (j : Int) + 1 by omega]
              refine ob (rsmall_eq (by omega) (by omega)) ?_
              rw [decide_eq_true (show (j : Int) + 1 < (tz : Int) by omega)]
              cases small (rd (runesOf u) ((j : Int) + 1))
              · simp
              · simp only [if_true, Bool.true_and, Bool.false_or]
                rw [if_pos (by omega)]
            · rw [if_neg hlt, decide_eq_false (show ¬ (j : Int) + 1 < (tz : Int) by omega)]
              simp
        · rw [if_pos rfl, if_pos (by omega)]
          simp
    cases hc : cutAt (runesOf u) (a : Int) (tz : Int) (j : Int)
    · have hJ' : ∀ p ∈ ps.tail, j + 1 ≤ p.1 := fun p hp => by
        have := hJ p hp
        by_cases e : p.1 = j
        · have := hC p hp; rw [e, hc] at this; cases this
        · omega
      obtain ⟨K, hK⟩ := ih (j + 1) b ps (by omega) hab (by omega) (by omega) hP hC (fun t h1 h2 => hC' t (by omega) h2) hJ' acc ha
      refine ⟨K + 2, fun k hk => ?_⟩
      obtain ⟨k, rfl⟩ : ∃ m, k = m + 2 := ⟨k - 2, by omega⟩
      show redpenref15_Split.l1 (k + 2) u (tz : Int) acc (b : Int) (j : Int) = _
      rw [step k, hc, if_neg (by decide)]
      exact hK k (by omega)
    · obtain ⟨p, hp, hpe⟩ := hC' j (Nat.le_refl _) (by omega) hc
      have hps : ∃ y r, ps = (b, j) :: (j, y) :: r := by
        cases ps with
        | nil => cases hp
        | cons q r =>
          obtain ⟨x, y⟩ := q
          obtain ⟨rfl, h2, h3, h4⟩ := hP
          cases r with
          | nil => cases hp
          | cons q r =>
            obtain ⟨x', y'⟩ := q
            obtain ⟨rfl, h5, h6, h7⟩ := h4
            have hx := hJ (x', y') (by simp)
            have mono : ∀ (r : List (Nat × Nat)) (c : Nat), PartsOk c tz r → ∀ q ∈ r, c ≤ q.1 := by
              intro r
              induction r with
              | nil => intro c _ q hq; cases hq
              | cons z r ihr =>
                intro c hc q hq
                obtain ⟨z1, z2⟩ := z
                obtain ⟨rfl, g2, _, g4⟩ := hc
                rcases List.mem_cons.1 hq with rfl | hq
                · exact Nat.le_refl _
                · have := ihr _ g4 q hq; omega
            have hpx : x' ≤ p.1 := by
              rcases List.mem_cons.1 hp with rfl | hp
              · exact Nat.le_refl _
              · have := mono r y' h7 p hp; omega
            have : x' = j := by simp at hx; omega
            subst this
            exact ⟨y', r, rfl⟩
      obtain ⟨y, r, rfl⟩ := hps
      obtain ⟨_, h2, h3, hP'⟩ := hP
      have hJ' : ∀ p ∈ r, j + 1 ≤ p.1 := fun q hq => by
        obtain ⟨_, g2, _, g4⟩ := hP'
        have mono : ∀ (r : List (Nat × Nat)) (c : Nat), PartsOk c tz r → ∀ q ∈ r, c ≤ q.1 := by
          intro r
          induction r with
          | nil => intro c _ q hq; cases hq
          | cons z r ihr =>
            intro c hc q hq
            obtain ⟨z1, z2⟩ := z
            obtain ⟨rfl, g2, _, g4⟩ := hc
            rcases List.mem_cons.1 hq with rfl | hq
            · exact Nat.le_refl _
            · have := ihr _ g4 q hq; omega
        have := mono r y g4 q hq
        omega
      obtain ⟨K, hK⟩ := ih (j + 1) j ((j, y) :: r) (by omega) (by omega) (by omega) (by omega) hP' (fun q hq => hC q (by simp at hq ⊢; exact .inr hq))
        (fun t h1 h2 h3 => by
          obtain ⟨q, hq, e⟩ := hC' t (by omega) h2 h3
          simp at hq
          rcases hq with rfl | hq
          · simp at e; omega
          · exact ⟨q, by simpa using hq, e⟩) (by simpa using hJ') (acc ++ [⟨(b : Int), (j : Int)⟩]) (by simp; omega)
      refine ⟨K + 3, fun k hk => ?_⟩
      obtain ⟨k, rfl⟩ : ∃ m, k = m + 3 := ⟨k - 3, by omega⟩
      show redpenref15_Split.l1 ((k + 1) + 2) u (tz : Int) acc (b : Int) (j : Int) = _
      rw [step (k + 1), hc, if_pos rfl]
      simp only [redpenref15_Split.l0]
      rw [if_pos (by omega), ew]
      have := hK k (by omega)
      rw [List.append_assoc] at this
      exact this
theorem refsplit_eq {u : List S53} (hu : RB u) (hn : u.length < 1000000000) (x y : Int) {ps : List (Nat × Nat)} (h1 : mx x 0 < mn y (u.length : Int) → PartsOk (mx x 0).toNat (mn y (u.length : Int)).toNat ps ∧ (∀ p ∈ ps.tail, cutAt (runesOf u) (mx x 0) (mn y (u.length : Int)) (p.1 : Int) = true) ∧
      (∀ t : Nat, (mx x 0).toNat < t → t < (mn y (u.length : Int)).toNat → cutAt (runesOf u) (mx x 0) (mn y (u.length : Int)) (t : Int) = true → ∃ p ∈ ps.tail, p.1 = t)) (h2 : ¬ mx x 0 < mn y (u.length : Int) → ps = []) : Ev (fun f => redpenref15_Split.f f u x y) (ps.map mkP) := by
  have hm : 0 ≤ mx x 0 := by unfold mx; split <;> omega
  have hm2 : mn y (u.length : Int) ≤ (u.length : Int) := by unfold mn; split <;> omega
  have head : ∀ k, redpenref15_Split.f (k + 2) u x y = redpenref15_Split.l0 k u (mn y (u.length : Int)) [] (mx x 0) := by
    intro k
    unfold redpenref15_Split.f
    have e : ∀ z : Int, redpenref15_Split.j0 (k + 2) u z y = redpenref15_Split.l0 k u (mn y (u.length : Int)) [] z := by
      intro z
      simp only [redpenref15_Split.j0]
      unfold mn
      split
      · simp only [redpenref15_Split.j1]
      · simp only [redpenref15_Split.j1]
    unfold mx
    split
    · exact e 0
    · exact e x
  by_cases hlt : mx x 0 < mn y (u.length : Int)
  · obtain ⟨a, ea⟩ : ∃ a : Nat, mx x 0 = (a : Int) := ⟨(mx x 0).toNat, by omega⟩
    obtain ⟨tz, et⟩ : ∃ t : Nat, mn y (u.length : Int) = (t : Int) := ⟨(mn y (u.length : Int)).toNat, by omega⟩
    obtain ⟨q1, q2, q3⟩ := h1 hlt
    rw [ea, et] at hlt q1 q2 q3
    simp only [Int.toNat_natCast] at q1 q3
    have hJ : ∀ p ∈ ps.tail, a + 1 ≤ p.1 := by
      cases ps with
      | nil => intro p hp; cases hp
      | cons z r =>
        obtain ⟨z1, z2⟩ := z
        obtain ⟨rfl, g2, _, g4⟩ := q1
        have mono : ∀ (r : List (Nat × Nat)) (c : Nat), PartsOk c tz r → ∀ q ∈ r, c ≤ q.1 := by
          intro r
          induction r with
          | nil => intro c _ q hq; cases hq
          | cons z r ihr =>
            intro c hc q hq
            obtain ⟨z1, z2⟩ := z
            obtain ⟨rfl, g2, _, g4⟩ := hc
            rcases List.mem_cons.1 hq with rfl | hq
            · exact Nat.le_refl _
            · have := ihr _ g4 q hq; omega
        intro p hp
        have := mono r z2 g4 p hp
        omega
    obtain ⟨K, hK⟩ := refsplit_from hu hn a tz (by omega) _ (a + 1) a ps rfl (Nat.le_refl _) (by omega) (by omega) q1 q2 (fun t h1 h2 => q3 t (by omega) h2) hJ [] (by simp)
    refine ⟨K + 3, fun k hk => ?_⟩
    obtain ⟨k, rfl⟩ : ∃ m, k = m + 3 := ⟨k - 3, by omega⟩
    show redpenref15_Split.f ((k + 1) + 2) u x y = _
    rw [head (k + 1), ea, et]
    simp only [redpenref15_Split.l0]
    rw [if_pos hlt, show wrap64 ((a : Int) + 1) = ((a + 1 : Nat) : Int) by rw [w64 (by omega) (by omega)]; omega]
    exact hK k (by omega)
  · rw [h2 hlt]
    refine ⟨3, fun k hk => ?_⟩
    obtain ⟨k, rfl⟩ : ∃ m, k = m + 3 := ⟨k - 3, by omega⟩
    show redpenref15_Split.f ((k + 1) + 2) u x y = _
    rw [head (k + 1)]
    simp only [redpenref15_Split.l0]
    rw [if_neg hlt]
    rfl
theorem same_from (x : List S33) (hx : x.length < 1000000000) : ∀ (d k i : Nat), x.length - i = d → i ≤ x.length → d < k → redpenlaw16_same.l0 k x x (x.length : Int) (i : Int) = some true := by
  intro d
  induction d with
  | zero =>
    intro k i hd hi hk
    obtain ⟨k, rfl⟩ : ∃ m, k = m + 1 := ⟨k - 1, by omega⟩
    simp only [redpenlaw16_same.l0]
    rw [if_neg (by omega)]
  | succ d ih =>
    intro k i hd hi hk
    obtain ⟨k, rfl⟩ : ∃ m, k = m + 1 := ⟨k - 1, by omega⟩
    simp only [redpenlaw16_same.l0]
    rw [if_pos (by omega), if_pos (by omega), if_pos (by omega), if_pos (by omega), if_neg (by simp), show wrap64 ((i : Int) + 1) = ((i + 1 : Nat) : Int) by rw [w64 (by omega) (by omega)]; omega]
    exact ih k (i + 1) (by omega) (by omega) (by omega)
theorem same_eq (x : List S33) (hx : x.length < 1000000000) : Ev (fun f => redpenlaw16_same.f f x x) true :=
  ⟨x.length + 1, fun k hk => by show redpenlaw16_same.f k x x = _; unfold redpenlaw16_same.f; rw [if_pos rfl]; exact same_from x hx x.length k 0 (by omega) (by omega) (by omega)⟩
end Go.Proofs.Ytmnohlmdckcdeaa.Pure
