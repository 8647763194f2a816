/- The printed functions on runs and parts are what the plain words say. -/
import Derived.Test.YtmnohlmdckcdeaaBFoldLTokenCases
import Derived.Test.YtmnohlmdckcdeaaMTok
namespace Go.Proofs.Ytmnohlmdckcdeaa.Pure
open Go.RowKit Go.Proofs.Ytmnohlmdckcdeaa.PTokenCases Go.Proofs.YtmnohlmdckcdeaaW.PrintWords Go.Proofs.YtmnohlmdckcdeaaW.PrintLast
open Go.Proofs.Ytmnohlmdckcdeaa.M Go.Proofs.Ytmnohlmdckcdeaa.X
set_option linter.unusedVariables false
set_option linter.unusedSimpArgs false

/-- The runes of signs. -/
def runesOf (u : List S53) : List Int := u.map (·.f0)
theorem runesOf_len (u : List S53) : (runesOf u).length = u.length := by simp [runesOf]
theorem rd_unit (u : List S53) (i : Int) : (rd_T53 u i).f0 = rd (runesOf u) i := by
  unfold rd_T53 rd runesOf
  rw [List.getD_eq_getElem?_getD, List.getD_eq_getElem?_getD, List.getElem?_map]
  cases u[i.toNat]? <;> rfl
def mkP (p : Nat × Nat) : S33 := ⟨(p.1 : Int), (p.2 : Int)⟩
theorem tokletter_eq (u : List S53) (i : Int) : token_Runs_1.f i u = some (ltr (runesOf u) i) := by
  unfold token_Runs_1.f ltr
  rw [runesOf_len]
  by_cases h0 : 0 ≤ i
  · rw [if_pos (show i ≥ 0 from h0), decide_eq_true h0]
    by_cases h1 : i < (u.length : Int)
    · rw [if_pos h1, if_pos h0, decide_eq_true h1, rd_unit]
      exact ob (fletter_eq _) (by simp)
    · rw [if_neg h1, decide_eq_false h1]
      simp
  · rw [if_neg (show ¬ i ≥ 0 from h0), decide_eq_false h0]
    simp
theorem tokruns_inner (u : List S53) (hn : u.length < 1000000000) : ∀ (d j : Nat), u.length - j = d → inn (runesOf u) (j : Int) = true → ∃ k : Nat, j < k ∧ k ≤ u.length ∧ inn (runesOf u) (k : Int) = false ∧ (∀ t : Nat, j ≤ t → t < k → inn (runesOf u) (t : Int) = true) ∧
    (∀ (i : Int) (acc : List S33) (r : List S33), acc.length < 8796093022208 → Ev (fun f => token_Runs.l0 f u (acc ++ [⟨i, (k : Int)⟩]) (k : Int)) r → Ev (fun f => token_Runs.l1 f u acc (j : Int) i) r) := by
  intro d
  induction d with
  | zero =>
    intro j hd hj
    have := inn_in hj
    rw [runesOf_len] at this
    omega
  | succ d ih =>
    intro j hd hj
    have hjr := inn_in hj
    rw [runesOf_len] at hjr
    have hnx := inn_next hj
    rw [runesOf_len] at hnx
    have ew1 : wrap64 ((j : Int) + 1) = (j : Int) + 1 := w64 (by omega) (by omega)
    have ew2 : wrap64 ((j : Int) + 2) = (j : Int) + 2 := w64 (by omega) (by omega)
    cases hi : inn (runesOf u) ((j : Int) + 1)
    · rw [hi] at hnx
      simp only [Bool.or_eq_false_iff] at hnx
      refine ⟨j + 1, by omega, by omega, by rw [← hi]; congr 1, fun t h1 h2 => by rw [show t = j by omega]; exact hj, fun i acc r ha hr => ?_⟩
      refine Ev.step (f := fun f => token_Runs.l0 f u (acc ++ [⟨i, ((j + 1 : Nat) : Int)⟩]) ((j + 1 : Nat) : Int)) (fun f => ?_) hr
      simp only [token_Runs.l1]
      rw [ew1, ew2]
      refine ob (tokletter_eq u _) ?_
      rw [hnx.1, if_neg (by decide)]
      have hfin : (if acc.length < 8796093022208 then token_Runs.l0 f u (acc ++ [(⟨i, (j : Int) + 1⟩ : S33)]) ((j : Int) + 1) else none) = token_Runs.l0 f u (acc ++ [⟨i, ((j + 1 : Nat) : Int)⟩]) ((j + 1 : Nat) : Int) := by
        rw [if_pos ha]; rfl
      by_cases hlt : (j : Int) + 1 < (u.length : Int)
      · rw [if_pos hlt, if_pos (by omega), rd_unit]
        have h2 := hnx.2
        rw [decide_eq_true hlt, Bool.true_and] at h2
        by_cases h39 : rd (runesOf u) ((j : Int) + 1) = 39
        · rw [if_pos h39]
          refine ob (tokletter_eq u _) ?_
          rw [beq_iff_eq.2 h39, Bool.true_and] at h2
          rw [h2, if_neg (by decide)]
          exact hfin
        · rw [if_neg h39]
          exact hfin
      · rw [if_neg hlt]
        exact hfin
    · obtain ⟨k, h1, h2, h3, h4, h5⟩ := ih (j + 1) (by omega) (by rw [← hi]; congr 1)
      refine ⟨k, by omega, h2, h3, fun t ha hb => ?_, fun i acc r ha hr => ?_⟩
      · by_cases e : t = j
        · rw [e]; exact hj
        · exact h4 t (by omega) hb
      · refine Ev.step (f := fun f => token_Runs.l1 f u acc ((j + 1 : Nat) : Int) i) (fun f => ?_) (h5 i acc r ha hr)
        simp only [token_Runs.l1]
        rw [ew1, ew2]
        refine ob (tokletter_eq u _) ?_
        rw [hi] at hnx
        cases hl : ltr (runesOf u) ((j : Int) + 1)
        · rw [hl, Bool.false_or] at hnx
          simp only [Bool.and_eq_true, decide_eq_true_eq, beq_iff_eq] at hnx
          rw [if_neg (by decide), if_pos hnx.1.1, if_pos (by omega), rd_unit, if_pos hnx.1.2]
          refine ob (tokletter_eq u _) ?_
          rw [hnx.2, if_pos rfl]
          rfl
        · rw [if_pos rfl]
          rfl
theorem tokruns_main (u : List S53) (hn : u.length < 1000000000) : ∀ (d i : Nat), u.length - i ≤ d → (inn (runesOf u) (i : Int) = true → ltr (runesOf u) (i : Int) = true) → ∃ rs : List (Nat × Nat), RunsOk (runesOf u) i rs ∧ rs.length ≤ u.length - i ∧
    ∀ acc : List S33, acc.length ≤ i → Ev (fun f => token_Runs.l0 f u acc (i : Int)) (acc ++ rs.map mkP) := by
  intro d
  induction d with
  | zero =>
    intro i hd hs
    refine ⟨[], fun t ht => ?_, by simp, fun acc ha => ?_⟩
    · cases h : inn (runesOf u) (t : Int)
      · rfl
      · have := inn_in h
        rw [runesOf_len] at this
        omega
    · refine Ev.step (f := fun _ => some acc) (fun f => ?_) (by rw [List.map_nil, List.append_nil]; exact Ev.now _)
      simp only [token_Runs.l0]
      rw [if_neg (by omega)]
  | succ d ih =>
    intro i hd hs
    by_cases hlt : i < u.length
    · have ew : wrap64 ((i : Int) + 1) = ((i + 1 : Nat) : Int) := by rw [w64 (by omega) (by omega)]; omega
      cases hi : inn (runesOf u) (i : Int)
      · obtain ⟨rs, h1, h2, h3⟩ := ih (i + 1) (by omega) (fun h => by
          have := inn_first (R := runesOf u) (j := (i : Int)) (by rw [← h]; congr 1) hi
          rw [← this]; congr 1)
        refine ⟨rs, ?_, by omega, fun acc ha => ?_⟩
        · cases rs with
          | nil => exact fun t ht => if e : t = i then by rw [e]; exact hi else h1 t (by omega)
          | cons p rs =>
            obtain ⟨a, b⟩ := p
            obtain ⟨q1, q2, q3, q4, q5⟩ := h1
            exact ⟨by omega, q2, q3, fun t ht ht2 => if e : t = i then by rw [e]; exact hi else q4 t (by omega) ht2, q5⟩
        · refine Ev.step (f := fun f => token_Runs.l0 f u acc ((i + 1 : Nat) : Int)) (fun f => ?_) (h3 acc (by omega))
          simp only [token_Runs.l0]
          rw [if_pos (by omega)]
          refine ob (tokletter_eq u _) ?_
          have : ltr (runesOf u) (i : Int) = false := by
            cases h : ltr (runesOf u) (i : Int)
            · rfl
            · rw [ltr_inn h] at hi; cases hi
          rw [this, if_neg (by decide), ew]
      · obtain ⟨k, k1, k2, k3, k4, k5⟩ := tokruns_inner u hn _ i rfl hi
        obtain ⟨rs, h1, h2, h3⟩ := ih k (by omega) (fun h => by rw [k3] at h; cases h)
        refine ⟨(i, k) :: rs, ⟨Nat.le_refl _, k1, by rw [runesOf_len]; exact k2, fun t h h' => by omega, k4, k3, hs hi, h1⟩, by simp only [List.length_cons]; omega, fun acc ha => ?_⟩
        refine Ev.step (f := fun f => token_Runs.l1 f u acc (i : Int) (i : Int)) (fun f => ?_) (k5 (i : Int) acc _ (by omega) ?_)
        · simp only [token_Runs.l0]
          rw [if_pos (by omega)]
          refine ob (tokletter_eq u _) ?_
          rw [hs hi, if_pos rfl]
        · have := h3 (acc ++ [⟨(i : Int), (k : Int)⟩]) (by simp; omega)
          rw [List.append_assoc] at this
          exact this
    · exact ih i (by omega) hs
/-- The runs. -/
theorem tokruns_eq (u : List S53) (hn : u.length < 1000000000) : ∃ rs : List (Nat × Nat), RunsOk (runesOf u) 0 rs ∧ rs.length ≤ u.length ∧ Ev (fun f => token_Runs.f f u) (rs.map mkP) := by
  obtain ⟨rs, h1, h2, h3⟩ := tokruns_main u hn u.length 0 (by omega) inn_zero
  exact ⟨rs, h1, by omega, h3 [] (Nat.le_refl _)⟩
theorem tokparts_eq (u : List S53) (hn : u.length < 1000000000) (a tz j : Int) (ha : 0 ≤ a) (hj : a ≤ j) (hl : j < tz) (ht : tz ≤ (u.length : Int)) : ∀ k, token_parts.f (k + 1) u a tz j = some (cutAt (runesOf u) a tz j) := by
  intro k
  unfold token_parts.f cutAt
  by_cases e : j = a
  · rw [if_pos e, beq_iff_eq.2 e]
    simp only [token_parts.j0]
    rfl
  · have ew1 : wrap64 (j - 1) = j - 1 := w64 (by omega) (by omega)
    have ew2 : wrap64 (j + 1) = j + 1 := w64 (by omega) (by omega)
    rw [if_neg e, if_pos (by omega), if_pos (by omega), rd_unit, beq_eq_false_iff_ne.2 e]
    refine ob (fGreat_eq _) ?_
    simp only [token_parts.j0]
    cases hg : great (rd (runesOf u) j)
    · rfl
    · rw [if_neg (by decide), ew1, ew2, if_pos (by omega), if_pos (by omega), rd_unit]
      refine ob (fSmall_eq _) ?_
      cases hs : small (rd (runesOf u) (j - 1))
      · rw [if_neg (by decide)]
        refine ob (fGreat_eq _) ?_
        cases hgg : great (rd (runesOf u) (j - 1))
        · rw [if_neg (by decide)]; rfl
        · rw [if_pos rfl]
          by_cases hlt : j + 1 < tz
          · rw [if_pos hlt, if_pos (by omega), if_pos (by omega), rd_unit, decide_eq_true hlt]
            exact ob (fSmall_eq _) (by simp)
          · rw [if_neg hlt, decide_eq_false hlt]
            rfl
      · rw [if_pos rfl]; rfl
theorem toksplit_from (u : List S53) (hn : u.length < 1000000000) (a tz : Nat) (ht : tz ≤ u.length) : ∀ (d j b : Nat), tz - j = d → a ≤ b → b < j → j ≤ tz → ∃ ps : List (Nat × Nat), PartsOk b tz ps ∧ ps.length ≤ tz - b ∧
    (∀ p ∈ ps.tail, cutAt (runesOf u) (a : Int) (tz : Int) (p.1 : Int) = true) ∧ (∀ t : Nat, j ≤ t → t < tz → cutAt (runesOf u) (a : Int) (tz : Int) (t : Int) = true → ∃ p ∈ ps.tail, p.1 = t) ∧ (∀ p ∈ ps.tail, j ≤ p.1) ∧
    ∀ acc : List S33, acc.length ≤ b → Ev (fun f => token_Split.l0 f u acc (a : Int) (tz : Int) (b : Int) (j : Int)) (acc ++ ps.map mkP) := by
  intro d
  induction d with
  | zero =>
    intro j b hd hab hbj hj
    obtain rfl : j = tz := by omega
    refine ⟨[(b, j)], ⟨rfl, hbj, Nat.le_refl _, rfl⟩, by simp; omega, by simp, fun t h1 h2 => by omega, by simp, fun acc ha => ?_⟩
    refine Ev.step (f := fun _ => some (acc ++ [mkP (b, j)])) (fun f => ?_) (Ev.now _)
    simp only [token_Split.l0]
    rw [if_neg (by omega), if_pos (by omega), if_pos (by omega)]
    rfl
  | succ d ih =>
    intro j b hd hab hbj hj
    have ew : wrap64 ((j : Int) + 1) = ((j + 1 : Nat) : Int) := by rw [w64 (by omega) (by omega)]; omega
    have hp := tokparts_eq u hn (a : Int) (tz : Int) (j : Int) (by omega) (by omega) (by omega) (by omega)
    cases hc : cutAt (runesOf u) (a : Int) (tz : Int) (j : Int)
    · obtain ⟨ps, h1, h2, h3, h4, h4b, h5⟩ := ih (j + 1) b (by omega) hab (by omega) (by omega)
      refine ⟨ps, h1, h2, h3, fun t q1 q2 q3 => ?_, fun p hp => by have := h4b p hp; omega, fun acc ha => ?_⟩
      · by_cases e : t = j
        · rw [e, hc] at q3; cases q3
        · exact h4 t (by omega) q2 q3
      · obtain ⟨K, hK⟩ := h5 acc ha
        refine ⟨K + 2, fun k hk => ?_⟩
        obtain ⟨k, rfl⟩ : ∃ m, k = m + 2 := ⟨k - 2, by omega⟩
        simp only [token_Split.l0]
        rw [if_pos (by omega)]
        refine ob (hp k) ?_
        rw [hc, if_neg (by decide), ew]
        exact hK (k + 1) (by omega)
    · obtain ⟨ps, h1, h2, h3, h4, h4b, h5⟩ := ih (j + 1) j (by omega) (by omega) (by omega) (by omega)
      have hps : ∃ y r, ps = (j, y) :: r := by
        cases ps with
        | nil => have : j = tz := h1; omega
        | cons p r => obtain ⟨x, y⟩ := p; obtain ⟨rfl, _⟩ := h1; exact ⟨y, r, rfl⟩
      refine ⟨(b, j) :: ps, ⟨rfl, hbj, by omega, h1⟩, by simp only [List.length_cons]; omega, ?_, fun t q1 q2 q3 => ?_, ?_, fun acc ha => ?_⟩
      · obtain ⟨y, r, rfl⟩ := hps
        intro p hp
        rcases List.mem_cons.1 hp with rfl | hp
        · exact hc
        · exact h3 p hp
      · obtain ⟨y, r, rfl⟩ := hps
        by_cases e : t = j
        · exact ⟨(j, y), by simp, e.symm⟩
        · obtain ⟨p, hp, e2⟩ := h4 t (by omega) q2 q3
          exact ⟨p, List.mem_cons_of_mem _ hp, e2⟩
      · obtain ⟨y, r, rfl⟩ := hps
        intro p hp
        rcases List.mem_cons.1 hp with rfl | hp
        · exact Nat.le_refl _
        · have := h4b p hp; omega
      · obtain ⟨K, hK⟩ := h5 (acc ++ [mkP (b, j)]) (by simp; omega)
        refine ⟨K + 2, fun k hk => ?_⟩
        obtain ⟨k, rfl⟩ : ∃ m, k = m + 2 := ⟨k - 2, by omega⟩
        simp only [token_Split.l0]
        rw [if_pos (by omega)]
        refine ob (hp k) ?_
        rw [hc, if_pos rfl, if_pos (by omega), ew]
        have := hK (k + 1) (by omega)
        rw [List.append_assoc] at this
        exact this
/-- The parts of a run, wherever it lies. -/
theorem toksplit_eq (u : List S53) (hn : u.length < 1000000000) (x y : Int) :
    ∃ ps : List (Nat × Nat), (mx x 0 < mn y (u.length : Int) → PartsOk (mx x 0).toNat (mn y (u.length : Int)).toNat ps ∧ (∀ p ∈ ps.tail, cutAt (runesOf u) (mx x 0) (mn y (u.length : Int)) (p.1 : Int) = true) ∧
      (∀ t : Nat, (mx x 0).toNat < t → t < (mn y (u.length : Int)).toNat → cutAt (runesOf u) (mx x 0) (mn y (u.length : Int)) (t : Int) = true → ∃ p ∈ ps.tail, p.1 = t)) ∧ (¬ mx x 0 < mn y (u.length : Int) → ps = []) ∧ ps.length ≤ u.length ∧ Ev (fun f => token_Split.f f u x y) (ps.map mkP) := by
  have hm : 0 ≤ mx x 0 := by unfold mx; split <;> omega
  have hm2 : mn y (u.length : Int) ≤ (u.length : Int) := by unfold mn; split <;> omega
  by_cases hlt : mx x 0 < mn y (u.length : Int)
  · obtain ⟨a, ea⟩ : ∃ a : Nat, mx x 0 = (a : Int) := ⟨(mx x 0).toNat, by omega⟩
    obtain ⟨tz, et⟩ : ∃ t : Nat, mn y (u.length : Int) = (t : Int) := ⟨(mn y (u.length : Int)).toNat, by omega⟩
    rw [ea, et] at hlt
    obtain ⟨ps, h1, h2, h3, h4, _, h5⟩ := toksplit_from u hn a tz (by omega) _ (a + 1) a rfl (Nat.le_refl _) (by omega) (by omega)
    refine ⟨ps, fun _ => ?_, fun h => by rw [ea, et] at h; exact absurd hlt h, by omega, ?_⟩
    · rw [ea, et]
      exact ⟨h1, h3, fun t q1 q2 => h4 t (by omega) (by omega)⟩
    · obtain ⟨K, hK⟩ := h5 [] (by simp)
      refine ⟨K + 2, fun k hk => ?_⟩
      obtain ⟨k, rfl⟩ : ∃ m, k = m + 2 := ⟨k - 2, by omega⟩
      unfold token_Split.f
      rw [ea, et]
      simp only [token_Split.l0]
      rw [if_pos hlt]
      have hp := tokparts_eq u hn (a : Int) (tz : Int) (a : Int) (by omega) (by omega) hlt (by omega) k
      refine ob hp ?_
      have : cutAt (runesOf u) (a : Int) (tz : Int) (a : Int) = false := by simp [cutAt]
      rw [this, if_neg (by decide), show wrap64 ((a : Int) + 1) = ((a + 1 : Nat) : Int) by rw [w64 (by omega) (by omega)]; omega]
      exact hK (k + 1) (by omega)
  · refine ⟨[], fun h => absurd h hlt, fun _ => rfl, by simp, ⟨1, fun k hk => ?_⟩⟩
    obtain ⟨k, rfl⟩ : ∃ m, k = m + 1 := ⟨k - 1, by omega⟩
    unfold token_Split.f
    simp only [token_Split.l0]
    rw [if_neg hlt, if_neg hlt]
    rfl
end Go.Proofs.Ytmnohlmdckcdeaa.Pure
