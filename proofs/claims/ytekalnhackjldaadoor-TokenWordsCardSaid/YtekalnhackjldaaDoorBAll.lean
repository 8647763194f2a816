/- The printed functions are the plain ones. -/
import Derived.Test.YtekalnhackjldaaDoorPTokenWordsx
import Derived.Test.YtekalnhackjldaaDoorHM
section
/- The printed functions of fold great and small are the plain ones. -/
namespace Go.Proofs.YtekalnhackjldaaDoor.Pure
open Go.RowKit Go.Proofs.YtekalnhackjldaaDoor.PTokenWords Go.Proofs.YtekalnhackjldaaDoorW.PrintWords Go.Proofs.YtekalnhackjldaaDoorW.PrintLast
open Go.Proofs.YtekalnhackjldaaDoor.M Go.Proofs.YtekalnhackjldaaDoor.X
set_option linter.unusedVariables false
set_option linter.unusedSimpArgs false
theorem fgreat_eq (r : Int) : fold_great.f r = some (great r) := by
  unfold fold_great.f
  cases h : great r
  · rw [great_not] at h
    (repeat' split) <;> first | rfl | omega | (rw [Option.some.injEq, bne_eq_false_iff_eq]; omega)
  · rw [great_iff] at h
    (repeat' split) <;> first | rfl | omega | (rw [Option.some.injEq, bne_iff_ne]; omega)
theorem fsmall_eq (r : Int) : fold_small.f r = some (small r) := by
  unfold fold_small.f
  cases h : small r
  · rw [small_not] at h
    (repeat' split) <;> first | rfl | omega | (rw [Option.some.injEq, bne_eq_false_iff_eq]; omega)
  · rw [small_iff] at h
    (repeat' split) <;> first | rfl | omega | (rw [Option.some.injEq, bne_iff_ne]; omega)
end Go.Proofs.YtekalnhackjldaaDoor.Pure
end
section
/- fold.Letter, Great, Small, and the reference's, are the plain ones. -/
namespace Go.Proofs.YtekalnhackjldaaDoor.Pure
open Go.RowKit Go.Proofs.YtekalnhackjldaaDoor.PTokenWords Go.Proofs.YtekalnhackjldaaDoorW.PrintWords Go.Proofs.YtekalnhackjldaaDoorW.PrintLast
open Go.Proofs.YtekalnhackjldaaDoor.M Go.Proofs.YtekalnhackjldaaDoor.X
set_option linter.unusedVariables false
set_option linter.unusedSimpArgs false
theorem fletter_eq (r : Int) : fold_Letter.f r = some (letter r) := by
  unfold fold_Letter.f
  refine ob (fgreat_eq r) ?_
  have hi := letter_iff r
  cases hg : great r
  · rw [if_neg (by decide)]
    refine ob (fsmall_eq r) ?_
    cases hs : small r
    · rw [if_neg (by decide)]
      rw [hg, hs] at hi
      simp only [Bool.false_eq_true, false_or] at hi
      cases hl : letter r
      · rw [hl] at hi
        simp only [Bool.false_eq_true, false_iff] at hi
        (repeat' split) <;> first | rfl | omega | (rw [Option.some.injEq, decide_eq_false_iff_not]; omega)
      · have h := hi.1 hl
        (repeat' split) <;> first | rfl | omega | (rw [Option.some.injEq, decide_eq_true_iff]; omega)
    · rw [if_pos rfl, hi.2 (.inr (.inl hs))]
  · rw [if_pos rfl, hi.2 (.inl hg)]
theorem fGreat_eq (r : Int) : fold_Great.f r = some (great r) := by
  unfold fold_Great.f
  exact ob (fgreat_eq r) rfl
theorem fSmall_eq (r : Int) : fold_Small.f r = some (small r) := by
  unfold fold_Small.f
  exact ob (fsmall_eq r) rfl
end Go.Proofs.YtekalnhackjldaaDoor.Pure
end
section
/- The printed functions on runs and parts are what the plain words say. -/
namespace Go.Proofs.YtekalnhackjldaaDoor.Pure
open Go.RowKit Go.Proofs.YtekalnhackjldaaDoor.PTokenWords Go.Proofs.YtekalnhackjldaaDoorW.PrintWords Go.Proofs.YtekalnhackjldaaDoorW.PrintLast
open Go.Proofs.YtekalnhackjldaaDoor.M Go.Proofs.YtekalnhackjldaaDoor.X
set_option linter.unusedVariables false
set_option linter.unusedSimpArgs false
def runesOf (u : List S45) : List Int := u.map (·.f0)
theorem runesOf_len (u : List S45) : (runesOf u).length = u.length := by simp [runesOf]
theorem rd_unit (u : List S45) (i : Int) : (rd_T45 u i).f0 = rd (runesOf u) i := by
  unfold rd_T45 rd runesOf
  rw [List.getD_eq_getElem?_getD, List.getD_eq_getElem?_getD, List.getElem?_map]
  cases u[i.toNat]? <;> rfl
def mkP (p : Nat × Nat) : S93 := ⟨(p.1 : Int), (p.2 : Int)⟩
theorem tokletter_eq (u : List S45) (i : Int) : token_Runs_1.f i u = some (ltr (runesOf u) i) := by
  unfold token_Runs_1.f ltr
  rw [runesOf_len]
  by_cases h0 : 0 ≤ i
  · rw [if_pos (show i ≥ 0 from h0), decide_eq_true h0]
    by_cases h1 : i < (u.length : Int)
    · rw [if_pos h1, if_pos h0, decide_eq_true h1, rd_unit]
      exact ob (fletter_eq _) (by simp)
    · rw [if_neg h1, decide_eq_false h1]
      simp
  · rw [if_neg (show ¬ i ≥ 0 from h0), decide_eq_false h0]
    simp
theorem tokruns_inner (u : List S45) (hn : u.length < 1000000000) : ∀ (d j : Nat), u.length - j = d → inn (runesOf u) (j : Int) = true → ∃ k : Nat, j < k ∧ k ≤ u.length ∧ inn (runesOf u) (k : Int) = false ∧ (∀ t : Nat, j ≤ t → t < k → inn (runesOf u) (t : Int) = true) ∧
    (∀ (i : Int) (acc : List S93) (r : List S93), acc.length < 8796093022208 → Ev (fun f => token_Runs.l0 f u (acc ++ [⟨i, (k : Int)⟩]) (k : Int)) r → Ev (fun f => token_Runs.l1 f u acc (j : Int) i) r) := by
  intro d
  induction d with
  | zero =>
    intro j hd hj
    have := inn_in hj
    rw [runesOf_len] at this
    omega
  | succ d ih =>
    intro j hd hj
    have hjr := inn_in hj
    rw [runesOf_len] at hjr
    have hnx := inn_next hj
    rw [runesOf_len] at hnx
    have ew1 : wrap64 ((j : Int) + 1) = (j : Int) + 1 := w64 (by omega) (by omega)
    have ew2 : wrap64 ((j : Int) + 2) = (j : Int) + 2 := w64 (by omega) (by omega)
    cases hi : inn (runesOf u) ((j : Int) + 1)
    · rw [hi] at hnx
      simp only [Bool.or_eq_false_iff] at hnx
      refine ⟨j + 1, by omega, by omega, by rw [← hi]; congr 1, fun t h1 h2 => by rw [show t = j by omega]; exact hj, fun i acc r ha hr => ?_⟩
      refine Ev.step (f := fun f => token_Runs.l0 f u (acc ++ [⟨i, ((j + 1 : Nat) : Int)⟩]) ((j + 1 : Nat) : Int)) (fun f => ?_) hr
      simp only [token_Runs.l1]
      rw [ew1, ew2]
      refine ob (tokletter_eq u _) ?_
      rw [hnx.1, if_neg (by decide)]
      have hfin : (if acc.length < 8796093022208 then token_Runs.l0 f u (acc ++ [(⟨i, (j : Int) + 1⟩ : S93)]) ((j : Int) + 1) else none) = token_Runs.l0 f u (acc ++ [⟨i, ((j + 1 : Nat) : Int)⟩]) ((j + 1 : Nat) : Int) := by
        rw [if_pos ha]; rfl
      by_cases hlt : (j : Int) + 1 < (u.length : Int)
      · rw [if_pos hlt, if_pos (by omega), rd_unit]
        have h2 := hnx.2
        rw [decide_eq_true hlt, Bool.true_and] at h2
        by_cases h39 : rd (runesOf u) ((j : Int) + 1) = 39
        · rw [if_pos h39]
          refine ob (tokletter_eq u _) ?_
          rw [beq_iff_eq.2 h39, Bool.true_and] at h2
          rw [h2, if_neg (by decide)]
          exact hfin
        · rw [if_neg h39]
          exact hfin
      · rw [if_neg hlt]
        exact hfin
    · obtain ⟨k, h1, h2, h3, h4, h5⟩ := ih (j + 1) (by omega) (by rw [← hi]; congr 1)
      refine ⟨k, by omega, h2, h3, fun t ha hb => ?_, fun i acc r ha hr => ?_⟩
      · by_cases e : t = j
        · rw [e]; exact hj
        · exact h4 t (by omega) hb
      · refine Ev.step (f := fun f => token_Runs.l1 f u acc ((j + 1 : Nat) : Int) i) (fun f => ?_) (h5 i acc r ha hr)
        simp only [token_Runs.l1]
        rw [ew1, ew2]
        refine ob (tokletter_eq u _) ?_
        rw [hi] at hnx
        cases hl : ltr (runesOf u) ((j : Int) + 1)
        · rw [hl, Bool.false_or] at hnx
          simp only [Bool.and_eq_true, decide_eq_true_eq, beq_iff_eq] at hnx
          rw [if_neg (by decide), if_pos hnx.1.1, if_pos (by omega), rd_unit, if_pos hnx.1.2]
          refine ob (tokletter_eq u _) ?_
          rw [hnx.2, if_pos rfl]
          rfl
        · rw [if_pos rfl]
          rfl
theorem tokruns_main (u : List S45) (hn : u.length < 1000000000) : ∀ (d i : Nat), u.length - i ≤ d → (inn (runesOf u) (i : Int) = true → ltr (runesOf u) (i : Int) = true) → ∃ rs : List (Nat × Nat), RunsOk (runesOf u) i rs ∧ rs.length ≤ u.length - i ∧
    ∀ acc : List S93, acc.length ≤ i → Ev (fun f => token_Runs.l0 f u acc (i : Int)) (acc ++ rs.map mkP) := by
  intro d
  induction d with
  | zero =>
    intro i hd hs
    refine ⟨[], fun t ht => ?_, by simp, fun acc ha => ?_⟩
    · cases h : inn (runesOf u) (t : Int)
      · rfl
      · have := inn_in h
        rw [runesOf_len] at this
        omega
    · refine Ev.step (f := fun _ => some acc) (fun f => ?_) (by rw [List.map_nil, List.append_nil]; exact Ev.now _)
      simp only [token_Runs.l0]
      rw [if_neg (by omega)]
  | succ d ih =>
    intro i hd hs
    by_cases hlt : i < u.length
    · have ew : wrap64 ((i : Int) + 1) = ((i + 1 : Nat) : Int) := by rw [w64 (by omega) (by omega)]; omega
      cases hi : inn (runesOf u) (i : Int)
      · obtain ⟨rs, h1, h2, h3⟩ := ih (i + 1) (by omega) (fun h => by
          have := inn_first (R := runesOf u) (j := (i : Int)) (by rw [← h]; congr 1) hi
          rw [← this]; congr 1)
        refine ⟨rs, ?_, by omega, fun acc ha => ?_⟩
        · cases rs with
          | nil => exact fun t ht => if e : t = i then by rw [e]; exact hi else h1 t (by omega)
          | cons p rs =>
            obtain ⟨a, b⟩ := p
            obtain ⟨q1, q2, q3, q4, q5⟩ := h1
            exact ⟨by omega, q2, q3, fun t ht ht2 => if e : t = i then by rw [e]; exact hi else q4 t (by omega) ht2, q5⟩
        · refine Ev.step (f := fun f => token_Runs.l0 f u acc ((i + 1 : Nat) : Int)) (fun f => ?_) (h3 acc (by omega))
          simp only [token_Runs.l0]
          rw [if_pos (by omega)]
          refine ob (tokletter_eq u _) ?_
          have : ltr (runesOf u) (i : Int) = false := by
            cases h : ltr (runesOf u) (i : Int)
            · rfl
            · rw [ltr_inn h] at hi; cases hi
          rw [this, if_neg (by decide), ew]
      · obtain ⟨k, k1, k2, k3, k4, k5⟩ := tokruns_inner u hn _ i rfl hi
        obtain ⟨rs, h1, h2, h3⟩ := ih k (by omega) (fun h => by rw [k3] at h; cases h)
        refine ⟨(i, k) :: rs, ⟨Nat.le_refl _, k1, by rw [runesOf_len]; exact k2, fun t h h' => by omega, k4, k3, hs hi, h1⟩, by simp only [List.length_cons]; omega, fun acc ha => ?_⟩
        refine Ev.step (f := fun f => token_Runs.l1 f u acc (i : Int) (i : Int)) (fun f => ?_) (k5 (i : Int) acc _ (by omega) ?_)
        · simp only [token_Runs.l0]
          rw [if_pos (by omega)]
          refine ob (tokletter_eq u _) ?_
          rw [hs hi, if_pos rfl]
        · have := h3 (acc ++ [⟨(i : Int), (k : Int)⟩]) (by simp; omega)
          rw [List.append_assoc] at this
          exact this
    · exact ih i (by omega) hs
theorem tokruns_eq (u : List S45) (hn : u.length < 1000000000) : ∃ rs : List (Nat × Nat), RunsOk (runesOf u) 0 rs ∧ rs.length ≤ u.length ∧ Ev (fun f => token_Runs.f f u) (rs.map mkP) := by
  obtain ⟨rs, h1, h2, h3⟩ := tokruns_main u hn u.length 0 (by omega) inn_zero
  exact ⟨rs, h1, by omega, h3 [] (Nat.le_refl _)⟩
theorem tokparts_eq (u : List S45) (hn : u.length < 1000000000) (a tz j : Int) (ha : 0 ≤ a) (hj : a ≤ j) (hl : j < tz) (ht : tz ≤ (u.length : Int)) : ∀ k, token_parts.f (k + 1) u a tz j = some (cutAt (runesOf u) a tz j) := by
  intro k
  unfold token_parts.f cutAt
  by_cases e : j = a
  · rw [if_pos e, beq_iff_eq.2 e]
    simp only [token_parts.j0]
    rfl
  · have ew1 : wrap64 (j - 1) = j - 1 := w64 (by omega) (by omega)
    have ew2 : wrap64 (j + 1) = j + 1 := w64 (by omega) (by omega)
    rw [if_neg e, if_pos (by omega), if_pos (by omega), rd_unit, beq_eq_false_iff_ne.2 e]
    refine ob (fGreat_eq _) ?_
    simp only [token_parts.j0]
    cases hg : great (rd (runesOf u) j)
    · rfl
    · rw [if_neg (by decide), ew1, ew2, if_pos (by omega), if_pos (by omega), rd_unit]
      refine ob (fSmall_eq _) ?_
      cases hs : small (rd (runesOf u) (j - 1))
      · rw [if_neg (by decide)]
        refine ob (fGreat_eq _) ?_
        cases hgg : great (rd (runesOf u) (j - 1))
        · rw [if_neg (by decide)]; rfl
        · rw [if_pos rfl]
          by_cases hlt : j + 1 < tz
          · rw [if_pos hlt, if_pos (by omega), if_pos (by omega), rd_unit, decide_eq_true hlt]
            exact ob (fSmall_eq _) (by simp)
          · rw [if_neg hlt, decide_eq_false hlt]
            rfl
      · rw [if_pos rfl]; rfl
theorem toksplit_from (u : List S45) (hn : u.length < 1000000000) (a tz : Nat) (ht : tz ≤ u.length) : ∀ (d j b : Nat), tz - j = d → a ≤ b → b < j → j ≤ tz → ∃ ps : List (Nat × Nat), PartsOk b tz ps ∧ ps.length ≤ tz - b ∧
    (∀ p ∈ ps.tail, cutAt (runesOf u) (a : Int) (tz : Int) (p.1 : Int) = true) ∧ (∀ t : Nat, j ≤ t → t < tz → cutAt (runesOf u) (a : Int) (tz : Int) (t : Int) = true → ∃ p ∈ ps.tail, p.1 = t) ∧ (∀ p ∈ ps.tail, j ≤ p.1) ∧
    ∀ acc : List S93, acc.length ≤ b → Ev (fun f => token_Split.l0 f u acc (a : Int) (tz : Int) (b : Int) (j : Int)) (acc ++ ps.map mkP) := by
  intro d
  induction d with
  | zero =>
    intro j b hd hab hbj hj
    obtain rfl : j = tz := by omega
    refine ⟨[(b, j)], ⟨rfl, hbj, Nat.le_refl _, rfl⟩, by simp; omega, by simp, fun t h1 h2 => by omega, by simp, fun acc ha => ?_⟩
    refine Ev.step (f := fun _ => some (acc ++ [mkP (b, j)])) (fun f => ?_) (Ev.now _)
    simp only [token_Split.l0]
    rw [if_neg (by omega), if_pos (by omega), if_pos (by omega)]
    rfl
  | succ d ih =>
    intro j b hd hab hbj hj
    have ew : wrap64 ((j : Int) + 1) = ((j + 1 : Nat) : Int) := by rw [w64 (by omega) (by omega)]; omega
    have hp := tokparts_eq u hn (a : Int) (tz : Int) (j : Int) (by omega) (by omega) (by omega) (by omega)
    cases hc : cutAt (runesOf u) (a : Int) (tz : Int) (j : Int)
    · obtain ⟨ps, h1, h2, h3, h4, h4b, h5⟩ := ih (j + 1) b (by omega) hab (by omega) (by omega)
      refine ⟨ps, h1, h2, h3, fun t q1 q2 q3 => ?_, fun p hp => by have := h4b p hp; omega, fun acc ha => ?_⟩
      · by_cases e : t = j
        · rw [e, hc] at q3; cases q3
        · exact h4 t (by omega) q2 q3
      · obtain ⟨K, hK⟩ := h5 acc ha
        refine ⟨K + 2, fun k hk => ?_⟩
        obtain ⟨k, rfl⟩ : ∃ m, k = m + 2 := ⟨k - 2, by omega⟩
        simp only [token_Split.l0]
        rw [if_pos (by omega)]
        refine ob (hp k) ?_
        rw [hc, if_neg (by decide), ew]
        exact hK (k + 1) (by omega)
    · obtain ⟨ps, h1, h2, h3, h4, h4b, h5⟩ := ih (j + 1) j (by omega) (by omega) (by omega) (by omega)
      have hps : ∃ y r, ps = (j, y) :: r := by
        cases ps with
        | nil => have : j = tz := h1; omega
        | cons p r => obtain ⟨x, y⟩ := p; obtain ⟨rfl, _⟩ := h1; exact ⟨y, r, rfl⟩
      refine ⟨(b, j) :: ps, ⟨rfl, hbj, by omega, h1⟩, by simp only [List.length_cons]; omega, ?_, fun t q1 q2 q3 => ?_, ?_, fun acc ha => ?_⟩
      · obtain ⟨y, r, rfl⟩ := hps
        intro p hp
        rcases List.mem_cons.1 hp with rfl | hp
        · exact hc
        · exact h3 p hp
      · obtain ⟨y, r, rfl⟩ := hps
        by_cases e : t = j
        · exact ⟨(j, y), by simp, e.symm⟩
        · obtain ⟨p, hp, e2⟩ := h4 t (by omega) q2 q3
          exact ⟨p, List.mem_cons_of_mem _ hp, e2⟩
      · obtain ⟨y, r, rfl⟩ := hps
        intro p hp
        rcases List.mem_cons.1 hp with rfl | hp
        · exact Nat.le_refl _
        · have := h4b p hp; omega
      · obtain ⟨K, hK⟩ := h5 (acc ++ [mkP (b, j)]) (by simp; omega)
        refine ⟨K + 2, fun k hk => ?_⟩
        obtain ⟨k, rfl⟩ : ∃ m, k = m + 2 := ⟨k - 2, by omega⟩
        simp only [token_Split.l0]
        rw [if_pos (by omega)]
        refine ob (hp k) ?_
        rw [hc, if_pos rfl, if_pos (by omega), ew]
        have := hK (k + 1) (by omega)
        rw [List.append_assoc] at this
        exact this
theorem toksplit_eq (u : List S45) (hn : u.length < 1000000000) (x y : Int) :
    ∃ ps : List (Nat × Nat), (mx x 0 < mn y (u.length : Int) → PartsOk (mx x 0).toNat (mn y (u.length : Int)).toNat ps ∧ (∀ p ∈ ps.tail, cutAt (runesOf u) (mx x 0) (mn y (u.length : Int)) (p.1 : Int) = true) ∧
      (∀ t : Nat, (mx x 0).toNat < t → t < (mn y (u.length : Int)).toNat → cutAt (runesOf u) (mx x 0) (mn y (u.length : Int)) (t : Int) = true → ∃ p ∈ ps.tail, p.1 = t)) ∧ (¬ mx x 0 < mn y (u.length : Int) → ps = []) ∧ ps.length ≤ u.length ∧ Ev (fun f => token_Split.f f u x y) (ps.map mkP) := by
  have hm : 0 ≤ mx x 0 := by unfold mx; split <;> omega
  have hm2 : mn y (u.length : Int) ≤ (u.length : Int) := by unfold mn; split <;> omega
  by_cases hlt : mx x 0 < mn y (u.length : Int)
  · obtain ⟨a, ea⟩ : ∃ a : Nat, mx x 0 = (a : Int) := ⟨(mx x 0).toNat, by omega⟩
    obtain ⟨tz, et⟩ : ∃ t : Nat, mn y (u.length : Int) = (t : Int) := ⟨(mn y (u.length : Int)).toNat, by omega⟩
    rw [ea, et] at hlt
    obtain ⟨ps, h1, h2, h3, h4, _, h5⟩ := toksplit_from u hn a tz (by omega) _ (a + 1) a rfl (Nat.le_refl _) (by omega) (by omega)
    refine ⟨ps, fun _ => ?_, fun h => by rw [ea, et] at h; exact absurd hlt h, by omega, ?_⟩
    · rw [ea, et]
      exact ⟨h1, h3, fun t q1 q2 => h4 t (by omega) (by omega)⟩
    · obtain ⟨K, hK⟩ := h5 [] (by simp)
      refine ⟨K + 2, fun k hk => ?_⟩
      obtain ⟨k, rfl⟩ : ∃ m, k = m + 2 := ⟨k - 2, by omega⟩
      unfold token_Split.f
      rw [ea, et]
      simp only [token_Split.l0]
      rw [if_pos hlt]
      have hp := tokparts_eq u hn (a : Int) (tz : Int) (a : Int) (by omega) (by omega) hlt (by omega) k
      refine ob hp ?_
      have : cutAt (runesOf u) (a : Int) (tz : Int) (a : Int) = false := by simp [cutAt]
      rw [this, if_neg (by decide), show wrap64 ((a : Int) + 1) = ((a + 1 : Nat) : Int) by rw [w64 (by omega) (by omega)]; omega]
      exact hK (k + 1) (by omega)
  · refine ⟨[], fun h => absurd h hlt, fun _ => rfl, by simp, ⟨1, fun k hk => ?_⟩⟩
    obtain ⟨k, rfl⟩ : ∃ m, k = m + 1 := ⟨k - 1, by omega⟩
    unfold token_Split.f
    simp only [token_Split.l0]
    rw [if_neg hlt, if_neg hlt]
    rfl
end Go.Proofs.YtekalnhackjldaaDoor.Pure
end
section
/- The printed functions of utf are the plain ones: utf.Next, utf.Units. -/
namespace Go.Proofs.YtekalnhackjldaaDoor.PTokenWords
open Go.RowKit Go.Proofs.YtekalnhackjldaaDoorW.PrintWords Go.Proofs.YtekalnhackjldaaDoorW.PrintLast Go.Proofs.YtekalnhackjldaaDoorW.PrintMore
open Go.Proofs.YtekalnhackjldaaDoor.M
set_option linter.unusedVariables false
set_option linter.unusedSimpArgs false
theorem first_a (m : Nat) {c : Int} (h0 : 0 ≤ c) (h : c < 128) : utf_first.f m c = some (c, 0, 0, true) := by
  unfold utf_first.f
  rw [if_pos h, w32 (x := c) (by omega) (by omega)]
theorem first_b (m : Nat) {c : Int} (h0 : 194 ≤ c) (h1 : c < 224) : utf_first.f (m + 1 + 1) c = some (c - 192, 1, 128, true) := by
  unfold utf_first.f
  rw [if_neg (by omega), if_pos h0]
  simp only [utf_first.j0]
  rw [if_pos (decide_eq_true h1), u8_and31 c (by omega) (by omega), w32 (x := c % 32) (by omega) (by omega)]
  congr 2; omega
theorem first_c (m : Nat) {c : Int} (h0 : 224 ≤ c) (h1 : c < 240) : utf_first.f (m + 1 + 1) c = some (c - 224, 2, 2048, true) := by
  unfold utf_first.f
  rw [if_neg (by omega), if_pos (by omega)]
  simp only [utf_first.j0, utf_first.j1]
  rw [if_neg (by rw [decide_eq_true_eq]; omega), if_pos h0, if_pos (decide_eq_true h1), u8_and15 c (by omega) (by omega), w32 (x := c % 16) (by omega) (by omega)]
  congr 2; omega
theorem first_d (m : Nat) {c : Int} (h0 : 240 ≤ c) (h1 : c < 245) : utf_first.f (m + 1 + 1) c = some (c - 240, 3, 65536, true) := by
  unfold utf_first.f
  rw [if_neg (by omega), if_pos (by omega)]
  simp only [utf_first.j0, utf_first.j1]
  rw [if_neg (by rw [decide_eq_true_eq]; omega), if_pos (by omega), if_neg (by rw [decide_eq_true_eq]; omega), if_pos h0, if_pos h1, u8_and7 c (by omega) (by omega), w32 (x := c % 8) (by omega) (by omega)]
  congr 2; omega
theorem first_e (m : Nat) {c : Int} (h0 : 128 ≤ c) (h : c < 194 ∨ 245 ≤ c) : utf_first.f (m + 1 + 1) c = some (0, 0, 0, false) := by
  unfold utf_first.f
  rw [if_neg (by omega)]
  by_cases h1 : c ≥ 194
  · rw [if_pos h1]
    simp only [utf_first.j0, utf_first.j1]
    rw [if_neg (by rw [decide_eq_true_eq]; omega), if_pos (by omega), if_neg (by rw [decide_eq_true_eq]; omega), if_pos (by omega), if_neg (by omega)]
  · rw [if_neg h1]
    simp only [utf_first.j0, utf_first.j1]
    rw [if_neg (by simp)]
    by_cases h2 : c ≥ 224
    · omega
    · rw [if_neg h2, if_neg (by simp), if_neg (by omega)]
theorem step_T (k : Nat) (r more least c : Int) (l : List Int) (n i : Int) (hi : 0 ≤ i) (hn : i < n) (hl : i < (l.length : Int)) (hc : rd l i = c) (h0 : 0 ≤ c) (h1 : c < 256) (hr0 : 0 ≤ r) (hr : r < 33554432) (hi' : i < 1000) :
    utf_Next.l0 (k + 1) r more least l n i = if isT c = true then utf_Next.l0 k (r * 64 + (c - 128)) more least l n (i + 1) else some (-1, 1) := by
  have e1 : Go.bits .and .u8 c 192 = c / 64 * 64 := by
    have : ∀ x : Fin 256, Go.bits .and .u8 ((x.val : Nat) : Int) 192 = ((x.val : Nat) : Int) / 64 * 64 := by decide +kernel
    have h := this ⟨c.toNat, by omega⟩
    simpa [Int.toNat_of_nonneg h0] using h
  simp only [utf_Next.l0]
  rw [if_pos hn, if_pos hi, if_pos hl, hc, e1]
  by_cases hT : isT c = true
  · have hT' := (isT_iff c).1 hT
    rw [if_pos (by omega), if_pos hT, u8_and63 c h0 h1, w32 (x := r * 64) (by omega) (by omega), w32 (x := c % 64) (by omega) (by omega), i32_or6 (r * 64) (c % 64) (by omega) (by omega) (by omega) (by omega) (by omega), w64 (x := i + 1) (by omega) (by omega)]
    congr 1; omega
  · have hT' : ¬ (128 ≤ c ∧ c < 192) := fun h => hT ((isT_iff c).2 h)
    rw [if_neg (by omega), if_neg hT]
theorem end_T (k : Nat) (r more least : Int) (l : List Int) (n : Int) (hr : least ≤ r) (hr1 : r ≤ 1114111) (hs : ¬ (55296 ≤ r ∧ r < 57344)) (hm0 : 0 ≤ more) (hm : more < 10) :
    utf_Next.l0 (k + 1) r more least l n n = some (r, 1 + more) := by
  simp only [utf_Next.l0]
  rw [if_neg (by omega), if_neg (by omega), if_neg (by omega), w64 (x := 1 + more) (by omega) (by omega)]
  by_cases h : r ≥ 55296
  · rw [if_pos h, if_neg (by omega)]
  · rw [if_neg h]
theorem end_F (k : Nat) (r more least : Int) (l : List Int) (n : Int) (h : r < least ∨ 1114111 < r ∨ (55296 ≤ r ∧ r < 57344)) :
    utf_Next.l0 (k + 1) r more least l n n = some (-1, 1) := by
  simp only [utf_Next.l0]
  rw [if_neg (by omega)]
  by_cases h1 : r < least
  · rw [if_pos h1]
  · rw [if_neg h1]
    by_cases h2 : r > 1114111
    · rw [if_pos h2]
    · rw [if_neg h2, if_pos (by omega), if_pos (by omega)]
theorem j0_short (k : Nat) (b : List Int) (r more least : Int) : utf_Next.j0 (k + 1) b r more least true = some (-1, 1) := by
  simp only [utf_Next.j0, ↓reduceIte]
theorem j0_long (k : Nat) (b : List Int) (r more least : Int) (hm0 : 0 ≤ more) (hn : more < (b.length : Int)) (hn' : more < 10) :
    utf_Next.j0 (k + 1) b r more least false = utf_Next.l0 k r more least ((b.take (more.toNat + 1)).drop 1) more 0 := by
  simp only [utf_Next.j0]
  have e : wrap64 (1 + more) = 1 + more := w64 (by omega) (by omega)
  have e3 : (1 + more).toNat = more.toNat + 1 := by omega
  have e2 : (((b.take (more.toNat + 1)).drop 1).length : Int) = more := by rw [List.length_drop, List.length_take]; omega
  rw [if_neg (by simp), e, if_pos (by omega), if_pos (by omega), e3]
  simp only [Option.bind_some]
  rw [e2]
theorem next_eq {k : Nat} (hk : 6 ≤ k) {b : List Int} (hB : BT b) : utf_Next.f k b = some (nx b) := by
  obtain ⟨m, rfl⟩ : ∃ m, k = m + 1 + 1 + 1 + 1 + 1 + 1 := ⟨k - 6, by omega⟩
  rcases b with _ | ⟨c, t⟩
  · rfl
  have hc := hB.head
  have hl : (((c :: t).length : Nat) : Int) = t.length + 1 := by simp
  unfold utf_Next.f
  rw [if_neg (by rw [hl]; omega), if_pos (by rw [hl]; omega), show rd (c :: t) 0 = c from rfl]
  by_cases h1 : c < 128
  · rw [first_a _ hc.1 h1]
    simp only [Option.bind_some, ↓reduceIte]
    rw [decide_eq_false (by rw [hl]; omega), j0_long (m + 1 + 1 + 1 + 1 + 1) (c :: t) c 0 0 (by omega) (by rw [hl]; omega) (by omega), end_T (m + 1 + 1 + 1 + 1) c 0 0 _ 0 hc.1 (by omega) (by omega) (by omega) (by omega)]
    simp [nx, h1]
  by_cases h2 : 194 ≤ c ∧ c < 224
  · rw [first_b (m + 1 + 1 + 1 + 1) h2.1 h2.2]
    simp only [Option.bind_some, ↓reduceIte]
    rcases t with _ | ⟨c1, t⟩
    · rw [decide_eq_true (by simp), j0_short]; simp [nx, h1, h2]
    · have b1 := hB.tail.head
      rw [decide_eq_false (by simp; omega), j0_long (m + 1 + 1 + 1 + 1 + 1) (c :: c1 :: t) (c - 192) 1 128 (by omega) (by simp; omega) (by omega)]
      rw [show ((c :: c1 :: t).take ((1 : Int).toNat + 1)).drop 1 = [c1] from rfl]
      rw [step_T (m + 1 + 1 + 1 + 1) (c - 192) 1 128 c1 [c1] 1 0 (by omega) (by omega) (by simp) rfl b1.1 b1.2 (by omega) (by omega) (by omega)]
      by_cases hT : isT c1 = true
      · have := (isT_iff c1).1 hT
        rw [if_pos hT, show (0 : Int) + 1 = 1 from rfl, end_T (m + 1 + 1 + 1) ((c - 192) * 64 + (c1 - 128)) 1 128 [c1] 1 (by omega) (by omega) (by omega) (by omega) (by omega)]
        simp [nx, h1, h2, hT, v2]
      · rw [if_neg hT]; simp [nx, h1, h2, hT]
  by_cases h3 : 224 ≤ c ∧ c < 240
  · rw [first_c (m + 1 + 1 + 1 + 1) h3.1 h3.2]
    simp only [Option.bind_some, ↓reduceIte]
    rcases t with _ | ⟨c1, _ | ⟨c2, t⟩⟩
    · rw [decide_eq_true (by simp), j0_short]; simp [nx, h1, h2, h3]
    · rw [decide_eq_true (by simp), j0_short]; simp [nx, h1, h2, h3]
    · have b1 := hB.tail.head
      have b2 := hB.tail.tail.head
      rw [decide_eq_false (by simp; omega), j0_long (m + 1 + 1 + 1 + 1 + 1) (c :: c1 :: c2 :: t) (c - 224) 2 2048 (by omega) (by simp; omega) (by omega)]
      rw [show ((c :: c1 :: c2 :: t).take ((2 : Int).toNat + 1)).drop 1 = [c1, c2] from rfl]
      rw [step_T (m + 1 + 1 + 1 + 1) (c - 224) 2 2048 c1 [c1, c2] 2 0 (by omega) (by omega) (by simp) rfl b1.1 b1.2 (by omega) (by omega) (by omega)]
      simp only [nx]
      rw [if_neg h1, if_neg h2, if_pos h3]
      by_cases hT : isT c1 = true
      · have t1 := (isT_iff c1).1 hT
        rw [if_pos hT, step_T (m + 1 + 1 + 1) ((c - 224) * 64 + (c1 - 128)) 2 2048 c2 [c1, c2] 2 (0 + 1) (by omega) (by omega) (by simp) rfl b2.1 b2.2 (by omega) (by omega) (by omega)]
        by_cases hT2 : isT c2 = true
        · have t2 := (isT_iff c2).1 hT2
          rw [if_pos hT2, show (0 : Int) + 1 + 1 = 2 from rfl]
          by_cases hv : 2048 ≤ v3 c c1 c2 ∧ ¬ (55296 ≤ v3 c c1 c2 ∧ v3 c c1 c2 < 57344)
          · rw [if_pos ⟨hT, hT2, hv.1, hv.2⟩]
            exact end_T (m + 1 + 1) (v3 c c1 c2) 2 2048 [c1, c2] 2 hv.1 (by unfold v3; omega) hv.2 (by omega) (by omega)
          · rw [if_neg (fun h => hv h.2.2)]
            exact end_F (m + 1 + 1) (v3 c c1 c2) 2 2048 [c1, c2] 2 (by omega)
        · rw [if_neg hT2, if_neg (fun h => hT2 h.2.1)]
      · rw [if_neg hT, if_neg (fun h => hT h.1)]
  by_cases h4 : 240 ≤ c ∧ c < 245
  · rw [first_d (m + 1 + 1 + 1 + 1) h4.1 h4.2]
    simp only [Option.bind_some, ↓reduceIte]
    rcases t with _ | ⟨c1, _ | ⟨c2, _ | ⟨c3, t⟩⟩⟩
    · rw [decide_eq_true (by simp), j0_short]; simp [nx, h1, h2, h3, h4]
    · rw [decide_eq_true (by simp), j0_short]; simp [nx, h1, h2, h3, h4]
    · rw [decide_eq_true (by simp), j0_short]; simp [nx, h1, h2, h3, h4]
    · have b1 := hB.tail.head
      have b2 := hB.tail.tail.head
      have b3 := hB.tail.tail.tail.head
      rw [decide_eq_false (by simp; omega), j0_long (m + 1 + 1 + 1 + 1 + 1) (c :: c1 :: c2 :: c3 :: t) (c - 240) 3 65536 (by omega) (by simp; omega) (by omega)]
      rw [show ((c :: c1 :: c2 :: c3 :: t).take ((3 : Int).toNat + 1)).drop 1 = [c1, c2, c3] from rfl]
      rw [step_T (m + 1 + 1 + 1 + 1) (c - 240) 3 65536 c1 [c1, c2, c3] 3 0 (by omega) (by omega) (by simp) rfl b1.1 b1.2 (by omega) (by omega) (by omega)]
      simp only [nx]
      rw [if_neg h1, if_neg h2, if_neg h3, if_pos h4]
      by_cases hT : isT c1 = true
      · have t1 := (isT_iff c1).1 hT
        rw [if_pos hT, step_T (m + 1 + 1 + 1) ((c - 240) * 64 + (c1 - 128)) 3 65536 c2 [c1, c2, c3] 3 (0 + 1) (by omega) (by omega) (by simp) rfl b2.1 b2.2 (by omega) (by omega) (by omega)]
        by_cases hT2 : isT c2 = true
        · have t2 := (isT_iff c2).1 hT2
          rw [if_pos hT2, step_T (m + 1 + 1) (((c - 240) * 64 + (c1 - 128)) * 64 + (c2 - 128)) 3 65536 c3 [c1, c2, c3] 3 (0 + 1 + 1) (by omega) (by omega) (by simp) rfl b3.1 b3.2 (by omega) (by omega) (by omega)]
          by_cases hT3 : isT c3 = true
          · have t3 := (isT_iff c3).1 hT3
            rw [if_pos hT3, show (0 : Int) + 1 + 1 + 1 = 3 from rfl]
            by_cases hv : 65536 ≤ v4 c c1 c2 c3 ∧ v4 c c1 c2 c3 ≤ 1114111
            · rw [if_pos ⟨hT, hT2, hT3, hv.1, hv.2⟩]
              exact end_T (m + 1) (v4 c c1 c2 c3) 3 65536 [c1, c2, c3] 3 hv.1 hv.2 (by omega) (by omega) (by omega)
            · rw [if_neg (fun h => hv h.2.2.2)]
              exact end_F (m + 1) (v4 c c1 c2 c3) 3 65536 [c1, c2, c3] 3 (by omega)
          · rw [if_neg hT3, if_neg (fun h => hT3 h.2.2.1)]
        · rw [if_neg hT2, if_neg (fun h => hT2 h.2.1)]
      · rw [if_neg hT, if_neg (fun h => hT h.1)]
  · rw [first_e (m + 1 + 1 + 1 + 1) (by omega) (by omega)]
    simp only [Option.bind_some]
    rw [if_neg (by simp), j0_short]
    simp [nx, h1, h2, h3, h4]
def mkU : Int → List (Int × Int) → List S45
  | _, [] => []
  | at_, (r, n) :: l => ⟨r, ⟨at_, n⟩⟩ :: mkU (at_ + n) l
theorem mkU_len (a : Int) (l : List (Int × Int)) : (mkU a l).length = l.length := by
  induction l generalizing a with
  | nil => rfl
  | cons x l ih => simp [mkU, ih]
theorem mkU_map (a : Int) (l : List (Int × Int)) : (mkU a l).map (fun u => (u.f0, u.f1.f1)) = l := by
  induction l generalizing a with
  | nil => rfl
  | cons x l ih => simp [mkU, ih]
theorem BT_of_wf {l : List Int} (h : ∀ x ∈ l, (Lit.int .u8 x).wf = true) : BT l := by
  intro x hx
  have := h x hx
  simp [Lit.wf, IntKind.min, IntKind.max, IntKind.signed, IntKind.bits] at this
  omega
end Go.Proofs.YtekalnhackjldaaDoor.PTokenWords
end
section
/- The signs of bytes, for the laws on runs and words. -/
namespace Go.Proofs.YtekalnhackjldaaDoor.Pure
open Go.RowKit Go.Proofs.YtekalnhackjldaaDoor.PTokenWords Go.Proofs.YtekalnhackjldaaDoorW.PrintWords Go.Proofs.YtekalnhackjldaaDoorW.PrintLast
open Go.Proofs.YtekalnhackjldaaDoor.M Go.Proofs.YtekalnhackjldaaDoor.X
set_option linter.unusedVariables false
set_option linter.unusedSimpArgs false
theorem runesOf_mkU (a : Int) (l : List (Int × Int)) : runesOf (mkU a l) = l.map (·.1) := by
  have h := mkU_map a l
  have : runesOf (mkU a l) = ((mkU a l).map (fun u => (u.f0, u.f1.f1))).map (·.1) := by
    unfold runesOf
    rw [List.map_map]
    rfl
  rw [this, h]
theorem rs_bound {b : List Int} (hB : BT b) : ∀ r ∈ rs b, -1 ≤ r ∧ r ≤ 1114111 := by
  intro r hr
  rcases rs_each b hB r hr with rfl | h
  · omega
  · rw [okR_iff] at h; omega
end Go.Proofs.YtekalnhackjldaaDoor.Pure
end
section
/- The printed token.Words: the parts of all runs, those that are wanted, as words. -/
namespace Go.Proofs.YtekalnhackjldaaDoor.Pure
open Go.RowKit Go.Proofs.YtekalnhackjldaaDoor.PTokenWords Go.Proofs.YtekalnhackjldaaDoorW.PrintWords Go.Proofs.YtekalnhackjldaaDoorW.PrintLast
open Go.Proofs.YtekalnhackjldaaDoor.M Go.Proofs.YtekalnhackjldaaDoor.X
set_option linter.unusedVariables false
set_option linter.unusedSimpArgs false
def sub (u : List S45) (p : Nat × Nat) : List S45 := (u.take p.2).drop p.1
theorem sub_len (u : List S45) {p : Nat × Nat} (h : p.2 ≤ u.length) : (sub u p).length = p.2 - p.1 := by
  unfold sub
  rw [List.length_drop, List.length_take]
  omega
theorem sub_get (u : List S45) {p : Nat × Nat} (h : p.2 ≤ u.length) (i : Nat) (hi : p.1 + i < p.2) : rd_T45 (sub u p) (i : Int) = rd_T45 u ((p.1 + i : Nat) : Int) := by
  unfold rd_T45 sub
  rw [Int.toNat_natCast, Int.toNat_natCast, List.getD_eq_getElem?_getD, List.getD_eq_getElem?_getD, List.getElem?_drop, List.getElem?_take_of_lt hi]
def spanAt (u : List S45) (p : Nat × Nat) : S40 := ⟨(rd_T45 u (p.1 : Int)).f1.f0, wrap64 (wrap64 ((rd_T45 u ((p.2 - 1 : Nat) : Int)).f1.f0 + (rd_T45 u ((p.2 - 1 : Nat) : Int)).f1.f1) - (rd_T45 u (p.1 : Int)).f1.f0)⟩
def sel (lo hi : Int) (p : Nat × Nat) : Bool := decide (lo ≤ ((p.2 - p.1 : Nat) : Int)) && decide (((p.2 - p.1 : Nat) : Int) ≤ hi)
section
variable (x : List Int) (u : List S45) (lo hi : Int) (tx : Nat × Nat → ByteArray) (lt : Nat × Nat → Bool)
def wdG (p : Nat × Nat) : S90 := ⟨tx p, spanAt u p, lt p⟩
theorem words_l1 (hn : u.length < 1000000000) (hT : ∀ p : Nat × Nat, p.1 < p.2 → p.2 ≤ u.length → (∀ t : Nat, p.1 ≤ t → t < p.2 → inn (runesOf u) (t : Int) = true) → Ev (fun f => decode_Text.f f (sub u p)) (tx p)) (hL : ∀ p : Nat × Nat, p.1 < p.2 → p.2 ≤ u.length → (∀ t : Nat, p.1 ≤ t → t < p.2 → inn (runesOf u) (t : Int) = true) → Ev (fun f => decode_Literal.f f x (sub u p)) (lt p))
    (RS : List S93) (n i : Int) (b : Nat) (hb : b ≤ u.length) (r : List S90) : ∀ (ps dn : List (Nat × Nat)) (a : Nat), PartsOk a b ps → (∀ t : Nat, a ≤ t → t < b → inn (runesOf u) (t : Int) = true) → (dn ++ ps).length < 1000000000 → ∀ acc : List S90, acc.length ≤ a →
    ((acc ++ (ps.filter (sel lo hi)).map (wdG u tx lt)).length ≤ b → Ev (fun f => token_Words.l0 f x u lo hi (acc ++ (ps.filter (sel lo hi)).map (wdG u tx lt)) RS n (wrap64 (i + 1))) r) →
    Ev (fun f => token_Words.l1 f x u lo hi acc RS n i ((dn ++ ps).map mkP) (((dn ++ ps).map mkP).length : Int) (dn.length : Int)) r := by
  intro ps
  induction ps with
  | nil =>
    intro dn a hP hin hl acc ha hr
    have hab : a = b := hP
    refine Ev.step (f := fun f => token_Words.l0 f x u lo hi acc RS n (wrap64 (i + 1))) (fun f => ?_) (by
      have := hr (by simp; omega)
      simpa using this)
    simp only [token_Words.l1]
    rw [if_neg (by simp)]
  | cons p ps ih =>
    intro dn a hP hin hl acc ha hr
    obtain ⟨p1, p2⟩ := p
    obtain ⟨rfl, h1, h2, h3⟩ := hP
    have hlen : (((dn ++ (p1, p2) :: ps).map mkP).length : Int) = ((dn.length + ps.length + 1 : Nat) : Int) := by simp; omega
    have hget : rd_T93 ((dn ++ (p1, p2) :: ps).map mkP) (dn.length : Int) = mkP (p1, p2) := by
      unfold rd_T93
      rw [Int.toNat_natCast, List.getD_eq_getElem?_getD, List.getElem?_map, List.getElem?_append_right (Nat.le_refl _)]
      simp
    simp only [List.length_append, List.length_cons] at hl
    have ew : wrap64 ((dn.length : Int) + 1) = ((dn ++ [(p1, p2)]).length : Int) := by rw [w64 (by omega) (by omega)]; simp
    have hs := sub_len u (p := (p1, p2)) (by show p2 ≤ _; omega)
    have hs' : ((sub u (p1, p2)).length : Int) = ((p2 - p1 : Nat) : Int) := by rw [hs]
    -- what follows, with this word or without it
    have next : ∀ acc' : List S90, acc'.length ≤ p2 → acc' ++ (ps.filter (sel lo hi)).map (wdG u tx lt) = acc ++ (((p1, p2) :: ps).filter (sel lo hi)).map (wdG u tx lt) →
        Ev (fun f => token_Words.l1 f x u lo hi acc' RS n i ((dn ++ (p1, p2) :: ps).map mkP) (((dn ++ (p1, p2) :: ps).map mkP).length : Int) ((dn ++ [(p1, p2)]).length : Int)) r := by
      intro acc' ha' he
      have := ih (dn ++ [(p1, p2)]) p2 h3 (fun t q q' => hin t (by omega) q') (by simp; omega) acc' ha' (fun hb' => by rw [he] at hb' ⊢; exact hr hb')
      simpa using this
    have step : ∀ k, token_Words.l1 (k + 1) x u lo hi acc RS n i ((dn ++ (p1, p2) :: ps).map mkP) (((dn ++ (p1, p2) :: ps).map mkP).length : Int) (dn.length : Int) =
        token_Words.j2 k x u lo hi acc (sub u (p1, p2)) RS n i ((dn ++ (p1, p2) :: ps).map mkP) (((dn ++ (p1, p2) :: ps).map mkP).length : Int) (dn.length : Int) (!sel lo hi (p1, p2)) := by
      intro k
      simp only [token_Words.l1]
      rw [hget, if_pos (by rw [hlen]; omega), if_pos (by omega), if_pos (by rw [hlen]; omega), if_pos (show (0 : Int) ≤ (mkP (p1, p2)).f0 from Int.natCast_nonneg p1), if_pos (show (mkP (p1, p2)).f0 ≤ (mkP (p1, p2)).f1 by show (p1 : Int) ≤ (p2 : Int); omega),
        if_pos (show (mkP (p1, p2)).f1 ≤ (u.length : Int) by show (p2 : Int) ≤ (u.length : Int); omega)]
      simp only [Option.bind_some]
      show (if ((sub u (p1, p2)).length : Int) < lo then token_Words.j2 k x u lo hi acc (sub u (p1, p2)) RS n i _ _ _ true else token_Words.j2 k x u lo hi acc (sub u (p1, p2)) RS n i _ _ _ (decide (((sub u (p1, p2)).length : Int) > hi))) = _
      rw [hs']
      unfold sel
      by_cases q1 : ((p2 - p1 : Nat) : Int) < lo
      · rw [if_pos q1, decide_eq_false (show ¬ lo ≤ ((p2 - p1 : Nat) : Int) by omega)]
        rfl
      · rw [if_neg q1, decide_eq_true (show lo ≤ ((p2 - p1 : Nat) : Int) by omega), Bool.true_and]
        by_cases q2 : ((p2 - p1 : Nat) : Int) ≤ hi
        · rw [decide_eq_true q2, decide_eq_false (show ¬ ((p2 - p1 : Nat) : Int) > hi by omega)]
          rfl
        · rw [decide_eq_false q2, decide_eq_true (show ((p2 - p1 : Nat) : Int) > hi by omega)]
          rfl
    refine Ev.step step ?_
    cases hsel : sel lo hi (p1, p2)
    · refine Ev.step (f := fun f => token_Words.l1 f x u lo hi acc RS n i ((dn ++ (p1, p2) :: ps).map mkP) (((dn ++ (p1, p2) :: ps).map mkP).length : Int) ((dn ++ [(p1, p2)]).length : Int)) (fun f => ?_) (next acc (by omega) (by rw [List.filter_cons, if_neg (by rw [hsel]; decide)]))
      simp only [token_Words.j2, Bool.not_false, if_true]
      rw [ew]
    · have hL0 : wrap64 (((p2 - p1 : Nat) : Int) - 1) = ((p2 - p1 - 1 : Nat) : Int) := by rw [w64 (by omega) (by omega)]; omega
      have g0 := sub_get u (p := (p1, p2)) (by show p2 ≤ _; omega) 0 (by show p1 + 0 < p2; omega)
      have g1 := sub_get u (p := (p1, p2)) (by show p2 ≤ _; omega) (p2 - p1 - 1) (by show p1 + (p2 - p1 - 1) < p2; omega)
      simp only [show p1 + (p2 - p1 - 1) = p2 - 1 by omega, Nat.add_zero] at g0 g1
      have hw : (⟨tx (p1, p2), (⟨(rd_T45 (sub u (p1, p2)) 0).f1.f0, wrap64 ((wrap64 (((rd_T45 (sub u (p1, p2)) ((p2 - p1 - 1 : Nat) : Int)).f1.f0) + ((rd_T45 (sub u (p1, p2)) ((p2 - p1 - 1 : Nat) : Int)).f1.f1))) - ((rd_T45 (sub u (p1, p2)) 0).f1.f0))⟩ : S40), lt (p1, p2)⟩ : S90) = wdG u tx lt (p1, p2) := by
        have g0' : rd_T45 (sub u (p1, p2)) 0 = rd_T45 u (p1 : Int) := g0
        rw [g0', g1]
        rfl
      refine Ev.step (f := fun f => (decode_Text.f f (sub u (p1, p2))).bind fun t => (decode_Literal.f f x (sub u (p1, p2))).bind fun l => token_Words.l1 f x u lo hi (acc ++ [(⟨t, (⟨(rd_T45 (sub u (p1, p2)) 0).f1.f0, wrap64 ((wrap64 (((rd_T45 (sub u (p1, p2)) ((p2 - p1 - 1 : Nat) : Int)).f1.f0) + ((rd_T45 (sub u (p1, p2)) ((p2 - p1 - 1 : Nat) : Int)).f1.f1))) - ((rd_T45 (sub u (p1, p2)) 0).f1.f0))⟩ : S40), l⟩ : S90)]) RS n i ((dn ++ (p1, p2) :: ps).map mkP) (((dn ++ (p1, p2) :: ps).map mkP).length : Int) ((dn ++ [(p1, p2)]).length : Int)) (fun f => ?_) (Ev.bind (hT (p1, p2) h1 (by show p2 ≤ _; omega) (fun t q q' => hin t q (Nat.lt_of_lt_of_le q' h2))) (Ev.bind (hL (p1, p2) h1 (by show p2 ≤ _; omega) (fun t q q' => hin t q (Nat.lt_of_lt_of_le q' h2))) ?_))
      · simp only [token_Words.j2, Bool.not_true, Bool.false_eq_true, if_false]
        rw [hs', hL0, if_pos (by omega), if_pos (by omega), if_pos (by omega), ew]
        simp only [if_pos (show acc.length < 3518437208883 by omega)]
      · rw [hw]
        exact next (acc ++ [wdG u tx lt (p1, p2)]) (by simp; omega) (by rw [List.filter_cons, if_pos hsel, List.map_cons, List.append_assoc]; rfl)
end
end Go.Proofs.YtekalnhackjldaaDoor.Pure
end
section
/- The reference's runs and parts are the text's. -/
namespace Go.Proofs.YtekalnhackjldaaDoor.Pure
open Go.RowKit Go.Proofs.YtekalnhackjldaaDoor.PTokenWords Go.Proofs.YtekalnhackjldaaDoorW.PrintWords Go.Proofs.YtekalnhackjldaaDoorW.PrintLast
open Go.Proofs.YtekalnhackjldaaDoor.M Go.Proofs.YtekalnhackjldaaDoor.X
set_option linter.unusedVariables false
set_option linter.unusedSimpArgs false
theorem rgreat_eq (r : Int) : redpenref01_Great.f r = some (great r) := by
  unfold redpenref01_Great.f
  cases h : great r
  · rw [great_not] at h
    (repeat' split) <;> first | rfl | omega | (rw [Option.some.injEq, bne_eq_false_iff_eq]; omega)
  · rw [great_iff] at h
    (repeat' split) <;> first | rfl | omega | (rw [Option.some.injEq, bne_iff_ne]; omega)
theorem rsmall_eq {r : Int} (h0 : -2147483600 ≤ r) (h1 : r < 2147483648) : redpenref01_Small.f r = some (small r) := by
  unfold redpenref01_Small.f
  rw [w32 (by omega) (by omega)]
  exact ob (rgreat_eq _) rfl
theorem rletter_eq {r : Int} (h0 : -2147483600 ≤ r) (h1 : r < 2147483648) : redpenref01_Letter.f r = some (letter r) := by
  unfold redpenref01_Letter.f
  refine ob (rgreat_eq r) ?_
  have hi := letter_iff r
  cases hg : great r
  · rw [if_neg (by decide)]
    refine ob (rsmall_eq h0 h1) ?_
    cases hs : small r
    · rw [if_neg (by decide)]
      rw [hg, hs] at hi
      simp only [Bool.false_eq_true, false_or] at hi
      cases hl : letter r
      · rw [hl] at hi
        simp only [Bool.false_eq_true, false_iff] at hi
        (repeat' split) <;> first | rfl | omega | (rw [Option.some.injEq, decide_eq_false_iff_not]; omega)
      · have h := hi.1 hl
        (repeat' split) <;> first | rfl | omega | (rw [Option.some.injEq, decide_eq_true_iff]; omega)
    · rw [if_pos rfl, hi.2 (.inr (.inl hs))]
  · rw [if_pos rfl, hi.2 (.inl hg)]
def RB (u : List S45) : Prop := ∀ r ∈ runesOf u, -1 ≤ r ∧ r ≤ 1114111
theorem RB.rd {u : List S45} (h : RB u) (i : Int) : -1 ≤ rd (runesOf u) i ∧ rd (runesOf u) i ≤ 1114111 := by
  unfold Go.Proofs.YtekalnhackjldaaDoorW.PrintWords.rd
  rw [List.getD_eq_getElem?_getD]
  cases e : (runesOf u)[i.toNat]? with
  | none => simp
  | some x => exact h x (List.mem_of_getElem? e)
theorem refletter_eq {u : List S45} (hu : RB u) (i : Int) : redpenref15_letter.f u i = some (ltr (runesOf u) i) := by
  unfold redpenref15_letter.f ltr
  rw [runesOf_len]
  by_cases h0 : 0 ≤ i
  · rw [if_pos (show i ≥ 0 from h0), decide_eq_true h0]
    by_cases h1 : i < (u.length : Int)
    · rw [if_pos h1, if_pos h0, decide_eq_true h1, rd_unit]
      have := hu.rd i
      exact ob (rletter_eq (by omega) (by omega)) (by simp)
    · rw [if_neg h1, decide_eq_false h1]
      simp
  · rw [if_neg (show ¬ i ≥ 0 from h0), decide_eq_false h0]
    simp
theorem refinner_eq {u : List S45} (hu : RB u) (hn : u.length < 1000000000) (i : Int) : redpenref15_inner.f u i = some (inn (runesOf u) i) := by
  unfold redpenref15_inner.f inn
  refine ob (refletter_eq hu i) ?_
  rw [runesOf_len]
  cases hl : ltr (runesOf u) i
  · rw [if_neg (by decide)]
    by_cases h0 : 0 < i
    · rw [if_pos (show i > 0 from h0), decide_eq_true h0]
      by_cases h1 : i < (u.length : Int)
      · rw [if_pos h1, if_pos (by omega), decide_eq_true h1, rd_unit]
        by_cases h39 : rd (runesOf u) i = 39
        · rw [if_pos h39, beq_iff_eq.2 h39, w64 (x := i - 1) (by omega) (by omega), w64 (x := i + 1) (by omega) (by omega)]
          refine ob (refletter_eq hu (i - 1)) ?_
          cases ltr (runesOf u) (i - 1)
          · rfl
          · rw [if_pos rfl]
            exact ob (refletter_eq hu (i + 1)) (by simp)
        · rw [if_neg h39, beq_eq_false_iff_ne.2 h39]
          rfl
      · rw [if_neg h1, decide_eq_false h1]
        rfl
    · rw [if_neg (show ¬ i > 0 from h0), decide_eq_false h0]
      rfl
  · rfl
theorem refruns_inner {u : List S45} (hu : RB u) (hn : u.length < 1000000000) (k : Nat) (hk : k ≤ u.length) (hkf : inn (runesOf u) (k : Int) = false) (i : Int) (acc r : List S93) (ha : acc.length < 8796093022208)
    (hr : Ev (fun f => redpenref15_Runs.l0 f u (acc ++ [⟨i, (k : Int)⟩]) (k : Int)) r) : ∀ (d j : Nat), k - j = d → j ≤ k → (∀ t : Nat, j ≤ t → t < k → inn (runesOf u) (t : Int) = true) → Ev (fun f => redpenref15_Runs.l1 f u acc i (j : Int)) r := by
  intro d
  induction d with
  | zero =>
    intro j hd hj hin
    obtain rfl : j = k := by omega
    refine Ev.step (f := fun f => redpenref15_Runs.l0 f u (acc ++ [⟨i, (j : Int)⟩]) (j : Int)) (fun f => ?_) hr
    simp only [redpenref15_Runs.l1]
    refine ob (refinner_eq hu hn _) ?_
    rw [hkf, if_neg (by decide), if_pos ha, w64 (x := (j : Int) - 1) (by omega) (by omega), w64 (x := (j : Int) - 1 + 1) (by omega) (by omega)]
    congr 1
    omega
  | succ d ih =>
    intro j hd hj hin
    refine Ev.step (f := fun f => redpenref15_Runs.l1 f u acc i ((j + 1 : Nat) : Int)) (fun f => ?_) (ih (j + 1) (by omega) (by omega) (fun t h1 h2 => hin t (by omega) h2))
    simp only [redpenref15_Runs.l1]
    refine ob (refinner_eq hu hn _) ?_
    rw [hin j (Nat.le_refl _) (by omega), if_pos rfl, w64 (x := (j : Int) + 1) (by omega) (by omega)]
    rfl
theorem refruns_main {u : List S45} (hu : RB u) (hn : u.length < 1000000000) : ∀ (d i : Nat) (rs : List (Nat × Nat)), u.length - i ≤ d → RunsOk (runesOf u) i rs → ∀ acc : List S93, acc.length ≤ i → Ev (fun f => redpenref15_Runs.l0 f u acc (i : Int)) (acc ++ rs.map mkP) := by
  intro d
  induction d with
  | zero =>
    intro i rs hd hR acc ha
    have : rs = [] := by
      cases rs with
      | nil => rfl
      | cons p r => obtain ⟨a, b⟩ := p; obtain ⟨h1, h2, h3, _⟩ := hR; rw [runesOf_len] at h3; omega
    subst this
    refine Ev.step (f := fun _ => some acc) (fun f => ?_) (by rw [List.map_nil, List.append_nil]; exact Ev.now _)
    simp only [redpenref15_Runs.l0]
    rw [if_neg (by omega)]
  | succ d ih =>
    intro i rs hd hR acc ha
    by_cases hlt : i < u.length
    · have ew : wrap64 ((i : Int) + 1) = ((i + 1 : Nat) : Int) := by rw [w64 (by omega) (by omega)]; omega
      cases hi : inn (runesOf u) (i : Int)
      · have hR' : RunsOk (runesOf u) (i + 1) rs := by
          cases rs with
          | nil => exact fun t ht => hR t (by omega)
          | cons p r =>
            obtain ⟨a, b⟩ := p
            obtain ⟨q1, q2, q3, q4, q5, q6⟩ := hR
            have : a ≠ i := fun e => by have := q5 i (by omega) (by omega); rw [hi] at this; cases this
            exact ⟨by omega, q2, q3, fun t h1 h2 => q4 t (by omega) h2, q5, q6⟩
        refine Ev.step (f := fun f => redpenref15_Runs.l0 f u acc ((i + 1 : Nat) : Int)) (fun f => ?_) (ih (i + 1) rs (by omega) hR' acc (by omega))
        simp only [redpenref15_Runs.l0]
        rw [if_pos (by omega)]
        refine ob (refinner_eq hu hn _) ?_
        rw [hi, if_neg (by decide), ew]
      · cases rs with
        | nil => have := hR i (Nat.le_refl _); rw [hi] at this; cases this
        | cons p r =>
          obtain ⟨a, b⟩ := p
          obtain ⟨q1, q2, q3, q4, q5, q6, q7, q8⟩ := hR
          have ea : a = i := by
            by_cases e : a = i
            · exact e
            · have := q4 i (Nat.le_refl _) (by omega); rw [hi] at this; cases this
          subst ea
          rw [runesOf_len] at q3
          refine Ev.step (f := fun f => redpenref15_Runs.l1 f u acc (a : Int) (a : Int)) (fun f => ?_) (refruns_inner hu hn b q3 q6 (a : Int) acc _ (by omega) ?_ _ a rfl (by omega) q5)
          · simp only [redpenref15_Runs.l0]
            rw [if_pos (by omega)]
            refine ob (refinner_eq hu hn _) ?_
            rw [hi, if_pos rfl]
          · have := ih b r (by omega) q8 (acc ++ [⟨(a : Int), (b : Int)⟩]) (by simp; omega)
            rw [List.append_assoc] at this
            exact this
    · exact ih i rs (by omega) hR acc ha
theorem refruns_eq {u : List S45} (hu : RB u) (hn : u.length < 1000000000) {rs : List (Nat × Nat)} (h : RunsOk (runesOf u) 0 rs) : Ev (fun f => redpenref15_Runs.f f u) (rs.map mkP) :=
  refruns_main hu hn _ 0 rs (Nat.le_refl _) h [] (Nat.le_refl _)
theorem refsplit_from {u : List S45} (hu : RB u) (hn : u.length < 1000000000) (a tz : Nat) (ht : tz ≤ u.length) : ∀ (d j b : Nat) (ps : List (Nat × Nat)), tz - j = d → a ≤ b → b < j → j ≤ tz → PartsOk b tz ps → (∀ p ∈ ps.tail, cutAt (runesOf u) (a : Int) (tz : Int) (p.1 : Int) = true) →
    (∀ t : Nat, j ≤ t → t < tz → cutAt (runesOf u) (a : Int) (tz : Int) (t : Int) = true → ∃ p ∈ ps.tail, p.1 = t) → (∀ p ∈ ps.tail, j ≤ p.1) → ∀ acc : List S93, acc.length ≤ b → Ev (fun f => redpenref15_Split.l1 f u (tz : Int) acc (b : Int) (j : Int)) (acc ++ ps.map mkP) := by
  intro d
  induction d with
  | zero =>
    intro j b ps hd hab hbj hj hP hC hC' hJ acc ha
    obtain rfl : j = tz := by omega
    have : ps = [(b, j)] := by
      cases ps with
      | nil => have : b = j := hP; omega
      | cons p r =>
        obtain ⟨x, y⟩ := p
        obtain ⟨rfl, h2, h3, h4⟩ := hP
        cases r with
        | nil => have : y = j := h4; rw [this]
        | cons q r => obtain ⟨x', y'⟩ := q; have := hJ (x', y') (by simp); obtain ⟨e, h5, h6, _⟩ := h4; simp at this; omega
    subst this
    refine ⟨2, fun k hk => ?_⟩
    obtain ⟨k, rfl⟩ : ∃ m, k = m + 2 := ⟨k - 2, by omega⟩
    simp only [redpenref15_Split.l1]
    rw [if_neg (by omega), if_pos (by omega)]
    simp only [redpenref15_Split.l0]
    rw [if_neg (by omega)]
    rfl
  | succ d ih =>
    intro j b ps hd hab hbj hj hP hC hC' hJ acc ha
    have ew : wrap64 ((j : Int) + 1) = ((j + 1 : Nat) : Int) := by rw [w64 (by omega) (by omega)]; omega
    have ew1 : wrap64 ((j : Int) - 1) = (j : Int) - 1 := w64 (by omega) (by omega)
    have hja : ((j : Int) == (a : Int)) = false := beq_eq_false_iff_ne.2 (by omega)
    have hr0 := hu.rd (j : Int)
    have hr1 := hu.rd ((j : Int) - 1)
    have hr2 := hu.rd ((j : Int) + 1)
    have hcut : cutAt (runesOf u) (a : Int) (tz : Int) (j : Int) = (great (rd (runesOf u) j) && (small (rd (runesOf u) ((j : Int) - 1)) || (great (rd (runesOf u) ((j : Int) - 1)) && decide ((j : Int) + 1 < tz) && small (rd (runesOf u) ((j : Int) + 1))))) := by
      unfold cutAt; rw [hja]; rfl
    -- one step: to the break, or on
    have step : ∀ k, redpenref15_Split.l1 (k + 2) u (tz : Int) acc (b : Int) (j : Int) = if cutAt (runesOf u) (a : Int) (tz : Int) (j : Int) = true then redpenref15_Split.l0 k u (tz : Int) (acc ++ [⟨(b : Int), (j : Int)⟩]) (j : Int) else redpenref15_Split.l1 k u (tz : Int) acc (b : Int) ((j + 1 : Nat) : Int) := by
      intro k
      rw [hcut]
      simp only [redpenref15_Split.l1]
      rw [if_pos (by omega), ew1, if_pos (by omega), if_pos (by omega), if_pos (by omega), if_pos (by omega)]
      simp only [rd_unit]
      refine ob (rgreat_eq _) ?_
      cases hg : great (rd (runesOf u) (j : Int))
      · rw [if_neg (by decide)]
        simp only [redpenref15_Split.j4]
        rw [if_neg (by decide)]
        refine ob (rgreat_eq _) ?_
        rw [hg, if_neg (by decide), ew]
        simp
      · rw [if_pos rfl]
        refine ob (rsmall_eq (by omega) (by omega)) ?_
        simp only [redpenref15_Split.j4]
        cases hs : small (rd (runesOf u) ((j : Int) - 1))
        · rw [if_neg (by decide)]
          refine ob (rgreat_eq _) ?_
          rw [hg, if_pos rfl]
          refine ob (rgreat_eq _) ?_
          cases hgg : great (rd (runesOf u) ((j : Int) - 1))
          · rw [if_neg (by decide), ew]; simp
          · rw [if_pos rfl, ew]
            by_cases hlt : ((j + 1 : Nat) : Int) < (tz : Int)
            · rw [if_pos hlt, if_pos (by omega), if_pos (by omega), rd_unit, show ((j + 1 : Nat) : Int) = (j : Int) + 1 by omega]
              refine ob (rsmall_eq (by omega) (by omega)) ?_
              rw [decide_eq_true (show (j : Int) + 1 < (tz : Int) by omega)]
              cases small (rd (runesOf u) ((j : Int) + 1))
              · simp
              · simp only [if_true, Bool.true_and, Bool.false_or]
                rw [if_pos (by omega)]
            · rw [if_neg hlt, decide_eq_false (show ¬ (j : Int) + 1 < (tz : Int) by omega)]
              simp
        · rw [if_pos rfl, if_pos (by omega)]
          simp
    cases hc : cutAt (runesOf u) (a : Int) (tz : Int) (j : Int)
    · have hJ' : ∀ p ∈ ps.tail, j + 1 ≤ p.1 := fun p hp => by
        have := hJ p hp
        by_cases e : p.1 = j
        · have := hC p hp; rw [e, hc] at this; cases this
        · omega
      obtain ⟨K, hK⟩ := ih (j + 1) b ps (by omega) hab (by omega) (by omega) hP hC (fun t h1 h2 => hC' t (by omega) h2) hJ' acc ha
      refine ⟨K + 2, fun k hk => ?_⟩
      obtain ⟨k, rfl⟩ : ∃ m, k = m + 2 := ⟨k - 2, by omega⟩
      show redpenref15_Split.l1 (k + 2) u (tz : Int) acc (b : Int) (j : Int) = _
      rw [step k, hc, if_neg (by decide)]
      exact hK k (by omega)
    · obtain ⟨p, hp, hpe⟩ := hC' j (Nat.le_refl _) (by omega) hc
      have hps : ∃ y r, ps = (b, j) :: (j, y) :: r := by
        cases ps with
        | nil => cases hp
        | cons q r =>
          obtain ⟨x, y⟩ := q
          obtain ⟨rfl, h2, h3, h4⟩ := hP
          cases r with
          | nil => cases hp
          | cons q r =>
            obtain ⟨x', y'⟩ := q
            obtain ⟨rfl, h5, h6, h7⟩ := h4
            have hx := hJ (x', y') (by simp)
            have mono : ∀ (r : List (Nat × Nat)) (c : Nat), PartsOk c tz r → ∀ q ∈ r, c ≤ q.1 := by
              intro r
              induction r with
              | nil => intro c _ q hq; cases hq
              | cons z r ihr =>
                intro c hc q hq
                obtain ⟨z1, z2⟩ := z
                obtain ⟨rfl, g2, _, g4⟩ := hc
                rcases List.mem_cons.1 hq with rfl | hq
                · exact Nat.le_refl _
                · have := ihr _ g4 q hq; omega
            have hpx : x' ≤ p.1 := by
              rcases List.mem_cons.1 hp with rfl | hp
              · exact Nat.le_refl _
              · have := mono r y' h7 p hp; omega
            have : x' = j := by simp at hx; omega
            subst this
            exact ⟨y', r, rfl⟩
      obtain ⟨y, r, rfl⟩ := hps
      obtain ⟨_, h2, h3, hP'⟩ := hP
      have hJ' : ∀ p ∈ r, j + 1 ≤ p.1 := fun q hq => by
        obtain ⟨_, g2, _, g4⟩ := hP'
        have mono : ∀ (r : List (Nat × Nat)) (c : Nat), PartsOk c tz r → ∀ q ∈ r, c ≤ q.1 := by
          intro r
          induction r with
          | nil => intro c _ q hq; cases hq
          | cons z r ihr =>
            intro c hc q hq
            obtain ⟨z1, z2⟩ := z
            obtain ⟨rfl, g2, _, g4⟩ := hc
            rcases List.mem_cons.1 hq with rfl | hq
            · exact Nat.le_refl _
            · have := ihr _ g4 q hq; omega
        have := mono r y g4 q hq
        omega
      obtain ⟨K, hK⟩ := ih (j + 1) j ((j, y) :: r) (by omega) (by omega) (by omega) (by omega) hP' (fun q hq => hC q (by simp at hq ⊢; exact .inr hq))
        (fun t h1 h2 h3 => by
          obtain ⟨q, hq, e⟩ := hC' t (by omega) h2 h3
          simp at hq
          rcases hq with rfl | hq
          · simp at e; omega
          · exact ⟨q, by simpa using hq, e⟩) (by simpa using hJ') (acc ++ [⟨(b : Int), (j : Int)⟩]) (by simp; omega)
      refine ⟨K + 3, fun k hk => ?_⟩
      obtain ⟨k, rfl⟩ : ∃ m, k = m + 3 := ⟨k - 3, by omega⟩
      show redpenref15_Split.l1 ((k + 1) + 2) u (tz : Int) acc (b : Int) (j : Int) = _
      rw [step (k + 1), hc, if_pos rfl]
      simp only [redpenref15_Split.l0]
      rw [if_pos (by omega), ew]
      have := hK k (by omega)
      rw [List.append_assoc] at this
      exact this
theorem refsplit_eq {u : List S45} (hu : RB u) (hn : u.length < 1000000000) (x y : Int) {ps : List (Nat × Nat)} (h1 : mx x 0 < mn y (u.length : Int) → PartsOk (mx x 0).toNat (mn y (u.length : Int)).toNat ps ∧ (∀ p ∈ ps.tail, cutAt (runesOf u) (mx x 0) (mn y (u.length : Int)) (p.1 : Int) = true) ∧
      (∀ t : Nat, (mx x 0).toNat < t → t < (mn y (u.length : Int)).toNat → cutAt (runesOf u) (mx x 0) (mn y (u.length : Int)) (t : Int) = true → ∃ p ∈ ps.tail, p.1 = t)) (h2 : ¬ mx x 0 < mn y (u.length : Int) → ps = []) : Ev (fun f => redpenref15_Split.f f u x y) (ps.map mkP) := by
  have hm : 0 ≤ mx x 0 := by unfold mx; split <;> omega
  have hm2 : mn y (u.length : Int) ≤ (u.length : Int) := by unfold mn; split <;> omega
  have head : ∀ k, redpenref15_Split.f (k + 2) u x y = redpenref15_Split.l0 k u (mn y (u.length : Int)) [] (mx x 0) := by
    intro k
    unfold redpenref15_Split.f
    have e : ∀ z : Int, redpenref15_Split.j0 (k + 2) u z y = redpenref15_Split.l0 k u (mn y (u.length : Int)) [] z := by
      intro z
      simp only [redpenref15_Split.j0]
      unfold mn
      split
      · simp only [redpenref15_Split.j1]
      · simp only [redpenref15_Split.j1]
    unfold mx
    split
    · exact e 0
    · exact e x
  by_cases hlt : mx x 0 < mn y (u.length : Int)
  · obtain ⟨a, ea⟩ : ∃ a : Nat, mx x 0 = (a : Int) := ⟨(mx x 0).toNat, by omega⟩
    obtain ⟨tz, et⟩ : ∃ t : Nat, mn y (u.length : Int) = (t : Int) := ⟨(mn y (u.length : Int)).toNat, by omega⟩
    obtain ⟨q1, q2, q3⟩ := h1 hlt
    rw [ea, et] at hlt q1 q2 q3
    simp only [Int.toNat_natCast] at q1 q3
    have hJ : ∀ p ∈ ps.tail, a + 1 ≤ p.1 := by
      cases ps with
      | nil => intro p hp; cases hp
      | cons z r =>
        obtain ⟨z1, z2⟩ := z
        obtain ⟨rfl, g2, _, g4⟩ := q1
        have mono : ∀ (r : List (Nat × Nat)) (c : Nat), PartsOk c tz r → ∀ q ∈ r, c ≤ q.1 := by
          intro r
          induction r with
          | nil => intro c _ q hq; cases hq
          | cons z r ihr =>
            intro c hc q hq
            obtain ⟨z1, z2⟩ := z
            obtain ⟨rfl, g2, _, g4⟩ := hc
            rcases List.mem_cons.1 hq with rfl | hq
            · exact Nat.le_refl _
            · have := ihr _ g4 q hq; omega
        intro p hp
        have := mono r z2 g4 p hp
        omega
    obtain ⟨K, hK⟩ := refsplit_from hu hn a tz (by omega) _ (a + 1) a ps rfl (Nat.le_refl _) (by omega) (by omega) q1 q2 (fun t h1 h2 => q3 t (by omega) h2) hJ [] (by simp)
    refine ⟨K + 3, fun k hk => ?_⟩
    obtain ⟨k, rfl⟩ : ∃ m, k = m + 3 := ⟨k - 3, by omega⟩
    show redpenref15_Split.f ((k + 1) + 2) u x y = _
    rw [head (k + 1), ea, et]
    simp only [redpenref15_Split.l0]
    rw [if_pos hlt, show wrap64 ((a : Int) + 1) = ((a + 1 : Nat) : Int) by rw [w64 (by omega) (by omega)]; omega]
    exact hK k (by omega)
  · rw [h2 hlt]
    refine ⟨3, fun k hk => ?_⟩
    obtain ⟨k, rfl⟩ : ∃ m, k = m + 3 := ⟨k - 3, by omega⟩
    show redpenref15_Split.f ((k + 1) + 2) u x y = _
    rw [head (k + 1)]
    simp only [redpenref15_Split.l0]
    rw [if_neg hlt]
    rfl
end Go.Proofs.YtekalnhackjldaaDoor.Pure
end
section
/- The document's words of signs, and ours: the same. -/
namespace Go.Proofs.YtekalnhackjldaaDoor.Pure
open Go.RowKit Go.Proofs.YtekalnhackjldaaDoor.PTokenWords Go.Proofs.YtekalnhackjldaaDoorW.PrintWords Go.Proofs.YtekalnhackjldaaDoorW.PrintLast
open Go.Proofs.YtekalnhackjldaaDoor.M Go.Proofs.YtekalnhackjldaaDoor.X
set_option linter.unusedVariables false
set_option linter.unusedSimpArgs false
section
variable (x : List Int) (u : List S45) (lo hi : Int) (tx : Nat × Nat → ByteArray) (lt : Nat × Nat → Bool)
theorem rwords_l1 (hn : u.length < 1000000000) (hT : ∀ p : Nat × Nat, p.1 < p.2 → p.2 ≤ u.length → (∀ t : Nat, p.1 ≤ t → t < p.2 → inn (runesOf u) (t : Int) = true) → Ev (fun f => redpenref15_Text.f f (sub u p)) (tx p)) (hL : ∀ p : Nat × Nat, p.1 < p.2 → p.2 ≤ u.length → (∀ t : Nat, p.1 ≤ t → t < p.2 → inn (runesOf u) (t : Int) = true) → Ev (fun f => redpenref15_Literal.f f x (sub u p)) (lt p))
    (RS : List S93) (i : Int) (b : Nat) (hb : b ≤ u.length) (r : List S90) : ∀ (ps dn : List (Nat × Nat)) (a : Nat), PartsOk a b ps → (∀ t : Nat, a ≤ t → t < b → inn (runesOf u) (t : Int) = true) → (dn ++ ps).length < 1000000000 → ∀ acc : List S90, acc.length ≤ a →
    ((acc ++ (ps.filter (sel lo hi)).map (wdG u tx lt)).length ≤ b → Ev (fun f => redpenref15_Words.l0 f x u lo hi (acc ++ (ps.filter (sel lo hi)).map (wdG u tx lt)) RS (wrap64 (i + 1))) r) →
    Ev (fun f => redpenref15_Words.l1 f x u lo hi acc RS i ((dn ++ ps).map mkP) (dn.length : Int)) r := by
  intro ps
  induction ps with
  | nil =>
    intro dn a hP hin hl acc ha hr
    have hab : a = b := hP
    refine Ev.step (f := fun f => redpenref15_Words.l0 f x u lo hi acc RS (wrap64 (i + 1))) (fun f => ?_) (by
      have := hr (by simp; omega)
      simpa using this)
    simp only [redpenref15_Words.l1]
    rw [if_neg (by simp)]
  | cons p ps ih =>
    intro dn a hP hin hl acc ha hr
    obtain ⟨p1, p2⟩ := p
    obtain ⟨rfl, h1, h2, h3⟩ := hP
    have hlen : (((dn ++ (p1, p2) :: ps).map mkP).length : Int) = ((dn.length + ps.length + 1 : Nat) : Int) := by simp; omega
    have hget : rd_T93 ((dn ++ (p1, p2) :: ps).map mkP) (dn.length : Int) = mkP (p1, p2) := by
      unfold rd_T93
      rw [Int.toNat_natCast, List.getD_eq_getElem?_getD, List.getElem?_map, List.getElem?_append_right (Nat.le_refl _)]
      simp
    simp only [List.length_append, List.length_cons] at hl
    have ew : wrap64 ((dn.length : Int) + 1) = ((dn ++ [(p1, p2)]).length : Int) := by rw [w64 (by omega) (by omega)]; simp
    have hs := sub_len u (p := (p1, p2)) (by show p2 ≤ _; omega)
    have hs' : ((sub u (p1, p2)).length : Int) = ((p2 - p1 : Nat) : Int) := by rw [hs]
    -- what follows, with this word or without it
    have next : ∀ acc' : List S90, acc'.length ≤ p2 → acc' ++ (ps.filter (sel lo hi)).map (wdG u tx lt) = acc ++ (((p1, p2) :: ps).filter (sel lo hi)).map (wdG u tx lt) →
        Ev (fun f => redpenref15_Words.l1 f x u lo hi acc' RS i ((dn ++ (p1, p2) :: ps).map mkP) ((dn ++ [(p1, p2)]).length : Int)) r := by
      intro acc' ha' he
      have := ih (dn ++ [(p1, p2)]) p2 h3 (fun t q q' => hin t (by omega) q') (by simp; omega) acc' ha' (fun hb' => by rw [he] at hb' ⊢; exact hr hb')
      simpa using this
    have step : ∀ k, redpenref15_Words.l1 (k + 1) x u lo hi acc RS i ((dn ++ (p1, p2) :: ps).map mkP) (dn.length : Int) =
        redpenref15_Words.j2 k x u lo hi acc RS i ((dn ++ (p1, p2) :: ps).map mkP) (dn.length : Int) (sub u (p1, p2)) (!sel lo hi (p1, p2)) := by
      intro k
      simp only [redpenref15_Words.l1]
      rw [hget, if_pos (by rw [hlen]; omega), if_pos (by omega), if_pos (show (0 : Int) ≤ (mkP (p1, p2)).f0 from Int.natCast_nonneg p1), if_pos (show (mkP (p1, p2)).f0 ≤ (mkP (p1, p2)).f1 by show (p1 : Int) ≤ (p2 : Int); omega),
        if_pos (show (mkP (p1, p2)).f1 ≤ (u.length : Int) by show (p2 : Int) ≤ (u.length : Int); omega)]
      simp only [Option.bind_some]
      show (if ((sub u (p1, p2)).length : Int) < lo then redpenref15_Words.j2 k x u lo hi acc RS i _ _ (sub u (p1, p2)) true else redpenref15_Words.j2 k x u lo hi acc RS i _ _ (sub u (p1, p2)) (decide (((sub u (p1, p2)).length : Int) > hi))) = _
      rw [hs']
      unfold sel
      by_cases q1 : ((p2 - p1 : Nat) : Int) < lo
      · rw [if_pos q1, decide_eq_false (show ¬ lo ≤ ((p2 - p1 : Nat) : Int) by omega)]
        rfl
      · rw [if_neg q1, decide_eq_true (show lo ≤ ((p2 - p1 : Nat) : Int) by omega), Bool.true_and]
        by_cases q2 : ((p2 - p1 : Nat) : Int) ≤ hi
        · rw [decide_eq_true q2, decide_eq_false (show ¬ ((p2 - p1 : Nat) : Int) > hi by omega)]
          rfl
        · rw [decide_eq_false q2, decide_eq_true (show ((p2 - p1 : Nat) : Int) > hi by omega)]
          rfl
    refine Ev.step step ?_
    cases hsel : sel lo hi (p1, p2)
    · refine Ev.step (f := fun f => redpenref15_Words.l1 f x u lo hi acc RS i ((dn ++ (p1, p2) :: ps).map mkP) ((dn ++ [(p1, p2)]).length : Int)) (fun f => ?_) (next acc (by omega) (by rw [List.filter_cons, if_neg (by rw [hsel]; decide)]))
      simp only [redpenref15_Words.j2, Bool.not_false, if_true]
      rw [ew]
    · have hL0 : wrap64 (((p2 - p1 : Nat) : Int) - 1) = ((p2 - p1 - 1 : Nat) : Int) := by rw [w64 (by omega) (by omega)]; omega
      have g0 := sub_get u (p := (p1, p2)) (by show p2 ≤ _; omega) 0 (by show p1 + 0 < p2; omega)
      have g1 := sub_get u (p := (p1, p2)) (by show p2 ≤ _; omega) (p2 - p1 - 1) (by show p1 + (p2 - p1 - 1) < p2; omega)
      simp only [show p1 + (p2 - p1 - 1) = p2 - 1 by omega, Nat.add_zero] at g0 g1
      have hw : (⟨tx (p1, p2), (⟨(rd_T45 (sub u (p1, p2)) 0).f1.f0, wrap64 ((wrap64 (((rd_T45 (sub u (p1, p2)) ((p2 - p1 - 1 : Nat) : Int)).f1.f0) + ((rd_T45 (sub u (p1, p2)) ((p2 - p1 - 1 : Nat) : Int)).f1.f1))) - ((rd_T45 (sub u (p1, p2)) 0).f1.f0))⟩ : S40), lt (p1, p2)⟩ : S90) = wdG u tx lt (p1, p2) := by
        have g0' : rd_T45 (sub u (p1, p2)) 0 = rd_T45 u (p1 : Int) := g0
        rw [g0', g1]
        rfl
      refine Ev.step (f := fun f => (redpenref15_Text.f f (sub u (p1, p2))).bind fun t => (redpenref15_Literal.f f x (sub u (p1, p2))).bind fun l => redpenref15_Words.l1 f x u lo hi (acc ++ [(⟨t, (⟨(rd_T45 (sub u (p1, p2)) 0).f1.f0, wrap64 ((wrap64 (((rd_T45 (sub u (p1, p2)) ((p2 - p1 - 1 : Nat) : Int)).f1.f0) + ((rd_T45 (sub u (p1, p2)) ((p2 - p1 - 1 : Nat) : Int)).f1.f1))) - ((rd_T45 (sub u (p1, p2)) 0).f1.f0))⟩ : S40), l⟩ : S90)]) RS i ((dn ++ (p1, p2) :: ps).map mkP) ((dn ++ [(p1, p2)]).length : Int)) (fun f => ?_) (Ev.bind (hT (p1, p2) h1 (by show p2 ≤ _; omega) (fun t q q' => hin t q (Nat.lt_of_lt_of_le q' h2))) (Ev.bind (hL (p1, p2) h1 (by show p2 ≤ _; omega) (fun t q q' => hin t q (Nat.lt_of_lt_of_le q' h2))) ?_))
      · simp only [redpenref15_Words.j2, Bool.not_true, Bool.false_eq_true, if_false]
        rw [hs', hL0, if_pos (by omega), if_pos (by omega), ew]
        simp only [if_pos (show acc.length < 3518437208883 by omega), if_pos (show (0 : Int) < ((p2 - p1 : Nat) : Int) by omega)]
      · rw [hw]
        exact next (acc ++ [wdG u tx lt (p1, p2)]) (by simp; omega) (by rw [List.filter_cons, if_pos hsel, List.map_cons, List.append_assoc]; rfl)
theorem parts_len (b : Nat) : ∀ (ps : List (Nat × Nat)) (a : Nat), PartsOk a b ps → a + ps.length ≤ b
  | [], a, h => by have h' : a = b := h; rw [List.length_nil]; omega
  | (p1, p2) :: ps, a, h => by
    obtain ⟨rfl, h1, h2, h3⟩ := h
    have := parts_len b ps p2 h3
    rw [List.length_cons]
    omega
theorem both_l0 (hu : RB u) (hn : u.length < 1000000000) (hT : ∀ p : Nat × Nat, p.1 < p.2 → p.2 ≤ u.length → (∀ t : Nat, p.1 ≤ t → t < p.2 → inn (runesOf u) (t : Int) = true) → Ev (fun f => decode_Text.f f (sub u p)) (tx p)) (hL : ∀ p : Nat × Nat, p.1 < p.2 → p.2 ≤ u.length → (∀ t : Nat, p.1 ≤ t → t < p.2 → inn (runesOf u) (t : Int) = true) → Ev (fun f => decode_Literal.f f x (sub u p)) (lt p))
    (hT' : ∀ p : Nat × Nat, p.1 < p.2 → p.2 ≤ u.length → (∀ t : Nat, p.1 ≤ t → t < p.2 → inn (runesOf u) (t : Int) = true) → Ev (fun f => redpenref15_Text.f f (sub u p)) (tx p)) (hL' : ∀ p : Nat × Nat, p.1 < p.2 → p.2 ≤ u.length → (∀ t : Nat, p.1 ≤ t → t < p.2 → inn (runesOf u) (t : Int) = true) → Ev (fun f => redpenref15_Literal.f f x (sub u p)) (lt p)) :
    ∀ (rs dn : List (Nat × Nat)) (s : Nat), RunsOk (runesOf u) s rs → (dn ++ rs).length < 1000000000 → ∃ Q : List (Nat × Nat), (s ≤ u.length → Q.length + s ≤ u.length) ∧ (∀ (lo hi : Int) (acc : List S90), acc.length ≤ s →
      Ev (fun f => token_Words.l0 f x u lo hi acc ((dn ++ rs).map mkP) (((dn ++ rs).map mkP).length : Int) (dn.length : Int)) (acc ++ (Q.filter (sel lo hi)).map (wdG u tx lt))) ∧ ∀ (lo hi : Int) (acc : List S90), acc.length ≤ s →
      Ev (fun f => redpenref15_Words.l0 f x u lo hi acc ((dn ++ rs).map mkP) (dn.length : Int)) (acc ++ (Q.filter (sel lo hi)).map (wdG u tx lt)) := by
  intro rs
  induction rs with
  | nil =>
    intro dn s hR hl
    refine ⟨[], fun h => by rw [List.length_nil]; omega, fun lo hi acc ha => Ev.step (f := fun _ => some acc) (fun f => ?_) (by simpa using Ev.now acc), fun lo hi acc ha => Ev.step (f := fun _ => some acc) (fun f => ?_) (by simpa using Ev.now acc)⟩
    · simp only [token_Words.l0]
      rw [if_neg (by simp)]
    · simp only [redpenref15_Words.l0]
      rw [if_neg (by simp)]
  | cons p rs ih =>
    intro dn s hR hl
    obtain ⟨a, b⟩ := p
    obtain ⟨h1, h2, h3, h4, h5, h6, h7, h8⟩ := hR
    rw [runesOf_len] at h3
    simp only [List.length_append, List.length_cons] at hl
    obtain ⟨Q, hQl, hE, hF⟩ := ih (dn ++ [(a, b)]) b h8 (by simp; omega)
    obtain ⟨ps, q1, q2, q3, q4⟩ := toksplit_eq u hn (a : Int) (b : Int)
    have r4 := refsplit_eq hu hn (a : Int) (b : Int) q1 q2
    have hm : mx (a : Int) 0 = (a : Int) := by unfold mx; split <;> omega
    have hm2 : mn (b : Int) (u.length : Int) = (b : Int) := by unfold mn; split <;> omega
    rw [hm, hm2] at q1
    have q1c := q1 (by omega)
    simp only [Int.toNat_natCast] at q1c
    have q1' := q1c.1
    refine ⟨ps ++ Q, fun _ => by have g1 := parts_len b ps a q1'; have g2 := hQl h3; rw [List.length_append]; omega, fun lo hi acc ha => ?_, fun lo hi acc ha => ?_⟩
    · have hlen : (((dn ++ (a, b) :: rs).map mkP).length : Int) = ((dn.length + rs.length + 1 : Nat) : Int) := by simp; omega
      have hget : rd_T93 ((dn ++ (a, b) :: rs).map mkP) (dn.length : Int) = mkP (a, b) := by
        unfold rd_T93
        rw [Int.toNat_natCast, List.getD_eq_getElem?_getD, List.getElem?_map, List.getElem?_append_right (Nat.le_refl _)]
        simp
      have ew : wrap64 ((dn.length : Int) + 1) = ((dn ++ [(a, b)]).length : Int) := by rw [w64 (by omega) (by omega)]; simp
      refine Ev.step (f := fun f => (token_Split.f f u (a : Int) (b : Int)).bind fun t => token_Words.l1 f x u lo hi acc ((dn ++ (a, b) :: rs).map mkP) (((dn ++ (a, b) :: rs).map mkP).length : Int) (dn.length : Int) t (t.length : Int) 0) (fun f => ?_) (Ev.bind q4 ?_)
      · simp only [token_Words.l0]
        rw [hget, if_pos (by rw [hlen]; omega), if_pos (by omega), if_pos (by rw [hlen]; omega)]
        rfl
      · have := words_l1 x u lo hi tx lt hn hT hL ((dn ++ (a, b) :: rs).map mkP) (((dn ++ (a, b) :: rs).map mkP).length : Int) (dn.length : Int) b h3 (acc ++ ((ps ++ Q).filter (sel lo hi)).map (wdG u tx lt)) ps [] a q1' h5 (by simp; omega) acc (by omega) (fun hb => by
          rw [ew]
          have h := hE lo hi (acc ++ (ps.filter (sel lo hi)).map (wdG u tx lt)) hb
          simpa using h)
        simpa using this
    · have hlen : (((dn ++ (a, b) :: rs).map mkP).length : Int) = ((dn.length + rs.length + 1 : Nat) : Int) := by simp; omega
      have hget : rd_T93 ((dn ++ (a, b) :: rs).map mkP) (dn.length : Int) = mkP (a, b) := by
        unfold rd_T93
        rw [Int.toNat_natCast, List.getD_eq_getElem?_getD, List.getElem?_map, List.getElem?_append_right (Nat.le_refl _)]
        simp
      have ew : wrap64 ((dn.length : Int) + 1) = ((dn ++ [(a, b)]).length : Int) := by rw [w64 (by omega) (by omega)]; simp
      refine Ev.step (f := fun f => (redpenref15_Split.f f u (a : Int) (b : Int)).bind fun t => redpenref15_Words.l1 f x u lo hi acc ((dn ++ (a, b) :: rs).map mkP) (dn.length : Int) t 0) (fun f => ?_) (Ev.bind r4 ?_)
      · simp only [redpenref15_Words.l0]
        rw [hget, if_pos (by rw [hlen]; omega), if_pos (by omega)]
        rfl
      · have := rwords_l1 x u lo hi tx lt hn hT' hL' ((dn ++ (a, b) :: rs).map mkP) (dn.length : Int) b h3 (acc ++ ((ps ++ Q).filter (sel lo hi)).map (wdG u tx lt)) ps [] a q1' h5 (by simp; omega) acc (by omega) (fun hb => by
          rw [ew]
          have h := hF lo hi (acc ++ (ps.filter (sel lo hi)).map (wdG u tx lt)) hb
          simpa using h)
        simpa using this
theorem both_words (hu : RB u) (hn : u.length < 1000000000) (hT : ∀ p : Nat × Nat, p.1 < p.2 → p.2 ≤ u.length → (∀ t : Nat, p.1 ≤ t → t < p.2 → inn (runesOf u) (t : Int) = true) → Ev (fun f => decode_Text.f f (sub u p)) (tx p)) (hL : ∀ p : Nat × Nat, p.1 < p.2 → p.2 ≤ u.length → (∀ t : Nat, p.1 ≤ t → t < p.2 → inn (runesOf u) (t : Int) = true) → Ev (fun f => decode_Literal.f f x (sub u p)) (lt p))
    (hT' : ∀ p : Nat × Nat, p.1 < p.2 → p.2 ≤ u.length → (∀ t : Nat, p.1 ≤ t → t < p.2 → inn (runesOf u) (t : Int) = true) → Ev (fun f => redpenref15_Text.f f (sub u p)) (tx p)) (hL' : ∀ p : Nat × Nat, p.1 < p.2 → p.2 ≤ u.length → (∀ t : Nat, p.1 ≤ t → t < p.2 → inn (runesOf u) (t : Int) = true) → Ev (fun f => redpenref15_Literal.f f x (sub u p)) (lt p)) :
    ∃ Q : List (Nat × Nat), (∀ lo hi : Int, ((Q.filter (sel lo hi)).map (wdG u tx lt)).length < 1000000000) ∧ ∀ lo hi : Int, Ev (fun f => token_Words.f f x u lo hi) ((Q.filter (sel lo hi)).map (wdG u tx lt)) ∧ Ev (fun f => redpenref15_Words.f f x u lo hi) ((Q.filter (sel lo hi)).map (wdG u tx lt)) := by
  obtain ⟨rs, h1, h2, h3⟩ := tokruns_eq u hn
  obtain ⟨Q, hQl, hE, hF⟩ := both_l0 x u tx lt hu hn hT hL hT' hL' rs [] 0 h1 (by simpa using Nat.lt_of_le_of_lt h2 hn)
  refine ⟨Q, fun lo hi => ?_, fun lo hi => ⟨?_, ?_⟩⟩
  · have g1 := hQl (Nat.zero_le _)
    have g2 := List.length_filter_le (sel lo hi) Q
    rw [List.length_map]
    omega
  · have h := hE lo hi [] (Nat.le_refl _)
    refine Ev.bind h3 ?_
    simpa using h
  · have h := hF lo hi [] (Nat.le_refl _)
    refine Ev.bind (refruns_eq hu hn h1) ?_
    simpa using h
end
end Go.Proofs.YtekalnhackjldaaDoor.Pure
end
section
/- The printed functions of decode are the plain ones: digits, Escape, one, Units. -/
namespace Go.Proofs.YtekalnhackjldaaDoor.Pure
open Go.RowKit Go.Proofs.YtekalnhackjldaaDoor.PTokenWords Go.Proofs.YtekalnhackjldaaDoorW.PrintWords Go.Proofs.YtekalnhackjldaaDoorW.PrintLast
open Go.Proofs.YtekalnhackjldaaDoor.M Go.Proofs.YtekalnhackjldaaDoor.X Go.Proofs.YtekalnhackjldaaDoor.H
set_option linter.unusedVariables false
set_option linter.unusedSimpArgs false
theorem rd_byte {b : List Int} (hB : BT b) {i : Nat} (hi : i < b.length) : 0 ≤ rd b (i : Int) ∧ rd b (i : Int) < 256 := by
  unfold rd
  rw [Int.toNat_natCast, List.getD_eq_getElem?_getD, List.getElem?_eq_getElem hi]
  exact hB _ (List.getElem_mem hi)
def digR (o : Option Int) : Int × Bool := match o with
  | none => (0, false)
  | some v => (v, true)
theorem valid_eq (v : Int) : decode_valid.f v = some (okV v) := by
  unfold decode_valid.f
  by_cases h1 : v > 0
  · rw [if_pos h1]
    by_cases h2 : v ≤ 1114111
    · rw [if_pos h2]
      by_cases h3 : v ≥ 55296
      · rw [if_pos h3]
        by_cases h4 : v < 57344
        · rw [decide_eq_true h4]; congr 1; symm; rw [Bool.not_true, Bool.eq_false_iff, Ne, okV_iff]; omega
        · rw [decide_eq_false h4]; congr 1; symm; rw [Bool.not_false, okV_iff]; omega
      · rw [if_neg h3]; congr 1; symm; rw [Bool.not_false, okV_iff]; omega
    · rw [if_neg h2]; congr 1; symm; rw [Bool.eq_false_iff, Ne, okV_iff]; omega
  · rw [if_neg h1]; congr 1; symm; rw [Bool.eq_false_iff, Ne, okV_iff]; omega
theorem digits_from (l : List Int) (hB : BT l) (hl : l.length ≤ 8) : ∀ (d i : Nat) (acc : Int), l.length - i = d → i ≤ l.length → 0 ≤ acc → acc.toNat < 16 ^ i → Ev (fun f => decode_digits.l0 f acc l (l.length : Int) (i : Int)) (digR (hexM acc (l.drop i))) := by
  intro d
  induction d with
  | zero =>
    intro i acc hd hi h0 h1
    refine Ev.step (f := fun _ => some (acc, true)) (fun f => ?_) (by rw [List.drop_eq_nil_of_le (by omega)]; exact Ev.now _)
    simp only [decode_digits.l0]
    rw [if_neg (by omega)]
  | succ d ih =>
    intro i acc hd hi h0 h1
    have hlt : i < l.length := by omega
    have hp : 16 ^ i ≤ 16 ^ 8 := Nat.pow_le_pow_right (by omega) (by omega)
    have hacc : acc < 1152921504606846976 := by have : 16 ^ 8 = 4294967296 := by decide
                                                omega
    have hc := rd_byte hB hlt
    have hdrop : l.drop i = rd l (i : Int) :: l.drop (i + 1) := by
      rw [List.drop_eq_getElem_cons hlt]
      unfold rd
      rw [Int.toNat_natCast, List.getD_eq_getElem?_getD, List.getElem?_eq_getElem hlt]
      rfl
    rw [hdrop]
    have ew : wrap64 ((i : Int) + 1) = ((i + 1 : Nat) : Int) := by rw [w64 (by omega) (by omega)]; omega
    have next : ∀ v : Int, 0 ≤ v → v < 16 → Ev (fun f => decode_digits.l0 f (Go.bits .or .u64 (IntKind.u64.wrap (acc * 16)) v) l (l.length : Int) (wrap64 ((i : Int) + 1))) (digR (hexM (acc * 16 + v) (l.drop (i + 1)))) := by
      intro v v0 v1
      rw [or4 acc v h0 hacc v0 v1, ew]
      refine ih (i + 1) _ (by omega) (by omega) (by omega) ?_
      rw [Nat.pow_succ]
      omega
    obtain ⟨c, hcc⟩ : ∃ c, rd l (i : Int) = c := ⟨_, rfl⟩
    rw [hcc] at hc ⊢
    have e0 : ∀ f, decode_digits.l0 (f + 1) acc l (l.length : Int) (i : Int) = decode_digits.j1 f acc c l (l.length : Int) (i : Int) (decide (48 ≤ c ∧ c ≤ 57)) := by
      intro f
      simp only [decode_digits.l0]
      rw [if_pos (by omega), if_pos (by omega), if_pos (by omega), hcc]
      by_cases h : c ≥ 48
      · rw [if_pos h]; congr 1; rw [decide_eq_decide]; omega
      · rw [if_neg h]; congr 1; symm; rw [decide_eq_false_iff_not]; omega
    refine Ev.step e0 ?_
    by_cases ha : 48 ≤ c ∧ c ≤ 57
    · have hx : hexD c = some (c - 48) := by unfold hexD; rw [if_pos ha]
      rw [decide_eq_true ha, show hexM acc (c :: l.drop (i + 1)) = hexM (acc * 16 + (c - 48)) (l.drop (i + 1)) by simp only [hexM, hx, Option.bind_some]]
      refine Ev.step (fun f => ?_) (next (c - 48) (by omega) (by omega))
      simp only [decode_digits.j1, if_true]
      rw [show (c - 48) % 256 = c - 48 by omega]
    · rw [decide_eq_false ha]
      have e1 : ∀ f, decode_digits.j1 (f + 1) acc c l (l.length : Int) (i : Int) false = decode_digits.j2 f acc c l (l.length : Int) (i : Int) (decide (97 ≤ c ∧ c ≤ 102)) := by
        intro f
        simp only [decode_digits.j1]
        rw [if_neg (by simp)]
        by_cases h : c ≥ 97
        · rw [if_pos h]; congr 1; rw [decide_eq_decide]; omega
        · rw [if_neg h]; congr 1; symm; rw [decide_eq_false_iff_not]; omega
      refine Ev.step e1 ?_
      by_cases hb : 97 ≤ c ∧ c ≤ 102
      · have hx : hexD c = some (c - 87) := by unfold hexD; rw [if_neg ha, if_pos hb]
        rw [decide_eq_true hb, show hexM acc (c :: l.drop (i + 1)) = hexM (acc * 16 + (c - 87)) (l.drop (i + 1)) by simp only [hexM, hx, Option.bind_some]]
        refine Ev.step (fun f => ?_) (next (c - 87) (by omega) (by omega))
        simp only [decode_digits.j2, if_true]
        rw [show ((c - 97) % 256 + 10) % 256 = c - 87 by omega]
      · rw [decide_eq_false hb]
        by_cases hd' : 65 ≤ c ∧ c ≤ 70
        · have hx : hexD c = some (c - 55) := by unfold hexD; rw [if_neg ha, if_neg hb, if_pos hd']
          rw [show hexM acc (c :: l.drop (i + 1)) = hexM (acc * 16 + (c - 55)) (l.drop (i + 1)) by simp only [hexM, hx, Option.bind_some]]
          refine Ev.step (fun f => ?_) (next (c - 55) (by omega) (by omega))
          simp only [decode_digits.j2]
          rw [if_neg (by simp), if_pos (by omega), if_pos (by omega), show ((c - 65) % 256 + 10) % 256 = c - 55 by omega]
        · have hx : hexD c = none := by unfold hexD; rw [if_neg ha, if_neg hb, if_neg hd']
          rw [show hexM acc (c :: l.drop (i + 1)) = none by simp only [hexM, hx, Option.bind_none]]
          refine Ev.step (f := fun _ => some (0, false)) (fun f => ?_) (Ev.now _)
          simp only [decode_digits.j2]
          rw [if_neg (by simp)]
          by_cases h : c ≥ 65
          · rw [if_pos h, if_neg (by omega)]
          · rw [if_neg h]
theorem digits_eq (l : List Int) (hB : BT l) (w : Nat) (hw : w ≤ 8) : Ev (fun f => decode_digits.f f l (w : Int)) (if l.length < w then (0, false) else digR (hexM 0 (l.take w))) := by
  by_cases h : l.length < w
  · rw [if_pos h]
    refine Ev.congr (f := fun _ => some (0, false)) (fun f => ?_) (Ev.now _)
    unfold decode_digits.f
    rw [if_pos (by omega)]
  · rw [if_neg h]
    have hl : (l.take w).length = w := by rw [List.length_take]; omega
    have := digits_from (l.take w) (hB.take w) (by omega) _ 0 0 rfl (by omega) (by omega) (by decide)
    rw [List.drop_zero] at this
    refine Ev.congr (fun f => ?_) this
    unfold decode_digits.f
    rw [if_neg (by omega), if_pos (by omega), if_pos (by omega), Int.toNat_natCast]
    rfl
theorem esc_digits (b : List Int) (hB : BT b) (h2 : 2 ≤ b.length) (w : Nat) (hw : w ≤ 8) (v : Int) (hv : v = (w : Int)) : Ev (fun f => decode_Escape.j2 f b v) (escH w b) := by
  subst hv
  have hd := digits_eq (b.drop 2) (hB.drop 2) w hw
  rw [List.length_drop] at hd
  refine Ev.step (f := fun f => (decode_digits.f f (b.drop 2) (w : Int)).bind fun bt111 => (if bt111.2 = true then ((decode_valid.f bt111.1).bind fun t113 => (if t113 = true then (some (wrap32 (bt111.1), wrap64 (2 + (w : Int)), true)) else (some (0, 0, false)))) else (some (0, 0, false)))) (fun f => ?_) (Ev.bind hd ?_)
  · simp only [decode_Escape.j2]
    rw [if_pos (by omega)]
  · by_cases h : b.length - 2 < w
    · rw [if_pos h, show escH w b = entNo by unfold escH; rw [if_pos (by omega)]]
      exact Ev.now _
    · rw [if_neg h]
      unfold escH
      rw [if_neg (show ¬ b.length < 2 + w by omega)]
      cases hx : hexM 0 ((b.drop 2).take w) with
      | none => exact Ev.now _
      | some x =>
        show Ev (fun f => (decode_valid.f x).bind fun t113 => (if t113 = true then (some (wrap32 x, wrap64 (2 + (w : Int)), true)) else (some (0, 0, false)))) (if okV x = true then (x, 2 + (w : Int), true) else entNo)
        simp only [valid_eq, Option.bind_some]
        by_cases hk : okV x = true
        · rw [if_pos hk]
          have := (okV_iff x).1 hk
          simp only [if_pos hk]
          rw [w32 (by omega) (by omega), w64 (by omega) (by omega)]
          exact Ev.now _
        · rw [if_neg hk]
          simp only [if_neg hk]
          exact Ev.now _
theorem escape_eq (f0 : Int) (b : List Int) (hB : BT b) : Ev (fun f => decode_Escape.f f f0 b) (escM f0 b) := by
  have hno : Ev (fun f => decode_Escape.j0 f f0 b true) entNo := by
    refine Ev.step (f := fun _ => some (0, 0, false)) (fun f => ?_) (Ev.now _)
    simp only [decode_Escape.j0, if_true]
  by_cases h2 : b.length < 2
  · rw [show escM f0 b = entNo by unfold escM; rw [if_pos (.inl h2)]]
    refine Ev.congr (fun f => ?_) hno
    unfold decode_Escape.f
    rw [if_pos (by omega)]
  by_cases h92 : rd b 0 = 92
  rotate_left
  · rw [show escM f0 b = entNo by unfold escM; rw [if_pos (.inr (.inl h92))]]
    refine Ev.congr (fun f => ?_) hno
    unfold decode_Escape.f
    rw [if_neg (by omega), if_pos (by omega), if_neg h92]
  by_cases h128 : 128 ≤ rd b 1
  · rw [show escM f0 b = entNo by unfold escM; rw [if_pos (.inr (.inr h128))]]
    refine Ev.congr (fun f => ?_) hno
    unfold decode_Escape.f
    rw [if_neg (by omega), if_pos (by omega), if_pos h92, if_pos (by omega), decide_eq_true (show rd b 1 ≥ 128 from h128)]
  have hc : 0 ≤ rd b 1 ∧ rd b 1 < 256 := rd_byte hB (i := 1) (by omega)
  have hw : wrap32 (rd b 1) = rd b 1 := w32 (by omega) (by omega)
  refine Ev.congr (f := fun f => decode_Escape.j0 f f0 b false) (fun f => ?_) ?_
  · unfold decode_Escape.f
    rw [if_neg (by omega), if_pos (by omega), if_pos h92, if_pos (by omega), decide_eq_false (show ¬ rd b 1 ≥ 128 by omega)]
  unfold escM
  rw [if_neg (by rintro (h | h | h); exact h2 h; exact h h92; exact h128 h)]
  have g8 := esc_digits b hB (by omega) 8 (by omega)
  have g4 := esc_digits b hB (by omega) 4 (by omega)
  have g2 := esc_digits b hB (by omega) 2 (by omega)
  obtain ⟨c, hcc⟩ : ∃ c, rd b 1 = c := ⟨_, rfl⟩
  rw [hcc] at hc hw
  simp only [hcc]
  have j1f : ∀ y : Bool, Ev (fun f => decode_Escape.j1 f f0 b 0 c y) (if y = true then entNo else if f0 = 7 then (c, 2, true) else if c = 110 then (10, 2, true) else if c = 114 then (13, 2, true) else if c = 116 then (9, 2, true)
      else if c = 85 then escH 8 b else if c = 117 then escH 4 b else if c = 120 then escH 2 b else (c, 2, true)) := by
    intro y
    by_cases hy : y = true
    · subst hy
      rw [if_pos rfl]
      refine Ev.step (f := fun _ => some (0, 0, false)) (fun f => ?_) (Ev.now _)
      simp only [decode_Escape.j1, if_true]
    rw [if_neg hy]
    by_cases h7 : f0 = 7
    · rw [if_pos h7]
      refine Ev.step (f := fun _ => some (c, 2, true)) (fun f => ?_) (Ev.now _)
      simp only [decode_Escape.j1]
      rw [if_neg hy, if_pos h7, hw]
    rw [if_neg h7]
    have head : ∀ f, decode_Escape.j1 (f + 1) f0 b 0 c y = (if c = 110 then (some (10, 2, true)) else (if c = 114 then (some (13, 2, true)) else (if c = 116 then (some (9, 2, true)) else (if c = 85 then (decode_Escape.j2 f b (wrap64 ((wrap64 ((wrap64 ((0 : Int) + 4)) + 2)) + 2))) else (if c = 117 then (decode_Escape.j2 f b (wrap64 ((wrap64 ((0 : Int) + 2)) + 2))) else (if c = 120 then (decode_Escape.j2 f b (wrap64 ((0 : Int) + 2))) else (some (c, 2, true)))))))) := by
      intro f
      simp only [decode_Escape.j1]
      rw [if_neg hy, if_neg h7, if_pos (by omega), hcc, hw]
    refine Ev.step head ?_
    by_cases c1 : c = 110
    · simp only [if_pos c1]; exact Ev.now _
    simp only [if_neg c1]
    by_cases c2 : c = 114
    · simp only [if_pos c2]; exact Ev.now _
    simp only [if_neg c2]
    by_cases c3 : c = 116
    · simp only [if_pos c3]; exact Ev.now _
    simp only [if_neg c3]
    by_cases c4 : c = 85
    · simp only [if_pos c4]; exact g8 _ (by unfold wrap64; omega)
    simp only [if_neg c4]
    by_cases c5 : c = 117
    · simp only [if_pos c5]; exact g4 _ (by unfold wrap64; omega)
    simp only [if_neg c5]
    by_cases c6 : c = 120
    · simp only [if_pos c6]; exact g2 _ (by unfold wrap64; omega)
    simp only [if_neg c6]; exact Ev.now _
  have j0f : ∀ f, decode_Escape.j0 (f + 1) f0 b false = decode_Escape.j1 f f0 b 0 c (decide (f0 = 7) && !(decide (c = 34 ∨ c = 92 ∨ c = 36 ∨ c = 96))) := by
    intro f
    simp only [decode_Escape.j0]
    rw [if_neg (by simp), if_pos (by omega), hcc]
    by_cases h7 : f0 = 7
    · rw [if_pos h7, decide_eq_true h7, Bool.true_and]
      by_cases c1 : c = 34
      · rw [if_pos c1, decide_eq_true (.inl c1)]; rfl
      rw [if_neg c1]
      by_cases c2 : c = 92
      · rw [if_pos c2, decide_eq_true (.inr (.inl c2))]; rfl
      rw [if_neg c2]
      by_cases c3 : c = 36
      · rw [if_pos c3, decide_eq_true (.inr (.inr (.inl c3)))]; rfl
      rw [if_neg c3]
      by_cases c4 : c = 96
      · rw [decide_eq_true (.inr (.inr (.inr c4))), c4]; rfl
      · rw [decide_eq_false (by omega), bne_iff_ne.2 c4]; rfl
    · rw [if_neg h7, decide_eq_false h7]; rfl
  refine Ev.step j0f ?_
  have := j1f (decide (f0 = 7) && !(decide (c = 34 ∨ c = 92 ∨ c = 36 ∨ c = 96)))
  by_cases h7 : f0 = 7
  · by_cases hq : c = 34 ∨ c = 92 ∨ c = 36 ∨ c = 96
    · rw [decide_eq_true hq, decide_eq_true h7] at this ⊢
      rw [if_pos h7, if_pos hq]
      rw [if_neg (by decide), if_pos h7] at this
      exact this
    · rw [decide_eq_false hq, decide_eq_true h7] at this ⊢
      rw [if_pos h7, if_neg hq]
      rw [if_pos (by decide)] at this
      exact this
  · rw [decide_eq_false h7] at this ⊢
    rw [if_neg h7]
    rw [if_neg (by simp), if_neg h7] at this
    exact this
theorem punct_eq (c : Int) : decode_punct.f c = some (punM c) := by
  unfold decode_punct.f punM
  by_cases h1 : c > 32
  · by_cases h2 : c < 127
    · by_cases h3 : c ≥ 48
      · by_cases h4 : c ≤ 57
        · simp [h1, h2, h3, h4, show (32 : Int) < c from h1, show (48 : Int) ≤ c from h3]
        · by_cases h5 : c ≥ 97
          · by_cases h6 : c ≤ 122
            · simp [h1, h2, h3, h4, h5, h6]
            · simp [h1, h2, h3, h4, h5, h6, show c ≥ 65 by omega, show ¬ c ≤ 90 by omega]
          · by_cases h7 : c ≥ 65
            · by_cases h8 : c ≤ 90 <;> simp [h1, h2, h3, h4, h5, h7, h8]
            · simp [h1, h2, h3, h4, h5, h7]
      · simp [h1, h2, h3, show ¬ c ≥ 97 by omega, show ¬ c ≥ 65 by omega]
    · simp [h1, h2]
  · simp [h1]
theorem next_ev {b : List Int} (hB : BT b) : Ev (fun f => utf_Next.f f b) (nx b) := ⟨6, fun k hk => next_eq hk hB⟩
theorem one_eq (f0 lab : Int) (b : List Int) (hB : BT b) (hb : b ≠ []) : Ev (fun f => decode_one.f f f0 lab b) (oneM f0 lab b) := by
  have hl : 0 < b.length := List.length_pos_iff.2 hb
  have hnx : Ev (fun f => (utf_Next.f f b).bind fun bt => some (bt.1, bt.2)) (nx b) := Ev.bind (next_ev hB) (Ev.now _)
  -- the last cases
  have j3 : ∀ y : Bool, Ev (fun f => decode_one.j3 f f0 b y) (if y = true then (if (escM f0 b).2.2 = true then ((escM f0 b).1, (escM f0 b).2.1) else nx b) else nx b) := by
    intro y
    cases y
    · rw [if_neg (by simp)]
      refine Ev.step (fun f => ?_) hnx
      simp only [decode_one.j3]
      rw [if_neg (by simp)]
    · rw [if_pos rfl]
      refine Ev.step (f := fun f => (decode_Escape.f f f0 b).bind fun bt138 => (if bt138.2.2 = true then (some (bt138.1, bt138.2.1)) else ((utf_Next.f f b).bind fun bt141 => (some (bt141.1, bt141.2))))) (fun f => ?_) (Ev.bind (escape_eq f0 b hB) ?_)
      · simp only [decode_one.j3, if_true]
      · by_cases h : (escM f0 b).2.2 = true
        · simp only [if_pos h]; exact Ev.now _
        · simp only [if_neg h]; exact hnx
  have j2 : ∀ y : Bool, Ev (fun f => decode_one.j2 f f0 lab b y) (if y = true then (39, 2) else if lab = 5 ∧ rd b 0 = 92 ∧ 4 ≤ f0 ∧ f0 ≤ 7 then (if (escM f0 b).2.2 = true then ((escM f0 b).1, (escM f0 b).2.1) else nx b) else nx b) := by
    intro y
    cases y
    · rw [if_neg (by simp)]
      have e : ∀ f, decode_one.j2 (f + 1) f0 lab b false = decode_one.j3 f f0 b (decide (lab = 5 ∧ rd b 0 = 92 ∧ 4 ≤ f0 ∧ f0 ≤ 7)) := by
        intro f
        simp only [decode_one.j2]
        rw [if_neg (by simp)]
        by_cases h5 : lab = 5
        · rw [if_pos h5, if_pos (by omega)]
          by_cases h9 : rd b 0 = 92
          · rw [if_pos h9]
            by_cases h4 : f0 ≥ 4
            · rw [if_pos h4]; congr 1; rw [decide_eq_decide]; exact ⟨fun h => ⟨h5, h9, h4, h⟩, fun h => h.2.2.2⟩
            · rw [if_neg h4]; congr 1; symm; rw [decide_eq_false_iff_not]; exact fun h => h4 h.2.2.1
          · rw [if_neg h9]; congr 1; symm; rw [decide_eq_false_iff_not]; exact fun h => h9 h.2.1
        · rw [if_neg h5]; congr 1; symm; rw [decide_eq_false_iff_not]; exact fun h => h5 h.1
      refine Ev.step e ?_
      have := j3 (decide (lab = 5 ∧ rd b 0 = 92 ∧ 4 ≤ f0 ∧ f0 ≤ 7))
      by_cases hq : lab = 5 ∧ rd b 0 = 92 ∧ 4 ≤ f0 ∧ f0 ≤ 7
      · rw [decide_eq_true hq] at this ⊢
        rw [if_pos rfl] at this
        rw [if_pos hq]
        exact this
      · rw [decide_eq_false hq] at this ⊢
        rw [if_neg (by simp)] at this
        rw [if_neg hq]
        exact this
    · rw [if_pos rfl]
      refine Ev.step (f := fun _ => some (39, 2)) (fun f => ?_) (Ev.now _)
      simp only [decode_one.j2, if_true]
  have tail3 : Ev (fun f => decode_one.j1 f f0 lab b false) (if lab = 5 ∧ f0 = 8 ∧ 1 < b.length ∧ rd b 0 = 39 ∧ rd b 1 = 39 then (39, 2) else if lab = 5 ∧ rd b 0 = 92 ∧ 4 ≤ f0 ∧ f0 ≤ 7 then (if (escM f0 b).2.2 = true then ((escM f0 b).1, (escM f0 b).2.1) else nx b) else nx b) := by
    have e : ∀ f, decode_one.j1 (f + 1) f0 lab b false = decode_one.j2 f f0 lab b (decide (lab = 5 ∧ f0 = 8 ∧ 1 < b.length ∧ rd b 0 = 39 ∧ rd b 1 = 39)) := by
      intro f
      simp only [decode_one.j1]
      rw [if_neg (by simp)]
      by_cases h5 : lab = 5
      · rw [if_pos h5]
        by_cases h8 : f0 = 8
        · rw [if_pos h8]
          by_cases h1 : (b.length : Int) > 1
          · rw [if_pos h1, if_pos (by omega)]
            by_cases h9 : rd b 0 = 39
            · rw [if_pos h9, if_pos (by omega)]
              congr 1
              rw [Bool.eq_iff_iff, beq_iff_eq, decide_eq_true_eq]
              exact ⟨fun h => ⟨h5, h8, by omega, h9, h⟩, fun h => h.2.2.2.2⟩
            · rw [if_neg h9]; congr 1; symm; rw [decide_eq_false_iff_not]; exact fun h => h9 h.2.2.2.1
          · rw [if_neg h1]; congr 1; symm; rw [decide_eq_false_iff_not]; exact fun h => h1 (by omega)
        · rw [if_neg h8]; congr 1; symm; rw [decide_eq_false_iff_not]; exact fun h => h8 h.2.1
      · rw [if_neg h5]; congr 1; symm; rw [decide_eq_false_iff_not]; exact fun h => h5 h.1
    refine Ev.step e ?_
    have := j2 (decide (lab = 5 ∧ f0 = 8 ∧ 1 < b.length ∧ rd b 0 = 39 ∧ rd b 1 = 39))
    by_cases hq : lab = 5 ∧ f0 = 8 ∧ 1 < b.length ∧ rd b 0 = 39 ∧ rd b 1 = 39
    · rw [decide_eq_true hq] at this ⊢
      rw [if_pos rfl] at this
      rw [if_pos hq]
      exact this
    · rw [decide_eq_false hq] at this ⊢
      rw [if_neg (by simp)] at this
      rw [if_neg hq]
      exact this
  have j1t : 1 < b.length → Ev (fun f => decode_one.j1 f f0 lab b true) (rd b 1, 2) := by
    intro h1
    have hc : 0 ≤ rd b 1 ∧ rd b 1 < 256 := rd_byte hB (i := 1) (by omega)
    refine Ev.step (f := fun _ => some (rd b 1, 2)) (fun f => ?_) (Ev.now _)
    simp only [decode_one.j1, if_true]
    rw [if_pos (by omega), w32 (by omega) (by omega)]
  have j0 : ∀ y z : Bool, z = decide (lab = 1 ∧ (f0 = 1 ∨ f0 = 2) ∧ rd b 0 = 38) → y = (lab == 1) → Ev (fun f => decode_one.j0 f f0 lab b y z) (oneM f0 lab b) := by
    intro y z hz hy
    by_cases hq : lab = 1 ∧ (f0 = 1 ∨ f0 = 2) ∧ rd b 0 = 38
    · rw [decide_eq_true hq] at hz
      subst hz
      have e : ∀ f, decode_one.j0 (f + 1) f0 lab b y true = (decode_Entity.f b).bind fun bt126 => (if bt126.2.2 = true then (some (bt126.1, bt126.2.1)) else ((utf_Next.f f b).bind fun bt129 => (some (bt129.1, bt129.2)))) := by
        intro f
        simp only [decode_one.j0, if_true]
      refine Ev.step e ?_
      unfold oneM
      rw [if_pos hq]
      have e2 : decode_Entity.f b = some (entF b) := rfl
      simp only [e2, Option.bind_some]
      by_cases h : (entF b).2.2 = true
      · simp only [if_pos h]; exact Ev.now _
      · simp only [if_neg h]; exact hnx
    · rw [decide_eq_false hq] at hz
      subst hz
      unfold oneM
      rw [if_neg hq]
      by_cases hp : lab = 1 ∧ f0 = 2 ∧ rd b 0 = 92 ∧ 1 < b.length
      · have e : ∀ f, decode_one.j0 (f + 1) f0 lab b y false = decode_one.j1 f f0 lab b (punM (rd b 1)) := by
          intro f
          simp only [decode_one.j0]
          rw [if_neg (by simp), if_pos (by rw [hy, beq_iff_eq]; exact hp.1), if_pos hp.2.1, if_pos (by omega), if_pos hp.2.2.1, if_pos (by omega), if_pos (by omega), punct_eq]
          rfl
        refine Ev.step e ?_
        by_cases hpm : punM (rd b 1) = true
        · rw [if_pos ⟨hp.1, hp.2.1, hp.2.2.1, hp.2.2.2, hpm⟩, hpm]
          exact j1t hp.2.2.2
        · rw [if_neg (fun h => hpm h.2.2.2.2)]
          rw [Bool.not_eq_true] at hpm
          rw [hpm]
          exact tail3
      · rw [if_neg (fun h => hp ⟨h.1, h.2.1, h.2.2.1, h.2.2.2.1⟩)]
        have e : ∀ f, decode_one.j0 (f + 1) f0 lab b y false = decode_one.j1 f f0 lab b false := by
          intro f
          simp only [decode_one.j0]
          rw [if_neg (by simp)]
          by_cases h1 : lab = 1
          · rw [if_pos (by rw [hy, beq_iff_eq]; exact h1)]
            by_cases h2 : f0 = 2
            · rw [if_pos h2, if_pos (by omega)]
              by_cases h9 : rd b 0 = 92
              · rw [if_pos h9, if_neg (fun h => hp ⟨h1, h2, h9, by omega⟩)]
              · rw [if_neg h9]
            · rw [if_neg h2]
          · rw [if_neg (by rw [hy, beq_iff_eq]; exact h1)]
        exact Ev.step e tail3
  have e : ∀ f, decode_one.f f f0 lab b = decode_one.j0 f f0 lab b (lab == 1) (decide (lab = 1 ∧ (f0 = 1 ∨ f0 = 2) ∧ rd b 0 = 38)) := by
    intro f
    unfold decode_one.f
    have hbe : (rd b 0 == 38) = decide (rd b 0 = 38) := by rw [Bool.eq_iff_iff, beq_iff_eq, decide_eq_true_eq]
    by_cases h1 : lab = 1
    · rw [if_pos h1]
      by_cases h2 : f0 = 1
      · rw [if_pos h2, if_pos (by omega), hbe]; congr 1; rw [decide_eq_decide]; exact ⟨fun h => ⟨h1, .inl h2, h⟩, fun h => h.2.2⟩
      · rw [if_neg h2]
        by_cases h3 : f0 = 2
        · rw [if_pos h3, if_pos (by omega), hbe]; congr 1; rw [decide_eq_decide]; exact ⟨fun h => ⟨h1, .inr h3, h⟩, fun h => h.2.2⟩
        · rw [if_neg h3]; congr 1; symm; rw [decide_eq_false_iff_not]; exact fun h => h.2.1.elim h2 h3
    · rw [if_neg h1]; congr 1; symm; rw [decide_eq_false_iff_not]; exact fun h => h1 h.1
  exact Ev.congr e (j0 _ _ rfl rfl)
theorem units_loop (f0 lab at0 n0 : Int) (x : List Int) (hB : BT x) (hx : x.length < 1000000) (e : Nat) (he : e ≤ x.length) : ∀ (d p : Nat) (acc : List S45), e - p = d → p ≤ e → acc.length ≤ p →
    Ev (fun f => decode_Units.l0 f f0 x (p : Int) acc (e : Int) lab at0 n0) (acc ++ mkU (p : Int) (uM f0 lab d ((x.take e).drop p)), 0) := by
  intro d
  induction d using Nat.strongRecOn with
  | _ d ih =>
    intro p acc hd hp hac
    by_cases hlt : p < e
    · obtain ⟨b, hb⟩ : ∃ b, (x.take e).drop p = b := ⟨_, rfl⟩
      have hbl : b.length = e - p := by rw [← hb, List.length_drop, List.length_take]; omega
      have hbn : b ≠ [] := by intro h; rw [h] at hbl; simp at hbl; omega
      have hbB : BT b := by rw [← hb]; exact (hB.take _).drop _
      have hw := oneM_width f0 lab b hbn
      obtain ⟨w, hwv⟩ : ∃ w : Nat, (oneM f0 lab b).2 = (w : Int) := ⟨(oneM f0 lab b).2.toNat, by omega⟩
      rw [hwv, hbl] at hw
      refine Ev.step (f := fun f => (decode_one.f f f0 lab b).bind fun bt150 => (if acc.length < 5864062014805 then (decode_Units.l0 f f0 x (wrap64 ((p : Int) + bt150.2)) (acc ++ [(⟨bt150.1, (⟨(p : Int), bt150.2⟩ : S40)⟩ : S45)]) (e : Int) lab at0 n0) else none)) (fun f => ?_) (Ev.bind (one_eq f0 lab b hbB hbn) ?_)
      · simp only [decode_Units.l0]
        rw [if_pos (by omega), if_pos (by omega), if_pos (by omega), if_pos (by omega), Int.toNat_natCast, Int.toNat_natCast, hb]
      · have hi := ih (d - w) (by omega) (p + w) (acc ++ [(⟨(oneM f0 lab b).1, (⟨(p : Int), (w : Int)⟩ : S40)⟩ : S45)]) (by omega) (by omega) (by rw [List.length_append, List.length_singleton]; omega)
        rw [hwv, w64 (by omega) (by omega), show (p : Int) + (w : Int) = ((p + w : Nat) : Int) by omega]
        refine Ev.congr (fun f => if_pos (by omega)) ?_
        have hdd : (x.take e).drop (p + w) = b.drop w := by rw [← hb, List.drop_drop]
        rw [hdd, List.append_assoc] at hi
        have hu : uM f0 lab d b = oneM f0 lab b :: uM f0 lab (d - w) (b.drop w) := by
          obtain ⟨d', rfl⟩ : ∃ d', d = d' + 1 := ⟨d - 1, by omega⟩
          show (if b = [] then [] else oneM f0 lab b :: uM f0 lab d' (b.drop (oneM f0 lab b).2.toNat)) = _
          rw [if_neg hbn, hwv, Int.toNat_natCast, uM_stable f0 lab d' (d' + 1 - w) (b.drop w) (by rw [List.length_drop]; omega) (by rw [List.length_drop]; omega)]
        rw [hb, hu]
        have : oneM f0 lab b = ((oneM f0 lab b).1, (w : Int)) := by rw [← hwv]
        rw [this]
        simp only [mkU, List.singleton_append] at hi ⊢
        rw [show ((p : Int) + (w : Int)) = ((p + w : Nat) : Int) by omega]
        exact hi
    · have hpe : p = e := by omega
      refine Ev.step (f := fun _ => some (acc, 0)) (fun f => ?_) (by
        rw [show (x.take e).drop p = [] from List.drop_eq_nil_of_le (by rw [List.length_take]; omega), uM_nil]
        show Ev _ (acc ++ mkU (p : Int) [], 0)
        rw [show mkU (p : Int) [] = [] from rfl, List.append_nil]
        exact Ev.now _)
      simp only [decode_Units.l0]
      rw [if_neg (by omega)]
theorem units_ok (f0 lab : Int) (x : List Int) (hB : BT x) (hx : x.length < 1000000) (p n : Nat) (hp : p + n ≤ x.length) : Ev (fun f => decode_Units.f f f0 x lab (p : Int) (n : Int)) (mkU (p : Int) (uM f0 lab n ((x.take (p + n)).drop p)), 0) := by
  have h := units_loop f0 lab (p : Int) (n : Int) x hB hx (p + n) hp n p [] (by omega) (by omega) (by simp)
  rw [List.nil_append] at h
  refine Ev.congr (f := fun f => decode_Units.j0 f f0 x (p : Int) (n : Int) false lab (p : Int) (n : Int)) (fun f => ?_) (Ev.step (fun f => ?_) h)
  · unfold decode_Units.f
    rw [if_neg (by omega), if_neg (by omega), if_neg (by omega), w64 (by omega) (by omega), decide_eq_false (by omega)]
  · simp only [decode_Units.j0]
    rw [if_neg (by simp), w64 (by omega) (by omega), show (p : Int) + (n : Int) = ((p + n : Nat) : Int) by omega]
end Go.Proofs.YtekalnhackjldaaDoor.Pure
end
section
/- A text of pieces: how long it is, and that it is bytes. -/
namespace Go.Proofs.YtekalnhackjldaaDoor.PTokenWords
open Go.RowKit Go.Proofs.YtekalnhackjldaaDoorW.PrintWords Go.Proofs.YtekalnhackjldaaDoorW.PrintLast Go.Proofs.YtekalnhackjldaaDoorW.PrintMore
open Go.Proofs.YtekalnhackjldaaDoor.M
set_option linter.unusedVariables false
set_option linter.unusedSimpArgs false
theorem bits_from (ps : List ByteArray) (hp : ∀ p ∈ ps, p.size ≤ 100) (raw l : List Int) (hraw : BT raw) (hl : BT l) (hn : l.length ≤ 140737488351232) (hrn : raw.length < 100000000) : ∀ (d i : Nat), 61 - i = d → i ≤ l.length → i ≤ 60 → ∀ acc : List Int, BT acc → acc.length ≤ 100 * i →
    ∃ x, BT x ∧ x.length ≤ 6000 ∧ Ev (fun f => redpenlaw11_Bits.l0 f ps raw acc l (l.length : Int) (i : Int)) x := by
  intro d
  induction d with
  | zero => intro i hd hi h60; omega
  | succ d ih =>
    intro i hd hi h60 acc hB hA
    by_cases hlt : i < l.length
    · by_cases h6 : i = 60
      · refine ⟨acc, hB, by omega, ⟨1, fun k hk => ?_⟩⟩
        obtain ⟨k, rfl⟩ : ∃ m, k = m + 1 := ⟨k - 1, by omega⟩
        simp only [redpenlaw11_Bits.l0]
        rw [if_pos (by omega), if_pos (by omega), if_pos (by omega), if_pos (by omega)]
      · have ew : wrap64 ((i : Int) + 1) = ((i + 1 : Nat) : Int) := by rw [w64 (by omega) (by omega)]; omega
        have hx : 0 ≤ rd l (i : Int) ∧ rd l (i : Int) < 256 := by
          unfold rd
          rw [Int.toNat_natCast, List.getD_eq_getElem?_getD, List.getElem?_eq_getElem hlt]
          exact hl _ (List.getElem_mem hlt)
        have ex : wrap64 (rd l (i : Int)) = rd l (i : Int) := w64 (by omega) (by omega)
        by_cases hk : rd l (i : Int) < (ps.length : Int)
        · have hsz : (rdOf ByteArray.empty ps (rd l (i : Int))).size ≤ 100 := by
            unfold rdOf
            rw [List.getD_eq_getElem?_getD, List.getElem?_eq_getElem (by omega)]
            exact hp _ (List.getElem_mem _)
          obtain ⟨x, h1, h2, h3⟩ := ih (i + 1) (by omega) (by omega) (by omega) (acc ++ bytesOf (rdOf ByteArray.empty ps (rd l (i : Int)))) (hB.app (bytesOf_BT _)) (by rw [List.length_append, bytesOf_length]; omega)
          refine ⟨x, h1, h2, Ev.step (fun f => ?_) h3⟩
          simp only [redpenlaw11_Bits.l0]
          rw [if_pos (by omega), if_pos (by omega), if_pos (by omega), if_neg (by omega), ex, if_pos hk, if_pos hx.1, if_pos (by omega), ew]
        · by_cases hr : (raw.length : Int) > 0
          · have ht : Int.tmod (rd l (i : Int)) (raw.length : Int) = rd l (i : Int) % (raw.length : Int) := Int.tmod_eq_emod_of_nonneg hx.1
            have hm0 := Int.emod_nonneg (rd l (i : Int)) (show (raw.length : Int) ≠ 0 by omega)
            have hm1 := Int.emod_lt_of_pos (rd l (i : Int)) hr
            have hb0 : ∀ q : Int, 0 ≤ q → q < (raw.length : Int) → BT [rd raw q] := fun q q0 q1 z hz => by
              rw [List.mem_singleton.1 hz]
              unfold rd
              rw [List.getD_eq_getElem?_getD, List.getElem?_eq_getElem (by omega)]
              exact hraw _ (List.getElem_mem _)
            have hb := hb0 _ hm0 hm1
            obtain ⟨x, h1, h2, h3⟩ := ih (i + 1) (by omega) (by omega) (by omega) (acc ++ [rd raw (rd l (i : Int) % (raw.length : Int))]) (hB.app hb) (by rw [List.length_append, List.length_singleton]; omega)
            refine ⟨x, h1, h2, Ev.step (fun f => ?_) h3⟩
            simp only [redpenlaw11_Bits.l0]
            rw [if_pos (by omega), if_pos (by omega), if_pos (by omega), if_neg (by omega), ex, if_neg hk, if_pos hr, if_neg (by omega), ht, if_pos hm0, if_pos hm1, if_pos (by omega), ew]
          · obtain ⟨x, h1, h2, h3⟩ := ih (i + 1) (by omega) (by omega) (by omega) acc hB (by omega)
            refine ⟨x, h1, h2, Ev.step (fun f => ?_) h3⟩
            simp only [redpenlaw11_Bits.l0]
            rw [if_pos (by omega), if_pos (by omega), if_pos (by omega), if_neg (by omega), ex, if_neg hk, if_neg hr, ew]
    · refine ⟨acc, hB, by omega, ⟨1, fun k hk => ?_⟩⟩
      obtain ⟨k, rfl⟩ : ∃ m, k = m + 1 := ⟨k - 1, by omega⟩
      simp only [redpenlaw11_Bits.l0]
      rw [if_neg (by omega)]
theorem bits_eq (ps : List ByteArray) (hp : ∀ p ∈ ps, p.size ≤ 100) (raw l : List Int) (hraw : BT raw) (hl : BT l) (hn : l.length ≤ 140737488351232) (hrn : raw.length < 100000000) :
    ∃ x, BT x ∧ x.length ≤ 6000 ∧ Ev (fun f => redpenlaw11_Bits.f f ps l raw) x :=
  bits_from ps hp raw l hraw hl hn hrn 61 0 rfl (by omega) (by omega) [] (fun _ h => by cases h) (by simp)
end Go.Proofs.YtekalnhackjldaaDoor.PTokenWords
end
section
/- The printed utf.Put and utf.Text are the plain ones. -/
namespace Go.Proofs.YtekalnhackjldaaDoor.PTokenWords
open Go.RowKit Go.Proofs.YtekalnhackjldaaDoorW.PrintWords Go.Proofs.YtekalnhackjldaaDoorW.PrintLast Go.Proofs.YtekalnhackjldaaDoorW.PrintMore
open Go.Proofs.YtekalnhackjldaaDoor.M Go.Proofs.YtekalnhackjldaaDoor.X
set_option linter.unusedVariables false
set_option linter.unusedSimpArgs false
theorem and191 {x : Int} (h0 : 0 ≤ x) (h1 : x < 256) : Go.bits .and .u8 x 191 = x / 128 * 128 + x % 64 := by
  have : ∀ x : Fin 256, Go.bits .and .u8 ((x.val : Nat) : Int) 191 = ((x.val : Nat) : Int) / 128 * 128 + ((x.val : Nat) : Int) % 64 := by decide +kernel
  have h := this ⟨x.toNat, by omega⟩
  simpa [Int.toNat_of_nonneg h0] using h
theorem or128 {x : Int} (h0 : 0 ≤ x) (h1 : x < 256) : Go.bits .or .u8 128 x = 128 + x % 128 := by
  have : ∀ x : Fin 256, Go.bits .or .u8 128 ((x.val : Nat) : Int) = 128 + ((x.val : Nat) : Int) % 128 := by decide +kernel
  have h := this ⟨x.toNat, by omega⟩
  simpa [Int.toNat_of_nonneg h0] using h
theorem tail_byte {x : Int} : Go.bits .or .u8 128 (Go.bits .and .u8 (x % 256) 191) = 128 + x % 64 := by
  rw [and191 (by omega) (by omega), or128 (by omega) (by omega)]
  omega
theorem put_eq {k : Nat} (hk : 1 ≤ k) (b : List Int) (r : Int) (hb : b.length < 140737488355300) :
    utf_Put.f k b r = some (if okR r = true then (b ++ enc r, 0) else ([], 2)) := by
  obtain ⟨k, rfl⟩ : ∃ m, k = m + 1 := ⟨k - 1, by omega⟩
  unfold utf_Put.f
  refine ob rfl ?_
  rw [if_pos (by rw [List.length_nil]; omega)]
  refine ob rfl ?_
  rw [List.nil_append]
  have hbad : utf_Put.j0 (k + 1) r b true = some ([], 2) := by simp only [utf_Put.j0, ↓reduceIte]
  by_cases h0 : r < 0
  · rw [if_pos h0, hbad, if_neg (by rw [okR_iff]; omega)]
  rw [if_neg h0]
  by_cases h1 : r > 1114111
  · rw [if_pos h1, hbad, if_neg (by rw [okR_iff]; omega)]
  rw [if_neg h1]
  have hgood : ¬ (55296 ≤ r ∧ r < 57344) → utf_Put.j0 (k + 1) r b false = some (b ++ enc r, 0) := by
    intro hs
    simp only [utf_Put.j0]
    rw [if_neg (by simp)]
    unfold enc
    by_cases h2 : r < 128
    · rw [if_pos h2, if_pos (by omega), if_pos h2, show r % 256 = r by omega]
    rw [if_neg h2, if_neg h2]
    by_cases h3 : r < 2048
    · rw [if_pos h3, if_pos (by omega), if_pos h3]
      refine ob rfl ?_
      rw [if_pos (by rw [List.length_append]; simp; omega), tail_byte, show r / 64 % 256 = r / 64 by omega, u8_or192 (r / 64) (by omega) (by omega), List.append_assoc]
      rfl
    rw [if_neg h3, if_neg h3]
    by_cases h4 : r < 65536
    · rw [if_pos h4, if_pos h4]
      refine ob rfl ?_
      rw [if_pos (by simp; omega)]
      refine ob rfl ?_
      rw [if_pos (by rw [List.length_append]; simp; omega), tail_byte, tail_byte, show r / 4096 % 256 = r / 4096 by omega, u8_or224 (r / 4096) (by omega) (by omega), List.append_assoc]
      rfl
    · rw [if_neg h4, if_neg h4]
      refine ob rfl ?_
      rw [if_pos (by simp; omega)]
      refine ob rfl ?_
      rw [if_pos (by rw [List.length_append]; simp; omega), tail_byte, tail_byte, tail_byte, show r / 262144 % 256 = r / 262144 by omega, u8_or240 (r / 262144) (by omega) (by omega), List.append_assoc]
      rfl
  by_cases h2 : r ≥ 55296
  · rw [if_pos h2]
    by_cases h3 : r < 57344
    · rw [decide_eq_true h3, hbad, if_neg (by rw [okR_iff]; omega)]
    · rw [decide_eq_false h3, hgood (by omega), if_pos ((okR_iff r).2 (by omega))]
  · rw [if_neg h2, hgood (by omega), if_pos ((okR_iff r).2 (by omega))]
theorem text_from (l : List Int) (hl : l.length ≤ 1000000000000) : ∀ (d k i : Nat), l.length - i = d → i ≤ l.length → d + 2 ≤ k → ∀ b : List Int, b.length ≤ 4 * i →
    utf_Text.l0 k b l (l.length : Int) (i : Int) = some (strOfNums (b ++ encL (l.drop i))) := by
  intro d
  induction d with
  | zero =>
    intro k i hd hi hk b hb
    obtain ⟨k, rfl⟩ : ∃ m, k = m + 1 := ⟨k - 1, by omega⟩
    simp only [utf_Text.l0]
    rw [if_neg (by omega), List.drop_eq_nil_of_le (by omega)]
    simp [encL]
  | succ d ih =>
    intro k i hd hi hk b hb
    obtain ⟨k, rfl⟩ : ∃ m, k = m + 1 := ⟨k - 1, by omega⟩
    have hlt : i < l.length := by omega
    have ew : wrap64 ((i : Int) + 1) = ((i + 1 : Nat) : Int) := by rw [w64 (by omega) (by omega)]; omega
    have hrd : rd l (i : Int) = l[i] := by
      unfold rd
      rw [Int.toNat_natCast, List.getD_eq_getElem?_getD, List.getElem?_eq_getElem hlt]
      rfl
    simp only [utf_Text.l0]
    rw [if_pos (by omega), if_pos (by omega), if_pos (by omega)]
    refine ob (put_eq (by omega) b _ (by omega)) ?_
    rw [hrd, List.drop_eq_getElem_cons hlt, ew]
    have he := enc_len l[i]
    simp only [encL]
    by_cases h : okR l[i] = true
    · rw [if_pos h]
      dsimp only
      rw [if_pos rfl, ih k (i + 1) (by omega) (by omega) (by omega) (b ++ enc l[i]) (by rw [List.length_append]; omega), if_pos h, List.append_assoc]
    · rw [if_neg h]
      dsimp only
      rw [if_neg (by decide), ih k (i + 1) (by omega) (by omega) (by omega) b (by omega), if_neg h, List.nil_append]
theorem text_eq {k : Nat} {l : List Int} (hl : l.length ≤ 1000000000000) (hk : l.length + 2 ≤ k) : utf_Text.f k l = some (strOfNums (encL l)) := by
  unfold utf_Text.f
  have := text_from l hl l.length k 0 (by omega) (by omega) hk [] (by simp)
  simpa using this
end Go.Proofs.YtekalnhackjldaaDoor.PTokenWords
end
section
/- The reference's Bytes and Text are the plain ones. -/
namespace Go.Proofs.YtekalnhackjldaaDoor.PTokenWords
open Go.RowKit Go.Proofs.YtekalnhackjldaaDoorW.PrintWords Go.Proofs.YtekalnhackjldaaDoorW.PrintLast Go.Proofs.YtekalnhackjldaaDoorW.PrintMore
open Go.Proofs.YtekalnhackjldaaDoor.M Go.Proofs.YtekalnhackjldaaDoor.X
set_option linter.unusedVariables false
set_option linter.unusedSimpArgs false
theorem refbytes_eq {k : Nat} (hk : 1 ≤ k) (r : Int) : redpenref01_Bytes.f k r = some (if okR r = true then enc r else []) := by
  obtain ⟨k, rfl⟩ : ∃ m, k = m + 1 := ⟨k - 1, by omega⟩
  have hbad : redpenref01_Bytes.j0 (k + 1) r true = some [] := by simp only [redpenref01_Bytes.j0, ↓reduceIte]
  unfold redpenref01_Bytes.f
  by_cases h0 : r < 0
  · rw [if_pos h0, hbad, if_neg (by rw [okR_iff]; omega)]
  rw [if_neg h0]
  by_cases h1 : r > 1114111
  · rw [if_pos h1, hbad, if_neg (by rw [okR_iff]; omega)]
  rw [if_neg h1]
  have td : ∀ n : Int, Int.tdiv r n = r / n := fun n => Int.tdiv_eq_ediv_of_nonneg (by omega)
  have tm : Int.tmod r 64 = r % 64 := Int.tmod_eq_emod_of_nonneg (by omega)
  have tm2 : ∀ n : Int, 0 < n → Int.tmod (r / n) 64 = r / n % 64 := fun n hn => Int.tmod_eq_emod_of_nonneg (Int.ediv_nonneg (by omega) (by omega))
  have hgood : ¬ (55296 ≤ r ∧ r < 57344) → redpenref01_Bytes.j0 (k + 1) r false = some (enc r) := by
    intro hs
    simp only [redpenref01_Bytes.j0]
    rw [if_neg (by simp)]
    unfold enc
    by_cases h2 : r < 128
    · rw [if_pos h2, if_pos h2, show r % 256 = r by omega]
    rw [if_neg h2, if_neg h2]
    by_cases h3 : r < 2048
    · rw [if_pos h3, if_pos h3, td, tm, w32 (x := r / 64) (by omega) (by omega), w32 (x := 192 + r / 64) (by omega) (by omega), w32 (x := 128 + r % 64) (by omega) (by omega), show (192 + r / 64) % 256 = 192 + r / 64 by omega, show (128 + r % 64) % 256 = 128 + r % 64 by omega]
    rw [if_neg h3, if_neg h3]
    by_cases h4 : r < 65536
    · rw [if_pos h4, if_pos h4, td, td, tm, w32 (x := r / 64) (by omega) (by omega), tm2 64 (by omega), w32 (x := r / 4096) (by omega) (by omega), w32 (x := 224 + r / 4096) (by omega) (by omega), w32 (x := 128 + r / 64 % 64) (by omega) (by omega), w32 (x := 128 + r % 64) (by omega) (by omega), show (224 + r / 4096) % 256 = 224 + r / 4096 by omega, show (128 + r / 64 % 64) % 256 = 128 + r / 64 % 64 by omega, show (128 + r % 64) % 256 = 128 + r % 64 by omega]
    · rw [if_neg h4, if_neg h4, td, td, td, tm, w32 (x := r / 64) (by omega) (by omega), tm2 64 (by omega), w32 (x := r / 4096) (by omega) (by omega), tm2 4096 (by omega), w32 (x := r / 262144) (by omega) (by omega), w32 (x := 240 + r / 262144) (by omega) (by omega), w32 (x := 128 + r / 4096 % 64) (by omega) (by omega), w32 (x := 128 + r / 64 % 64) (by omega) (by omega), w32 (x := 128 + r % 64) (by omega) (by omega), show (240 + r / 262144) % 256 = 240 + r / 262144 by omega, show (128 + r / 4096 % 64) % 256 = 128 + r / 4096 % 64 by omega, show (128 + r / 64 % 64) % 256 = 128 + r / 64 % 64 by omega, show (128 + r % 64) % 256 = 128 + r % 64 by omega]
  by_cases h2 : r ≥ 55296
  · rw [if_pos h2]
    by_cases h3 : r ≤ 57343
    · rw [decide_eq_true h3, hbad, if_neg (by rw [okR_iff]; omega)]
    · rw [decide_eq_false h3, hgood (by omega), if_pos ((okR_iff r).2 (by omega))]
  · rw [if_neg h2, hgood (by omega), if_pos ((okR_iff r).2 (by omega))]
theorem reftext_from (l : List Int) (hl : l.length ≤ 1000000000000) : ∀ (d k i : Nat), l.length - i = d → i ≤ l.length → d + 2 ≤ k → ∀ b : List Int, b.length ≤ 4 * i →
    redpenref01_Text.l0 k l b (i : Int) = some (strOfNums (b ++ encL (l.drop i))) := by
  intro d
  induction d with
  | zero =>
    intro k i hd hi hk b hb
    obtain ⟨k, rfl⟩ : ∃ m, k = m + 1 := ⟨k - 1, by omega⟩
    simp only [redpenref01_Text.l0]
    rw [if_neg (by omega), List.drop_eq_nil_of_le (by omega)]
    simp [encL]
  | succ d ih =>
    intro k i hd hi hk b hb
    obtain ⟨k, rfl⟩ : ∃ m, k = m + 1 := ⟨k - 1, by omega⟩
    have hlt : i < l.length := by omega
    have ew : wrap64 ((i : Int) + 1) = ((i + 1 : Nat) : Int) := by rw [w64 (by omega) (by omega)]; omega
    have hrd : rd l (i : Int) = l[i] := by
      unfold rd
      rw [Int.toNat_natCast, List.getD_eq_getElem?_getD, List.getElem?_eq_getElem hlt]
      rfl
    have he := enc_len l[i]
    simp only [redpenref01_Text.l0]
    rw [if_pos (by omega), if_pos (by omega)]
    refine ob (refbytes_eq (by omega) _) ?_
    rw [hrd, List.drop_eq_getElem_cons hlt, ew]
    simp only [encL]
    by_cases h : okR l[i] = true
    · rw [if_pos h, if_pos (by omega), ih k (i + 1) (by omega) (by omega) (by omega) (b ++ enc l[i]) (by rw [List.length_append]; omega), List.append_assoc]
    · rw [if_neg h, if_pos (by rw [List.length_nil]; omega), List.append_nil, ih k (i + 1) (by omega) (by omega) (by omega) b (by omega), List.nil_append]
theorem reftext_eq {k : Nat} {l : List Int} (hl : l.length ≤ 1000000000000) (hk : l.length + 2 ≤ k) : redpenref01_Text.f k l = some (strOfNums (encL l)) := by
  unfold redpenref01_Text.f
  have := reftext_from l hl l.length k 0 (by omega) (by omega) hk [] (by simp)
  simpa using this
end Go.Proofs.YtekalnhackjldaaDoor.PTokenWords
end
section
/- The printed decode.Text and decode.Literal, and the document's, are the plain ones. -/
namespace Go.Proofs.YtekalnhackjldaaDoor.Pure
open Go.RowKit Go.Proofs.YtekalnhackjldaaDoor.PTokenWords Go.Proofs.YtekalnhackjldaaDoorW.PrintWords Go.Proofs.YtekalnhackjldaaDoorW.PrintLast
open Go.Proofs.YtekalnhackjldaaDoor.M Go.Proofs.YtekalnhackjldaaDoor.X
set_option linter.unusedVariables false
set_option linter.unusedSimpArgs false
theorem dtext_from (l : List S45) (hl : l.length < 1000000000) : ∀ (d i : Nat), l.length - i = d → i ≤ l.length → Ev (fun f => decode_Text.l0 f ((runesOf l).take i) l (l.length : Int) (i : Int)) (strOfNums (encL (runesOf l))) := by
  intro d
  induction d with
  | zero =>
    intro i hd hi
    refine Ev.step (f := fun f => (utf_Text.f f (runesOf l)).bind fun t => some t) (fun f => ?_) (Ev.bind (a := strOfNums (encL (runesOf l))) ⟨(runesOf l).length + 2, fun k hk => text_eq (by rw [runesOf_len]; omega) hk⟩ (Ev.now _))
    simp only [decode_Text.l0]
    rw [if_neg (by omega), List.take_of_length_le (by rw [runesOf_len]; omega)]
  | succ d ih =>
    intro i hd hi
    have hlt : i < (runesOf l).length := by rw [runesOf_len]; omega
    refine Ev.step (f := fun f => decode_Text.l0 f ((runesOf l).take (i + 1)) l (l.length : Int) ((i + 1 : Nat) : Int)) (fun f => ?_) (ih (i + 1) (by omega) (by omega))
    simp only [decode_Text.l0]
    rw [if_pos (by omega), if_pos (by omega), if_pos (by omega), if_pos (by rw [List.length_take, runesOf_len]; omega), rd_unit, show wrap64 ((i : Int) + 1) = ((i + 1 : Nat) : Int) by rw [w64 (by omega) (by omega)]; omega]
    have e : (runesOf l).take i ++ [rd (runesOf l) (i : Int)] = (runesOf l).take (i + 1) := by
      rw [List.take_succ_eq_append_getElem hlt]
      unfold rd
      rw [Int.toNat_natCast, List.getD_eq_getElem?_getD, List.getElem?_eq_getElem hlt]
      rfl
    rw [e]
theorem dtext_eq (l : List S45) (hl : l.length < 1000000000) : Ev (fun f => decode_Text.f f l) (strOfNums (encL (runesOf l))) := dtext_from l hl _ 0 rfl (by omega)
theorem rtext_from (l : List S45) (hl : l.length < 1000000000) : ∀ (d i : Nat), l.length - i = d → i ≤ l.length → Ev (fun f => redpenref15_Text.l0 f l ((runesOf l).take i) (i : Int)) (strOfNums (encL (runesOf l))) := by
  intro d
  induction d with
  | zero =>
    intro i hd hi
    refine Ev.step (f := fun f => (redpenref01_Text.f f (runesOf l)).bind fun t => some t) (fun f => ?_) (Ev.bind (a := strOfNums (encL (runesOf l))) ⟨(runesOf l).length + 2, fun k hk => reftext_eq (by rw [runesOf_len]; omega) hk⟩ (Ev.now _))
    simp only [redpenref15_Text.l0]
    rw [if_neg (by omega), List.take_of_length_le (by rw [runesOf_len]; omega)]
  | succ d ih =>
    intro i hd hi
    have hlt : i < (runesOf l).length := by rw [runesOf_len]; omega
    refine Ev.step (f := fun f => redpenref15_Text.l0 f l ((runesOf l).take (i + 1)) ((i + 1 : Nat) : Int)) (fun f => ?_) (ih (i + 1) (by omega) (by omega))
    simp only [redpenref15_Text.l0]
    rw [if_pos (by omega), if_pos (by omega), if_pos (by rw [List.length_take, runesOf_len]; omega), rd_unit, show wrap64 ((i : Int) + 1) = ((i + 1 : Nat) : Int) by rw [w64 (by omega) (by omega)]; omega]
    have e : (runesOf l).take i ++ [rd (runesOf l) (i : Int)] = (runesOf l).take (i + 1) := by
      rw [List.take_succ_eq_append_getElem hlt]
      unfold rd
      rw [Int.toNat_natCast, List.getD_eq_getElem?_getD, List.getElem?_eq_getElem hlt]
      rfl
    rw [e]
theorem rtext_eq (l : List S45) (hl : l.length < 1000000000) : Ev (fun f => redpenref15_Text.f f l) (strOfNums (encL (runesOf l))) := rtext_from l hl _ 0 rfl (by omega)
def litFrom (l : List S45) : Int := (rd_T45 l 0).f1.f0
def litTo (l : List S45) : Int := wrap64 ((rd_T45 l ((l.length : Int) - 1)).f1.f0 + (rd_T45 l ((l.length : Int) - 1)).f1.f1)
def litM (b : List Int) (l : List S45) : Bool :=
  if l.length = 0 then true else if 0 ≤ litFrom l ∧ litFrom l ≤ litTo l ∧ litTo l ≤ (b.length : Int) then (strOfNums ((b.take (litTo l).toNat).drop (litFrom l).toNat)).toList == (strOfNums (encL (runesOf l))).toList else false
theorem dlit_eq (b : List Int) (l : List S45) (hl : l.length < 1000000000) : Ev (fun f => decode_Literal.f f b l) (litM b l) := by
  by_cases h0 : l.length = 0
  · refine Ev.congr (f := fun _ => some true) (fun f => ?_) (by rw [show litM b l = true by unfold litM; rw [if_pos h0]]; exact Ev.now _)
    unfold decode_Literal.f
    rw [if_pos (by omega)]
  · have eL : wrap64 ((l.length : Int) - 1) = (l.length : Int) - 1 := w64 (by omega) (by omega)
    have head : ∀ f, decode_Literal.f f b l = if litFrom l ≥ 0 then (if litTo l ≥ litFrom l then (if litTo l ≤ (b.length : Int) then (if 0 ≤ litFrom l then (if litFrom l ≤ litTo l then ((decode_Text.f f l).bind fun t => some ((strOfNums ((b.take (litTo l).toNat).drop (litFrom l).toNat)).toList == t.toList)) else none) else none) else some false) else some false) else some false := by
      intro f
      unfold decode_Literal.f
      rw [eL, if_neg (by omega), if_pos (by omega), if_pos (by omega), if_pos (by omega)]
      rfl
    by_cases h1 : 0 ≤ litFrom l ∧ litFrom l ≤ litTo l ∧ litTo l ≤ (b.length : Int)
    · refine Ev.congr (f := fun f => (decode_Text.f f l).bind fun t => some ((strOfNums ((b.take (litTo l).toNat).drop (litFrom l).toNat)).toList == t.toList)) (fun f => ?_) (Ev.bind (dtext_eq l hl) (by rw [show litM b l = _ by unfold litM; rw [if_neg h0, if_pos h1]]; exact Ev.now _))
      rw [head, if_pos (by omega), if_pos (by omega), if_pos (by omega), if_pos (by omega), if_pos (by omega)]
    · refine Ev.congr (f := fun _ => some false) (fun f => ?_) (by rw [show litM b l = false by unfold litM; rw [if_neg h0, if_neg h1]]; exact Ev.now _)
      rw [head]
      by_cases g0 : litFrom l ≥ 0
      · rw [if_pos g0]
        by_cases g1 : litTo l ≥ litFrom l
        · rw [if_pos g1, if_neg (by omega)]
        · rw [if_neg g1]
      · rw [if_neg g0]
theorem rlit_eq (b : List Int) (l : List S45) (hl : l.length < 1000000000) : Ev (fun f => redpenref15_Literal.f f b l) (litM b l) := by
  by_cases h0 : l.length = 0
  · refine Ev.congr (f := fun _ => some true) (fun f => ?_) (by rw [show litM b l = true by unfold litM; rw [if_pos h0]]; exact Ev.now _)
    unfold redpenref15_Literal.f
    rw [if_pos (by omega)]
  · have eL : wrap64 ((l.length : Int) - 1) = (l.length : Int) - 1 := w64 (by omega) (by omega)
    have head : ∀ f, redpenref15_Literal.f f b l = if litFrom l ≥ 0 then (if litFrom l ≤ litTo l then (if litTo l ≤ (b.length : Int) then (if 0 ≤ litFrom l then ((redpenref15_Text.f f l).bind fun t => some ((strOfNums ((b.take (litTo l).toNat).drop (litFrom l).toNat)).toList == t.toList)) else none) else some false) else some false) else some false := by
      intro f
      unfold redpenref15_Literal.f
      rw [eL, if_neg (by omega), if_pos (by omega), if_pos (by omega), if_pos (by omega)]
      rfl
    by_cases h1 : 0 ≤ litFrom l ∧ litFrom l ≤ litTo l ∧ litTo l ≤ (b.length : Int)
    · refine Ev.congr (f := fun f => (redpenref15_Text.f f l).bind fun t => some ((strOfNums ((b.take (litTo l).toNat).drop (litFrom l).toNat)).toList == t.toList)) (fun f => ?_) (Ev.bind (rtext_eq l hl) (by rw [show litM b l = _ by unfold litM; rw [if_neg h0, if_pos h1]]; exact Ev.now _))
      rw [head, if_pos (by omega), if_pos (by omega), if_pos (by omega), if_pos (by omega)]
    · refine Ev.congr (f := fun _ => some false) (fun f => ?_) (by rw [show litM b l = false by unfold litM; rw [if_neg h0, if_neg h1]]; exact Ev.now _)
      rw [head]
      by_cases g0 : litFrom l ≥ 0
      · rw [if_pos g0]
        by_cases g1 : litFrom l ≤ litTo l
        · rw [if_pos g1, if_neg (by omega)]
        · rw [if_neg g1]
      · rw [if_neg g0]
end Go.Proofs.YtekalnhackjldaaDoor.Pure
end
