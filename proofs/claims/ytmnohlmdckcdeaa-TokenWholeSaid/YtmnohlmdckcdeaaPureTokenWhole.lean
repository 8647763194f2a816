/- TokenWhole: words rise and lie apart; each letter lies in just one of them; none has anything but letters, and apostrophes within runs; a word that stands literally is its bytes. For any bytes. No condition beyond the statement's own. -/
import Derived.Test.YtmnohlmdckcdeaaBWordsUTokenWhole
namespace Go.Proofs.Ytmnohlmdckcdeaa.Pure
open Go.RowKit Go.Proofs.Ytmnohlmdckcdeaa.PTokenWhole Go.Proofs.YtmnohlmdckcdeaaW.PrintWords Go.Proofs.YtmnohlmdckcdeaaW.PrintLast
open Go.Proofs.Ytmnohlmdckcdeaa.M Go.Proofs.Ytmnohlmdckcdeaa.X
set_option linter.unusedVariables false
set_option linter.unusedSimpArgs false

theorem tok_awake : Ev (fun f => redpenlaw16_Awake.f f) true := Ev.of redpenlaw16_Awake.mono (k := 60) (by decide +kernel)
theorem pieces_small : ∀ ps, redpenlaw16_pieces.f = some ps → ∀ p ∈ ps, p.size ≤ 100 := by
  intro ps h
  injection h with h
  subst h
  decide +kernel
theorem pos_lt (b : List Int) {i j : Nat} (h : i < j) (hj : j ≤ (us b).length) : pos (us b) i < pos (us b) j := by
  have h1 := pos_mono b (i := i + 1) (j := j) (by omega)
  have h2 := pos_succ (us b) i (by omega)
  have h3 := us_each b _ (List.getElem_mem (show i < (us b).length by omega))
  rw [List.getD_eq_getElem?_getD, List.getElem?_eq_getElem (show i < (us b).length by omega)] at h2
  simp only [Option.getD_some] at h2
  omega
theorem inn_kind {R : List Int} {t : Int} (h : inn R t = true) : letter (rd R t) = true ∨ rd R t = 39 := by
  simp only [inn, Bool.or_eq_true, Bool.and_eq_true, decide_eq_true_eq, beq_iff_eq] at h
  rcases h with h | h
  · exact .inl (ltr_in h).2.2
  · exact .inr h.1.1.2
theorem part_kind {R : List Int} {p q : Nat} (hq : q ≤ R.length) (h : ∀ t : Nat, p ≤ t → t < q → inn R (t : Int) = true) : ∀ r ∈ (R.take q).drop p, letter r = true ∨ r = 39 := by
  intro r hr
  obtain ⟨i, hi, rfl⟩ := List.getElem_of_mem hr
  rw [List.length_drop, List.length_take] at hi
  have := inn_kind (h (p + i) (by omega) (by omega))
  unfold rd at this
  rw [Int.toNat_natCast, List.getD_eq_getElem?_getD, List.getElem?_eq_getElem (by omega)] at this
  rw [List.getElem_drop, List.getElem_take]
  exact this
section
variable {b : List Int} (hB : BT b) (hbl : b.length < 1000000) (Q : List (Nat × Nat)) (hql : Q.length < 1000000)
theorem whole_get (i : Nat) (h : i < Q.length) : rd_T50 (Q.map (wdU b)) (i : Int) = wdU b Q[i] := by
  unfold rd_T50
  rw [Int.toNat_natCast, List.getD_eq_getElem?_getD, List.getElem?_map, List.getElem?_eq_getElem h]
  rfl
/-- A word's runes: letters, and apostrophes. -/
theorem whole_l1 (l : List Int) (hl : l.length < 1000000) (hk : ∀ r ∈ l, letter r = true ∨ r = 39) (u : List S53) (W : List S50) (x8 x32 x33 : Int) (r : Bool) (hr : Ev (fun f => redpenlaw16_TokenWhole.l0 f b u W x8 W x32 (wrap64 (x33 + 1))) r) :
    ∀ (d i : Nat), l.length - i = d → i ≤ l.length → Ev (fun f => redpenlaw16_TokenWhole.l1 f b u W x8 W x32 x33 l (l.length : Int) (i : Int)) r := by
  intro d
  induction d with
  | zero =>
    intro i hd hi
    refine Ev.step (f := fun f => redpenlaw16_TokenWhole.l0 f b u W x8 W x32 (wrap64 (x33 + 1))) (fun f => ?_) hr
    simp only [redpenlaw16_TokenWhole.l1]
    rw [if_neg (by omega)]
  | succ d ih =>
    intro i hd hi
    have hlt : i < l.length := by omega
    have hx := hk l[i] (List.getElem_mem hlt)
    have e : rd l (i : Int) = l[i] := by
      unfold rd
      rw [Int.toNat_natCast, List.getD_eq_getElem?_getD, List.getElem?_eq_getElem hlt]
      rfl
    refine Ev.step (f := fun f => redpenlaw16_TokenWhole.l1 f b u W x8 W x32 x33 l (l.length : Int) ((i + 1 : Nat) : Int)) (fun f => ?_) (ih (i + 1) (by omega) (by omega))
    simp only [redpenlaw16_TokenWhole.l1]
    rw [if_pos (by omega), if_pos (by omega), if_pos (by omega), e, show wrap64 ((i : Int) + 1) = ((i + 1 : Nat) : Int) by rw [w64 (by omega) (by omega)]; omega]
    refine ob (fletter_eq _) ?_
    rcases hx with hx | hx
    · rw [hx, if_pos rfl]
    · by_cases hx' : letter l[i] = true
      · rw [hx', if_pos rfl]
      · rw [if_neg hx', if_pos hx]
include hbl in
/-- A sign: on to the word that may hold it. -/
theorem whole_l3 (t : Nat) (ht : t < (us b).length) (u : List S53) (n : Int) (x2 : Int) (res : Bool) (hql : Q.length < 1000000) : ∀ (rest dn : List (Nat × Nat)) (s : Nat), Q = dn ++ rest → AllOk (rs b) s rest → s ≤ t →
    (∀ (rest' dn' : List (Nat × Nat)) (s' : Nat), Q = dn' ++ rest' → AllOk (rs b) s' rest' → s' ≤ t → Ev (fun f => redpenlaw16_TokenWhole.l2 f (Q.map (wdU b)) (dn'.length : Int) u n (wrap64 ((t : Int) + 1))) res) →
    Ev (fun f => redpenlaw16_TokenWhole.l3 f (Q.map (wdU b)) (dn.length : Int) u n (t : Int) (rd (rs b) (t : Int)) (pos (us b) t) x2) res := by
  intro rest
  have hrl := rs_len b
  have hple := pos_le b
  induction rest with
  | nil =>
    intro dn s hQ hA hs hr
    have hlen : dn.length = Q.length := by rw [hQ]; simp
    have hno : letter (rd (rs b) (t : Int)) = false := by
      cases h : letter (rd (rs b) (t : Int))
      · rfl
      · have h1 : ltr (rs b) (t : Int) = true := by unfold ltr; rw [decide_eq_true (by omega), decide_eq_true (by omega), h]; rfl
        have h2 := hA t hs
        rw [ltr_inn h1] at h2; cases h2
    obtain ⟨K, hK⟩ := hr [] dn s hQ hA hs
    refine ⟨K + 3, fun k hk => ?_⟩
    obtain ⟨k, rfl⟩ : ∃ m, k = m + 3 := ⟨k - 3, by omega⟩
    simp only [redpenlaw16_TokenWhole.l3]
    rw [if_neg (by rw [List.length_map]; omega)]
    simp only [redpenlaw16_TokenWhole.j5]
    rw [if_neg (by rw [List.length_map]; omega)]
    simp only [redpenlaw16_TokenWhole.j6]
    refine ob (fletter_eq _) ?_
    rw [hno, if_neg (by decide), if_neg (by decide)]
    exact hK k (by omega)
  | cons pq rest ih =>
    intro dn s hQ hA hs hr
    obtain ⟨p, q⟩ := pq
    obtain ⟨h1, h2, h3, h4, h5, h6⟩ := hA
    have hlen : Q.length = dn.length + rest.length + 1 := by rw [hQ]; simp; omega
    have hget : rd_T50 (Q.map (wdU b)) (dn.length : Int) = wdU b (p, q) := by
      rw [whole_get Q dn.length (by omega)]
      congr 1
      simp [hQ]
    have e2 : (wdU b (p, q)).f1.f0 + (wdU b (p, q)).f1.f1 = pos (us b) q := by show pos (us b) p + (pos (us b) q - pos (us b) p) = _; omega
    have q0 := pos_nonneg (us_each b) q
    have q1 := hple q
    by_cases hqt : q ≤ t
    · have hle := pos_mono b hqt
      have hn := ih (dn ++ [(p, q)]) q (by rw [hQ]; simp) h6 hqt hr
      refine Ev.step (f := fun f => redpenlaw16_TokenWhole.l3 f (Q.map (wdU b)) ((dn ++ [(p, q)]).length : Int) u n (t : Int) (rd (rs b) (t : Int)) (pos (us b) t) x2) (fun f => ?_) hn
      simp only [redpenlaw16_TokenWhole.l3]
      rw [hget, e2, w64 (x := pos (us b) q) (by omega) (by omega), if_pos (by rw [List.length_map]; omega), if_pos (by omega), if_pos hle, w64 (by omega) (by omega)]
      congr 1
      simp
    · have hlt := pos_lt b (i := t) (j := q) (by omega) (by omega)
      obtain ⟨K, hK⟩ := hr ((p, q) :: rest) dn s hQ ⟨h1, h2, h3, h4, h5, h6⟩ hs
      refine ⟨K + 3, fun k hk => ?_⟩
      obtain ⟨k, rfl⟩ : ∃ m, k = m + 3 := ⟨k - 3, by omega⟩
      simp only [redpenlaw16_TokenWhole.l3]
      rw [hget, e2, w64 (x := pos (us b) q) (by omega) (by omega), if_pos (by rw [List.length_map]; omega), if_pos (by omega), if_neg (by omega)]
      simp only [redpenlaw16_TokenWhole.j5]
      rw [hget, if_pos (by rw [List.length_map]; omega), if_pos (by omega)]
      show redpenlaw16_TokenWhole.j6 (k + 1) _ _ (decide (pos (us b) t ≥ pos (us b) p)) _ _ _ _ _ _ = _
      by_cases hpt : p ≤ t
      · have hle := pos_mono b hpt
        rw [decide_eq_true (show pos (us b) t ≥ pos (us b) p from hle)]
        have hin := inn_kind (h5 t hpt (by omega))
        simp only [redpenlaw16_TokenWhole.j6, if_true]
        refine ob (fletter_eq _) ?_
        cases hl : letter (rd (rs b) (t : Int))
        · have h39 : rd (rs b) (t : Int) = 39 := by
            rw [hl] at hin
            rcases hin with h | h
            · cases h
            · exact h
          rw [if_neg (by decide)]
          refine ob (fletter_eq _) ?_
          rw [hl, if_neg (by decide), if_pos h39]
          exact hK k (by omega)
        · rw [if_pos rfl]
          refine ob (fletter_eq _) ?_
          rw [hl, if_pos rfl]
          exact hK k (by omega)
      · have hlt' := pos_lt b (i := t) (j := p) (by omega) (by omega)
        rw [decide_eq_false (show ¬ pos (us b) t ≥ pos (us b) p by omega)]
        have hno : letter (rd (rs b) (t : Int)) = false := by
          cases h : letter (rd (rs b) (t : Int))
          · rfl
          · have g1 : ltr (rs b) (t : Int) = true := by unfold ltr; rw [decide_eq_true (by omega), decide_eq_true (by omega), h]; rfl
            have g2 := h4 t hs (by omega)
            rw [ltr_inn g1] at g2; cases g2
        simp only [redpenlaw16_TokenWhole.j6]
        refine ob (fletter_eq _) ?_
        rw [hno, if_neg (by decide), if_neg (by decide)]
        exact hK k (by omega)
include hbl in
theorem whole_l2 (hql : Q.length < 1000000) : ∀ (d t : Nat) (rest dn : List (Nat × Nat)) (s : Nat), (us b).length - t = d → t ≤ (us b).length → Q = dn ++ rest → AllOk (rs b) s rest → s ≤ t →
    Ev (fun f => redpenlaw16_TokenWhole.l2 f (Q.map (wdU b)) (dn.length : Int) (mkU 0 (us b)) ((mkU 0 (us b)).length : Int) (t : Int)) true := by
  have hul : (mkU 0 (us b)).length = (us b).length := mkU_len 0 _
  have hlen := us_len b
  intro d
  induction d with
  | zero =>
    intro t rest dn s hd ht hQ hA hs
    refine Ev.step (f := fun _ => some true) (fun f => ?_) (Ev.now _)
    simp only [redpenlaw16_TokenWhole.l2]
    rw [if_neg (by omega)]
  | succ d ih =>
    intro t rest dn s hd ht hQ hA hs
    have a0 := (unit_at b t (by omega)).1
    refine Ev.step (f := fun f => redpenlaw16_TokenWhole.l3 f (Q.map (wdU b)) (dn.length : Int) (mkU 0 (us b)) ((mkU 0 (us b)).length : Int) (t : Int) (rd (rs b) (t : Int)) (pos (us b) t) (rd_T53 (mkU 0 (us b)) (t : Int)).f1.f1) (fun f => ?_) (whole_l3 hbl Q t (by omega) _ _ _ true hql rest dn s hQ hA hs (fun rest' dn' s' hQ' hA' hs' => by
      rw [w64 (by omega) (by omega)]
      exact ih (t + 1) rest' dn' s' (by omega) (by omega) hQ' hA' (by omega)))
    simp only [redpenlaw16_TokenWhole.l2]
    rw [if_pos (by omega), if_pos (by omega), if_pos (by omega), rd_unit, runesOf_us, a0]
include hB hbl in
theorem whole_l0 (hql : Q.length < 1000000) (hQ0 : AllOk (rs b) 0 Q) : ∀ (rest dn : List (Nat × Nat)) (s : Nat) (x8 : Int), Q = dn ++ rest → AllOk (rs b) s rest → x8 ≤ pos (us b) s →
    Ev (fun f => redpenlaw16_TokenWhole.l0 f b (mkU 0 (us b)) (Q.map (wdU b)) x8 (Q.map (wdU b)) ((Q.map (wdU b)).length : Int) (dn.length : Int)) true := by
  intro rest
  have hrl := rs_len b
  have hple := pos_le b
  induction rest with
  | nil =>
    intro dn s x8 hQ hA hx
    have hlen : dn.length = Q.length := by rw [hQ]; simp
    refine Ev.step (f := fun f => redpenlaw16_TokenWhole.l2 f (Q.map (wdU b)) (([] : List (Nat × Nat)).length : Int) (mkU 0 (us b)) ((mkU 0 (us b)).length : Int) ((0 : Nat) : Int)) (fun f => ?_) (whole_l2 hbl Q hql _ 0 Q [] 0 rfl (by omega) rfl hQ0 (Nat.le_refl _))
    simp only [redpenlaw16_TokenWhole.l0]
    rw [if_neg (by rw [List.length_map]; omega)]
    rfl
  | cons pq rest ih =>
    intro dn s x8 hQ hA hx
    obtain ⟨p, q⟩ := pq
    obtain ⟨h1, h2, h3, h4, h5, h6⟩ := hA
    have hlen : Q.length = dn.length + rest.length + 1 := by rw [hQ]; simp; omega
    have hget : rd_T50 (Q.map (wdU b)) (dn.length : Int) = wdU b (p, q) := by
      rw [whole_get Q dn.length (by omega)]
      congr 1
      simp [hQ]
    have hl2 : q ≤ (us b).length := by omega
    have m0 := pos_nonneg (us_each b) p
    have m1 := pos_lt b h2 hl2
    have m2 := hple q
    have m3 := pos_mono b h1
    have e0 : (wdU b (p, q)).f1.f0 = pos (us b) p := rfl
    have e1 : (wdU b (p, q)).f1.f1 = pos (us b) q - pos (us b) p := rfl
    have e2 : (wdU b (p, q)).f2 = true := rfl
    have e3 : (wdU b (p, q)).f0 = strOfNums (bytesAt b (p, q)) := rfl
    have hs : wrap64 (pos (us b) p + (pos (us b) q - pos (us b) p)) = pos (us b) q := by rw [show pos (us b) p + (pos (us b) q - pos (us b) p) = pos (us b) q by omega, w64 (by omega) (by omega)]
    have hn := ih (dn ++ [(p, q)]) q (pos (us b) q) (by rw [hQ]; simp) h6 (Int.le_refl _)
    have hBB : BT (bytesAt b (p, q)) := (hB.take _).drop _
    have hbb : (bytesAt b (p, q)).length ≤ b.length := by unfold bytesAt; rw [List.length_drop, List.length_take]; omega
    have hrs := bytesAt_rs (b := b) (p, q) (by show p ≤ q; omega) hl2
    have hk := part_kind (R := rs b) (p := p) (q := q) h3 h5
    rw [← hrs] at hk
    have hrlen : (rs (bytesAt b (p, q))).length ≤ (bytesAt b (p, q)).length := by rw [rs_len]; exact us_len _
    have g := whole_l1 (b := b) (rs (bytesAt b (p, q))) (by omega) hk (mkU 0 (us b)) (Q.map (wdU b)) (pos (us b) q) ((Q.map (wdU b)).length : Int) (dn.length : Int) true (by
      rw [w64 (by omega) (by omega)]
      simpa using hn) _ 0 rfl (by omega)
    refine Ev.step (f := fun f => redpenlaw16_TokenWhole.j1 f b (mkU 0 (us b)) (Q.map (wdU b)) (Q.map (wdU b)) ((Q.map (wdU b)).length : Int) (dn.length : Int) false (strOfNums (bytesAt b (p, q))) (pos (us b) p) (pos (us b) q - pos (us b) p) true) (fun f => ?_)
      (Ev.step (f := fun f => (utf_Runes.f f (strOfNums (bytesAt b (p, q)))).bind fun t => redpenlaw16_TokenWhole.l1 f b (mkU 0 (us b)) (Q.map (wdU b)) (pos (us b) q) (Q.map (wdU b)) ((Q.map (wdU b)).length : Int) (dn.length : Int) t (t.length : Int) 0) (fun f => ?_)
        (Ev.bind (a := rs (bytesAt b (p, q))) ⟨(bytesAt b (p, q)).length + 8, fun k hk => runes_of hBB (by omega) hk⟩ g))
    · simp only [redpenlaw16_TokenWhole.l0]
      rw [hget, e0, e1, e2, e3, hs, if_pos (by rw [List.length_map]; omega), if_pos (by omega), if_pos (by rw [List.length_map]; omega), if_neg (by omega), if_neg (by omega), if_pos rfl, if_pos (by omega), if_pos (by omega), if_pos (by omega)]
      have : ((strOfNums ((b.take (pos (us b) q).toNat).drop (pos (us b) p).toNat)).toList != (strOfNums (bytesAt b (p, q))).toList) = false := bne_self_eq_false _
      rw [this]
    · simp only [redpenlaw16_TokenWhole.j1]
      rw [if_neg (by decide), hs]
end
theorem allOk_count {R : List Int} : ∀ (Q : List (Nat × Nat)) (s : Nat), AllOk R s Q → s ≤ R.length → Q.length ≤ R.length - s
  | [], _, _, _ => by simp
  | (a, c) :: Q, s, h, hs => by
    obtain ⟨h1, h2, h3, _, _, h6⟩ := h
    have := allOk_count Q c h6 h3
    simp only [List.length_cons]
    omega
theorem TokenWhole : redpenlaw16_TokenWhole.Pure := by
  intro l0 l1 _ h0 hB0 _ h1 hB1
  have b0 := BT_of_wf hB0
  have b1 := BT_of_wf hB1
  refine Ev.rounds ?_
  unfold redpenlaw16_TokenWhole.f
  refine Ev.bind tok_awake ?_
  by_cases hl : (l0.length : Int) > 500
  · simp only [if_pos hl, if_true]
    exact Ev.now _
  · simp only [if_neg hl, if_true]
    obtain ⟨ps, hps⟩ : ∃ ps, redpenlaw16_pieces.f = some ps := ⟨_, rfl⟩
    simp only [hps, Option.bind_some]
    obtain ⟨b, hB, hbl, hb⟩ := bits_eq ps (pieces_small ps hps) l0 l1 b0 b1 (by omega) (by omega)
    refine Ev.bind hb (Ev.bind (units_ev hB (by omega)) ?_)
    obtain ⟨Q, hQ, hE⟩ := wordsU_eq hB (by omega)
    have hul := us_len b
    have hrl := rs_len b
    have hcount := allOk_count Q 0 hQ (Nat.zero_le _)
    have hmem := allOk_mem Q 0 hQ
    have hall : Q.filter (sel 0 1048576) = Q := by
      rw [List.filter_eq_self]
      intro p hp
      obtain ⟨_, g1, g2, _⟩ := hmem p hp
      unfold sel
      rw [decide_eq_true (by omega), decide_eq_true (by omega)]
      rfl
    have h0' := hE 0 1048576
    rw [hall] at h0'
    refine Ev.bind h0' ?_
    exact whole_l0 hB (by omega) Q (by omega) hQ Q [] 0 0 rfl hQ (by rw [pos_zero]; omega)
end Go.Proofs.Ytmnohlmdckcdeaa.Pure
