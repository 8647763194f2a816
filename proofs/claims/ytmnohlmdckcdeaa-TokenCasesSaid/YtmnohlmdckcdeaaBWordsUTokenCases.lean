/- The words of the signs of bytes. -/
import Derived.Test.YtmnohlmdckcdeaaBWordsTokenCases
import Derived.Test.YtmnohlmdckcdeaaBDecTokenCases
namespace Go.Proofs.Ytmnohlmdckcdeaa.Pure
open Go.RowKit Go.Proofs.Ytmnohlmdckcdeaa.PTokenCases Go.Proofs.YtmnohlmdckcdeaaW.PrintWords Go.Proofs.YtmnohlmdckcdeaaW.PrintLast
open Go.Proofs.Ytmnohlmdckcdeaa.M Go.Proofs.Ytmnohlmdckcdeaa.X
set_option linter.unusedVariables false
set_option linter.unusedSimpArgs false

theorem runesOf_sub (u : List S53) (p : Nat × Nat) : runesOf (sub u p) = ((runesOf u).take p.2).drop p.1 := by
  unfold runesOf sub
  rw [List.map_drop, List.map_take]
theorem pos_succ (l : List (Int × Int)) (k : Nat) (h : k < l.length) : pos l (k + 1) = pos l k + (l.getD k (0, 0)).2 := by
  unfold pos
  rw [List.take_succ_eq_append_getElem h, List.map_append, List.sum_append, List.getD_eq_getElem?_getD, List.getElem?_eq_getElem h]
  simp
theorem pos_mono (b : List Int) {i j : Nat} (h : i ≤ j) : pos (us b) i ≤ pos (us b) j := by
  obtain ⟨d, rfl⟩ : ∃ d, j = i + d := ⟨j - i, by omega⟩
  induction d with
  | zero => exact Int.le_refl _
  | succ d ih =>
    have h1 := ih (by omega)
    by_cases hl : i + d < (us b).length
    · have h2 := pos_succ (us b) (i + d) hl
      have h3 := us_each b _ (List.getElem_mem hl)
      rw [List.getD_eq_getElem?_getD, List.getElem?_eq_getElem hl] at h2
      simp only [Option.getD_some] at h2
      rw [show i + (d + 1) = i + d + 1 by omega]
      omega
    · have : pos (us b) (i + (d + 1)) = pos (us b) (i + d) := by
        unfold pos
        rw [List.take_of_length_le (by omega), List.take_of_length_le (by omega)]
      omega
theorem unit_at (b : List Int) (i : Nat) (h : i < (us b).length) : (rd_T53 (mkU 0 (us b)) (i : Int)).f1.f0 = pos (us b) i ∧ (rd_T53 (mkU 0 (us b)) (i : Int)).f1.f0 + (rd_T53 (mkU 0 (us b)) (i : Int)).f1.f1 = pos (us b) (i + 1) := by
  unfold rd_T53
  rw [Int.toNat_natCast, mkU_get 0 (us b) i h, pos_succ _ _ h]
  simp
theorem letter_ok {r : Int} (h : letter r = true) : 0 ≤ r ∧ r ≤ 1327 := by
  rw [letter_iff, great_iff, small_iff] at h
  omega
theorem inn_ok {R : List Int} {t : Int} (h : inn R t = true) : okR (rd R t) = true := by
  simp only [inn, Bool.or_eq_true, Bool.and_eq_true, decide_eq_true_eq, beq_iff_eq] at h
  rw [okR_iff]
  rcases h with h | h
  · have := letter_ok (ltr_in h).2.2; omega
  · rw [h.1.1.2]; omega
theorem inn_part {R : List Int} {p q : Nat} (hq : q ≤ R.length) (h : ∀ t : Nat, p ≤ t → t < q → inn R (t : Int) = true) : ∀ r ∈ (R.take q).drop p, okR r = true := by
  intro r hr
  obtain ⟨i, hi, rfl⟩ := List.getElem_of_mem hr
  rw [List.length_drop, List.length_take] at hi
  have := inn_ok (h (p + i) (by omega) (by omega))
  unfold rd at this
  rw [Int.toNat_natCast, List.getD_eq_getElem?_getD, List.getElem?_eq_getElem (by omega)] at this
  rw [List.getElem_drop, List.getElem_take]
  exact this
section
variable {b : List Int} (hB : BT b)
/-- The bytes of a part. -/
def bytesAt (b : List Int) (p : Nat × Nat) : List Int := (b.take (pos (us b) p.2).toNat).drop (pos (us b) p.1).toNat
theorem bytesAt_rs (p : Nat × Nat) (h : p.1 ≤ p.2) (hl : p.2 ≤ (us b).length) : rs (bytesAt b p) = ((rs b).take p.2).drop p.1 := by
  have h1 := us_take b p.2 hl
  have e : pos (us (b.take (pos (us b) p.2).toNat)) p.1 = pos (us b) p.1 := by
    rw [h1]
    unfold pos
    rw [List.take_take, Nat.min_eq_left h]
  have h2 := us_drop (b.take (pos (us b) p.2).toNat) p.1 (by rw [h1, List.length_take]; omega)
  rw [e, h1] at h2
  unfold rs bytesAt
  rw [h2, List.map_drop, List.map_take]
include hB in
theorem bytesAt_enc (p : Nat × Nat) (h : p.1 ≤ p.2) (hl : p.2 ≤ (us b).length) (hin : ∀ t : Nat, p.1 ≤ t → t < p.2 → inn (rs b) (t : Int) = true) : encL (((rs b).take p.2).drop p.1) = bytesAt b p := by
  rw [← bytesAt_rs p h hl]
  refine encL_rs _ ((hB.take _).drop _) ?_
  unfold whole
  rw [bytesAt_rs p h hl, List.all_eq_true]
  intro r hr
  have := inn_part (by rw [rs_len]; exact hl) hin r hr
  rw [okR_iff] at this
  exact decide_eq_true this.1
include hB in
theorem literal_eq (hbl : b.length < 1000000) (p : Nat × Nat) (h : p.1 < p.2) (hl : p.2 ≤ (us b).length) (hin : ∀ t : Nat, p.1 ≤ t → t < p.2 → inn (rs b) (t : Int) = true) : Ev (fun f => decode_Literal.f f b (sub (mkU 0 (us b)) p)) true := by
  have hul : (mkU 0 (us b)).length = (us b).length := mkU_len 0 _
  have hs := sub_len (mkU 0 (us b)) (p := p) (by omega)
  have hlen := us_len b
  have g0 := sub_get (mkU 0 (us b)) (p := p) (by omega) 0 (by omega)
  have g1 := sub_get (mkU 0 (us b)) (p := p) (by omega) (p.2 - p.1 - 1) (by omega)
  rw [Nat.add_zero] at g0
  rw [show p.1 + (p.2 - p.1 - 1) = p.2 - 1 by omega] at g1
  have a0 := (unit_at b p.1 (by omega)).1
  have a1 := (unit_at b (p.2 - 1) (by omega)).2
  rw [show p.2 - 1 + 1 = p.2 by omega] at a1
  have m0 := pos_nonneg (us_each b) p.1
  have m1 := pos_mono b (i := p.1) (j := p.2) (by omega)
  have m2 := pos_le b p.2
  have ht := dtext_eq (sub (mkU 0 (us b)) p) (by omega)
  rw [runesOf_sub, runesOf_us, bytesAt_enc hB p (by omega) hl hin] at ht
  refine Ev.congr (f := fun f => (decode_Text.f f (sub (mkU 0 (us b)) p)).bind fun t => some ((strOfNums (bytesAt b p)).toList == t.toList)) (fun f => ?_) (Ev.bind ht (by
    have : ((strOfNums (bytesAt b p)).toList == (strOfNums (bytesAt b p)).toList) = true := beq_self_eq_true _
    rw [this]; exact Ev.now _))
  have eL : wrap64 (((sub (mkU 0 (us b)) p).length : Int) - 1) = ((p.2 - p.1 - 1 : Nat) : Int) := by rw [hs, w64 (by omega) (by omega)]; omega
  have e0 : rd_T53 (sub (mkU 0 (us b)) p) 0 = rd_T53 (mkU 0 (us b)) (p.1 : Int) := g0
  unfold decode_Literal.f
  rw [if_neg (by rw [hs]; omega), eL, g1, e0, a1, a0, w64 (x := pos (us b) p.2) (by omega) (by omega), if_pos (by omega), if_pos (by rw [hs]; omega), if_pos (by rw [hs]; omega), if_pos (by omega), if_pos (by omega), if_pos (by omega), if_pos (by omega), if_pos (by omega)]
  rfl
end
/-- A word of bytes. -/
def wdU (b : List Int) (p : Nat × Nat) : S50 := ⟨strOfNums (bytesAt b p), ⟨pos (us b) p.1, pos (us b) p.2 - pos (us b) p.1⟩, true⟩
theorem allOk_mem {R : List Int} : ∀ (Q : List (Nat × Nat)) (s : Nat), AllOk R s Q → ∀ p ∈ Q, s ≤ p.1 ∧ p.1 < p.2 ∧ p.2 ≤ R.length ∧ ∀ t : Nat, p.1 ≤ t → t < p.2 → inn R (t : Int) = true
  | [], _, _, p, hp => by cases hp
  | (a, c) :: Q, s, h, p, hp => by
    obtain ⟨h1, h2, h3, _, h5, h6⟩ := h
    rcases List.mem_cons.1 hp with rfl | hp
    · exact ⟨h1, h2, h3, h5⟩
    · have := allOk_mem Q c h6 p hp
      exact ⟨by omega, this.2⟩
/-- The words of the signs of bytes, and how they are cut. -/
theorem wordsU_cut {b : List Int} (hB : BT b) (hbl : b.length < 1000000) : ∃ R Q : List (Nat × Nat), RunsOk (rs b) 0 R ∧ QOk (rs b) R Q ∧ AllOk (rs b) 0 Q ∧ ∀ lo hi : Int, Ev (fun f => token_Words.f f b (mkU 0 (us b)) lo hi) ((Q.filter (sel lo hi)).map (wdU b)) := by
  have hlen := us_len b
  have hul : (mkU 0 (us b)).length = (us b).length := mkU_len 0 _
  have hn : (mkU 0 (us b)).length < 1000000000 := by omega
  obtain ⟨R, Q, hR, hK, hQ, hE⟩ := words_cut b (mkU 0 (us b)) (fun p => strOfNums (bytesAt b p)) (fun _ => true) hn
    (fun p q1 q2 q3 => by
      have ht := dtext_eq (sub (mkU 0 (us b)) p) (by rw [sub_len _ q2]; omega)
      rw [runesOf_us] at q3
      rw [runesOf_sub, runesOf_us, bytesAt_enc hB p (by omega) (by omega) q3] at ht
      exact ht)
    (fun p q1 q2 q3 => literal_eq hB hbl p q1 (by omega) (by rw [runesOf_us] at q3; exact q3))
  rw [runesOf_us] at hQ hR hK
  refine ⟨R, Q, hR, hK, hQ, fun lo hi => ?_⟩
  have e : (Q.filter (sel lo hi)).map (wdG (mkU 0 (us b)) (fun p => strOfNums (bytesAt b p)) (fun _ => true)) = (Q.filter (sel lo hi)).map (wdU b) := by
    refine List.map_congr_left fun p hp => ?_
    obtain ⟨_, g1, g2, _⟩ := allOk_mem Q 0 hQ p ((List.mem_filter.1 hp).1)
    rw [rs_len] at g2
    have a0 := (unit_at b p.1 (by omega)).1
    have a1 := (unit_at b (p.2 - 1) (by omega)).2
    rw [show p.2 - 1 + 1 = p.2 by omega] at a1
    have m0 := pos_nonneg (us_each b) p.1
    have m1 := pos_mono b (i := p.1) (j := p.2) (by omega)
    have m2 := pos_le b p.2
    unfold wdG wdU spanAt
    rw [a1, a0, w64 (x := pos (us b) p.2) (by omega) (by omega), w64 (by omega) (by omega)]
  rw [← e]
  exact hE lo hi
/-- The words of the signs of bytes. -/
theorem wordsU_eq {b : List Int} (hB : BT b) (hbl : b.length < 1000000) : ∃ Q : List (Nat × Nat), AllOk (rs b) 0 Q ∧ ∀ lo hi : Int, Ev (fun f => token_Words.f f b (mkU 0 (us b)) lo hi) ((Q.filter (sel lo hi)).map (wdU b)) := by
  obtain ⟨_, Q, _, _, hQ, hE⟩ := wordsU_cut hB hbl
  exact ⟨Q, hQ, hE⟩
end Go.Proofs.Ytmnohlmdckcdeaa.Pure
