/- UtfBack: what is put is read; what is read, and put again, is what it was, unless there are bytes that are no signs; the signs' spans cover all. For every rune and all bytes (up to 2000 are looked at). -/
import Derived.Test.YtgjnelloegkicaaBRunesUtfBack
import Derived.Test.YtgjnelloegkicaaBPutUtfBack
import Derived.Test.YtgjnelloegkicaaBCoverUtfBack
namespace Go.Proofs.Ytgjnelloegkicaa.Pure
open Go.RowKit Go.Proofs.Ytgjnelloegkicaa.PUtfBack Go.Proofs.YtgjnelloegkicaaW.PrintWords Go.Proofs.YtgjnelloegkicaaW.PrintLast
open Go.Proofs.Ytgjnelloegkicaa.M Go.Proofs.Ytgjnelloegkicaa.X

theorem back_awake {k : Nat} (hk : 20 ≤ k) : redpenlaw02_Awake.f k = some true := by
  unfold redpenlaw02_Awake.f
  refine ob (next_eq (by omega) (by decide)) ?_
  refine ob (units_eq (by decide) (by decide) (by simp; omega)) ?_
  have h1 : nx [195, 164, 65] = (228, 2) := by decide
  have h2 : us [255, 65] = [(-1, 1), (65, 1)] := by decide
  rw [h1, h2]
  rfl
theorem pos_sum (L : List (Int × Int)) (i : Nat) : ((L.map (·.2)).take i).sum = pos L i := by
  unfold pos
  rw [List.map_take]
theorem back_loop {b : List Int} (hB : BT b) (hb : b.length ≤ 2000) : ∀ (d k i : Nat), (us b).length - i = d → i ≤ (us b).length → d + 5000 < k →
    redpenlaw02_UtfBack.l0 k b (((us b).take i).all (fun x => decide (0 ≤ x.1))) (mkS 0 (((us b).map (·.2)).take i)) (mkU 0 (us b)) ((us b).length : Int) (i : Int) = some true := by
  have hul := us_len b
  intro d
  induction d with
  | zero =>
    intro k i hd hi hk
    obtain ⟨k, rfl⟩ : ∃ m, k = m + 1 := ⟨k - 1, by omega⟩
    simp only [redpenlaw02_UtfBack.l0]
    have hrl : (rs b).length ≤ 2000 := by rw [rs_len]; omega
    rw [if_neg (by omega)]
    refine ob (runes_of hB (by omega) (by omega)) ?_
    refine ob (text_eq (by omega) (by omega)) ?_
    have hw : ((us b).take i).all (fun x => decide (0 ≤ x.1)) = whole b := by
      rw [List.take_of_length_le (by omega)]
      unfold whole rs
      rw [List.all_map]
      rfl
    rw [hw, strOfNums_beq (encL_BT _) hB, encL_rs_iff b hB, if_pos (by simp), List.take_of_length_le (by rw [List.length_map]; omega)]
    have hsum : ((us b).map (·.2)).sum = b.length := by
      have := pos_sum (us b) (us b).length
      rw [List.take_of_length_le (by rw [List.length_map]; omega), pos_all] at this
      exact this
    have hc : span_Cover.f k (mkS 0 ((us b).map (·.2))) ((us b).map (·.2)).sum = some true := cover_eq _ (by
      intro n hn
      obtain ⟨x, hx, rfl⟩ := List.mem_map.1 hn
      exact (us_each b x hx).1) (by rw [hsum]; omega) (by rw [List.length_map]; omega) (by rw [List.length_map]; omega)
    rw [hsum] at hc
    exact ob hc rfl
  | succ d ih =>
    intro k i hd hi hk
    obtain ⟨k, rfl⟩ : ∃ m, k = m + 1 := ⟨k - 1, by omega⟩
    have hlt : i < (us b).length := by omega
    have ew : wrap64 ((i : Int) + 1) = ((i + 1 : Nat) : Int) := by rw [w64 (by omega) (by omega)]; omega
    have hr : rd_T29 (mkU 0 (us b)) (i : Int) = ⟨((us b).getD i (0, 0)).1, ⟨0 + pos (us b) i, ((us b).getD i (0, 0)).2⟩⟩ := by
      unfold rd_T29
      rw [Int.toNat_natCast]
      exact mkU_get 0 (us b) i hlt
    have hg : (us b).getD i (0, 0) = (us b)[i] := by
      rw [List.getD_eq_getElem?_getD, List.getElem?_eq_getElem hlt]; rfl
    have hs : mkS 0 (((us b).map (·.2)).take i) ++ [(⟨(rd_T29 (mkU 0 (us b)) (i : Int)).f1.f0, (rd_T29 (mkU 0 (us b)) (i : Int)).f1.f1⟩ : S27)] = mkS 0 (((us b).map (·.2)).take (i + 1)) := by
      rw [hr, List.take_succ_eq_append_getElem (by rw [List.length_map]; exact hlt), mkS_snoc, pos_sum, hg, List.getElem_map]
    have hw : ((us b).take (i + 1)).all (fun x => decide (0 ≤ x.1)) = (((us b).take i).all (fun x => decide (0 ≤ x.1)) && decide (0 ≤ ((us b).getD i (0, 0)).1)) := by
      rw [List.take_succ_eq_append_getElem hlt, List.all_append, hg]
      simp
    have h0 : (rd_T29 (mkU 0 (us b)) (i : Int)).f0 = ((us b).getD i (0, 0)).1 := by rw [hr]
    have hih := ih k (i + 1) (by omega) (by omega) (by omega)
    simp only [redpenlaw02_UtfBack.l0]
    rw [if_pos (by omega), if_pos (by omega), if_pos (by rw [mkU_len]; omega), hs, ew]
    have hlen : (mkS 0 (((us b).map (·.2)).take i)).length < 8796093022208 := by rw [mkS_len, List.length_take]; omega
    by_cases hx : ((us b).take i).all (fun x => decide (0 ≤ x.1)) = true
    · rw [if_pos hx, if_pos hlen]
      rw [hw, hx, Bool.true_and] at hih
      rw [show decide ((rd_T29 (mkU 0 (us b)) (i : Int)).f0 ≥ 0) = decide (0 ≤ ((us b).getD i (0, 0)).1) by rw [h0]]
      exact hih
    · rw [if_neg hx, if_pos hlen]
      rw [hw, show ((us b).take i).all (fun x => decide (0 ≤ x.1)) = false by simpa using hx, Bool.false_and] at hih
      exact hih
theorem back_j0 {k : Nat} (hk : 10000 ≤ k) {b : List Int} (hB : BT b) (hb : b.length ≤ 2000) : redpenlaw02_UtfBack.j0 k b = some true := by
  have hul := us_len b
  obtain ⟨k, rfl⟩ : ∃ m, k = m + 1 := ⟨k - 1, by omega⟩
  simp only [redpenlaw02_UtfBack.j0]
  refine ob (units_eq hB (by omega) (by omega)) ?_
  rw [mkU_len]
  exact back_loop hB hb _ k 0 rfl (by omega) (by omega)
/-- The statement over numbers and lists. -/
theorem UtfBack : redpenlaw02_UtfBack.Pure := by
  intro r b _ _ _ hw
  have hB := BT_of_wf hw
  clear hw
  obtain ⟨k, hk⟩ : ∃ k : Nat, 10000 ≤ k := ⟨10000, Nat.le_refl _⟩
  refine ⟨k, ?_⟩
  unfold redpenlaw02_UtfBack.f
  refine ob (back_awake (by omega)) ?_
  rw [if_pos rfl]
  by_cases h1 : (b.length : Int) > 2000
  · rw [if_pos h1]
  rw [if_neg h1]
  have hb : b.length ≤ 2000 := by omega
  refine ob (put_eq (by omega) [] r (by simp)) ?_
  by_cases ho : okR r = true
  · have hl := enc_len r
    rw [if_pos ho]
    dsimp only
    rw [if_pos rfl, List.nil_append, if_pos (by omega)]
    refine ob (next_eq (by omega) ((enc_BT ho).app (by decide))) ?_
    rw [nx_enc ho]
    dsimp only
    rw [if_pos rfl, if_pos rfl]
    exact back_j0 hk hB hb
  · rw [if_neg ho]
    dsimp only
    rw [if_neg (by decide)]
    exact back_j0 hk hB hb

end Go.Proofs.Ytgjnelloegkicaa.Pure
