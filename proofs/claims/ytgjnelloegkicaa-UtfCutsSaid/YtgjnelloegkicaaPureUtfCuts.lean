/- UtfCuts: bytes cut where a sign ends have the signs of both parts; a byte that is none stands for itself alone. For all bytes (up to 500 are looked at) and every cut. -/
import Derived.Test.YtgjnelloegkicaaBUtfCuts
namespace Go.Proofs.Ytgjnelloegkicaa.Pure
open Go.RowKit Go.Proofs.Ytgjnelloegkicaa.PUtfCuts Go.Proofs.YtgjnelloegkicaaW.PrintWords Go.Proofs.YtgjnelloegkicaaW.PrintLast
open Go.Proofs.Ytgjnelloegkicaa.M

theorem cuts_awake {k : Nat} (hk : 20 ≤ k) : redpenlaw02_Awake.f k = some true := by
  unfold redpenlaw02_Awake.f
  rw [next_eq (by omega) (by decide), units_eq (by decide) (by decide) (by simp; omega)]
  have h1 : nx [195, 164, 65] = (228, 2) := by decide
  have h2 : us [255, 65] = [(-1, 1), (65, 1)] := by decide
  rw [h1, h2]
  rfl
/-- What the comparison reads of the two parts, put together. -/
theorem both_at (L : List (Int × Int)) (k i : Nat) (hi : i < L.length) :
    (rd_T29 (mkU 0 (L.take k) ++ mkU 0 (L.drop k)) i).f0 = (L.getD i (0, 0)).1 ∧ (rd_T29 (mkU 0 (L.take k) ++ mkU 0 (L.drop k)) i).f1.f1 = (L.getD i (0, 0)).2 := by
  have hm : (mkU 0 (L.take k) ++ mkU 0 (L.drop k)).map (fun u => (u.f0, u.f1.f1)) = L := by
    rw [List.map_append, mkU_map, mkU_map, List.take_append_drop]
  have hl : i < (mkU 0 (L.take k) ++ mkU 0 (L.drop k)).length := by
    have := congrArg List.length hm
    rw [List.length_map] at this
    omega
  have hg : (L.getD i (0, 0)) = ((fun u : S29 => (u.f0, u.f1.f1)) ((mkU 0 (L.take k) ++ mkU 0 (L.drop k)).getD i z29)) := by
    generalize hX : mkU 0 (L.take k) ++ mkU 0 (L.drop k) = X at hm hl
    subst hm
    rw [List.getD_eq_getElem?_getD, List.getD_eq_getElem?_getD, List.getElem?_map, List.getElem?_eq_getElem hl]
    rfl
  rw [hg]
  exact ⟨rfl, rfl⟩
theorem cuts_loop (L : List (Int × Int)) (c : Nat) (hneg : ∀ x ∈ L, x.1 < 0 → x = (-1, 1)) (hL : L.length ≤ 1000) : ∀ (d k i : Nat), L.length - i = d → i ≤ L.length → d < k →
    redpenlaw02_UtfCuts.l0 k (mkU 0 (L.take c)) (mkU 0 (L.drop c)) (mkU 0 L) L.length i = some true := by
  intro d
  induction d with
  | zero =>
    intro k i hd hi hk
    obtain ⟨k, rfl⟩ : ∃ m, k = m + 1 := ⟨k - 1, by omega⟩
    simp only [redpenlaw02_UtfCuts.l0]
    rw [if_neg (by omega)]
  | succ d ih =>
    intro k i hd hi hk
    obtain ⟨k, rfl⟩ : ∃ m, k = m + 1 := ⟨k - 1, by omega⟩
    have hlt : i < L.length := by omega
    have hl1 : (mkU 0 (L.take c)).length = min c L.length := by rw [mkU_len, List.length_take]
    have hl2 : (mkU 0 (L.drop c)).length = L.length - c := by rw [mkU_len, List.length_drop]
    have ew : wrap64 ((i : Int) + 1) = ((i + 1 : Nat) : Int) := by rw [w64 (by omega) (by omega)]; omega
    simp only [redpenlaw02_UtfCuts.l0, Option.bind_some, List.nil_append]
    rw [if_pos (by omega), if_pos (by omega), if_pos (by rw [mkU_len]; omega), if_pos (by rw [List.length_nil]; omega), if_pos (by omega), if_pos (by rw [List.length_append]; omega)]
    have hb := both_at L c i hlt
    have hr : rd_T29 (mkU 0 L) i = ⟨(L.getD i (0, 0)).1, ⟨0 + pos L i, (L.getD i (0, 0)).2⟩⟩ := by
      unfold rd_T29
      rw [Int.toNat_natCast]
      exact mkU_get 0 L i hlt
    have hn : (L.getD i (0, 0)).1 < 0 → (L.getD i (0, 0)).2 = 1 := by
      intro h
      have hm : L.getD i (0, 0) ∈ L := by
        rw [List.getD_eq_getElem?_getD, List.getElem?_eq_getElem hlt]
        exact List.getElem_mem hlt
      rw [hneg _ hm h]
    have h0 : (rd_T29 (mkU 0 L) i).f0 = (L.getD i (0, 0)).1 := by rw [hr]
    have h1 : (rd_T29 (mkU 0 L) i).f1.f1 = (L.getD i (0, 0)).2 := by rw [hr]
    rw [if_pos (hb.1.trans h0.symm), if_pos (hb.2.trans h1.symm), ew]
    by_cases hz : (rd_T29 (mkU 0 L) i).f0 < 0
    · rw [if_pos hz, if_pos (h1.trans (hn (h0 ▸ hz)))]
      exact ih k (i + 1) (by omega) (by omega) (by omega)
    · rw [if_neg hz]
      exact ih k (i + 1) (by omega) (by omega) (by omega)
theorem cuts_j0 {k : Nat} (hk : 1010 ≤ k) {b : List Int} (hB : BT b) (hlen : b.length ≤ 500) (c : Nat) (hc : c ≤ (us b).length) :
    redpenlaw02_UtfCuts.j0 k b (mkU 0 (us b)) c (pos (us b) c) = some true := by
  have hp0 := pos_nonneg (us_each b) c
  have hp1 := pos_le b c
  have hul := us_len b
  obtain ⟨k, rfl⟩ : ∃ m, k = m + 1 + 1 := ⟨k - 2, by omega⟩
  simp only [redpenlaw02_UtfCuts.j0]
  rw [if_pos hp0, if_pos hp1, units_eq (hB.take _) (by rw [List.length_take]; omega) (by rw [List.length_take]; omega), units_eq (hB.drop _) (by rw [List.length_drop]; omega) (by rw [List.length_drop]; omega), us_take b c hc, us_drop b c hc]
  simp only [Option.bind_some]
  have hl1 : (mkU 0 ((us b).take c)).length = c := by rw [mkU_len, List.length_take]; omega
  have hl2 : (mkU 0 ((us b).drop c)).length = (us b).length - c := by rw [mkU_len, List.length_drop]
  have hl3 : (mkU 0 (us b)).length = (us b).length := mkU_len _ _
  rw [hl1, hl2, hl3, if_pos rfl, w64 (by omega) (by omega)]
  have he : ((((c : Nat) : Int) + (((us b).length - c : Nat) : Int)) != (((us b).length : Nat) : Int)) = false := by
    rw [bne_eq_false_iff_eq]; omega
  rw [he]
  simp only [redpenlaw02_UtfCuts.j1]
  rw [if_neg (by simp), hl3]
  exact cuts_loop (us b) c (us_neg b hB) (by omega) _ _ 0 rfl (by omega) (by omega)

/-- The statement over numbers and lists. -/
theorem UtfCuts : redpenlaw02_UtfCuts.Pure := by
  intro b a1 hm hs hw ha
  have hB := BT_of_wf hw
  have ha' : 0 ≤ a1 ∧ a1 < 256 := BT_of_wf (l := [a1]) (by simpa using ha) a1 (by simp)
  clear hm hs hw ha
  obtain ⟨k, hk⟩ : ∃ k : Nat, 1010 ≤ k := ⟨1010, Nat.le_refl _⟩
  refine ⟨k, ?_⟩
  unfold redpenlaw02_UtfCuts.f
  rw [cuts_awake (by omega)]
  simp only [Option.bind_some, if_true]
  by_cases hbig : (b.length : Int) > 500
  · rw [if_pos hbig]
  rw [if_neg hbig, units_eq hB (by omega) (by omega), Option.bind_some]
  have hul := us_len b
  rw [mkU_len, w64 (x := (((us b).length : Nat) : Int) + 1) (by omega) (by omega), w64 (x := a1) (by omega) (by omega), if_neg (by omega)]
  obtain ⟨c, rfl⟩ := Int.eq_ofNat_of_zero_le ha'.1
  have ht : Int.tmod (c : Int) (((us b).length : Int) + 1) = ((c % ((us b).length + 1) : Nat) : Int) := by
    rw [show (((us b).length : Int) + 1) = (((us b).length + 1 : Nat) : Int) by omega, Int.ofNat_tmod]
  rw [ht]
  have hlt : c % ((us b).length + 1) ≤ (us b).length := by have := Nat.mod_lt c (show 0 < (us b).length + 1 by omega); omega
  generalize c % ((us b).length + 1) = q at hlt
  by_cases hq : q < (us b).length
  · have hr : rd_T29 (mkU 0 (us b)) q = ⟨((us b).getD q (0, 0)).1, ⟨0 + pos (us b) q, ((us b).getD q (0, 0)).2⟩⟩ := by
      unfold rd_T29
      rw [Int.toNat_natCast]
      exact mkU_get 0 (us b) q hq
    rw [if_pos (by omega), if_pos (by omega), hr]
    simp only [Int.zero_add]
    exact cuts_j0 hk hB (by omega) q (by omega)
  · have e : q = (us b).length := by omega
    subst e
    have := cuts_j0 hk hB (by omega) (us b).length (Nat.le_refl _)
    rw [pos_all] at this
    rw [if_neg (by omega)]
    exact this

end Go.Proofs.Ytgjnelloegkicaa.Pure
