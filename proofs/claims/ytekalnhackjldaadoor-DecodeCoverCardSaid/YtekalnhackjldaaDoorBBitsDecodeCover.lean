/- A text of pieces: how long it is, and that it is bytes. -/
import Derived.Test.YtekalnhackjldaaDoorBUtfDecodeCover
namespace Go.Proofs.YtekalnhackjldaaDoor.PDecodeCover
open Go.RowKit Go.Proofs.YtekalnhackjldaaDoorW.PrintWords Go.Proofs.YtekalnhackjldaaDoorW.PrintLast Go.Proofs.YtekalnhackjldaaDoorW.PrintMore
open Go.Proofs.YtekalnhackjldaaDoor.M
set_option linter.unusedVariables false
set_option linter.unusedSimpArgs false

theorem bits_from (ps : List ByteArray) (hp : ∀ p ∈ ps, p.size ≤ 100) (raw l : List Int) (hraw : BT raw) (hl : BT l) (hn : l.length ≤ 140737488351232) (hrn : raw.length < 100000000) : ∀ (d i : Nat), 61 - i = d → i ≤ l.length → i ≤ 60 → ∀ acc : List Int, BT acc → acc.length ≤ 100 * i →
    ∃ x, BT x ∧ x.length ≤ 6000 ∧ Ev (fun f => redpenlaw11_Bits.l0 f ps raw acc l (l.length : Int) (i : Int)) x := by
  intro d
  induction d with
  | zero => intro i hd hi h60; omega
  | succ d ih =>
    intro i hd hi h60 acc hB hA
    by_cases hlt : i < l.length
    · by_cases h6 : i = 60
      · refine ⟨acc, hB, by omega, ⟨1, fun k hk => ?_⟩⟩
        obtain ⟨k, rfl⟩ : ∃ m, k = m + 1 := ⟨k - 1, by omega⟩
        simp only [redpenlaw11_Bits.l0]
        rw [if_pos (by omega), if_pos (by omega), if_pos (by omega), if_pos (by omega)]
      · have ew : wrap64 ((i : Int) + 1) = ((i + 1 : Nat) : Int) := by rw [w64 (by omega) (by omega)]; omega
        have hx : 0 ≤ rd l (i : Int) ∧ rd l (i : Int) < 256 := by
          unfold rd
          rw [Int.toNat_natCast, List.getD_eq_getElem?_getD, List.getElem?_eq_getElem hlt]
          exact hl _ (List.getElem_mem hlt)
        have ex : wrap64 (rd l (i : Int)) = rd l (i : Int) := w64 (by omega) (by omega)
        by_cases hk : rd l (i : Int) < (ps.length : Int)
        · have hsz : (rdOf ByteArray.empty ps (rd l (i : Int))).size ≤ 100 := by
            unfold rdOf
            rw [List.getD_eq_getElem?_getD, List.getElem?_eq_getElem (by omega)]
            exact hp _ (List.getElem_mem _)
          obtain ⟨x, h1, h2, h3⟩ := ih (i + 1) (by omega) (by omega) (by omega) (acc ++ bytesOf (rdOf ByteArray.empty ps (rd l (i : Int)))) (hB.app (bytesOf_BT _)) (by rw [List.length_append, bytesOf_length]; omega)
          refine ⟨x, h1, h2, Ev.step (fun f => ?_) h3⟩
          simp only [redpenlaw11_Bits.l0]
          rw [if_pos (by omega), if_pos (by omega), if_pos (by omega), if_neg (by omega), ex, if_pos hk, if_pos hx.1, if_pos (by omega), ew]
        · by_cases hr : (raw.length : Int) > 0
          · have ht : Int.tmod (rd l (i : Int)) (raw.length : Int) = rd l (i : Int) % (raw.length : Int) := Int.tmod_eq_emod_of_nonneg hx.1
            have hm0 := Int.emod_nonneg (rd l (i : Int)) (show (raw.length : Int) ≠ 0 by omega)
            have hm1 := Int.emod_lt_of_pos (rd l (i : Int)) hr
            have hb0 : ∀ q : Int, 0 ≤ q → q < (raw.length : Int) → BT [rd raw q] := fun q q0 q1 z hz => by
              rw [List.mem_singleton.1 hz]
              unfold rd
              rw [List.getD_eq_getElem?_getD, List.getElem?_eq_getElem (by omega)]
              exact hraw _ (List.getElem_mem _)
            have hb := hb0 _ hm0 hm1
            obtain ⟨x, h1, h2, h3⟩ := ih (i + 1) (by omega) (by omega) (by omega) (acc ++ [rd raw (rd l (i : Int) % (raw.length : Int))]) (hB.app hb) (by rw [List.length_append, List.length_singleton]; omega)
            refine ⟨x, h1, h2, Ev.step (fun f => ?_) h3⟩
            simp only [redpenlaw11_Bits.l0]
            rw [if_pos (by omega), if_pos (by omega), if_pos (by omega), if_neg (by omega), ex, if_neg hk, if_pos hr, if_neg (by omega), ht, if_pos hm0, if_pos hm1, if_pos (by omega), ew]
          · obtain ⟨x, h1, h2, h3⟩ := ih (i + 1) (by omega) (by omega) (by omega) acc hB (by omega)
            refine ⟨x, h1, h2, Ev.step (fun f => ?_) h3⟩
            simp only [redpenlaw11_Bits.l0]
            rw [if_pos (by omega), if_pos (by omega), if_pos (by omega), if_neg (by omega), ex, if_neg hk, if_neg hr, ew]
    · refine ⟨acc, hB, by omega, ⟨1, fun k hk => ?_⟩⟩
      obtain ⟨k, rfl⟩ : ∃ m, k = m + 1 := ⟨k - 1, by omega⟩
      simp only [redpenlaw11_Bits.l0]
      rw [if_neg (by omega)]
theorem bits_eq (ps : List ByteArray) (hp : ∀ p ∈ ps, p.size ≤ 100) (raw l : List Int) (hraw : BT raw) (hl : BT l) (hn : l.length ≤ 140737488351232) (hrn : raw.length < 100000000) :
    ∃ x, BT x ∧ x.length ≤ 6000 ∧ Ev (fun f => redpenlaw11_Bits.f f ps l raw) x :=
  bits_from ps hp raw l hraw hl hn hrn 61 0 rfl (by omega) (by omega) [] (fun _ h => by cases h) (by simp)
end Go.Proofs.YtekalnhackjldaaDoor.PDecodeCover
