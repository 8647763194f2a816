/- Text, as printed, tells some bytes; not many. -/
import Derived.Test.YtokgkhndhlcfpaaPHunksChangesx
import Derived.Test.YtokgkhndhlcfpaaMStr
import Derived.Test.YtokgkhndhlcfpaaMLines2
namespace Go.Proofs.Ytokgkhndhlcfpaa.Pure
open Go.RowKit Go.Proofs.Ytokgkhndhlcfpaa.PHunksChanges Go.Proofs.YtokgkhndhlcfpaaW.PrintWords Go.Proofs.YtokgkhndhlcfpaaW.PrintLast
open Go.Proofs.Ytokgkhndhlcfpaa.M Go.Proofs.Ytokgkhndhlcfpaa.X
set_option linter.unusedVariables false
set_option linter.unusedSimpArgs false

theorem tx_wf {l : List Int} (h : ∀ x ∈ l, (Lit.int .u8 x).wf = true) : BT l := by
  intro x hx
  have := h x hx
  simp [Lit.wf, IntKind.min, IntKind.max, IntKind.signed, IntKind.bits] at this
  omega
theorem tx_end (l0 : List Int) (a : Bool) (acc : List Int) (hB : BT acc) (hl : acc.length ≤ 240) : ∃ t : List Int, (∀ f : Nat, (if a = true then (if (acc.length : Int) > 0 then (if 0 ≤ (wrap64 ((acc.length : Int) - 1)) then (if (wrap64 ((acc.length : Int) - 1)) ≤ (acc.length : Int) then (some (acc.take ((wrap64 ((acc.length : Int) - 1)) : Int).toNat)) else (none)) else (none)) else (some acc)) else (some acc)) = some t) ∧ BT t ∧ t.length ≤ 240 := by
  by_cases h1 : a = true
  · by_cases h2 : 0 < acc.length
    · refine ⟨acc.take (acc.length - 1), fun f => ?_, hB.take _, by rw [List.length_take]; omega⟩
      have e : wrap64 ((acc.length : Int) - 1) = ((acc.length - 1 : Nat) : Int) := by rw [w64 (by omega) (by omega)]; omega
      rw [if_pos h1, if_pos (by omega), e, if_pos (by omega), if_pos (by omega), Int.toNat_natCast]
    · exact ⟨acc, fun f => by rw [if_pos h1, if_neg (by omega)], hB, hl⟩
  · exact ⟨acc, fun f => by rw [if_neg h1], hB, hl⟩
/-- The six pieces. -/
theorem tx_piece (r : Int) (h0 : 0 ≤ r) (h6 : r < 6) : ∃ p : ByteArray, rdOf ByteArray.empty [(⟨#[97]⟩ : ByteArray), (⟨#[98]⟩ : ByteArray), (⟨#[99]⟩ : ByteArray), (⟨#[]⟩ : ByteArray), (⟨#[97, 13]⟩ : ByteArray), (⟨#[119, 111, 114, 100]⟩ : ByteArray)] r = p ∧ p.size ≤ 4 ∧ BT (bytesOf p) ∧ (bytesOf p).length ≤ 4 ∧ ∀ x ∈ bytesOf p, x ≠ 10 := by
  rcases (show r = 0 ∨ r = 1 ∨ r = 2 ∨ r = 3 ∨ r = 4 ∨ r = 5 by omega) with rfl | rfl | rfl | rfl | rfl | rfl
  all_goals exact ⟨_, rfl, by decide +kernel, by unfold BT; decide +kernel, by decide +kernel, by decide +kernel⟩
theorem tx_from (l0 : List Int) (hB : BT l0) (hl0 : l0.length ≤ 140737488351232) (a : Bool) : ∀ (d i : Nat) (acc : List Int), l0.length - i = d → i ≤ l0.length → i ≤ 40 → acc.length ≤ 5 * i → BT acc →
    ∃ t : List Int, Ev (fun f => redpenlaw19_Text.l0 f a acc l0 (l0.length : Int) (i : Int)) t ∧ BT t ∧ t.length ≤ 240 := by
  intro d
  induction d with
  | zero =>
    intro i acc hd hi h40 hl hBa
    obtain ⟨t, h1, h2, h3⟩ := tx_end l0 a acc hBa (by omega)
    refine ⟨t, Ev.step (f := fun _ => some t) (fun f => ?_) (Ev.now _), h2, h3⟩
    simp only [redpenlaw19_Text.l0]
    rw [if_neg (by omega)]
    exact h1 f
  | succ d ih =>
    intro i acc hd hi h40 hl hBa
    have hlt : i < l0.length := by omega
    by_cases h4 : i = 40
    · obtain ⟨t, h1, h2, h3⟩ := tx_end l0 a acc hBa (by omega)
      refine ⟨t, Ev.step (f := fun _ => some t) (fun f => ?_) (Ev.now _), h2, h3⟩
      simp only [redpenlaw19_Text.l0]
      rw [if_pos (by omega), if_pos (by omega), if_pos (by omega), if_pos (by omega)]
      exact h1 f
    · have hr : 0 ≤ rd l0 (i : Int) ∧ rd l0 (i : Int) < 256 := by
        have e : rd l0 (i : Int) = l0[i] := by
          unfold rd
          rw [Int.toNat_natCast, List.getD_eq_getElem?_getD, List.getElem?_eq_getElem hlt]
          rfl
        rw [e]
        exact hB _ (List.getElem_mem hlt)
      have ht : ∀ _ : Unit, Int.tmod (rd l0 (i : Int)) 6 = rd l0 (i : Int) % 6 := fun _ => Int.tmod_eq_emod_of_nonneg hr.1
      have hm : 0 ≤ rd l0 (i : Int) % 6 ∧ rd l0 (i : Int) % 6 < 6 := by omega
      generalize rd l0 (i : Int) % 6 = r at ht hm
      obtain ⟨p, hp1, hp2, hp3, hp4, _⟩ := tx_piece r hm.1 hm.2
      have ew : ∀ _ : Unit, wrap64 ((i : Int) + 1) = ((i + 1 : Nat) : Int) := fun _ => by rw [w64 (by omega) (by omega)]; omega
      obtain ⟨t, h1, h2, h3⟩ := ih (i + 1) (acc ++ bytesOf p ++ [10]) (by omega) (by omega) (by omega) (by rw [List.length_append, List.length_append, List.length_singleton]; omega) (by
        intro x hx
        rcases List.mem_append.1 hx with hx | hx
        · rcases List.mem_append.1 hx with hx | hx
          · exact hBa x hx
          · exact hp3 x hx
        · obtain rfl := List.mem_singleton.1 hx
          omega)
      refine ⟨t, Ev.step (fun f => ?_) h1, h2, h3⟩
      simp only [redpenlaw19_Text.l0]
      rw [if_pos (by omega), if_pos (by omega), if_pos (by omega), if_neg (by omega)]
      simp only [Option.bind_some]
      rw [ht (), hp1, if_pos hm.1, if_pos (by simp only [List.length_cons, List.length_nil]; omega), if_pos (by omega), if_pos (by rw [List.length_append]; omega), ew ()]
theorem text_ev (l0 : List Int) (hB : BT l0) (hl0 : l0.length ≤ 140737488351232) (a : Bool) : ∃ t : List Int, Ev (fun f => redpenlaw19_Text.f f l0 a) t ∧ BT t ∧ t.length ≤ 240 := by
  obtain ⟨t, h1, h2, h3⟩ := tx_from l0 hB hl0 a _ 0 [] rfl (Nat.zero_le _) (Nat.zero_le _) (Nat.zero_le _) (fun x hx => by cases hx)
  exact ⟨t, Ev.congr (fun f => rfl) h1, h2, h3⟩
end Go.Proofs.Ytokgkhndhlcfpaa.Pure
