/- What the bound of an '..UptoSaid' gives for a list of texts that came in. -/
import Derived.Test.YtokgkhndhlcfpaaRows
import Derived.Test.YtokgkhndhlcfpaaWWords
import Derived.SliceStrings
namespace Go.Proofs.Ytokgkhndhlcfpaa.X
open Go.RowKit Go.Proofs.YtokgkhndhlcfpaaW.PrintWords
set_option linter.unusedVariables false
set_option linter.unusedSimpArgs false

theorem strs_bulk {H : Type} : ∀ xs : List ByteArray, xs.length ≤ Rows.uptoBulkAll (H := H) (xs.map fun s => .lit (.string s.data.toList)) ∧ ∀ s ∈ xs, s.size ≤ Rows.uptoBulkAll (H := H) (xs.map fun s => .lit (.string s.data.toList))
  | [] => ⟨by simp [Rows.uptoBulkAll], fun s hs => by cases hs⟩
  | x :: xs => by
    obtain ⟨h1, h2⟩ := strs_bulk (H := H) xs
    have e : x.data.toList.length = x.size := by rw [Array.length_toList]; rfl
    simp only [List.map_cons, Rows.uptoBulkAll, Rows.uptoBulk, List.length_cons]
    refine ⟨by omega, fun s hs => ?_⟩
    rcases List.mem_cons.1 hs with rfl | hs
    · omega
    · have := h2 s hs
      omega
theorem bulk_strings {H : Type} {enc : TypeId × Value → H} {P : Program} {w : World} {base : Nat} {spare : Nat → Bool} {held : Bool} {t e fuel : Nat} {A : Option Addr} {n c : Nat} {x : DataW H × List MemPlace} {l : List ByteArray}
    (ht : P.underlying t = some (.slice e)) (he : P.underlying e = some .string) (hc : P.cellsOf e = 1) (h : DataW.trod enc P w base spare held fuel t [.slice A n c] = some x) (hC : Kd.C Kd.string w A n l) :
    l.length ≤ Rows.uptoBulk x.1 ∧ ∀ s ∈ l, s.size ≤ Rows.uptoBulk x.1 := by
  have hl : l.length = n := hC.1
  rcases Go.ChangeShapes.open_strings ht he hc h with ⟨h1, h2⟩ | ⟨a, len, cap, ss, h1, _, _, _, h5, rfl, h7, _⟩
  · injection h1 with h1
    injection h1 with _ h1 _
    have : l = [] := List.length_eq_zero_iff.1 (hl.trans h1)
    subst this
    exact ⟨Nat.zero_le _, fun s hs => by cases hs⟩
  · injection h1 with h1
    injection h1 with h1 h2 _
    subst h1 h2
    have hle : n ≤ ss.length := by rw [h5]; split <;> omega
    have hee : l = ss.take n := by
      apply List.ext_getElem
      · rw [List.length_take]; omega
      · intro i g1 g2
        obtain ⟨ad, e1, e2⟩ := Kd.at_string hC (i : Int) (by omega) (by omega)
        cases e1
        have e3 := h7 i (by omega)
        rw [Int.toNat_natCast] at e2
        rw [e2] at e3
        injection e3 with e3
        injection e3 with e3
        unfold rdOf at e3
        rw [Int.toNat_natCast, List.getD_eq_getElem?_getD, List.getD_eq_getElem?_getD, List.getElem?_eq_getElem g1, List.getElem?_eq_getElem (by omega)] at e3
        rw [List.getElem_take]
        exact e3
    obtain ⟨b1, b2⟩ := strs_bulk (H := H) (ss.take n)
    rw [← hee] at b1 b2
    have hb : Rows.uptoBulkAll (H := H) (l.map fun s => .lit (.string s.data.toList)) ≤ Rows.uptoBulk (DataW.slice (H := H) (Go.ChangeShapes.strs (ss.take n)) (Go.ChangeShapes.strs (ss.drop n))) := by
      rw [← hee]
      simp only [Rows.uptoBulk]
      show Rows.uptoBulkAll (Go.ChangeShapes.strs l) ≤ _
      omega
    exact ⟨Nat.le_trans b1 hb, fun s hs => Nat.le_trans (b2 s hs) hb⟩
end Go.Proofs.Ytokgkhndhlcfpaa.X
