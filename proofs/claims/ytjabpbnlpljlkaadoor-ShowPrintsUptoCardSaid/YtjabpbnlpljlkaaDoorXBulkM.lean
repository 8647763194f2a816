/- The bound of an '..UptoSaid' as a measure (XTrodS): what was read is of bulk at most 1048576, so is each part, so is each text. -/
import Derived.Test.YtjabpbnlpljlkaaDoorRows
import Derived.Test.YtjabpbnlpljlkaaDoorXTrodS
namespace Go.Proofs.YtjabpbnlpljlkaaDoor.X
open Go.RowKit
set_option linter.unusedVariables false
set_option linter.unusedSimpArgs false
theorem bulk_part {H : Type} {d : DataW H} : ∀ {l : List (DataW H)}, d ∈ l → Rows.uptoBulk d ≤ Rows.uptoBulkAll l
  | [], h => by cases h
  | x :: l, h => by
    simp only [Rows.uptoBulkAll]
    rcases List.mem_cons.1 h with rfl | h
    · omega
    · have := bulk_part h; omega
/-- No text is longer than the bound, each part is no greater. -/
def measU (P : Program) : Meas P 1048576 where
  Ok := fun _ d => Rows.uptoBulk d ≤ 1048576
  str := fun h => by simp only [Rows.uptoBulk] at h; omega
  slice := fun {H t e elems spare} _ h d hd => by
    simp only [Rows.uptoBulk] at h
    have := bulk_part hd
    omega
  agg := fun {H t fs parts} _ h i f d _ hp => by
    simp only [Rows.uptoBulk] at h
    have := bulk_part (List.mem_of_getElem? hp)
    omega
theorem bulk_at {H : Type} {l : List (DataW H)} (hk : Rows.uptoSmall H l = true) {j : Nat} {d : DataW H} (hd : l[j]? = some d) : Rows.uptoBulk d ≤ 1048576 := by
  have h := of_decide_eq_true hk
  have := bulk_part (List.mem_of_getElem? hd)
  omega
end Go.Proofs.YtjabpbnlpljlkaaDoor.X
