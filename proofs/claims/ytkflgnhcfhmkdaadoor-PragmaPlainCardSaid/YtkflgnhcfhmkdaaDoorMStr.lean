/- A string's bytes as numbers, and back. -/
import Derived.Laws.Strings
import Derived.Test.YtkflgnhcfhmkdaaDoorWWords
import Derived.Test.YtkflgnhcfhmkdaaDoorXWords
import Derived.Test.YtkflgnhcfhmkdaaDoorMUtf
namespace Go.Proofs.YtkflgnhcfhmkdaaDoor.M
open Go.RowKit Go.Proofs.YtkflgnhcfhmkdaaDoorW.PrintWords Go.Proofs.YtkflgnhcfhmkdaaDoor.X
set_option linter.unusedVariables false
set_option linter.unusedSimpArgs false

theorem bytesOf_BT (s : ByteArray) : BT (bytesOf s) := by
  intro x hx
  unfold bytesOf at hx
  obtain ⟨u, _, rfl⟩ := List.mem_map.1 hx
  have := u.toNat_lt
  omega
theorem bytesOf_strOfNums {l : List Int} (h : BT l) : bytesOf (strOfNums l) = l := by
  unfold bytesOf
  rw [strOfNums_data, List.map_map]
  induction l with
  | nil => rfl
  | cons x l ih =>
    have hx := h.head
    rw [List.map_cons, ih h.tail]
    congr 1
    simp only [Function.comp_apply, UInt8.toNat_ofNat']
    omega
theorem toList_eq_data (s : ByteArray) : s.toList = s.data.toList := ByteArray.toList_eq s
theorem ba_ext {s t : ByteArray} (h : s.toList = t.toList) : s = t := by
  rw [toList_eq_data, toList_eq_data] at h
  cases s; cases t
  simp only [ByteArray.mk.injEq]
  exact Array.toList_inj.1 h
theorem strOfNums_bytesOf (s : ByteArray) : strOfNums (bytesOf s) = s := by
  apply ba_ext
  rw [toList_eq_data, toList_eq_data, strOfNums_data]
  unfold bytesOf
  rw [List.map_map]
  have : (fun n : Int => UInt8.ofNat n.toNat) ∘ (fun b : UInt8 => (b.toNat : Int)) = id := by
    funext u
    simp
  rw [this, List.map_id]
theorem conv_of_str (s : ByteArray) (hl : s.size < 140737488355328) : conv_bytes.f s = some (bytesOf s) := by
  unfold conv_bytes.f
  rw [if_pos hl]
end Go.Proofs.YtkflgnhcfhmkdaaDoor.M
