/- A string's bytes as numbers, and back. -/
import Derived.Laws.Strings
import Derived.Test.YtekalnhackjldaaDoorWWords
import Derived.Test.YtekalnhackjldaaDoorXWords
import Derived.Test.YtekalnhackjldaaDoorMUtf
namespace Go.Proofs.YtekalnhackjldaaDoor.M
open Go.RowKit Go.Proofs.YtekalnhackjldaaDoorW.PrintWords Go.Proofs.YtekalnhackjldaaDoor.X
set_option linter.unusedVariables false
set_option linter.unusedSimpArgs false

theorem bytesOf_strOfNums {l : List Int} (h : BT l) : bytesOf (strOfNums l) = l := by
  unfold bytesOf
  rw [strOfNums_data, List.map_map]
  induction l with
  | nil => rfl
  | cons x l ih =>
    have hx := h.head
    rw [List.map_cons, ih h.tail]
    congr 1
    simp only [Function.comp_apply, UInt8.toNat_ofNat']
    omega
theorem strOfNums_inj {a b : List Int} (ha : BT a) (hb : BT b) (h : strOfNums a = strOfNums b) : a = b := by
  rw [← bytesOf_strOfNums ha, h, bytesOf_strOfNums hb]
theorem toList_eq_data (s : ByteArray) : s.toList = s.data.toList := ByteArray.toList_eq s
theorem toList_append (s t : ByteArray) : (s ++ t).toList = s.toList ++ t.toList := by
  rw [toList_eq_data, toList_eq_data, toList_eq_data, ByteArray.data_append, Array.toList_append]
theorem ba_ext {s t : ByteArray} (h : s.toList = t.toList) : s = t := by
  rw [toList_eq_data, toList_eq_data] at h
  cases s; cases t
  simp only [ByteArray.mk.injEq]
  exact Array.toList_inj.1 h
theorem strOfNums_beq {a b : List Int} (ha : BT a) (hb : BT b) : ((strOfNums a).toList == (strOfNums b).toList) = (a == b) := by
  rw [Bool.eq_iff_iff, beq_iff_eq, beq_iff_eq]
  exact ⟨fun h => strOfNums_inj ha hb (ba_ext h), fun h => by rw [h]⟩
theorem strOfNums_append (a b : List Int) : strOfNums (a ++ b) = strOfNums a ++ strOfNums b := by
  apply ba_ext
  rw [toList_append, toList_eq_data, strOfNums_data, List.map_append, ← strOfNums_data, ← strOfNums_data, ← toList_eq_data, ← toList_eq_data]
theorem conv_of {l : List Int} (h : BT l) (hl : l.length < 140737488355328) : conv_bytes.f (strOfNums l) = some l := by
  unfold conv_bytes.f
  rw [if_pos (by rw [strOfNums_size]; exact hl), bytesOf_strOfNums h]
end Go.Proofs.YtekalnhackjldaaDoor.M
