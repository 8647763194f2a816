/- A world in which the listed tables of Go's library and errors' handle of 'error' lie (for the witness of ListsLine's tied card). -/
import Derived.Test.YtnmngglfeiifaaaGreatDoorRows
import Derived.Test.YtnmngglfeiifaaaGreatDoorHErr
import Derived.ProofKit
import Derived.LaidLaws
import Derived.LaidHandle
import Derived.Deep.DeepHandedRow
import Derived.Lay
namespace Go.Proofs.YtnmngglfeiifaaaGreatDoor
theorem laid_et : Tryz.prog.globalNamed "errors.errorType" = some 0 := by kernel_rfl
theorem laid_rt : (Tryz.prog.cutTypes.find? (·.1 == "internal/reflectlite.rtype")).map (·.2) = some 152 := by kernel_rfl
theorem laid_size : Tryz.prog.types.size = 222 := by kernel_rfl
theorem laid_oneRow : ((List.range 222).filter fun t => Tryz.prog.rowNamed t [101, 114, 114, 111, 114]) = [27] := by kernel_rfl
theorem handle_of_laid {W : World} (h : laidMetH Tryz.prog Rows.listsLineRow.laid W) : H.ErrT W := by
  have h' : laidMet Tryz.prog _ W ∧ handlesMet Tryz.prog [("errors.errorType", Rows.laid_errors_errorType)] W := h
  obtain ⟨name, u, ty, e1, e2, e3, e4, e5⟩ := h'.2 _ (List.mem_singleton.2 rfl)
  have en : name = [101, 114, 114, 111, 114] := (Option.some.inj e1).symm
  subst en
  obtain rfl := Option.some.inj (laid_rt.symm.trans e2)
  have hm : ty ∈ (List.range 222).filter fun t => Tryz.prog.rowNamed t [101, 114, 114, 111, 114] := List.mem_filter.2 ⟨List.mem_range.2 (by rw [← laid_size]; exact e3), e4⟩
  rw [laid_oneRow] at hm
  obtain rfl := List.mem_singleton.1 hm
  have hh : typeHandle Tryz.prog 27 = .pointer (some ⟨4, 27, none⟩) := by kernel_rfl
  rw [hh] at e5
  unfold H.ErrT
  simpa using World.var?_cell laid_et e5 0
theorem laid_of {W : World} (h : laidMetH Tryz.prog Rows.listsLineRow.laid W ∧ W.ShapedOpen Tryz.prog) : H.LaidE W := ⟨H.laid_shaped h.2, handle_of_laid h.1⟩
/-- The settled world, the handle laid. -/
noncomputable def baseWorld (os : Os) : World :=
  let w0 := World.holding Tryz.prog os ⟨#[], #[], []⟩
  { w0 with heap := w0.heap.modify 0 fun
      | .cells _ t frozen => .cells #[.iface 152 (.agg #[.pointer (some ⟨4, 27, none⟩)])] t frozen
      | o => o }
def laidData : List (String × DataW Unit) := Rows.listsLineRow.laid.filter fun x => x.2.handleName?.isNone
noncomputable def laidWorld (os : Os) : World := (baseWorld os).layVars Tryz.prog laidData
theorem laidMet_base {w0 : World} {laid : List (String × DataW Unit)} (args : Array Value)
    (hf : w0.layFits Tryz.prog laid [] = true) (hi : w0.layIfaces Tryz.prog laid (w0.layVars Tryz.prog laid) = true) :
    laidMet Tryz.prog laid ((w0.layVars Tryz.prog laid).forCall (fun _ _ => 0) ⟨#[], args, []⟩).memory := by
  have e1 : (laid.filter fun x => (laid.map (·.1)).contains x.1) = laid := List.filter_eq_self.2 fun x hx => List.contains_iff_mem.2 (List.mem_map.2 ⟨x, hx, rfl⟩)
  have e2 : (laid.filter fun x => !(laid.map (·.1)).contains x.1) = [] := List.filter_eq_nil_iff.2 fun x hx => by rw [List.contains_iff_mem.2 (List.mem_map.2 ⟨x, hx, rfl⟩)]; simp
  have h : laidMet Tryz.prog laid (w0.layVars Tryz.prog laid) := laidMet_layVars (w0 := w0) (laid.map (·.1)) [] (by rw [e1]) (by rw [e1]; exact hf) (by rw [e1]; exact hi) (by rw [e2]; exact LaidIn.none)
  exact h.of_heap (by simp [World.memory, World.forCall, Input.heap])
theorem laid_met (os : Os) (args : Array Value) : laidMetH Tryz.prog Rows.listsLineRow.laid ((laidWorld os).forCall (fun _ _ => 0) ⟨#[], args, []⟩).memory :=
  laidMetH_of_parts (laidMet_base args (by kernel_rfl) (by kernel_rfl)) (by kernel_rfl)
end Go.Proofs.YtnmngglfeiifaaaGreatDoor
