/- errors.As by its contracts: a target of *fault.At over what wraps and over a number. -/
import Derived.Test.YtnmngglfeiifaaaGreatDoorHAs2
namespace Go.Proofs.YtnmngglfeiifaaaGreatDoor.H
open Go.RowKit Go.Extern.Stop Go.Stop Go.Extern Go.Proofs.YtnmngglfeiifaaaGreatDoorW.PrintWords Go.Proofs.YtnmngglfeiifaaaGreatDoorW.PrintLast Go.Proofs.YtnmngglfeiifaaaGreatDoor.X
set_option linter.unusedVariables false
set_option linter.unusedSimpArgs false
/-- The handle of 'error' that errors.As asks for. -/
def ErrT (w : World) : Prop := w.cell? ⟨0, 0, none⟩ = some (.iface 152 (.agg #[.pointer (some ⟨4, 27, none⟩)]))
/-- What errors.As lays ahead of its search. -/
def asPre (ty : TypeId) (t : Addr) (w : World) : World :=
  ((w.alloc (.cells #[.pointer (some t)] ty)).alloc (.cells #[.pointer (some ⟨4, ty, none⟩), .pointer (some ⟨w.heap.size, 0, none⟩), .int .u64 150] 104)).alloc (.cells #[.pointer (some ⟨4, ty, none⟩), .pointer (some ⟨w.heap.size, 0, none⟩), .int .u64 150] 104)
set_option maxHeartbeats 4000000 in
theorem as_at_hit (e t : Addr) (old : Value) (w : World) (hg : ErrT w) (ht0 : w.cell? t = some old) (hf0 : w.frozen? t = false) :
    Calls Tryz.prog 41 #[.iface 75 (.pointer (some e)), .iface 79 (.pointer (some t))] w fun ev w' => ev = .returned (.bool true) ∧ w' = ((asPre 79 t w).alloc (.cells #[.pointer (some e)] 75)).setCell t (.pointer (some e)) := by
  have h64 := @run_callFunc_extern Tryz.prog 64 _ (fun args => ReflectliteValue.unpack (args.getD 0 (.tuple #[]))) Tryz.func64 (by kernel_rfl) (by kernel_rfl) (by kernel_rfl) (by kernel_rfl)
  have h65 := @run_callFunc_extern Tryz.prog 65 _ (ReflectliteValue.methodAny (ReflectliteValue.valueError "reflectlite.Value.Type" 0) (fun t _ _ _ => ReflectliteType.toType t)) Tryz.func65 (by kernel_rfl) (by kernel_rfl) (by kernel_rfl) (by kernel_rfl)
  have h66 := @run_callFunc_extern Tryz.prog 66 _ (ReflectliteValue.method (ReflectliteValue.valueError "reflectlite.Value.IsNil" 0) ReflectliteValue.isNil) Tryz.func66 (by kernel_rfl) (by kernel_rfl) (by kernel_rfl) (by kernel_rfl)
  have h157 := @run_callFunc_extern Tryz.prog 157 _ (ReflectliteType.abiMethod fun t => do pure (.int .u8 (← Rtype.kind t))) Tryz.func157 (by kernel_rfl) (by kernel_rfl) (by kernel_rfl) (by kernel_rfl)
  have h169 := @run_callFunc_extern Tryz.prog 169 _ (ReflectliteType.method ReflectliteType.elem) Tryz.func169 (by kernel_rfl) (by kernel_rfl) (by kernel_rfl) (by kernel_rfl)
  have h170 := @run_callFunc_extern Tryz.prog 170 _ (ReflectliteType.relation "Implements" ReflectliteType.implements_) Tryz.func170 (by kernel_rfl) (by kernel_rfl) (by kernel_rfl) (by kernel_rfl)
  have h106 := @run_callFunc_extern Tryz.prog 106 _ ReflectliteType.typeOf Tryz.func106 (by kernel_rfl) (by kernel_rfl) (by kernel_rfl) (by kernel_rfl)
  have h167 := @run_callFunc_extern Tryz.prog 167 _ (ReflectliteType.relation "AssignableTo" ReflectliteType.assignableTo) Tryz.func167 (by kernel_rfl) (by kernel_rfl) (by kernel_rfl) (by kernel_rfl)
  have h107 := @run_callFunc_extern Tryz.prog 107 _ (ReflectliteValue.method (ReflectliteValue.valueError "reflectlite.Value.Elem" 0) ReflectliteValue.elem) Tryz.func107 (by kernel_rfl) (by kernel_rfl) (by kernel_rfl) (by kernel_rfl)
  have h108 := @run_callFunc_extern Tryz.prog 108 _ ReflectliteValue.set Tryz.func108 (by kernel_rfl) (by kernel_rfl) (by kernel_rfl) (by kernel_rfl)
  have tO := xTypeOf75
  have mA := xMAss
  have a25 := xAss7575
  have v25 := xValueOf75
  have f6 := xValueOfA
  have f7 := xTypeA
  have mK := xMKind
  have mE := xMElem
  have mI := xMImpl
  have k27 := xKind79
  have k25 := xKind75
  have e27 := xElem79
  have i25 := xImpl75
  have n8 := xIsNil79 ⟨w.heap.size, 0, none⟩ t ((w.alloc (.cells #[.pointer (some t)] 79)).alloc (.cells #[.pointer (some ⟨4, 79, none⟩), .pointer (some ⟨w.heap.size, 0, none⟩), .int .u64 150] 104)) (by simp)
  have hlt : 0 < w.heap.size := by
    rcases Nat.eq_zero_or_pos w.heap.size with h0 | h
    · simp [ErrT, World.cell?, h0] at hg
    · exact h
  have hg2 : ((w.alloc (.cells #[.pointer (some t)] 79)).alloc (.cells #[.pointer (some ⟨4, 79, none⟩), .pointer (some ⟨w.heap.size, 0, none⟩), .int .u64 150] 104)).cell? ⟨0, 0, none⟩ = some (.iface 152 (.agg #[.pointer (some ⟨4, 27, none⟩)])) := by
    rw [World.cell?_alloc_lt _ _ ⟨0, 0, none⟩ (by simp), World.cell?_alloc_lt _ _ ⟨0, 0, none⟩ hlt]; exact hg
  have htl : t.block < w.heap.size := by
    rcases Nat.lt_or_ge t.block w.heap.size with h | h
    · exact h
    · simp [World.cell?, Array.getElem?_eq_none h] at ht0
  have el := xElemV79 ⟨w.heap.size, 0, none⟩ t (((w.alloc (.cells #[.pointer (some t)] 79)).alloc (.cells #[.pointer (some ⟨4, 79, none⟩), .pointer (some ⟨w.heap.size, 0, none⟩), .int .u64 150] 104)).alloc (.cells #[.pointer (some ⟨4, 79, none⟩), .pointer (some ⟨w.heap.size, 0, none⟩), .int .u64 150] 104)) (by rw [World.cell?_alloc_lt _ _ ⟨w.heap.size, 0, none⟩ (by simp; omega)]; simp)
  have st := xSet75 t ⟨w.heap.size + 1 + 1 + 1, 0, none⟩ e old ((((w.alloc (.cells #[.pointer (some t)] 79)).alloc (.cells #[.pointer (some ⟨4, 79, none⟩), .pointer (some ⟨w.heap.size, 0, none⟩), .int .u64 150] 104)).alloc (.cells #[.pointer (some ⟨4, 79, none⟩), .pointer (some ⟨w.heap.size, 0, none⟩), .int .u64 150] 104)).alloc (.cells #[.pointer (some e)] 75))
    (by rw [World.cell?_alloc_at _ _ _ _ (by simp)]; rfl)
    (by rw [World.cell?_alloc_lt _ _ t (by simp; omega), World.cell?_alloc_lt _ _ t (by simp; omega), World.cell?_alloc_lt _ _ t (by simp; omega), World.cell?_alloc_lt _ _ t htl]; exact ht0)
    (by rw [World.frozen?_alloc_old _ _ t (by simp; omega), World.frozen?_alloc_old _ _ t (by simp; omega), World.frozen?_alloc_old _ _ t (by simp; omega), World.frozen?_alloc_old _ _ t (Nat.ne_of_lt htl)]; exact hf0)
  go_enter Tryz.func41, Tryz.ntmps41
  go_wp2
  refine wp_loop_rounds 1 ?_
  rw [rounds_succ]
  go_wp2
  go_ret
  exact ⟨rfl, rfl⟩
end Go.Proofs.YtnmngglfeiifaaaGreatDoor.H
