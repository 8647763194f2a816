/- errors.As at the two targets that the program has (*fault.At, api.Errno), over nil, numbers, and what wraps them (after the kit's worked example). -/
import Derived.Test.YtnmngglfeiifaaaGreatDoorHList
import Derived.LaidEql
import Derived.Stop.Asserts
namespace Go.Proofs.YtnmngglfeiifaaaGreatDoor.H
open Go.RowKit Go.Extern.Stop Go.Stop Go.Extern Go.Proofs.YtnmngglfeiifaaaGreatDoorW.PrintWords Go.Proofs.YtnmngglfeiifaaaGreatDoorW.PrintLast Go.Proofs.YtnmngglfeiifaaaGreatDoor.X
set_option linter.unusedVariables false
set_option linter.unusedSimpArgs false

/-- errors.As(nil, target). -/
theorem as_nil (t : Value) (w : World) :
    Calls Tryz.prog 41 #[.nilIface, t] w fun e w' => e = .returned (.bool false) ∧ w' = w := by
  go_enter Tryz.func41, Tryz.ntmps41
  go_wp2
  go_ret
  exact ⟨rfl, rfl⟩

/-! closed facts on the model's entries -/
theorem xValueOfA (t : Addr) (w : World) : (ReflectliteValue.unpack (.iface 79 (.pointer (some t)))).run Tryz.prog w
    = .ok (.agg #[.pointer (some ⟨4, 79, none⟩), .pointer (some ⟨w.heap.size, 0, none⟩), .int .u64 150]) (w.alloc (.cells #[.pointer (some t)] 79)) := by kernel_rfl
theorem xTypeA (a : Addr) (w : World) : (ReflectliteValue.methodAny (ReflectliteValue.valueError "reflectlite.Value.Type" 0) (fun t _ _ _ => ReflectliteType.toType t) #[.agg #[.pointer (some ⟨4, 79, none⟩), .pointer (some a), .int .u64 150]]).run Tryz.prog w
    = .ok (.iface 152 (.agg #[.pointer (some ⟨4, 79, none⟩)])) w := by kernel_rfl
theorem xKind79 (w : World) : ((ReflectliteType.abiMethod fun t => (fun a : Nat => Value.int IntKind.u8 (a : Int)) <$> Rtype.kind t) #[.pointer (some ⟨4, 79, none⟩)]).run Tryz.prog w = .ok (.int .u8 22) w := by kernel_rfl
theorem xKind75 (w : World) : ((ReflectliteType.abiMethod fun t => (fun a : Nat => Value.int IntKind.u8 (a : Int)) <$> Rtype.kind t) #[.pointer (some ⟨4, 75, none⟩)]).run Tryz.prog w = .ok (.int .u8 22) w := by kernel_rfl
theorem xTypeOf75 (v : Value) (w : World) : (ReflectliteType.typeOf #[.iface 75 v]).run Tryz.prog w = .ok (.iface 152 (.agg #[.pointer (some ⟨4, 75, none⟩)])) w := by kernel_rfl
theorem xTypeOf41 (v : Value) (w : World) : (ReflectliteType.typeOf #[.iface 41 v]).run Tryz.prog w = .ok (.iface 152 (.agg #[.pointer (some ⟨4, 41, none⟩)])) w := by kernel_rfl
theorem xElem79 (w : World) : (ReflectliteType.method ReflectliteType.elem #[.agg #[.pointer (some ⟨4, 79, none⟩)]]).run Tryz.prog w = .ok (.iface 152 (.agg #[.pointer (some ⟨4, 75, none⟩)])) w := by kernel_rfl
theorem xImpl75 (w : World) : (ReflectliteType.relation "Implements" ReflectliteType.implements_ #[.agg #[.pointer (some ⟨4, 75, none⟩)], .iface 152 (.agg #[.pointer (some ⟨4, 27, none⟩)])]).run Tryz.prog w = .ok (.bool true) w := by kernel_rfl
theorem xAss7575 (w : World) : (ReflectliteType.relation "AssignableTo" ReflectliteType.assignableTo #[.agg #[.pointer (some ⟨4, 75, none⟩)], .iface 152 (.agg #[.pointer (some ⟨4, 75, none⟩)])]).run Tryz.prog w = .ok (.bool true) w := by kernel_rfl
theorem xAss4175 (w : World) : (ReflectliteType.relation "AssignableTo" ReflectliteType.assignableTo #[.agg #[.pointer (some ⟨4, 41, none⟩)], .iface 152 (.agg #[.pointer (some ⟨4, 75, none⟩)])]).run Tryz.prog w = .ok (.bool false) w := by kernel_rfl
theorem xValueOf75 (e : Addr) (w : World) : (ReflectliteValue.unpack (.iface 75 (.pointer (some e)))).run Tryz.prog w
    = .ok (.agg #[.pointer (some ⟨4, 75, none⟩), .pointer (some ⟨w.heap.size, 0, none⟩), .int .u64 150]) (w.alloc (.cells #[.pointer (some e)] 75)) := by kernel_rfl
theorem xNoAs41 (v : Value) (xT : TypeId) (w : World) : (Instr.typeAssert (.iface 41 v) xT 157 true).run Tryz.prog w = .ok (.tuple #[.nilIface, .bool false]) w := run_typeAssert_lacksB Tryz.underlying157 (by kernel_rfl) (by kernel_rfl) v xT w
theorem xUnw41 (v : Value) (xT : TypeId) (w : World) : (Instr.typeAssert (.iface 41 v) xT 160 true).run Tryz.prog w = .ok (.tuple #[.nilIface, .bool false]) w := run_typeAssert_lacksB Tryz.underlying160 (by kernel_rfl) (by kernel_rfl) v xT w
theorem xUnws41 (v : Value) (xT : TypeId) (w : World) : (Instr.typeAssert (.iface 41 v) xT 162 true).run Tryz.prog w = .ok (.tuple #[.nilIface, .bool false]) w := run_typeAssert_lacksB Tryz.underlying162 (by kernel_rfl) (by kernel_rfl) v xT w
end Go.Proofs.YtnmngglfeiifaaaGreatDoor.H
