/- errors.As by its contracts: a target of *fault.At over what wraps and over a number. -/
import Derived.Test.YtnmngglfeiifaaaGreatDoorHAs
namespace Go.Proofs.YtnmngglfeiifaaaGreatDoor.H
open Go.RowKit Go.Extern.Stop Go.Stop Go.Extern Go.Proofs.YtnmngglfeiifaaaGreatDoorW.PrintWords Go.Proofs.YtnmngglfeiifaaaGreatDoorW.PrintLast Go.Proofs.YtnmngglfeiifaaaGreatDoor.X
set_option linter.unusedVariables false
set_option linter.unusedSimpArgs false

theorem xMKind (h : Value) (w : World) : (Go.method 322 152 (.agg #[h]) "Kind").run Tryz.prog w = .ok (157, h) w := by kernel_rfl
theorem xMElem (h : Value) (w : World) : (Go.method 322 152 (.agg #[h]) "Elem").run Tryz.prog w = .ok (169, .agg #[h]) w := by kernel_rfl
theorem xMImpl (h : Value) (w : World) : (Go.method 322 152 (.agg #[h]) "Implements").run Tryz.prog w = .ok (170, .agg #[h]) w := by kernel_rfl
theorem xMAss (h : Value) (w : World) : (Go.method 322 152 (.agg #[h]) "AssignableTo").run Tryz.prog w = .ok (167, .agg #[h]) w := by kernel_rfl
theorem rlm (z : Sem Value) (f : TypeId → Addr → Nat → Nat → Sem Value) (v : Value) :
    ReflectliteValue.method z f #[v] = (do match ← ReflectliteValue.parts v with | none => z | some (t, a, fl) => f t a fl (fl % 32)) := rfl
theorem xParts79 (a : Addr) (w : World) : (ReflectliteValue.parts (.agg #[.pointer (some ⟨4, 79, none⟩), .pointer (some a), .int .u64 150])).run Tryz.prog w = .ok (some (79, a, 150)) w := by kernel_rfl
theorem xIsNil79 (a p : Addr) (W : World) (ha : W.cell? a = some (.pointer (some p))) :
    (ReflectliteValue.method (ReflectliteValue.valueError "reflectlite.Value.IsNil" 0) ReflectliteValue.isNil #[.agg #[.pointer (some ⟨4, 79, none⟩), .pointer (some a), .int .u64 150]]).run Tryz.prog W = .ok (.bool false) W := by
  rw [rlm]
  simp only [Sem.run_bind, xParts79, Result.andThen]
  simp [ReflectliteValue.isNil, loadVar, isAgg, underlying, Tryz.underlying79, ha, Result.andThen]
theorem xElemOf79 (w : World) : (Rtype.elem? 79).run Tryz.prog w = .ok (some 75) w := by kernel_rfl
theorem xMk75 (p : Addr) (w : World) : (ReflectliteValue.mk 75 p ReflectliteValue.flagAddr).run Tryz.prog w = .ok (.agg #[.pointer (some ⟨4, 75, none⟩), .pointer (some p), .int .u64 406]) w := by kernel_rfl
theorem xElemV79 (a p : Addr) (W : World) (ha : W.cell? a = some (.pointer (some p))) :
    (ReflectliteValue.method (ReflectliteValue.valueError "reflectlite.Value.Elem" 0) ReflectliteValue.elem #[.agg #[.pointer (some ⟨4, 79, none⟩), .pointer (some a), .int .u64 150]]).run Tryz.prog W
      = .ok (.agg #[.pointer (some ⟨4, 75, none⟩), .pointer (some p), .int .u64 406]) W := by
  rw [rlm]
  simp only [Sem.run_bind, xParts79, Result.andThen]
  simp [ReflectliteValue.elem, loadVar, isAgg, underlying, Tryz.underlying79, ha, Result.andThen, xElemOf79, xMk75]
theorem rls (v x : Value) : ReflectliteValue.set #[v, x] = (do
    let (some (dst, a, fl), some (src, b, _)) := (← ReflectliteValue.parts v, ← ReflectliteValue.parts x)
      | unsupported (.noEntry "extern/(internal/reflectlite.Value).Set.zeroValue")
    if fl / ReflectliteValue.flagAddr % 2 == 0 then unsupported (.noEntry "extern/(internal/reflectlite.Value).Set.unaddressable")
    let val ← loadVar src b
    if ← Rtype.directlyAssignable dst src then storeVar dst a val
    else if ← Rtype.implements dst src then
      if (← Rtype.kind src) == 20 then
        match val with
        | .nilIface => unsupported (.noEntry "extern/reflectlite: a nil value of one interface type handed on as a value of another")
        | _ => storeVar dst a val
      else storeVar dst a (.iface src val)
    else panicString ("reflectlite.Set: value of type " ++ (← Rtype.spelt src) ++ " is not assignable to type " ++ (← Rtype.spelt dst))
    pure (.tuple #[])) := rfl
theorem xParts75a (a : Addr) (w : World) : (ReflectliteValue.parts (.agg #[.pointer (some ⟨4, 75, none⟩), .pointer (some a), .int .u64 406])).run Tryz.prog w = .ok (some (75, a, 406)) w := by kernel_rfl
theorem xParts75 (a : Addr) (w : World) : (ReflectliteValue.parts (.agg #[.pointer (some ⟨4, 75, none⟩), .pointer (some a), .int .u64 150])).run Tryz.prog w = .ok (some (75, a, 150)) w := by kernel_rfl
theorem xDirect75 (w : World) : (Rtype.directlyAssignable 75 75).run Tryz.prog w = .ok true w := by kernel_rfl
theorem xSet75 (ta b e : Addr) (old : Value) (W : World) (hb : W.cell? b = some (.pointer (some e))) (ht : W.cell? ta = some old) (hf : W.frozen? ta = false) :
    (ReflectliteValue.set #[.agg #[.pointer (some ⟨4, 75, none⟩), .pointer (some ta), .int .u64 406], .agg #[.pointer (some ⟨4, 75, none⟩), .pointer (some b), .int .u64 150]]).run Tryz.prog W
      = .ok (.tuple #[]) (W.setCell ta (.pointer (some e))) := by
  rw [rls]
  simp only [Sem.run_bind, xParts75a, xParts75, Result.andThen]
  simp [ReflectliteValue.flagAddr, loadVar, isAgg, underlying, Tryz.underlying75, hb, Result.andThen, xDirect75, storeVar, Value.cells, storeCells, Addr.add]
  rw [run_store Tryz.prog W ta _ _ (by rfl)]
  simp [ht, hf]
end Go.Proofs.YtnmngglfeiifaaaGreatDoor.H
