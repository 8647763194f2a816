/- errors.as at its two targets: over a number, and over what wraps a number. -/
import Derived.Test.YtnmngglfeiifaaaGreatDoorHAs3
namespace Go.Proofs.YtnmngglfeiifaaaGreatDoor.H
open Go.RowKit Go.Extern.Stop Go.Stop Go.Extern Go.Proofs.YtnmngglfeiifaaaGreatDoorW.PrintWords Go.Proofs.YtnmngglfeiifaaaGreatDoorW.PrintLast Go.Proofs.YtnmngglfeiifaaaGreatDoor.X
set_option linter.unusedVariables false
set_option linter.unusedSimpArgs false
/-- An error: of which lists and lines, from the outside on, and the number within (the last one, of no list); nothing: none. -/
def ErP : Pd (ByteArray × Int)
  | _, v, [] => v = .nilIface
  | _, v, [(l, n)] => l = ByteArray.empty ∧ v = .iface 41 (.int .i64 n)
  | w, v, (l, i) :: y :: r => ∃ (b : Nat) (u : Value), v = .iface 75 (.pointer (some ⟨b, 0, none⟩)) ∧ w.heap[b]? = some (.cells #[.string l, .int .i64 i, u] 77 (0, 0)) ∧ ErP w u (y :: r)
theorem ErP.some_ {w : World} {v : Value} {y : ByteArray × Int} {r : List (ByteArray × Int)} (h : ErP w v (y :: r)) : (∃ b, v = .iface 75 (.pointer (some ⟨b, 0, none⟩))) ∨ ∃ n, v = .iface 41 (.int .i64 n) := by
  cases r with
  | nil => obtain ⟨l, n⟩ := y; exact .inr ⟨n, h.2⟩
  | cons z r => obtain ⟨l, n⟩ := y; obtain ⟨b, u, hv, _⟩ := h; exact .inl ⟨b, hv⟩
theorem ErP.step {w w' : World} : ∀ {xs : List (ByteArray × Int)} {v : Value}, ErP w v xs → (∀ (b : Nat) (c : Array Value) (m : Nat × Nat), w.heap[b]? = some (Obj.cells c 77 m) → w'.heap[b]? = w.heap[b]?) → ErP w' v xs
  | [], _, h, _ => h
  | [(_, _)], _, h, _ => h
  | (l, i) :: y :: r, v, h, hk => by
    obtain ⟨b, u, hv, hb, hu⟩ := h
    exact ⟨b, u, hv, (hk b _ _ hb).trans hb, ErP.step hu hk⟩
theorem ErP.below {w w' : World} {xs : List (ByteArray × Int)} {v : Value} (h : ErP w v xs) (hb : Below w.heap.size w w') : ErP w' v xs :=
  h.step (fun b c m hc => hb.block b (Array.getElem?_eq_some_iff.1 hc).1)
theorem ErP.alloc {w : World} {xs : List (ByteArray × Int)} {v : Value} (h : ErP w v xs) (o : Obj) : ErP (w.alloc o) v xs := h.below (below_alloc (Below.refl _ _) o)

set_option maxHeartbeats 4000000 in
theorem as_num75 (n : Int) (t p q r : Value) (w : World) :
    Calls Tryz.prog 67 #[.iface 41 (.int .i64 n), t, .agg #[p, q, r], .iface 152 (.agg #[.pointer (some ⟨4, 75, none⟩)])] w fun ev w' => ev = .returned (.bool false) ∧ w' = w.alloc (.cells #[p, q, r] 104) := by
  have h106 := @run_callFunc_extern Tryz.prog 106 _ ReflectliteType.typeOf Tryz.func106 (by kernel_rfl) (by kernel_rfl) (by kernel_rfl) (by kernel_rfl)
  have h167 := @run_callFunc_extern Tryz.prog 167 _ (ReflectliteType.relation "AssignableTo" ReflectliteType.assignableTo) Tryz.func167 (by kernel_rfl) (by kernel_rfl) (by kernel_rfl) (by kernel_rfl)
  have tO := xTypeOf41
  have mA := xMAss
  have a25 := xAss4175
  have n1 := xNoAs41
  have n2 := xUnw41
  have n3 := xUnws41
  go_enter Tryz.func67, Tryz.ntmps67
  go_wp2
  refine wp_loop_rounds 1 ?_
  rw [rounds_succ]
  go_wp2
  go_ret
  exact ⟨rfl, rfl⟩
end Go.Proofs.YtnmngglfeiifaaaGreatDoor.H
