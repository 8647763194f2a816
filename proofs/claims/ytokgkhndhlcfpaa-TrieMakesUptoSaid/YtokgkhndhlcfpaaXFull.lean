/- An append behind a slice cut at its own length: always a new row. -/
import Derived.Test.YtokgkhndhlcfpaaXP
import Derived.ArgAppend
namespace Go.Proofs.Ytokgkhndhlcfpaa.X
open Go.RowKit Go.Proofs.YtokgkhndhlcfpaaW.PrintWords Go.Proofs.YtokgkhndhlcfpaaW.PrintLast Go.Proofs.YtokgkhndhlcfpaaW.PrintMore
set_option linter.unusedVariables false
set_option linter.unusedSimpArgs false

/-- 'x[:len(x):len(x)]'. -/
theorem cut_full {P : Program} (t e : TypeId) {i : TypeInfo} (ht : P.underlying t = some (.slice e)) (hi : P.info? e = some i) (A : Option Addr) (n c : Nat) (hc : n ≤ c) :
    ∀ W : World, (Instr.slice t (.slice A n c) none (some (.int .i64 (n : Int))) (some (.int .i64 (n : Int)))).run P W = .ok (.slice A n n) W := by
  intro W
  have hel : P.elem t = e := by simp [Program.elem, ht]
  have hu : P.underlying t = some (.slice (P.elem t)) := by rw [hel]; exact ht
  have ha : (A.map fun x => x.add 0) = A := by cases A <;> simp [Addr.add]
  rw [run_slice_hm W t A n c hu .i64 .i64 (n : Int) (n : Int) (by omega) (by omega) (by omega), hel]
  simp [sizeOf, typeInfo, hi, sliced, Result.andThen, ha]
section
variable {P : Program} {ops : Array Oper} {o : Oper} {a : Act} {Q : Exit → Act → World → Prop} {K : Act → World → Prop}
theorem full_append_step {w0 W : World} (base : Nat) (hw : Region.wanted o (yielded ops a.tmps) = true) (s x : Operand) (t e : TypeId) (k : IntKind) (bytes : Nat)
    (ho : o.op = .call { callee := .builtin .append, args := #[s, x], argTypes := #[t, t] })
    (ht : P.underlying t = some (.slice e)) (hinfo : (P.info? e).map (fun i => (i.zero, i.size, i.bytes)) = some (some (.int k 0), 1, bytes)) (hb0 : 0 < bytes)
    (A : Option Addr) (l : List Int) (p : Int) (hs : a.eval s = .slice A l.length l.length) (hx : a.eval x = .slice (some ⟨W.heap.size, 0, none⟩) 1 1)
    (hC : (Kd.int k).C W A l.length l) (hA : A = none → l = []) (HB : Below base w0 W) (hbase : base ≤ W.heap.size) (hl : (l.length + 1) * bytes ≤ 140737488355328)
    (h : ∀ v1 w1, (Kd.int k).R e w1 base (fun _ => True) v1 (l ++ [p]) → Below base w0 w1 → W.grownBy w1 none → K (a.put o.dst v1) w1) :
    if Region.wanted o (yielded ops a.tmps) = true then Oper.wp P o a (W.alloc (.cells #[.int k p] e)) K Q else K (a.put o.dst undef) (W.alloc (.cells #[.int k p] e)) := by
  have hlen : l.length + 1 ≤ 140737488355328 := Nat.le_trans (Nat.le_mul_of_pos_right _ hb0) hl
  cases A with
  | none =>
    obtain rfl := hA rfl
    refine step_append_cells base hw s x t e (.int k 0) 1 bytes ho ht hinfo rfl (by decide) hb0 (.slice none 0 0) 0 [] [.int k p] hs hx rfl (by simp [Value.oneCell']) (own_nil _ _ _ _) HB hbase hl ?_
    intro v1 w1 hown hb hg _
    exact h v1 w1 (Kd.R_of_own (enc := Value.int k) (h1 := fun _ => rfl) hown (fun _ _ => trivial)) hb hg
  | some b =>
    obtain ⟨i0, hi, hzz⟩ := Option.map_eq_some_iff.1 hinfo
    simp only [Prod.mk.injEq] at hzz
    obtain ⟨hz0, hz1, hz2⟩ := hzz
    rw [if_pos hw]
    have hr := Kd.reads_of_C (enc := Value.int k) (d := (0 : Int)) (h1 := fun _ => rfl) (Kd.C_below hC (below_alloc (Below.refl _ _) (.cells #[.int k p] e)))
    obtain ⟨v1, w1, hrun, hown, hg⟩ := run_append_arg_grows (P := P) (W.alloc (.cells #[.int k p] e)) t o.type e i0 (.int k 0) 1 bytes ht hi hz0 hz1 hz2 rfl (by decide) b l.length l.length (encs (Value.int k) l) (by simp [encs])
      (fun j u hj => by
        obtain ⟨hjl, hju⟩ := List.getElem?_eq_some_iff.1 hj
        have hjl' : j < l.length := by simpa [encs] using hjl
        obtain ⟨ad, e1, hc⟩ := hr.2.2 (by omega)
        cases e1
        have h2 := hc j hjl'
        rw [h2, ← hju]
        simp [encs, List.getD, hjl'])
      ⟨W.heap.size, 0, none⟩ 1 1 [.int k p] rfl
      (by simpa using World.news_of_block (cs := #[Value.int k p]) (t := e) (fr := (0, 0)) (heap_alloc_new W (.cells #[.int k p] e))) (by omega) (by simp only [maxLen]; omega) hl
    unfold Oper.wp execOp
    simp only [ho, resolve, invoke, builtin, Sem.run_bind, Sem.run_pure, Result.andThen_ok, List.map_toArray, List.map_cons, List.map_nil, hs, hx, hrun]
    have hown2 : w1.ownsRow base e 1 v1 (l ++ [p]).length (encs (Value.int k) (l ++ [p])) := by
      have := own_weaken hown (base' := base) (by simp; omega)
      rw [List.length_append]
      simpa [encs] using this
    exact h v1 w1 (Kd.R_of_own (enc := Value.int k) (h1 := fun _ => rfl) hown2 (fun _ _ => trivial)) ((HB.alloc hbase _).grown hg (by simp; omega) (by simp)) (World.grownBy.trans (World.grownBy_alloc W _ _) hg)
end
end Go.Proofs.Ytokgkhndhlcfpaa.X
