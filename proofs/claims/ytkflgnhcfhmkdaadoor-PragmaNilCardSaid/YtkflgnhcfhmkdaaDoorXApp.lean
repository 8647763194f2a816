/- An append to a constant text's bytes (a full row that is marked): what comes out is told as a row that is read. -/
import Derived.Test.YtkflgnhcfhmkdaaDoorHM
import Derived.ArgAppend
namespace Go.Proofs.YtkflgnhcfhmkdaaDoor.X
open Go.RowKit Go.Proofs.YtkflgnhcfhmkdaaDoorW.PrintWords Go.Proofs.YtkflgnhcfhmkdaaDoorW.PrintLast Go.Proofs.YtkflgnhcfhmkdaaDoorW.PrintMore
open Kd
set_option linter.unusedVariables false

theorem run_app_full {P : Program} (W : World) (t ty e : TypeId) (z : Value) (ht : P.underlying t = some (.slice e)) (hinfo : (P.info? e).map (fun i => (i.zero, i.size, i.bytes)) = some (some z, 1, 1)) (hz : z.cells.size = 1)
    (g : Nat) (cs : List Int) (fr : Nat × Nat) (hblk : W.heap[g]? = some (.cells (cs.map (Value.int .u8)).toArray e fr)) (A : Option Addr) (m c : Nat) (ys : List Int) (HR : (Kd.int .u8).C W A m ys) (hl : cs.length + m ≤ 140737488355328) :
    ∃ v1 w1, (Builtin.append_ #[t, t] ty #[.slice (some ⟨g, 0, none⟩) cs.length cs.length, .slice A m c]).run P W = .ok v1 w1 ∧ V (Kd.int .u8) e w1 W.heap.size (fun _ => True) v1 (cs ++ ys) ∧ W.grownBy w1 none := by
  obtain ⟨i0, hi, hzz⟩ := Option.map_eq_some_iff.1 hinfo
  simp only [Prod.mk.injEq] at hzz
  obtain ⟨hz0, hz1, hz2⟩ := hzz
  have hm : ys.length = m := HR.1
  have hR := reads_of_C (enc := Value.int .u8) (d := (0 : Int)) (h1 := fun _ => rfl) HR
  have hcell : ∀ (W' : World), W'.heap[g]? = W.heap[g]? → ∀ j, j < cs.length → W'.cell? ⟨g, j, none⟩ = some (.int .u8 (cs.getD j 0)) := by
    intro W' hW j hj
    rw [hblk] at hW
    simp [World.cell?, hW, hj, List.getD]
  have hlt : g < W.heap.size := by
    rcases Nat.lt_or_ge g W.heap.size with h | h
    · exact h
    · rw [Array.getElem?_eq_none h] at hblk; cases hblk
  rcases Nat.eq_zero_or_pos m with h0 | h0
  · subst h0
    obtain rfl : ys = [] := List.eq_nil_of_length_eq_zero hm
    refine ⟨.slice (some ⟨g, 0, none⟩) cs.length cs.length, W, ?_, ?_, World.grownBy.refl W _⟩
    · rcases A with _ | ad
      · simp [Builtin.append_, run_underlying ht, sizeOf, typeInfo, hi, Builtin.lenOf, Builtin.firstCells, storeCells]
      · have := run_append_room_cells (P := P) (w := W) t ty e i0 ht hi g 0 cs.length cs.length ad 0 c [] (by simp) (fun j u h => by simp at h) (fun u h => by simp at h) (Nat.le_refl _) (fun j h => by simp at h) (fun j h => by simp at h)
        rw [Nat.add_zero] at this
        rw [this]
        rfl
    · rw [List.append_nil]
      refine ⟨some ⟨g, 0, none⟩, cs.length, rfl, Nat.le_refl _, fun W' hW => ?_⟩
      refine C_of_reads (enc := Value.int .u8) (d := (0 : Int)) (h1 := fun _ => rfl) ⟨rfl, by omega, fun hp => ⟨_, rfl, fun j hj => ?_⟩⟩
      rw [add_plain]
      exact hcell W' (hW g trivial hlt) j (by omega)
  · obtain ⟨ad, rfl, hc⟩ := hR.2.2 h0
    obtain ⟨v1, w1, hrun, ho, hg⟩ := run_append_arg_grows (P := P) (w := W) t ty e i0 z 1 1 ht hi hz0 hz1 hz2 hz (by decide) ⟨g, 0, none⟩ cs.length cs.length (encs (Value.int .u8) cs) (by rw [encs_length]; omega)
      (fun j u hu => by
        have hj : j < cs.length := by
          have := (List.getElem?_eq_some_iff.1 hu).1
          rwa [encs_length] at this
        rw [add_plain, hcell W rfl j (by omega), ← hu]
        simp [encs, List.getD, hj])
      ad m c (encs (Value.int .u8) ys) (by rw [encs_length]; omega)
      (fun j u hu => by
        have hj : j < ys.length := by
          have := (List.getElem?_eq_some_iff.1 hu).1
          rwa [encs_length] at this
        rw [hc j (by omega), ← hu]
        simp [encs, List.getD, hj])
      (by omega) (by simp only [maxLen]; omega) (by omega)
    refine ⟨v1, w1, hrun, ?_, hg⟩
    have hx : encs (Value.int .u8) cs ++ encs (Value.int .u8) ys = encs (Value.int .u8) (cs ++ ys) := by simp [encs]
    rw [hx, show cs.length + m = (cs ++ ys).length by rw [List.length_append, hm]] at ho
    exact R_V (R_of_own (h1 := fun _ => rfl) ho (fun _ _ => trivial))
theorem app_full {P : Program} {ops : Array Oper} {Q : Exit → Act → World → Prop} {rest : List Oper} {o : Oper} {a : Act} {W : World} (hgd : o.guard = none) (s x : Operand) (t e : TypeId) (z : Value)
    (ho : o.op = .call { callee := .builtin .append, args := #[s, x], argTypes := #[t, t] }) (ht : P.underlying t = some (.slice e)) (hinfo : (P.info? e).map (fun i => (i.zero, i.size, i.bytes)) = some (some z, 1, 1)) (hz : z.cells.size = 1)
    (g : Nat) (cs : List Int) (fr : Nat × Nat) (hs : a.eval s = .slice (some ⟨g, 0, none⟩) cs.length cs.length) (A : Option Addr) (m c : Nat) (ys : List Int) (hx : a.eval x = .slice A m c)
    (hblk : W.heap[g]? = some (.cells (cs.map (Value.int .u8)).toArray e fr)) (HR : (Kd.int .u8).C W A m ys) (hl : cs.length + m ≤ 140737488355328)
    (h : ∀ v1 w1, V (Kd.int .u8) e w1 W.heap.size (fun _ => True) v1 (cs ++ ys) → W.grownBy w1 none → wpList P ops Q rest (a.put o.dst v1) w1) : wpList P ops Q (o :: rest) a W := by
  obtain ⟨v1, w1, hr1, h1, hg⟩ := run_app_full (P := P) W t o.type e z ht hinfo hz g cs fr hblk A m c ys HR hl
  refine wpList_plain hgd fun K hK => ?_
  unfold Oper.wp execOp
  simp only [ho, resolve, invoke, builtin, Sem.run_bind, Sem.run_pure, Result.andThen_ok, List.map_toArray, List.map_cons, List.map_nil, hs, hx, hr1]
  exact hK _ _ (h v1 w1 h1 hg)
/-- The bytes of a constant text: some full row, marked. -/
theorem cst_row {e : TypeId} (a0 : List Int) (w : World) : CstCalls e a0 w fun en w' => ∃ v : Value, en = .returned v ∧ (∃ g, v = .slice (some ⟨g, 0, none⟩) a0.length a0.length ∧ w'.heap[g]? = some (.cells (a0.map (Value.int .u8)).toArray e (a0.length, a0.length + 1))) ∧ Below w.heap.size w w' :=
  ⟨_, rfl, ⟨w.heap.size, rfl, heap_alloc_mark w _ e _⟩, below_alloc (Below.refl _ _) _⟩
end Go.Proofs.YtkflgnhcfhmkdaaDoor.X
