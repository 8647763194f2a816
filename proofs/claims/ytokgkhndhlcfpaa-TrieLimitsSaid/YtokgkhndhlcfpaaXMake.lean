/- make([]T, n) where n is of another integer type than int. -/
import Derived.Test.YtokgkhndhlcfpaaXWords
import Derived.Test.YtokgkhndhlcfpaaWWords
namespace Go.Proofs.Ytokgkhndhlcfpaa.X
open Go.RowKit Go.Proofs.YtokgkhndhlcfpaaW.PrintWords Go.Proofs.YtokgkhndhlcfpaaW.PrintLast Go.Proofs.YtokgkhndhlcfpaaW.PrintMore
set_option linter.unusedVariables false
set_option linter.unusedSimpArgs false
section
variable {P : Program} {ops : Array Oper} {rest : List Oper} {o : Oper} {a : Act} {Q : Exit → Act → World → Prop} {α : Type}
theorem R_makeK {kk : IntKind} (d : Go.Proofs.YtokgkhndhlcfpaaW.PrintWords.Kd α) {w0 W : World} (base e : Nat) (hgd : o.guard = none) {N : Tmp} (hd : o.dst = some N) (t : TypeId) (x y : Operand) (ho : o.op = .makeSlice t x y) (n : Int) (hx : a.eval x = .int kk n) (hy : a.eval y = .int kk n)
    (ht : P.underlying t = some (.slice e)) (z : Value) (bytes : Nat) (hinfo : (P.info? e).map (fun i => (i.zero, i.size, i.bytes)) = some (some z, d.sz, bytes)) (hz : z.cells.size = d.sz) (hs0 : 0 < d.sz) (hb0 : 0 < bytes)
    (z0 : α) {ok okp : Nat → Prop} (hzero : d.M W base okp z0 z.cells.toList) (hok : ∀ k, okp k → ok k) (hfresh : ok W.heap.size) (h0 : 0 ≤ n) (hl : n.toNat * bytes ≤ 281474976710656) (HB : Below base w0 W) (hbase : base ≤ W.heap.size)
    (h : ∀ v1 w1, d.R e w1 base ok v1 (List.replicate n.toNat z0) → Below base w0 w1 → W.grownBy w1 none → (∃ b, v1.ownBlock = some b ∧ W.heap.size ≤ b) → wpList P ops Q rest (a.put o.dst v1) w1) : wpList P ops Q (o :: rest) a W := by
  obtain ⟨m, rfl⟩ := Int.eq_ofNat_of_zero_le h0
  simp only [Int.toNat_natCast] at hl h
  obtain ⟨i, hi, hq⟩ := Option.map_eq_some_iff.1 hinfo
  simp only [Prod.mk.injEq] at hq
  have hm : m ≤ 281474976710656 := Nat.le_trans (Nat.le_mul_of_pos_right _ hb0) hl
  have hby : (i.bytes : Int) * (m : Int) ≤ 281474976710656 := by
    have h3 : ((i.bytes * m : Nat) : Int) ≤ 281474976710656 := by rw [hq.2.2, Nat.mul_comm]; omega
    rwa [Int.natCast_mul] at h3
  have hr := run_make (P := P) W t e i z ht hi hq.1 kk kk (m : Int) (m : Int) (by omega) (by omega) hby (by omega)
  simp only [Int.toNat_natCast] at hr
  rw [hq.2.1] at hr
  refine Go.Proofs.YtokgkhndhlcfpaaW.PrintWords.Kd.R_lit d base e hgd hd (xs := List.replicate m z0) (inner := (madeCells z.cells (m * d.sz)).toList) (okp := okp) (ok := ok) ?_ (Go.Proofs.YtokgkhndhlcfpaaW.PrintWords.Kd.reps_made hz hs0 hzero m) hok hfresh HB hbase (by simp; omega) h
  simp [execOp, ho, hx, hy, hr]
end
end Go.Proofs.Ytokgkhndhlcfpaa.X
