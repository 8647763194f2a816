/- A constant's row of one byte, ahead of the conversion that marks it and behind it; and what is appended to it: steps of a region of mixed orders. -/
import Derived.Test.YtekalnhackjldaaDoorHM
import Derived.Test.YtekalnhackjldaaDoorWAll
namespace Go.Proofs.YtekalnhackjldaaDoor.X
open Go.RowKit Go.Proofs.YtekalnhackjldaaDoorW.PrintWords Go.Proofs.YtekalnhackjldaaDoorW.PrintLast Go.Proofs.YtekalnhackjldaaDoorW.PrintMore
set_option linter.unusedVariables false
set_option linter.unusedSimpArgs false

/-- A row of one byte in a block of its own, marked or not. -/
def LitRow (e : TypeId) (w : World) (base : Nat) (ok : Nat → Prop) (v : Value) (c : Int) : Prop :=
  ∃ g fz, v = .slice (some ⟨g, 0, none⟩) 1 1 ∧ base ≤ g ∧ ok g ∧ w.heap[g]? = some (.cells #[.int .u8 c] e fz)
section
variable {e : TypeId} {W w1 : World} {base : Nat} {ok ok' : Nat → Prop} {u v v1 : Value} {c : Int}
theorem LitRow.mono (h : LitRow e W base ok v c) (hk : ∀ k, ok k → ok' k) : LitRow e W base ok' v c := by
  obtain ⟨g, fz, h1, h2, h3, h4⟩ := h
  exact ⟨g, fz, h1, h2, hk g h3, h4⟩
theorem LitRow.lower {b : Nat} (h : LitRow e W base ok v c) (hb : b ≤ base) : LitRow e W b ok v c := by
  obtain ⟨g, fz, h1, h2, h3, h4⟩ := h
  exact ⟨g, fz, h1, Nat.le_trans hb h2, h3, h4⟩
theorem LitRow.base_ (h : LitRow e W base ok v c) : ∀ k, v.ownBlock = some k → base ≤ k := by
  obtain ⟨g, fz, rfl, h2, h3, h4⟩ := h
  intro k hk
  have : g = k := by simpa [Value.ownBlock] using hk
  omega
theorem LitRow.lt (h : LitRow e W base ok v c) : ∀ k, v.ownBlock = some k → k < W.heap.size := by
  obtain ⟨g, fz, rfl, h2, h3, h4⟩ := h
  intro k hk
  have : g = k := by simpa [Value.ownBlock] using hk
  subst this
  exact (Array.getElem?_eq_some_iff.1 h4).1
theorem LitRow.elder (h : LitRow e W base ok u c) (hbase : ∀ k, v.ownBlock = some k → W.heap.size ≤ k) (hb : Below W.heap.size W w1) : LitRow e w1 base (fun k => ok k ∧ some k ≠ v.ownBlock) u c := by
  have hl := h.lt
  obtain ⟨g, fz, rfl, h2, h3, h4⟩ := h
  have hg := hl g rfl
  exact ⟨g, fz, rfl, h2, ⟨h3, fun he => by have := hbase g he.symm; omega⟩, by rw [hb.block g hg]; exact h4⟩
theorem LitRow.after (h : LitRow e W base (fun k => ok k ∧ some k ≠ v.ownBlock) u c) (hg : W.grownBy w1 v.ownBlock) (hat : v1.ownBlock = v.ownBlock ∨ ∃ b, v1.ownBlock = some b ∧ W.heap.size ≤ b) : LitRow e w1 base (fun k => ok k ∧ some k ≠ v1.ownBlock) u c := by
  have hl := h.lt
  obtain ⟨g, fz, rfl, h2, ⟨h3, h5⟩, h4⟩ := h
  have hgl := hl g rfl
  refine ⟨g, fz, rfl, h2, ⟨h3, ?_⟩, by rw [hg.block g hgl h5]; exact h4⟩
  rcases hat with hat | ⟨b, hb, hle⟩
  · rw [hat]; exact h5
  · rw [hb]
    intro he
    injection he with he
    omega
theorem LitRow.new_ (h : LitRow e w1 W.heap.size ok v c) (hlt : ∀ k, u.ownBlock = some k → k < W.heap.size) : LitRow e w1 W.heap.size (fun k => ok k ∧ some k ≠ u.ownBlock) v c := by
  obtain ⟨g, fz, h1, h2, h3, h4⟩ := h
  exact ⟨g, fz, h1, h2, ⟨h3, fun he => by have := hlt g he.symm; omega⟩, h4⟩
end
section
variable {P : Program} {ops : Array Oper} {o : Oper} {a : Act} {Q : Exit → Act → World → Prop} {Kc : Act → World → Prop}
theorem lit_one_step {w0 W : World} (base e : Nat) (hw : Region.wanted o (yielded ops a.tmps) = true) {c : Int} {ok : Nat → Prop}
    (hrun : (execOp a.eval o).run P W = .ok (.value (.slice (some ⟨W.heap.size, 0, none⟩) 1 1)) (W.alloc (.cells #[.int .u8 c] e)))
    (hfresh : ok W.heap.size) (HB : Below base w0 W) (hbase : base ≤ W.heap.size)
    (h : ∀ v1 w1, LitRow e w1 W.heap.size ok v1 c → Below base w0 w1 → Below W.heap.size W w1 → Kc (a.put o.dst v1) w1) : if Region.wanted o (yielded ops a.tmps) = true then Oper.wp P o a W Kc Q else Kc (a.put o.dst undef) W :=
  event_step hw hrun (h _ _ ⟨W.heap.size, (0, 0), rfl, Nat.le_refl _, hfresh, heap_alloc_mark W _ e (0, 0)⟩ (HB.alloc hbase _) (below_alloc (Below.refl _ _) _))
theorem mark_step {w0 W : World} (base : Nat) (hw : Region.wanted o (yielded ops a.tmps) = true) {t e : TypeId} {x : Operand} {v : Value} {c : Int} {ok : Nat → Prop}
    (hop : o.op = .convert t t x) (hx : a.eval x = v) (HL : LitRow e W base ok v c) (ht : P.underlying t = some (.slice e)) (he : P.underlying e = some (.int .u8)) (HB : Below base w0 W) (hbase : base ≤ W.heap.size)
    (h : ∀ w1, LitRow e w1 base ok v c → Below base w0 w1 → W.grownBy w1 v.ownBlock → Kc (a.put o.dst v) w1) : if Region.wanted o (yielded ops a.tmps) = true then Oper.wp P o a W Kc Q else Kc (a.put o.dst undef) W := by
  obtain ⟨g, fz, rfl, h2, h3, h4⟩ := HL
  have hg : g < W.heap.size := (Array.getElem?_eq_some_iff.1 h4).1
  have hsh : W.shape? g = some (e, 1) := by
    unfold World.shape?
    rw [h4]
    rfl
  have hrun : (execOp a.eval o).run P W = .ok (.value (.slice (some ⟨g, 0, none⟩) 1 1)) (W.freeze ⟨g, 1, none⟩ 1) := by
    unfold execOp
    simp [hop, hx, convert, run_underlying ht, run_underlying he, markStringish, hsh]
  have hob : ∀ k, k ≠ g → (W.freeze ⟨g, 1, none⟩ 1).heap[k]? = W.heap[k]? := by
    intro k hk
    unfold World.freeze
    rw [if_neg (by decide)]
    simp only [Array.getElem?_modify]
    rw [if_neg (fun e => hk e.symm)]
  have hng : ∃ fz', (W.freeze ⟨g, 1, none⟩ 1).heap[g]? = some (.cells #[.int .u8 c] e fz') := by
    unfold World.freeze
    rw [if_neg (by decide)]
    simp only [Array.getElem?_modify]
    rw [if_pos trivial, h4]
    exact ⟨_, rfl⟩
  have hsz : (W.freeze ⟨g, 1, none⟩ 1).heap.size = W.heap.size := by
    unfold World.freeze
    rw [if_neg (by decide)]
    simp
  obtain ⟨fz', hng⟩ := hng
  have hgr : W.grownBy (W.freeze ⟨g, 1, none⟩ 1) (some g) := ⟨rfl, rfl, rfl, by rw [hsz]; exact Nat.le_refl _, fun k _ hk => hob k (fun e => hk (by rw [e]))⟩
  exact event_step hw hrun (h _ ⟨g, fz', rfl, h2, h3, hng⟩ (HB.grown hgr hbase (fun k hk => by injection hk with hk; omega)) hgr)
theorem append_lit_step {Rr : Int → List Value → Prop} {w0 W : World} (base : Nat) (hw : Region.wanted o (yielded ops a.tmps) = true) (s x : Operand) (t e : TypeId)
    (ho : o.op = .call { callee := .builtin .append, args := #[s, x], argTypes := #[t, t] })
    (ht : P.underlying t = some (.slice e)) (hinfo : (P.info? e).map (fun i => (i.zero, i.size, i.bytes)) = some (some (.int .u8 0), 1, 1))
    (v : Value) (c : Int) (ys : List Int) (A : Option Addr) (m cp : Nat) (ok : Nat → Prop) (hs : a.eval s = v) (hx : a.eval x = .slice A m cp)
    (HL : LitRow e W base ok v c) (HR : ReadsRow Rr 1 W A m ys) (hKM : ∀ x cs, Rr x cs → cs = [.int .u8 x]) (hm0 : 0 < m) (hfresh : ∀ k, W.heap.size ≤ k → ok k)
    (HB : Below base w0 W) (hbase : base ≤ W.heap.size) (hl : 1 + m ≤ 140737488355328)
    (h : ∀ v1 w1, (Kd.int .u8).R e w1 base ok v1 ([c] ++ ys) → Below base w0 w1 → W.grownBy w1 v.ownBlock → (v1.ownBlock = v.ownBlock ∨ ∃ b, v1.ownBlock = some b ∧ W.heap.size ≤ b) → Kc (a.put o.dst v1) w1) :
    if Region.wanted o (yielded ops a.tmps) = true then Oper.wp P o a W Kc Q else Kc (a.put o.dst undef) W := by
  obtain ⟨i0, hi, hzz⟩ := Option.map_eq_some_iff.1 hinfo
  simp only [Prod.mk.injEq] at hzz
  obtain ⟨hz0, hz1, hz2⟩ := hzz
  have hm : ys.length = m := HR.1
  obtain ⟨g, fz, rfl, h2, h3, h4⟩ := HL
  rcases A with _ | ad
  · obtain ⟨ad, h, _⟩ := HR.2.2 hm0
    cases h
  obtain ⟨news, hnr, hnc⟩ := ReadsRow.inner_ HR
  have hnM : Reps (fun p cs => cs = [Value.int .u8 p]) 1 ys news := hnr.imp_ (fun p cs hp => hKM p cs hp)
  have hone : ∀ u ∈ news, u.oneCell' = true := by
    intro u hu
    obtain ⟨q, hq, rfl⟩ := List.mem_iff_getElem.1 hu
    have hql : q < ys.length := by have := hnM.1; omega
    have hc := hnM.2 q _ (List.getElem?_eq_getElem hql)
    have h5 : (news.drop (q * 1)).take 1 = [news[q]] := by
      rw [Nat.mul_one, List.drop_eq_getElem_cons hq]
      rfl
    rw [h5] at hc
    injection hc with hc
    rw [hc]
    rfl
  obtain ⟨v1, w1, hrun, hown, hg⟩ := run_append_arg_grows (P := P) W t o.type e i0 (.int .u8 0) 1 1 ht hi hz0 hz1 hz2 rfl (by decide) ⟨g, 0, none⟩ 1 1 [.int .u8 c] rfl (fun j u hj => by
    rcases j with _ | j
    · have hu : Value.int .u8 c = u := by simpa using hj
      subst hu
      show W.cell? ((⟨g, 0, none⟩ : Addr).add 0) = _
      rw [show (⟨g, 0, none⟩ : Addr).add 0 = ⟨g, 0, none⟩ from rfl, cell_of_row W g 0 _ e fz h4]
      rfl
    · simp at hj) ad m cp news (by rw [hnM.1, hm]) hnc (by omega) (by simp only [maxLen]; omega) (by omega)
  have hfr : ∀ k, v1.ownBlock = some k → W.heap.size ≤ k := own_base hown
  rw [if_pos hw]
  unfold Oper.wp execOp
  simp only [ho, resolve, invoke, builtin, Sem.run_bind, Sem.run_pure, Result.andThen_ok, List.map_toArray, List.map_cons, List.map_nil, hs, hx, hrun]
  have hat : ∃ b, v1.ownBlock = some b ∧ W.heap.size ≤ b := by
    rcases hown.2 with ⟨_, hn⟩ | ⟨b, cap, cur, hv, hb, _⟩
    · omega
    · exact ⟨b, by rw [hv]; rfl, hb⟩
  have hg2 : W.grownBy w1 (some g) := ⟨hg.os, hg.tape, hg.output, hg.size, fun k hk _ => hg.block k hk (by simp)⟩
  have hr : Reps (fun p cs => cs = [Value.int .u8 p]) 1 ([c] ++ ys) ([.int .u8 c] ++ news) := Kd.reps_append (Reps.one rfl (Reps.none _ _)) hnM
  refine h v1 w1 ⟨fun k hk => hfresh k (hfr k hk), [.int .u8 c] ++ news, ?_, Reps.imp_ (R' := (Kd.int .u8).M w1 base (fun k => ok k ∧ some k ≠ v1.ownBlock)) hr (fun p cs hp => hp)⟩ (HB.grown hg2 hbase (fun k hk => by injection hk with hk; omega)) hg2 (.inr hat)
  have h5 := own_weaken hown hbase
  simp only [List.length_append, List.length_singleton, hm]
  exact h5
end
theorem R_cast {α : Type} {d : Go.Proofs.YtekalnhackjldaaDoorW.PrintWords.Kd α} {e base : Nat} {ok : Nat → Prop} {W : World} {v : Value} {xs ys : List α} (h : d.R e W base ok v xs) (he : xs = ys) : d.R e W base ok v ys := he ▸ h
end Go.Proofs.YtekalnhackjldaaDoor.X
