/- A map of words told as an opaque pointer is: made, asked, stored into; what else is there stays as it was. -/
import Derived.Test.YtnmngglfeiifaaaGreatDoorHList
import Derived.Maps.OwnOps
namespace Go.Proofs.YtnmngglfeiifaaaGreatDoor.H
open Go.RowKit Go.Proofs.YtnmngglfeiifaaaGreatDoorW.PrintWords Go.Proofs.YtnmngglfeiifaaaGreatDoorW.PrintLast Go.Proofs.YtnmngglfeiifaaaGreatDoor.X
set_option linter.unusedVariables false
set_option linter.unusedSimpArgs false
/-- What a map leads to: its words. -/
def MpP : Pd ByteArray := fun w v ws => ∃ m, v = .map (some m) ∧ SetOf w m ws
/-- A map made, told as a call is. -/
def MkCalls (w : World) (Q : Ending → World → Prop) : Prop := Q (.returned (.map (some w.heap.size))) (w.alloc (.map #[] 0))
theorem MkCalls.mono {w : World} {Q Q' : Ending → World → Prop} (h : MkCalls w Q) (hq : ∀ en w', Q en w' → Q' en w') : MkCalls w Q' := hq _ _ h
theorem mk_goes {P : Program} {ops : Array Oper} {Q : Exit → Act → World → Prop} {rest : List Oper} {oi : Oper} {a : Act} {w : World} {N : Option Tmp} (hd : oi.dst = N) (hg : oi.guard = none) {t : TypeId} (hop : oi.op = .makeMap t none)
    (h : MkCalls w fun en w' => ∃ v, en = .returned v ∧ wpList P ops Q rest (a.put N v) w') : wpList P ops Q (oi :: rest) a w := by
  refine wpList_plain hg fun K hK => ?_
  obtain ⟨v, hv, hr⟩ := h
  injection hv with hv
  subst hv
  have hrun : (execOp a.eval oi).run P w = .ok (.value (.map (some w.heap.size))) (w.alloc (.map #[] 0)) := by
    unfold execOp
    have := @run_makeMap P t w
    simp [hop, this]
  unfold Oper.wp
  rw [hrun]
  subst hd
  exact hK _ _ hr
theorem map_foot {w : World} {m : Nat} {ws : List ByteArray} {e base : Nat} (ok : Nat → Prop) (hm : ok m) (h : SetOf w m ws) : Kd.P MpP e w base ok (.map (some m)) ws :=
  fun W' hW => ⟨m, rfl, h.kept (hW m hm h.lt)⟩
theorem map_made {e : Nat} (r : List ByteArray) (w : World) (h : (some [] : Option (List ByteArray)) = some r) :
    MkCalls w fun en w' => ∃ m : Nat, en = .returned (.map (some m)) ∧ w.heap.size ≤ m ∧ Kd.P MpP e w' w.heap.size (fun k_ => (w.heap.size ≤ k_)) (.map (some m)) r ∧ Below w.heap.size w w' := by
  obtain rfl := Option.some.inj h
  exact ⟨_, rfl, Nat.le_refl _, map_foot _ (Nat.le_refl _) (SetOf.made w), below_alloc (Below.refl _ _) _⟩
/-- A word asked, told as a call is. -/
def LkCalls (P : Program) (t : TypeId) (u : Value) (s : ByteArray) (w : World) (Q : Ending → World → Prop) : Prop := ∃ b, (Instr.lookup t u (.string s) false).run P w = .ok (.bool b) w ∧ Q (.returned (.bool b)) w
theorem LkCalls.mono {P : Program} {t : TypeId} {u : Value} {s : ByteArray} {w : World} {Q Q' : Ending → World → Prop} (h : LkCalls P t u s w Q) (hq : ∀ en w', Q en w' → Q' en w') : LkCalls P t u s w Q' := by
  obtain ⟨b, h1, h2⟩ := h
  exact ⟨b, h1, hq _ _ h2⟩
theorem look_goes {P : Program} {ops : Array Oper} {Q : Exit → Act → World → Prop} {rest : List Oper} {oi : Oper} {a : Act} {w : World} {N : Option Tmp} (hd : oi.dst = N) (hg : oi.guard = none) {t : TypeId} {mo xo : Operand} {u : Value} {s : ByteArray}
    (hop : oi.op = .lookup t mo xo false) (hm : a.eval mo = u) (hx : a.eval xo = .string s)
    (h : LkCalls P t u s w fun en w' => ∃ v, en = .returned v ∧ wpList P ops Q rest (a.put N v) w') : wpList P ops Q (oi :: rest) a w := by
  refine wpList_plain hg fun K hK => ?_
  obtain ⟨b, hrun, v, hv, hr⟩ := h
  injection hv with hv
  subst hv
  unfold Oper.wp
  simp [execOp, hop, hm, hx, hrun, Result.andThen]
  subst hd
  exact hK _ _ hr
theorem map_looked (u : Value) (l : List ByteArray) (s : ByteArray) (r : Bool) (w : World) (hs : MpP w u l) (h : (if s.size ≤ 140737488351232 then some (hasW l s) else none) = some r) :
    LkCalls Tryz.prog mT u s w fun en w' => en = .returned (.bool r) ∧ Drawn0 w w' := by
  split at h
  case isFalse => cases h
  case isTrue hz =>
  obtain rfl := Option.some.inj h
  obtain ⟨m, rfl, hS⟩ := hs
  exact ⟨_, hS.look s (by unfold maxLen; omega), rfl, Drawn0.refl _⟩
/-- A word stored, told as a call is. -/
def UpCalls (P : Program) (t : TypeId) (u : Value) (s : ByteArray) (w : World) (Q : World → Prop) : Prop := ∃ w', (Instr.mapUpdate t u (.string s) (.bool true)).run P w = .ok () w' ∧ Q w'
theorem UpCalls.mono {P : Program} {t : TypeId} {u : Value} {s : ByteArray} {w : World} {Q Q' : World → Prop} (h : UpCalls P t u s w Q) (hq : ∀ w', Q w' → Q' w') : UpCalls P t u s w Q' := by
  obtain ⟨b, h1, h2⟩ := h
  exact ⟨b, h1, hq _ h2⟩
theorem up_goes {P : Program} {ops : Array Oper} {Q : Exit → Act → World → Prop} {rest : List Oper} {oi : Oper} {a : Act} {w : World} (hd : oi.dst = none) (hg : oi.guard = none) {t : TypeId} {mo xo vo : Operand} {u : Value} {s : ByteArray}
    (hop : oi.op = .mapUpdate t mo xo vo) (hm : a.eval mo = u) (hx : a.eval xo = .string s) (hv : a.eval vo = .bool true)
    (h : UpCalls P t u s w fun w' => wpList P ops Q rest a w') : wpList P ops Q (oi :: rest) a w := by
  refine wpList_plain hg fun K hK => ?_
  obtain ⟨w', hrun, hr⟩ := h
  unfold Oper.wp
  simp [execOp, hop, hm, hx, hv, hrun, Result.andThen]
  refine hK _ _ ?_
  rw [hd]
  exact hr
/-- The world behind a store into the map m. -/
structure MPut (m : Nat) (w w' : World) : Prop where
  grown : w.grownBy w' (some m)
  map : ∃ es clock, w.heap[m]? = some (.map es clock)
theorem map_put (m : Nat) (l : List ByteArray) (s : ByteArray) (r : List ByteArray) (w : World) (hs : MpP w (.map (some m)) l) (h : (if l.length < 1000000000000 then (if s.size ≤ 140737488351232 then some (l ++ [s]) else none) else none) = some r) :
    UpCalls Tryz.prog mT (.map (some m)) s w fun w' => SetOf w' m r ∧ MPut m w w' := by
  split at h
  case isFalse => cases h
  case isTrue hn =>
  split at h
  case isFalse => cases h
  case isTrue hz =>
  obtain rfl := Option.some.inj h
  obtain ⟨m', he, hS⟩ := hs
  injection he with he
  injection he with he
  subst he
  obtain ⟨w', h1, h2, h3⟩ := hS.put hn s (by unfold maxLen; omega)
  exact ⟨w', h1, h2, h3, hS.is_map⟩
section
variable {m : Nat} {w w' : World} (h : MPut m w w')
include h
theorem MPut.ne_cells {k : Nat} {cs : Array Value} {q : TypeId} {f : Nat × Nat} (hb : w.heap[k]? = some (.cells cs q f)) : k ≠ m := by
  rintro rfl
  obtain ⟨es, clock, hm⟩ := h.map
  rw [hm] at hb
  cases hb
theorem MPut.blk {k : Nat} {cs : Array Value} {q : TypeId} {f : Nat × Nat} (hb : w.heap[k]? = some (.cells cs q f)) : w'.heap[k]? = some (.cells cs q f) :=
  (h.grown.block k (Array.getElem?_eq_some_iff.1 hb).1 (fun e => h.ne_cells hb (by injection e))).trans hb
theorem MPut.R {α : Type} {d : Kd α} {e base : Nat} {ok : Nat → Prop} {v : Value} {xs : List α} (hr : Kd.R d e w base ok v xs) : Kd.R d e w' base ok v xs :=
  Kd.R_mono (Kd.R_grown (Kd.R_bound hr) h.grown (fun k hk e => by
    injection e with e
    obtain ⟨_, _, _, q, _, cells, hc⟩ := hk
    exact h.ne_cells hc e)) (fun _ hk => hk.1)
theorem MPut.S {α : Type} {d : Kd α} {e base : Nat} {ok : Nat → Prop} {v : Value} {xs : List α} (hr : Kd.S d e w base ok v xs) : Kd.S d e w' base ok v xs :=
  Kd.S_mono (Kd.S_grown (Kd.S_bound hr) h.grown (fun k hk e => by
    injection e with e
    obtain ⟨_, _, _, q, _, cells, hc⟩ := hk
    exact h.ne_cells hc e)) (fun _ hk => hk.1)
theorem MPut.neR {α : Type} {d : Kd α} {e base : Nat} {ok : Nat → Prop} {v : Value} {xs : List α} (hr : Kd.R d e w base ok v xs) : some m ≠ v.ownBlock := fun he => by
  obtain ⟨cells, hc⟩ := Kd.R_typed hr m he.symm
  exact h.ne_cells hc rfl
theorem MPut.neS {α : Type} {d : Kd α} {e base : Nat} {ok : Nat → Prop} {v : Value} {xs : List α} (hr : Kd.S d e w base ok v xs) : some m ≠ v.ownBlock := fun he => by
  obtain ⟨cells, hc⟩ := Kd.S_typed hr m he.symm
  exact h.ne_cells hc rfl
theorem MPut.below {B : Nat} {w0 : World} (hb : Below B w0 w) (hm : B ≤ m) (hB : B ≤ w.heap.size) : Below B w0 w' := pw_below_grown hb (some m) hB h.grown (fun k e => by injection e with e; omega)
end
end Go.Proofs.YtnmngglfeiifaaaGreatDoor.H
