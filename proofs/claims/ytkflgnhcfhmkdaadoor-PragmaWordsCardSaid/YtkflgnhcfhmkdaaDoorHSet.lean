/- A set of words of the call's own in a map, beside what was there when it was made; a text's bytes with a great Q at their head. -/
import Derived.Test.YtkflgnhcfhmkdaaDoorHPrag
namespace Go.Proofs.YtkflgnhcfhmkdaaDoor.H
open Go.RowKit Go.Proofs.YtkflgnhcfhmkdaaDoorW.PrintWords Go.Proofs.YtkflgnhcfhmkdaaDoorW.PrintLast Go.Proofs.YtkflgnhcfhmkdaaDoor.X
set_option linter.unusedVariables false
set_option linter.unusedSimpArgs false
/-- Block m is a map of its own, made behind W1; all that was in W1 is as it was. -/
structure TlS (W1 : World) (m : Nat) (ks : List ByteArray) (W : World) : Prop where
  bel : Below W1.heap.size W1 W
  hm : W1.heap.size ≤ m
  set : SetOf W m ks
theorem TlS.made (W1 : World) : TlS W1 W1.heap.size [] (W1.alloc (.map #[] 0)) := ⟨below_alloc (Below.refl _ _) _, Nat.le_refl _, SetOf.made W1⟩
theorem TlS.below {W1 W W' : World} {m : Nat} {ks : List ByteArray} (h : TlS W1 m ks W) (hb : Below W.heap.size W W') : TlS W1 m ks W' :=
  ⟨below_step h.bel hb, h.hm, h.set.kept (hb.block m h.set.lt)⟩
theorem TlS.put {W1 W : World} {m : Nat} {ks : List ByteArray} (h : TlS W1 m ks W) (hn : ks.length < 1000000000000) (s : ByteArray) (hs : s.size ≤ maxLen) :
    ∃ w', (Instr.mapUpdate mT (.map (some m)) (.string s) (.bool true)).run Tryd.prog W = .ok () w' ∧ TlS W1 m (ks ++ [s]) w' := by
  obtain ⟨w', k1, k2, k3⟩ := h.set.put hn s hs
  exact ⟨w', k1, ⟨pw_below_grown h.bel (some m) h.bel.size k3 (fun k e => by injection e with e; have := h.hm; omega), h.hm, k2⟩⟩
/-- A string's bytes, made: the walk goes on with the row itself. -/
theorem cv_raw {P : Program} {ops : Array Oper} {Q : Exit → Act → World → Prop} {rest : List Oper} {oi : Oper} {a : Act} {w : World} {N : Option Tmp} (hd : oi.dst = N) (hg : oi.guard = none) {src dst e : TypeId} {x : Operand} {s : ByteArray} {u : TypeDesc}
    (hop : oi.op = .convert src dst x) (hx : a.eval x = .string s) (hs : P.underlying src = some u) (hd' : P.underlying dst = some (.slice e)) (he : P.underlying e = some (.int .u8))
    (h : wpList P ops Q rest (a.put N (.slice (some ⟨w.heap.size, 0, none⟩) s.size (grownCap w s.size 0 e))) (Lib.bytesWorld w e s)) : wpList P ops Q (oi :: rest) a w := by
  refine wpList_plain hg fun K hK => ?_
  have hrun : (execOp a.eval oi).run P w = .ok (.value (.slice (some ⟨w.heap.size, 0, none⟩) s.size (grownCap w s.size 0 e))) (Lib.bytesWorld w e s) := by
    unfold execOp
    have := Lib.run_convert_string_bytes w src dst e s hs hd' he
    simp [hop, hx, this]
  unfold Oper.wp
  rw [hrun]
  subst hd
  exact hK _ _ h
/-- A word with a great Q at its head. -/
def qB (s : ByteArray) : ByteArray := strOfNums (81 :: (bytesOf s).drop 1)
/-- The row behind a conversion: block g of W is s's bytes. -/
def ByR (W : World) (g : Nat) (e : TypeId) (s : ByteArray) : Prop := ∃ w, g = w.heap.size ∧ W.heap[g]? = some (.cells (Lib.bytesCells w e s) e ((Lib.bytesCells w e s).size, (Lib.bytesCells w e s).size + 1))
theorem bytesCells_size (w : World) (e : TypeId) (s : ByteArray) : s.size ≤ (Lib.bytesCells w e s).size := by
  unfold Lib.bytesCells
  rw [Array.size_append, Array.size_map]
  exact Nat.le_add_right _ _
theorem bytesCells_get (w : World) (e : TypeId) (s : ByteArray) (j : Nat) (hj : j < s.size) : (Lib.bytesCells w e s)[j]? = some (.int .u8 ((bytesOf s).getD j 0)) := by
  rw [bytesOf_getD s j hj]
  have h2 : j < s.data.size := hj
  simp [Lib.bytesCells, Array.getElem?_append, List.getD, h2, hj]
theorem byR_made (w : World) (e : TypeId) (s : ByteArray) : ByR (Lib.bytesWorld w e s) w.heap.size e s := ⟨w, rfl, Lib.bytesWorld_at_new w e s⟩
theorem ByR.cell {W : World} {g : Nat} {e : TypeId} {s : ByteArray} (h : ByR W g e s) (hs : 0 < s.size) : W.cell? ⟨g, 0, none⟩ = some (.int .u8 ((bytesOf s).getD 0 0)) := by
  obtain ⟨w, _, h⟩ := h
  rw [← bytesCells_get w e s 0 hs]
  simp [World.cell?, h]
theorem ByR.frozen {W : World} {g : Nat} {e : TypeId} {s : ByteArray} (h : ByR W g e s) (hs : 0 < s.size) : W.frozen? ⟨g, 0, none⟩ = false := by
  obtain ⟨w, _, h⟩ := h
  have h0 := bytesCells_size w e s
  have h1 : decide ((Lib.bytesCells w e s).size ≤ 0) = false := decide_eq_false (by omega)
  simp only [World.frozen?, h, h1, Bool.false_and]
theorem TlS.drew1 {W1 W : World} {m : Nat} {ks : List ByteArray} (h : TlS W1 m ks W) : TlS W1 m ks W.drew := h.below (below_drew (Below.refl _ _))
theorem TlS.setNew {W1 W : World} {m g j : Nat} {ks : List ByteArray} (h : TlS W1 m ks W) (hg : m < g) (u : Value) : TlS W1 m ks (W.setCell ⟨g, j, none⟩ u) :=
  ⟨h.bel.setCell (show W1.heap.size ≤ g from Nat.le_trans h.hm (Nat.le_of_lt hg)) _, h.hm, h.set.kept (Below.heap_setCell W ⟨g, j, none⟩ u m (by show m ≠ g; omega))⟩
/-- .. and told by what lies there. -/
theorem cv_made {P : Program} {ops : Array Oper} {Q : Exit → Act → World → Prop} {rest : List Oper} {oi : Oper} {a : Act} {w : World} {N : Option Tmp} (hd : oi.dst = N) (hg : oi.guard = none) {src dst e : TypeId} {x : Operand} {s : ByteArray} {u : TypeDesc}
    (hop : oi.op = .convert src dst x) (hx : a.eval x = .string s) (hs : P.underlying src = some u) (hd' : P.underlying dst = some (.slice e)) (he : P.underlying e = some (.int .u8))
    (h : ∀ g c w5, g = w.heap.size → s.size ≤ c → ByR w5 g e s → Below w.heap.size w w5 → wpList P ops Q rest (a.put N (.slice (some ⟨g, 0, none⟩) s.size c)) w5) : wpList P ops Q (oi :: rest) a w :=
  cv_raw hd hg hop hx hs hd' he (h _ _ _ rfl (grownCap_ge _ _ _ _) (byR_made w e s) (bytesWorld_below w e s))
/-- A word of a row. -/
theorem str_at {w : World} {A : Option Addr} {n : Nat} {xs : List ByteArray} (h : Kd.string.C w A n xs) (i : Nat) (hi : i < n) : ∃ ad, A = some ad ∧ w.cell? (ad.add i) = some (.string (xs.getD i ByteArray.empty)) := by
  obtain ⟨ad, c, e, _, hK, hc⟩ := Kd.C_get h ByteArray.empty (i : Int) (by omega) (by omega)
  refine ⟨ad, e, ?_⟩
  rw [Int.toNat_natCast] at hK hc
  obtain rfl : c = [.string (xs.getD i ByteArray.empty)] := hK
  have := hc 0 _ rfl
  simpa [Kd.string, Kd.scalar] using this
/-- Behind the store of Q. -/
theorem ByR.stored {W : World} {g : Nat} {e : TypeId} {s : ByteArray} (h : ByR W g e s) (hs : 0 < s.size) (hb : s.size ≤ 140737488351232) :
    (Kd.int .u8).C (W.setCell ⟨g, 0, none⟩ (.int .u8 81)) (some ⟨g, 0, none⟩) s.size (81 :: (bytesOf s).drop 1) := by
  obtain ⟨w, hg, h⟩ := h
  have hl : (bytesOf s).length = s.size := bytesOf_length s
  have hl2 : (81 :: (bytesOf s).drop 1).length = s.size := by rw [List.length_cons, List.length_drop]; omega
  have h2 : (W.setCell ⟨g, 0, none⟩ (.int .u8 81)).heap[g]? = some (.cells ((Lib.bytesCells w e s).setIfInBounds 0 (.int .u8 81)) e ((Lib.bytesCells w e s).size, (Lib.bytesCells w e s).size + 1)) := by
    simp [World.setCell, Array.getElem?_modify, h]
  refine Kd.C_of_reads (enc := Value.int .u8) (d := (0 : Int)) (h1 := fun _ => rfl) ⟨hl2, by omega, fun hp => ⟨_, rfl, fun j hj => ?_⟩⟩
  rw [add_plain]
  have hc : (W.setCell ⟨g, 0, none⟩ (.int .u8 81)).cell? ⟨g, j, none⟩ = ((Lib.bytesCells w e s).setIfInBounds 0 (.int .u8 81))[j]? := by
    unfold World.cell?
    rw [h2]
    rfl
  rw [hc]
  have := bytesCells_size w e s
  cases j with
  | zero => rw [Array.getElem?_setIfInBounds_self_of_lt (by omega)]; rfl
  | succ j =>
    rw [Array.getElem?_setIfInBounds_ne (by omega), bytesCells_get w e s (j + 1) (by omega)]
    congr 2
    rw [List.getD_cons_succ, List.getD_eq_getElem?_getD, List.getD_eq_getElem?_getD, List.getElem?_drop, Nat.add_comm 1 j]
theorem ByR.q {W : World} {A : Option Addr} {n c : Nat} {s : ByteArray} {src dst e : TypeId} {P : Program} (hs : P.underlying src = some (.slice e)) (he : P.underlying e = some (.int .u8)) (hd : P.underlying dst = some .string)
    (h : (Kd.int .u8).C W A n (81 :: (bytesOf s).drop 1)) : (convert src dst (.slice A n c)).run P W = .ok (.string (qB s)) W := Kd.C_string hs he hd h
end Go.Proofs.YtkflgnhcfhmkdaaDoor.H
