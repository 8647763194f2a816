/- What package lists leans on: strings.Cut at this door; a set of words in a map. -/
import Derived.Test.YtnmngglfeiifaaaGreatDoorHShelfG
import Derived.Test.YtnmngglfeiifaaaGreatDoorHLines2
import Derived.Maps.OwnOps
import Derived.Maps.Views
import Derived.StringKeys
namespace Go.Proofs.YtnmngglfeiifaaaGreatDoor.H
open Go.RowKit Go.Proofs.YtnmngglfeiifaaaGreatDoorW.PrintWords Go.Proofs.YtnmngglfeiifaaaGreatDoorW.PrintLast Go.Proofs.YtnmngglfeiifaaaGreatDoor.X
open Go.Maps (Keyed)
set_option linter.unusedVariables false
set_option linter.unusedSimpArgs false

/-- The one variable of Go's library that is read: some number. -/
def Laid (w : World) : Prop := ∃ m : Int, w.cell? ⟨1, 0, none⟩ = some (.int .i64 m)
theorem Laid.below {w w' : World} (h : Laid w) (hb : Below w.heap.size w w') : Laid w' := by
  obtain ⟨m, hm⟩ := h
  exact ⟨m, pw_cell_below hb hm⟩
theorem Laid.step {w0 w w' : World} (h : Laid w0) (hb : Below w0.heap.size w0 w) : Laid w := h.below hb
theorem laid_shaped {w : World} (h : w.ShapedOpen Tryz.prog) : Laid w := L.laysM145.s1_3 w h
/-! ### strings.Cut -/
def cutB (s sep : ByteArray) : ByteArray × ByteArray × Bool := (⟨(Lib.cut s.data.toList sep.data.toList).1.toArray⟩, ⟨(Lib.cut s.data.toList sep.data.toList).2.1.toArray⟩, (Lib.cut s.data.toList sep.data.toList).2.2)
theorem cut_at (s sep : ByteArray) (w : World) (hs : s.size < 4294967281) (hL : Laid w) :
    Calls Tryz.prog 43 #[.string s, .string sep] w fun e w' => e = .returned (.tuple #[.string (cutB s sep).1, .string (cutB s sep).2.1, .bool (cutB s sep).2.2]) ∧ Drawn0 w w' := by
  obtain ⟨m, hm⟩ := hL
  refine (L.strings_Cut s sep m w hs hm).mono ?_
  rintro e w' ⟨he, n, hn⟩
  exact ⟨he, ⟨⟨n, hn⟩⟩⟩
/-! ### a set of words -/
abbrev mT : TypeId := 62
theorem keyS : Keyed Tryz.prog 9 := Maps.string_keyed Tryz.underlying9
theorem zeroB (w : World) : (zeroValue 4).run Tryz.prog w = .ok (.bool false) w := Tryz.zeroValue4 w
/-- Is a word among some? -/
def hasW (ws : List ByteArray) (s : ByteArray) : Bool := ws.any fun t => t.toList == s.toList
/-- Block b is a map in which just the words of ws are true. -/
def SetOf (w : World) (b : Nat) (ws : List ByteArray) : Prop :=
  ∃ D : DataW Unit, w.ownsMap Tryz.prog 9 (plainElem Tryz.prog 4) b ws.length D ∧ Maps.IsMap D ∧ ∀ s : ByteArray, D.atKey (.string s.data.toList) (.lit (.bool false)) = .lit (.bool (hasW ws s))
theorem SetOf.kept {w w' : World} {b : Nat} {ws : List ByteArray} (h : SetOf w b ws) (hk : w'.heap[b]? = w.heap[b]?) : SetOf w' b ws := by
  obtain ⟨D, ⟨es, clock, hb, h2⟩, h3⟩ := h
  exact ⟨D, ⟨es, clock, hk.trans hb, h2⟩, h3⟩
theorem SetOf.is_map {w : World} {b : Nat} {ws : List ByteArray} (h : SetOf w b ws) : ∃ es clock, w.heap[b]? = some (.map es clock) := by
  obtain ⟨D, ⟨es, clock, hb, _⟩, _⟩ := h
  exact ⟨es, clock, hb⟩
theorem SetOf.lt {w : World} {b : Nat} {ws : List ByteArray} (h : SetOf w b ws) : b < w.heap.size := by
  obtain ⟨es, clock, hb⟩ := h.is_map
  exact (Array.getElem?_eq_some_iff.1 hb).1
theorem SetOf.made (w : World) : SetOf (w.alloc (.map #[] 0)) w.heap.size [] :=
  ⟨.map [], World.ownsMap_made w _ _ _, ⟨[], rfl⟩, fun s => rfl⟩
theorem SetOf.put {w : World} {b : Nat} {ws : List ByteArray} (h : SetOf w b ws) (hn : ws.length < 1000000000000) (s : ByteArray) (hs : s.size ≤ maxLen) :
    ∃ w', (Instr.mapUpdate mT (.map (some b)) (.string s) (.bool true)).run Tryz.prog w = .ok () w' ∧ SetOf w' b (ws ++ [s]) ∧ w.grownBy w' (some b) := by
  obtain ⟨D, hown, hm, hat⟩ := h
  obtain ⟨w', h1, h2, h3⟩ := hown.update keyS Tryz.underlying62 (by unfold maxLen; omega) (WideMaps.keyOf_string_mk Tryz.underlying9 hs) (plainElem_bool Tryz.underlying4 true)
  refine ⟨w', h1, ⟨_, by rw [List.length_append]; exact h2, hm.put _ _, fun t => ?_⟩, h3⟩
  have hw : hasW (ws ++ [s]) t = (hasW ws t || (s.toList == t.toList)) := by
    unfold hasW
    rw [List.any_append]
    simp
  rw [hw]
  by_cases e : s.toList = t.toList
  · have e2 : t = s := by
      rw [ByteArray.toList_eq, ByteArray.toList_eq] at e
      cases s; cases t
      simp only [ByteArray.mk.injEq]
      exact (Array.toList_inj.1 e).symm
    subst e2
    rw [Maps.atKey_put_same hm (show WideAt.IsKeyLit (.string t.data.toList) from trivial)]
    simp
  · rw [Maps.atKey_put_other (by
      intro he
      injection he with he
      exact e (by rw [ByteArray.toList_eq, ByteArray.toList_eq, he])), hat t, beq_eq_false_iff_ne.2 e, Bool.or_false]
theorem plainBool_inv {P : Program} {e : TypeId} (he : P.underlying e = some .bool) {v : Value} {b : Bool} {ps : List MemPlace} (h : plainElem (H := Unit) P e v = some (.lit (.bool b), ps)) : v = .bool b := by
  unfold plainElem at h
  rw [he] at h
  cases v <;> simp at h
  rw [h.1]
theorem SetOf.look {w : World} {b : Nat} {ws : List ByteArray} (h : SetOf w b ws) (s : ByteArray) (hs : s.size ≤ maxLen) : (Instr.lookup mT (.map (some b)) (.string s) false).run Tryz.prog w = .ok (.bool (hasW ws s)) w := by
  obtain ⟨D, hown, hm, hat⟩ := h
  obtain ⟨v, ps, hrun, hv⟩ := hown.lookup keyS Tryz.underlying62 (zeroB w) (plainElem_bool Tryz.underlying4 false) (WideMaps.keyOf_string_mk Tryz.underlying9 hs)
  rw [hat s] at hv
  rw [hrun]
  rw [plainBool_inv Tryz.underlying4 hv]
end Go.Proofs.YtnmngglfeiifaaaGreatDoor.H
