/- What package pragma leans on: strings.Cut, TrimLeft, IndexFunc at this door; a set of words in a map; the rules that a pointer leads to. -/
import Derived.Test.YtkflgnhcfhmkdaaDoorHShelfP
import Derived.Test.YtkflgnhcfhmkdaaDoorHLines2
import Derived.Maps.OwnOps
import Derived.Maps.Views
import Derived.StringKeys
namespace Go.Proofs.YtkflgnhcfhmkdaaDoor.H
open Go.RowKit Go.Proofs.YtkflgnhcfhmkdaaDoorW.PrintWords Go.Proofs.YtkflgnhcfhmkdaaDoorW.PrintLast Go.Proofs.YtkflgnhcfhmkdaaDoor.X
open Go.Maps (Keyed)
set_option linter.unusedVariables false
set_option linter.unusedSimpArgs false

/-- The one variable of Go's library that is read: some number. -/
def Laid (w : World) : Prop := ∃ m : Int, w.cell? ⟨0, 0, none⟩ = some (.int .i64 m)
theorem Laid.below {w w' : World} (h : Laid w) (hb : Below w.heap.size w w') : Laid w' := by
  obtain ⟨m, hm⟩ := h
  exact ⟨m, pw_cell_below hb hm⟩
theorem Laid.step {w0 w w' : World} (h : Laid w0) (hb : Below w0.heap.size w0 w) : Laid w := h.below hb
theorem laid_shaped {w : World} (h : w.ShapedOpen Tryd.prog) : Laid w := L.laysM145.s1_3 w h
/-! ### strings.Cut -/
def cutB (s sep : ByteArray) : ByteArray × ByteArray × Bool := (⟨(Lib.cut s.data.toList sep.data.toList).1.toArray⟩, ⟨(Lib.cut s.data.toList sep.data.toList).2.1.toArray⟩, (Lib.cut s.data.toList sep.data.toList).2.2)
theorem cut_at (s sep : ByteArray) (w : World) (hs : s.size < 4294967281) (hL : Laid w) :
    Calls Tryd.prog 27 #[.string s, .string sep] w fun e w' => e = .returned (.tuple #[.string (cutB s sep).1, .string (cutB s sep).2.1, .bool (cutB s sep).2.2]) ∧ Drawn0 w w' := by
  obtain ⟨m, hm⟩ := hL
  refine (L.strings_Cut s sep m w hs hm).mono ?_
  rintro e w' ⟨he, n, hn⟩
  exact ⟨he, ⟨⟨n, hn⟩⟩⟩
/-! ### strings.TrimLeft at a blank, a tab, a comma -/
def trimB (s : ByteArray) : ByteArray := ⟨(Lib.trimLeftS s.data.toList [32, 9, 44]).toArray⟩
theorem trim_at (s : ByteArray) (w : World) :
    Calls Tryd.prog 28 #[.string s, .string ⟨#[32, 9, 44]⟩] w fun e w' => e = .returned (.string (trimB s)) ∧ Below w.heap.size w w' :=
  Any.strings_TrimLeft_laid L.lays161 (by kernel_rfl) s ⟨#[32, 9, 44]⟩ w (by decide) (ascii_of_all (by decide))
theorem trimB_size (s : ByteArray) : (trimB s).size ≤ s.size := by
  have h : (Lib.trimLeftS s.data.toList [32, 9, 44]).length ≤ s.data.toList.length := by
    unfold Lib.trimLeftS
    exact (List.dropWhile_suffix _).length_le
  have e : (trimB s).size = (Lib.trimLeftS s.data.toList [32, 9, 44]).length := by show (Lib.trimLeftS s.data.toList [32, 9, 44]).toArray.size = _; rw [List.size_toArray]
  have e2 : s.data.toList.length = s.size := by rw [Array.length_toList]; rfl
  omega
/-! ### strings.IndexFunc -/
theorem index_at (g : Nat) (p : Nat → Bool) (s : ByteArray) (w : World) (eg : ∀ args w, (callFunc g args).run Tryd.prog w = .ok (.enter g args) w) (hp : ∀ (W : World) (x : Nat), Calls Tryd.prog g #[.int .i32 (x : Int)] W fun e w' => e = .returned (.bool (p x)) ∧ Drawn0 W w') :
    Calls Tryd.prog 29 #[.string s, .func (.func g) #[] #[]] w fun e w' => e = .returned (.int .i64 (Lib.idxFunc p true s)) ∧ Below w.heap.size w w' := by
  refine L.strings_IndexFunc_grows g #[] eg p s w ?_
  intro W x _ _
  refine (hp W x).mono ?_
  rintro e w' ⟨he, ⟨n, rfl⟩⟩
  exact ⟨he, pw_below_drewN (Below.refl _ _) n⟩
/-! ### a set of words -/
abbrev mT : TypeId := 43
theorem keyS : Keyed Tryd.prog 9 := Maps.string_keyed Tryd.underlying9
theorem zeroB (w : World) : (zeroValue 4).run Tryd.prog w = .ok (.bool false) w := Tryd.zeroValue4 w
/-- Is a word among some? -/
def hasW (ws : List ByteArray) (s : ByteArray) : Bool := ws.any fun t => t.toList == s.toList
/-- Block b is a map in which just the words of ws are true. -/
def SetOf (w : World) (b : Nat) (ws : List ByteArray) : Prop :=
  ∃ D : DataW Unit, w.ownsMap Tryd.prog 9 (plainElem Tryd.prog 4) b ws.length D ∧ Maps.IsMap D ∧ ∀ s : ByteArray, D.atKey (.string s.data.toList) (.lit (.bool false)) = .lit (.bool (hasW ws s))
theorem SetOf.kept {w w' : World} {b : Nat} {ws : List ByteArray} (h : SetOf w b ws) (hk : w'.heap[b]? = w.heap[b]?) : SetOf w' b ws := by
  obtain ⟨D, ⟨es, clock, hb, h2⟩, h3⟩ := h
  exact ⟨D, ⟨es, clock, hk.trans hb, h2⟩, h3⟩
theorem SetOf.is_map {w : World} {b : Nat} {ws : List ByteArray} (h : SetOf w b ws) : ∃ es clock, w.heap[b]? = some (.map es clock) := by
  obtain ⟨D, ⟨es, clock, hb, _⟩, _⟩ := h
  exact ⟨es, clock, hb⟩
theorem SetOf.lt {w : World} {b : Nat} {ws : List ByteArray} (h : SetOf w b ws) : b < w.heap.size := by
  obtain ⟨es, clock, hb⟩ := h.is_map
  exact (Array.getElem?_eq_some_iff.1 hb).1
theorem SetOf.made (w : World) : SetOf (w.alloc (.map #[] 0)) w.heap.size [] :=
  ⟨.map [], World.ownsMap_made w _ _ _, ⟨[], rfl⟩, fun s => rfl⟩
theorem SetOf.put {w : World} {b : Nat} {ws : List ByteArray} (h : SetOf w b ws) (hn : ws.length < 1000000000000) (s : ByteArray) (hs : s.size ≤ maxLen) :
    ∃ w', (Instr.mapUpdate mT (.map (some b)) (.string s) (.bool true)).run Tryd.prog w = .ok () w' ∧ SetOf w' b (ws ++ [s]) ∧ w.grownBy w' (some b) := by
  obtain ⟨D, hown, hm, hat⟩ := h
  obtain ⟨w', h1, h2, h3⟩ := hown.update keyS Tryd.underlying43 (by unfold maxLen; omega) (WideMaps.keyOf_string_mk Tryd.underlying9 hs) (plainElem_bool Tryd.underlying4 true)
  refine ⟨w', h1, ⟨_, by rw [List.length_append]; exact h2, hm.put _ _, fun t => ?_⟩, h3⟩
  have hw : hasW (ws ++ [s]) t = (hasW ws t || (s.toList == t.toList)) := by
    unfold hasW
    rw [List.any_append]
    simp
  rw [hw]
  by_cases e : s.toList = t.toList
  · have e2 : t = s := by
      rw [ByteArray.toList_eq, ByteArray.toList_eq] at e
      cases s; cases t
      simp only [ByteArray.mk.injEq]
      exact (Array.toList_inj.1 e).symm
    subst e2
    rw [Maps.atKey_put_same hm (show WideAt.IsKeyLit (.string t.data.toList) from trivial)]
    simp
  · rw [Maps.atKey_put_other (by
      intro he
      injection he with he
      exact e (by rw [ByteArray.toList_eq, ByteArray.toList_eq, he])), hat t, beq_eq_false_iff_ne.2 e, Bool.or_false]
theorem plainBool_inv {P : Program} {e : TypeId} (he : P.underlying e = some .bool) {v : Value} {b : Bool} {ps : List MemPlace} (h : plainElem (H := Unit) P e v = some (.lit (.bool b), ps)) : v = .bool b := by
  unfold plainElem at h
  rw [he] at h
  cases v <;> simp at h
  rw [h.1]
theorem SetOf.look {w : World} {b : Nat} {ws : List ByteArray} (h : SetOf w b ws) (s : ByteArray) (hs : s.size ≤ maxLen) : (Instr.lookup mT (.map (some b)) (.string s) false).run Tryd.prog w = .ok (.bool (hasW ws s)) w := by
  obtain ⟨D, hown, hm, hat⟩ := h
  obtain ⟨v, ps, hrun, hv⟩ := hown.lookup keyS Tryd.underlying43 (zeroB w) (plainElem_bool Tryd.underlying4 false) (WideMaps.keyOf_string_mk Tryd.underlying9 hs)
  rw [hat s] at hv
  rw [hrun]
  rw [plainBool_inv Tryd.underlying4 hv]
/-! ### the rules -/
structure RlT where
  off : List (Int × Int)
  words : List ByteArray
def kSp : Kd (Int × Int) := Kd.pair (Kd.int .i64) (Kd.int .i64)
theorem at_kSp {w : World} {A : Option Addr} {n : Nat} {xs : List (Int × Int)} (h : Kd.C kSp w A n xs) (i : Nat) (h1 : i < n) : ∃ ad, A = some ad ∧ w.cell? (ad.add (i * 2)) = some (.int .i64 (xs.getD i (0, 0)).1) ∧ w.cell? ⟨(ad.add (i * 2)).block, (ad.add (i * 2)).off + 1, none⟩ = some (.int .i64 (xs.getD i (0, 0)).2) := by
  obtain ⟨ad, c, e, _, hK, hc0⟩ := Kd.C_get h ((0 : Int), (0 : Int)) (i : Int) (by omega) (by omega)
  have hc : ∀ j u, c[j]? = some u → w.cell? (ad.add (i * 2 + j)) = some u := by rw [Int.toNat_natCast] at hc0; exact hc0
  rw [Int.toNat_natCast] at hK
  obtain ⟨_, _, rfl, rfl, rfl⟩ := hK
  exact ⟨ad, e, hc 0 _ rfl, by rw [← add_field _ _ 1 (by omega)]; exact hc 1 _ rfl⟩
abbrev rT : TypeId := 48
/-- What a pointer to rules leads to. -/
def RlP : Pd RlT := fun w v xs => (v = .pointer none ∧ xs = []) ∨ ∃ r g m A c, v = .pointer (some ⟨g, 0, none⟩) ∧ xs = [r] ∧ w.heap[g]? = some (.cells #[.slice A r.off.length c, .map (some m)] rT (0, 0)) ∧ r.off.length ≤ c ∧ Kd.C kSp w A r.off.length r.off ∧ SetOf w m r.words
/-- Rules that are being made: blocks below C, but for g and m, are as they were in w1. -/
structure RlSt (g m B C : Nat) (w1 : World) (off : List (Int × Int)) (ws : List ByteArray) (w0 w : World) : Prop where
  row : ∃ A c, w.heap[g]? = some (.cells #[.slice A off.length c, .map (some m)] rT (0, 0)) ∧ kSp.R 40 w w0.heap.size (fun k => B ≤ k) (.slice A off.length c) off
  set : SetOf w m ws
  bel : Below w0.heap.size w0 w
  hg : w0.heap.size ≤ g
  hm : w0.heap.size ≤ m
  hB : C ≤ w.heap.size
  same : ∀ k, k < C → k ≠ g → k ≠ m → w.heap[k]? = w1.heap[k]?
section
variable {g m B C : Nat} {off : List (Int × Int)} {ws : List ByteArray} {w1 w0 w w' : World}
theorem RlSt.below (h : RlSt g m B C w1 off ws w0 w) (hb : Below w.heap.size w w') : RlSt g m B C w1 off ws w0 w' := by
  obtain ⟨⟨A, c, h1, h2⟩, h3, h4, h5, h6, h7, h8⟩ := h
  exact ⟨⟨A, c, (hb.block g (Array.getElem?_eq_some_iff.1 h1).1).trans h1, Kd.R_below h2 hb⟩, h3.kept (hb.block m h3.lt), below_then h4 (below_size h4) hb, h5, h6, Nat.le_trans h7 hb.size, fun k hk e1 e2 => (hb.block k (by omega)).trans (h8 k hk e1 e2)⟩
theorem RlSt.drew1 (h : RlSt g m B C w1 off ws w0 w) : RlSt g m B C w1 off ws w0 w.drew := h.below (below_drew (Below.refl _ _))
theorem RlSt.cell1 (h : RlSt g m B C w1 off ws w0 w) : w.cell? ⟨g, 1, none⟩ = some (.map (some m)) := by
  obtain ⟨⟨A, c, h1, _⟩, _⟩ := h
  exact (cell_of_heap h1 1).trans rfl
theorem RlSt.ne (h : RlSt g m B C w1 off ws w0 w) : g ≠ m := by
  obtain ⟨⟨A, c, h1, h2⟩, h3, _⟩ := h
  obtain ⟨es, clock, hm⟩ := h3.is_map
  rintro rfl
  rw [h1] at hm
  cases hm
/-- A word is stored. -/
theorem RlSt.put (h : RlSt g m B C w1 off ws w0 w) (hn : ws.length < 1000000000000) (s : ByteArray) (hs : s.size ≤ maxLen) :
    ∃ w', (Instr.mapUpdate mT (.map (some m)) (.string s) (.bool true)).run Tryd.prog w = .ok () w' ∧ RlSt g m B C w1 off (ws ++ [s]) w0 w' := by
  have hne := h.ne
  obtain ⟨⟨A, c, h1, h2⟩, h3, h4, h5, h6, h7, h8⟩ := h
  obtain ⟨es, clock, hm⟩ := h3.is_map
  obtain ⟨w', k1, k2, k3⟩ := h3.put hn s hs
  refine ⟨w', k1, ⟨A, c, (k3.block g (Array.getElem?_eq_some_iff.1 h1).1 (fun e => hne (by injection e))).trans h1, ?_⟩, k2, pw_below_grown h4 (some m) h4.size k3 (fun k e => by injection e with e; omega), h5, h6, Nat.le_trans h7 k3.size, fun k hk e1 e2 => (k3.block k (by omega) (fun e => e2 (by injection e))).trans (h8 k hk e1 e2)⟩
  refine Kd.R_mono (Kd.R_grown (Kd.R_bound h2) k3 (fun k hk e => ?_)) (fun _ hk => hk.1)
  injection e with e
  subst e
  obtain ⟨_, _, _, q, _, cells, hc⟩ := hk
  rw [hm] at hc
  cases hc
/-- A span is appended: behind the append, ahead of the store. -/
theorem RlSt.pushed (hCB : C ≤ B) {A A1 : Option Addr} {c c1 n1 : Nat} {off1 : List (Int × Int)} (h : RlSt g m B C w1 off ws w0 w) (hx : w.cell? ⟨g, 0, none⟩ = some (.slice A off.length c)) (ho : kSp.R 40 w' w0.heap.size (fun k => B ≤ k) (.slice A1 n1 c1) off1) (hn : n1 = off1.length) (hb : Below w0.heap.size w0 w') (hg : w.grownBy w' (Value.slice A off.length c).ownBlock) :
    w'.heap[g]? = some (.cells #[.slice A off.length c, .map (some m)] rT (0, 0)) ∧ RlSt g m B C w1 off1 ws w0 (w'.setCell ⟨g, 0, none⟩ (.slice A1 n1 c1)) := by
  subst hn
  have hne := h.ne
  obtain ⟨⟨A', c', h1, h2⟩, h3, h4, h5, h6, h7, h8⟩ := h
  have e := (cell_of_heap h1 0).symm.trans hx
  have e2 : (#[Value.slice A' off.length c', Value.map (some m)] : Array Value)[0]? = some (Value.slice A' off.length c') := rfl
  rw [e2] at e
  injection e with e
  injection e with e3 _ e4
  subst e3
  subst e4
  obtain ⟨es, clock, hm⟩ := h3.is_map
  have hk0 := blk_grown h1 hg (Kd.R_ne h2 h1 (by decide))
  have hrow : ∀ k, (Value.slice A' off.length c').ownBlock = some k → B ≤ k := h2.1
  have hm2 : w'.heap[m]? = w.heap[m]? := hg.block m h3.lt (fun e => by
    obtain ⟨cells, hc⟩ := Kd.R_typed h2 m e.symm
    rw [hm] at hc
    cases hc)
  refine ⟨hk0, ⟨A1, c1, blk_put hk0 0 _ rfl, Kd.R_set ho hk0 (by decide) 0 _⟩, (h3.kept hm2).kept (Below.heap_setCell w' _ _ m hne.symm), hb.setCell h5 _, h5, h6, by simpa using Nat.le_trans h7 hg.size, fun k hk e1 e2 => ?_⟩
  exact (Below.heap_setCell w' _ _ k e1).trans ((hg.block k (by omega) (fun e => by have := hrow k e.symm; omega)).trans (h8 k hk e1 e2))
/-- Told of what lies there now. -/
theorem RlSt.again (h : RlSt g m B C w1 off ws w0 w) : RlSt g m B w.heap.size w off ws w0 w := ⟨h.row, h.set, h.bel, h.hg, h.hm, Nat.le_refl _, fun _ _ _ _ => rfl⟩
theorem RlSt.since {off' : List (Int × Int)} {ws' : List ByteArray} (h : RlSt g m B C w1 off ws w0 w) (k : RlSt g m B w.heap.size w off' ws' w0 w') : RlSt g m B C w1 off' ws' w0 w' :=
  ⟨k.row, k.set, k.bel, h.hg, h.hm, Nat.le_trans h.hB k.hB, fun i hi e1 e2 => (k.same i (Nat.lt_of_lt_of_le hi h.hB) e1 e2).trans (h.same i hi e1 e2)⟩
/-- A block of another type. -/
theorem RlSt.keepB {off' : List (Int × Int)} {ws' : List ByteArray} {b t : Nat} {cs : Array Value} (h0 : RlSt g m B C w1 off ws w0 w) (h : RlSt g m B w.heap.size w off' ws' w0 w') (hb : w.heap[b]? = some (.cells cs t (0, 0))) (ht : t ≠ rT) : w'.heap[b]? = some (.cells cs t (0, 0)) := by
  obtain ⟨⟨A, c, h1, h2⟩, h3, _⟩ := h0
  obtain ⟨es, clock, hm⟩ := h3.is_map
  refine (h.same b (Array.getElem?_eq_some_iff.1 hb).1 ?_ ?_).trans hb
  · rintro rfl
    rw [h1] at hb
    injection hb with hb
    injection hb with _ hb _
    exact ht hb.symm
  · rintro rfl
    rw [hm] at hb
    cases hb
theorem RlSt.keepR {off' : List (Int × Int)} {ws' : List ByteArray} {α : Type} {d : Kd α} {e base : Nat} {v : Value} {xs : List α} (h0 : RlSt g m B C w1 off ws w0 w) (h : RlSt g m B w.heap.size w off' ws' w0 w') (hr : d.R e w base (fun _ => True) v xs) (ht : ∀ q, q ∈ e :: d.E → q ≠ rT) : d.R e w' base (fun _ => True) v xs := by
  refine Kd.R_mono (Kd.R_step (Kd.R_bound hr) (fun k hk hlt => ?_)) (fun _ _ => trivial)
  obtain ⟨_, _, _, q, hq, cells, hc⟩ := hk
  exact (h0.keepB h hc (ht q hq)).trans hc.symm
end
end Go.Proofs.YtkflgnhcfhmkdaaDoor.H
