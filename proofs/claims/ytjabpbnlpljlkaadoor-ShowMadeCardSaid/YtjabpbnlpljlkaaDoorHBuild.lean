/- Walk of our own: (*strings.Builder).copyCheck and WriteString at this door's numbering (after the shelf's walks of them; the loader refuses copyCheck's panic here, which nothing reaches). -/
import Derived.Test.YtjabpbnlpljlkaaDoorProg
import Derived.Test.YtjabpbnlpljlkaaDoorHM
import Derived.Lib.Strings
import Derived.Lib.Slices
import Derived.Lib.Walk
import Derived.Lib.Builder
import Derived.Lib.AppendStr
import Derived.Lib.UnsafeStr
import Derived.WalkKit
import Derived.Laws.Externs
namespace Go.Proofs.YtjabpbnlpljlkaaDoor.H
open Go.RowKit Go.Proofs.YtjabpbnlpljlkaaDoorW.PrintWords Go.Proofs.YtjabpbnlpljlkaaDoorW.PrintLast
set_option linter.unusedVariables false
set_option linter.unusedSimpArgs false

theorem szBuilder : (Tryd.prog.info? 73).map (·.size) = some 2 := by kernel_rfl
theorem liesBuilder : liesAt Tryd.prog Tryd.prog.depth 73 (2 / Tryd.prog.cellsOf 73) 0 73 1 = true := by kernel_rfl
theorem infoByte' : (Tryd.prog.info? 5).map (fun i => (i.zero, i.size, i.bytes)) = some (some (.int .u8 0), 1, 1) := by kernel_rfl

set_option maxHeartbeats 1000000 in
set_option maxRecDepth 100000 in
theorem copyCheck_used (b : Nat) (w : World) (h0 : w.cell? ⟨b, 0, none⟩ = some (.pointer (some ⟨b, 0, none⟩))) :
    Calls Tryd.prog 56 #[.pointer (some ⟨b, 0, none⟩)] w fun e w' => e = .returned (.tuple #[]) ∧ w' = w := by
  obtain ⟨j, hj, _⟩ := Option.map_eq_some_iff.1 szBuilder
  go_enter Tryd.func56, Tryd.ntmps56
  go_wp2
  rw [Lib.run_neq_ptr_same w _ Tryd.underlying71 hj]
  go_wp2
  go_end0
  exact ⟨rfl, rfl⟩

set_option maxHeartbeats 1000000 in
set_option maxRecDepth 100000 in
theorem copyCheck_fresh (b : Nat) (w : World) (h0 : w.cell? ⟨b, 0, none⟩ = some (.pointer none)) (hsh : w.shape? b = some (73, 2)) (hfz : w.frozen? ⟨b, 0, none⟩ = false) :
    Calls Tryd.prog 56 #[.pointer (some ⟨b, 0, none⟩)] w fun e w' => e = .returned (.tuple #[]) ∧ w' = w.setCell ⟨b, 0, none⟩ (.pointer (some ⟨b, 0, none⟩)) := by
  obtain ⟨j, hj, hjs⟩ := Option.map_eq_some_iff.1 szBuilder
  go_enter Tryd.func56, Tryd.ntmps56
  go_wp2
  rw [Lib.run_to_unsafe w ⟨b, 0, none⟩ Tryd.underlying71 Tryd.underlying125 hj (by rw [hjs]; decide) hsh (Nat.zero_lt_succ 1)]
  simp only [Result.andThen]
  rw [Oper.upon_value]
  go_wp2
  rw [run_callFunc_extern Tryd.func78 (by kernel_rfl) (by kernel_rfl) (by kernel_rfl) (e := Extern.AbiNoEscape.same) (by kernel_rfl)]
  rw [Lib.run_noEscape]
  simp only [Result.andThen]
  rw [Oper.upon_value]
  go_wp2
  rw [Lib.run_from_unsafe w ⟨b, 0, none⟩ Tryd.underlying125 Tryd.underlying71 hj hsh liesBuilder]
  simp only [Result.andThen]
  rw [Oper.upon_value]
  go_wp2
  go_end0
  exact ⟨rfl, rfl⟩

theorem heap_set (w : World) {g b : Nat} (hg : g ≠ b) (i : Nat) (u : Value) : (w.setCell ⟨b, i, none⟩ u).heap[g]? = w.heap[g]? := by
  simp [World.setCell, Array.getElem?_modify, Ne.symm hg]
theorem copyCheck (B b : Nat) (bs : List Value) (w : World) (h : Lib.IsBuilder 73 5 B b bs w) :
    Calls Tryd.prog 56 #[.pointer (some ⟨b, 0, none⟩)] w fun e w' => e = .returned (.tuple #[]) ∧ (Lib.BuilderAt 73 5 B b (.pointer (some ⟨b, 0, none⟩)) bs w' ∧ Below B w w' ∧ ∀ g, g ≠ b → w'.heap[g]? = w.heap[g]?) := by
  rcases h with h | h
  · refine (copyCheck_fresh b w h.cell0 h.shape h.frozen0).mono ?_
    rintro e w' ⟨rfl, rfl⟩
    exact ⟨rfl, h.used _, (Below.refl B w).setCell (p := ⟨b, 0, none⟩) h.1 _, fun g hg => heap_set w hg 0 _⟩
  · refine (copyCheck_used b w h.cell0).mono ?_
    rintro e w' ⟨rfl, rfl⟩
    exact ⟨rfl, h, Below.refl B _, fun _ _ => rfl⟩

set_option maxHeartbeats 2000000 in
set_option maxRecDepth 100000 in
theorem writeString (B b : Nat) (bs : List Value) (s : ByteArray) (w : World) (h : Lib.IsBuilder 73 5 B b bs w) (hlen : bs.length + s.size ≤ 140737488355328) (hBw : B ≤ w.heap.size) :
    Calls Tryd.prog 33 #[.pointer (some ⟨b, 0, none⟩), .string s] w fun e w' => e = .returned (.tuple #[.int .i64 s.size, .nilIface]) ∧ (Lib.BuilderAt 73 5 B b (.pointer (some ⟨b, 0, none⟩)) (bs ++ Lib.strCells s) w' ∧ Below B w w' ∧ ∀ (g : Nat) (cs : Array Value) (T : TypeId) (fr : Nat × Nat), g ≠ b → T ≠ 5 → w.heap[g]? = some (.cells cs T fr) → w'.heap[g]? = some (.cells cs T fr)) := by
  obtain ⟨i0, hi, hz0, hz1, hz2⟩ := info_parts infoByte'
  go_enter Tryd.func33, Tryd.ntmps33
  go_wp2_with (go_at_call 56; refine (copyCheck B b bs _ h).mono ?_)
  rintro e w1 ⟨rfl, h1, hb1, hk1⟩
  obtain ⟨hB, v, hbk, hown, hne⟩ := h1
  have c0 : w1.cell? ⟨b, 0, none⟩ = some (.pointer (some ⟨b, 0, none⟩)) := by rw [Lib.cell_of_heap hbk]; rfl
  have c1 : w1.cell? ⟨b, 1, none⟩ = some v := by rw [Lib.cell_of_heap hbk]; rfl
  go_wp2_with (at_builtin; refine Lib.wpList_append_own_string _ rfl _ _ 40 9 rfl B 5 i0 Tryd.underlying40 Tryd.underlying9 hi hz0 hz1 hz2 _ _ _ rfl hown s rfl ?c3 ?c4 ?c5 ?_)
  case c3 => unfold maxLen; omega
  case c4 => omega
  case c5 => have := hb1.size; omega
  intro v' w2 hown' hgrow _
  have hlt : b < w1.heap.size := by
    rcases Nat.lt_or_ge b w1.heap.size with h' | h'
    · exact h'
    · simp [Array.getElem?_eq_none h'] at hbk
  have hb2 : w2.heap[b]? = some (.cells #[.pointer (some ⟨b, 0, none⟩), v] 73 (0, 0)) := by
    rw [hgrow.block b hlt (fun e => hne e.symm)]
    exact hbk
  have d0 : w2.cell? ⟨b, 0, none⟩ = some (.pointer (some ⟨b, 0, none⟩)) := by rw [Lib.cell_of_heap hb2]; rfl
  have d1 : w2.cell? ⟨b, 1, none⟩ = some v := by rw [Lib.cell_of_heap hb2]; rfl
  have f1 : w2.frozen? ⟨b, 1, none⟩ = false := Lib.frozen_of_heap hb2 1
  obtain ⟨ao, n', cap, rfl⟩ : ∃ ao n' cap, v' = .slice ao n' cap := by
    rcases hown'.2 with ⟨hv, _⟩ | ⟨g, cap, cur, hv, _⟩
    · exact ⟨_, _, _, hv⟩
    · exact ⟨_, _, _, hv⟩
  go_wp2
  go_ret2
  refine ⟨rfl, ?_, ?_, ?_⟩
  · exact Lib.BuilderAt.put (T := 73) (e := 5) hB hb2 (bs' := bs ++ Lib.strCells s) (by simpa [Lib.strCells_length] using hown') (by decide)
  · exact (hb1.grown hgrow (by have := hb1.size; omega) (fun k hk => (hown.lt k hk).1)).setCell (p := ⟨b, 1, none⟩) hB _
  · intro g cs T fr hg hT hgb
    have e1 : w1.heap[g]? = some (.cells cs T fr) := (hk1 g hg).trans hgb
    have hlg : g < w1.heap.size := by
      rcases Nat.lt_or_ge g w1.heap.size with h' | h'
      · exact h'
      · simp [Array.getElem?_eq_none h'] at e1
    rw [heap_set _ hg, hgrow.block g hlg (fun e => Lib.ownBlock_ne hown e1 hT e.symm)]
    exact e1
/-- A builder that holds a string; the boxes that lie beside it. -/
def BOK (B b : Nat) (s : ByteArray) (gs : List Nat) (w : World) : Prop :=
  Lib.IsBuilder 73 5 B b (Lib.strCells s) w ∧ B ≤ w.heap.size ∧ ∀ g ∈ gs, g ≠ b ∧ ∃ cs T fr, w.heap[g]? = some (.cells cs T fr) ∧ T ≠ 5
theorem lt_of_blk {w : World} {g : Nat} {o : Obj} (h : w.heap[g]? = some o) : g < w.heap.size := by
  rcases Nat.lt_or_ge g w.heap.size with h' | h'
  · exact h'
  · simp [Array.getElem?_eq_none h'] at h
theorem at_move {B b : Nat} {p : Value} {bs : List Value} {w w' : World} (h : Lib.BuilderAt 73 5 B b p bs w) (hm : ∀ g o, w.heap[g]? = some o → (g = b ∨ ∃ cs fr, o = .cells cs 5 fr) → w'.heap[g]? = some o) : Lib.BuilderAt 73 5 B b p bs w' := by
  obtain ⟨hB, v, hb, hown, hne⟩ := h
  refine ⟨hB, v, hm b _ hb (.inl rfl), ⟨hown.1, ?_⟩, hne⟩
  rcases hown.2 with h0 | ⟨g, cap, cur, hv, h1, h2, h3⟩
  · exact .inl h0
  · exact .inr ⟨g, cap, cur, hv, h1, hm g _ h2 (.inr ⟨_, _, rfl⟩), h3⟩
theorem is_move {B b : Nat} {bs : List Value} {w w' : World} (h : Lib.IsBuilder 73 5 B b bs w) (hm : ∀ g o, w.heap[g]? = some o → (g = b ∨ ∃ cs fr, o = .cells cs 5 fr) → w'.heap[g]? = some o) : Lib.IsBuilder 73 5 B b bs w' :=
  h.imp (fun h => at_move h hm) (fun h => at_move h hm)
theorem BOK.below {B b : Nat} {s : ByteArray} {gs : List Nat} {w w' : World} (h : BOK B b s gs w) (hb : Below w.heap.size w w') : BOK B b s gs w' :=
  ⟨is_move h.1 fun g o hg _ => (hb.block g (lt_of_blk hg)).trans hg, Nat.le_trans h.2.1 hb.size, fun g hg => by
    obtain ⟨h1, cs, T, fr, h2, h3⟩ := h.2.2 g hg
    exact ⟨h1, cs, T, fr, (hb.block g (lt_of_blk h2)).trans h2, h3⟩⟩
theorem BOK.drew {B b : Nat} {s : ByteArray} {gs : List Nat} {w : World} (h : BOK B b s gs w) : BOK B b s gs w.drew := h.below (Below.drew (Below.refl _ _))
theorem BOK.drewN {B b : Nat} {s : ByteArray} {gs : List Nat} {w : World} (h : BOK B b s gs w) (n : Nat) : BOK B b s gs (w.drewN n) := h.below (pw_below_drewN (Below.refl _ _) n)
theorem BOK.alloc {B b : Nat} {s : ByteArray} {gs : List Nat} {w : World} (h : BOK B b s gs w) (o : Obj) : BOK B b s gs (w.alloc o) := h.below (below_alloc (Below.refl _ _) o)
theorem BOK.set {B b g : Nat} {s : ByteArray} {gs : List Nat} {w : World} (h : BOK B b s gs w) (hg : g ∈ gs) (i : Nat) (u : Value) : BOK B b s gs (w.setCell ⟨g, i, none⟩ u) := by
  obtain ⟨h1, cs, T, fr, h2, h3⟩ := h.2.2 g hg
  refine ⟨is_move h.1 fun k o hk hko => ?_, by simpa [World.setCell] using h.2.1, fun k hk => ?_⟩
  · have hne : k ≠ g := by
      rintro rfl
      rcases hko with rfl | ⟨cs', fr', rfl⟩
      · exact h1 rfl
      · have := h2.symm.trans hk
        simp at this
        exact h3 this.2.1
    rw [heap_set w hne]
    exact hk
  · obtain ⟨k1, cs', T', fr', k2, k3⟩ := h.2.2 k hk
    by_cases hkg : k = g
    · subst hkg
      refine ⟨k1, cs'.set! i u, T', fr', ?_, k3⟩
      simp [World.setCell, Array.getElem?_modify, k2]
    · exact ⟨k1, cs', T', fr', (heap_set w hkg i u).trans k2, k3⟩
theorem BOK.box {B b g : Nat} {s : ByteArray} {gs : List Nat} {w w' : World} {cs : Array Value} {T : TypeId} {fr : Nat × Nat} (h : BOK B b s gs w) (hb : Below w.heap.size w w') (hg : g = w.heap.size) (hbox : w'.heap[g]? = some (.cells cs T fr)) (hT : T ≠ 5) : BOK B b s (g :: gs) w' := by
  have h' := h.below hb
  refine ⟨h'.1, h'.2.1, fun k hk => ?_⟩
  rcases List.mem_cons.1 hk with rfl | hk
  · refine ⟨?_, cs, T, fr, hbox, hT⟩
    have hlt : b < w.heap.size := by rcases h.1 with h0 | h0 <;> exact h0.lt
    omega
  · exact h'.2.2 k hk
theorem BOK.tail {B b g : Nat} {s : ByteArray} {gs : List Nat} {w : World} (h : BOK B b s (g :: gs) w) : BOK B b s gs w := ⟨h.1, h.2.1, fun k hk => h.2.2 k (List.mem_cons_of_mem _ hk)⟩
theorem BOK.fresh {B b : Nat} {w : World} (hB : B ≤ b) (hs : B ≤ w.heap.size) (hb : w.heap[b]? = some (.cells #[.pointer none, .slice none 0 0] 73 (0, 0))) : BOK B b ⟨#[]⟩ [] w :=
  ⟨.inl ⟨hB, .slice none 0 0, hb, World.ownsRow_nil _ _ _ _, by simp [Value.ownBlock]⟩, hs, by simp⟩
theorem strCells_app (s t : ByteArray) : Lib.strCells (s ++ t) = Lib.strCells s ++ Lib.strCells t := by
  simp [Lib.strCells]
theorem writeB (B b : Nat) (s t : ByteArray) (gs : List Nat) (w : World) (h : BOK B b s gs w) (hlen : s.size + t.size ≤ 140737488355328) :
    Calls Tryd.prog 33 #[.pointer (some ⟨b, 0, none⟩), .string t] w fun e w' => e = .returned (.tuple #[.int .i64 t.size, .nilIface]) ∧ BOK B b (s ++ t) gs w' ∧ Below B w w' ∧ ∀ (g : Nat) (cs : Array Value) (T : TypeId) (fr : Nat × Nat), g ≠ b → T ≠ 5 → w.heap[g]? = some (.cells cs T fr) → w'.heap[g]? = some (.cells cs T fr) := by
  refine (writeString B b _ t w h.1 (by rw [Lib.strCells_length]; exact hlen) h.2.1).mono ?_
  rintro e w' ⟨rfl, h1, h2, h3⟩
  refine ⟨rfl, ⟨by rw [strCells_app]; exact .inr h1, Nat.le_trans h.2.1 h2.size, fun g hg => ?_⟩, h2, h3⟩
  obtain ⟨k1, cs, T, fr, k2, k3⟩ := h.2.2 g hg
  exact ⟨k1, cs, T, fr, h3 g cs T fr k1 k3 k2, k3⟩
end Go.Proofs.YtjabpbnlpljlkaaDoor.H
