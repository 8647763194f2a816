/- Words beside the print's: what a statement's argument is, kind by kind: an argument of a type is told by the print's kinds (for rows of laws whose parameters the print does not take). -/
import Derived.Test.YtnmngglfeiifaaaGreatDoorHM
import Derived.Deep.Slices
import Derived.SizedLaws
import Derived.ChangeSlices
import Derived.ChangeArms
namespace Go.Proofs.YtnmngglfeiifaaaGreatDoor.X
open Go.RowKit Go.ChangeShapes Go.WideShapes Go.Proofs.YtnmngglfeiifaaaGreatDoorW.PrintWords Go.Proofs.YtnmngglfeiifaaaGreatDoorW.PrintLast Go.Proofs.YtnmngglfeiifaaaGreatDoorW.PrintMore
set_option linter.unusedVariables false

theorem choose_list {α : Type} {Q : Nat → α → Prop} : ∀ n, (∀ i, i < n → ∃ p, Q i p) → ∃ l : List α, l.length = n ∧ ∀ j p, l[j]? = some p → Q j p
  | 0, _ => ⟨[], rfl, fun j p h => by simp at h⟩
  | n + 1, h => by
    obtain ⟨l, hl, hq⟩ := choose_list n (fun i hi => h i (by omega))
    obtain ⟨p, hp⟩ := h n (by omega)
    refine ⟨l ++ [p], by simp [hl], fun j q hj => ?_⟩
    rw [List.getElem?_append] at hj
    split at hj
    · exact hq j q hj
    · have : j = n := by
        have := (List.getElem?_eq_some_iff.1 hj).1
        simp at this
        omega
      subst this
      simp [hl] at hj
      subst hj
      exact hp
/-- Type t's arguments are told by kind d; each is as wf says. -/
structure TK {α : Type} (P : Program) (t : TypeId) (d : Kd α) (wf : α → Prop) : Prop where
  sz : P.cellsOf t = d.sz
  op : ∀ {H : Type} {enc : TypeId × Value → H} {W : World} {base : Nat} {sp : Nat → Bool} {held : Bool} {fuel : Nat} {cs : List Value} {x : DataW H × List MemPlace}, DataW.trod enc P W base sp held fuel t cs = some x → ∃ a, d.K W a cs ∧ wf a
section
variable {α β : Type} {P : Program} {t e : TypeId} {d : Kd α} {wf : α → Prop} {d' : Kd β} {wf' : β → Prop}
theorem TK.int {k : IntKind} (ht : P.underlying t = some (.int k)) (hs : P.cellsOf t = 1) : TK P t (Kd.int k) (fun n => (Lit.int k n).wf = true) :=
  ⟨hs, fun h => by obtain ⟨n, rfl, _, hw⟩ := DataW.trod_int ht h; exact ⟨n, rfl, hw⟩⟩
theorem TK.bool (ht : P.underlying t = some .bool) (hs : P.cellsOf t = 1) : TK P t Kd.bool (fun _ => True) :=
  ⟨hs, fun h => by obtain ⟨n, rfl, _⟩ := DataW.trod_bool ht h; exact ⟨n, rfl, trivial⟩⟩
theorem TK.string (ht : P.underlying t = some .string) (hs : P.cellsOf t = 1) : TK P t Kd.string (fun s => s.size ≤ maxLen) :=
  ⟨hs, fun {_ _ _ _ _ _ fuel cs x} h => by
    cases fuel with
    | zero => simp [DataW.trod] at h
    | succ n =>
      rw [DataW.trod_step] at h
      unfold DataW.trodStep at h
      simp only [ht] at h
      split at h
      all_goals first | (rename_i he; simp at he; done) | skip
      all_goals first
        | (rename_i s _; split at h
           · rename_i hs; exact ⟨s, rfl, hs⟩
           · simp at h)
        | (simp at h)⟩
theorem TK.slice (ht : P.underlying t = some (.slice e)) (hs : P.cellsOf t = 1) (h : TK P e d wf) : TK P t (Kd.slice e d) (fun l => l.length ≤ maxLen ∧ ∀ x ∈ l, wf x) :=
  ⟨hs, fun {_ _ W _ _ _ fuel cs x} hx => by
    rcases Go.Deep.open_slice ht hx with ⟨rfl, _⟩ | ⟨a, len, cap, m, n, D, Pl, rfl, hb, hl, hm, hmm, rfl, hel⟩
    · exact ⟨[], ⟨none, 0, rfl, Nat.le_refl _, rfl, by simp, fun h => absurd h (Nat.lt_irrefl 0)⟩, by simp, by simp⟩
    · have hlm : len ≤ m := by rw [hmm]; split <;> omega
      obtain ⟨l, hll, hq⟩ := choose_list (Q := fun i p => ∃ c : List Value, c.length = d.sz ∧ d.K W p c ∧ wf p ∧ ∀ j u, c[j]? = some u → W.cell? (a.add (i * d.sz + j)) = some u) len (fun i hi => by
        obtain ⟨c, h1, h2⟩ := hel i (by omega)
        obtain ⟨p, hK, hw⟩ := h.op h2
        obtain ⟨_, hlen, hc⟩ := World.cells?_some h1
        rw [h.sz] at hc hlen
        refine ⟨p, c, hlen, hK, hw, fun j u hj => ?_⟩
        have := hc j (by have := (List.getElem?_eq_some_iff.1 hj).1; omega)
        rw [add_add, hj] at this
        exact this)
      subst hll
      refine ⟨l, ⟨some a, cap, rfl, hl, rfl, Nat.le_trans hl hm, fun _ => ⟨a, rfl, fun j p hj => ?_⟩⟩, Nat.le_trans hl hm, fun x hx => ?_⟩
      · obtain ⟨c, h1, h2, _, h4⟩ := hq j p hj
        exact ⟨c, h1, h2, h4⟩
      · obtain ⟨j, hj⟩ := List.getElem?_of_mem hx
        obtain ⟨_, _, _, h3, _⟩ := hq j x hj
        exact h3⟩
/-- The fields of a struct from one on. -/
structure TKF {α : Type} (P : Program) (fs : List Field) (off : Nat) (d : Kd α) (wf : α → Prop) : Prop where
  op : ∀ {H : Type} {enc : TypeId × Value → H} {W : World} {base : Nat} {sp : Nat → Bool} {held : Bool} {fuel : Nat} {cs : List Value} {xs : List (DataW H × List MemPlace)}, cs.length = off + d.sz →
    fs.mapM (fun f => DataW.trod enc P W base sp held fuel f.type ((cs.drop f.offset).take (P.cellsOf f.type))) = some xs → ∃ a, d.K W a (cs.drop off) ∧ wf a
theorem TKF.one {f : Field} (h : TK P f.type d wf) : TKF P [f] f.offset d wf :=
  ⟨fun {_ _ W _ _ _ fuel cs xs} hl hx => by
    rw [List.mapM_cons] at hx
    simp only [bind, Option.bind_eq_some_iff] at hx
    obtain ⟨y, hy, _⟩ := hx
    rw [h.sz, List.take_of_length_le (by simp; omega)] at hy
    exact h.op hy⟩
theorem TKF.cons {f : Field} {fs : List Field} (h : TK P f.type d wf) (h' : TKF P fs (f.offset + d.sz) d' wf') : TKF P (f :: fs) f.offset (Kd.pair d d') (fun p => wf p.1 ∧ wf' p.2) :=
  ⟨fun {_ _ W _ _ _ fuel cs xs} hl hx => by
    rw [List.mapM_cons] at hx
    simp only [bind, Option.bind_eq_some_iff] at hx
    obtain ⟨y, hy, ys, hys, _⟩ := hx
    rw [h.sz] at hy
    obtain ⟨a, ha, hw⟩ := h.op hy
    have hl' : cs.length = f.offset + d.sz + d'.sz := by rw [hl]; show f.offset + (d.sz + d'.sz) = _; omega
    obtain ⟨b, hb, hw'⟩ := h'.op hl' hys
    refine ⟨(a, b), ⟨_, _, ?_, ha, hb⟩, hw, hw'⟩
    rw [← List.drop_drop]
    exact (List.take_append_drop d.sz _).symm⟩
theorem TK.struct {fs : Array Field} (ht : P.underlying t = some (.struct fs)) (hs : P.cellsOf t = d.sz) (h : TKF P fs.toList 0 d wf) (f : β → α) (g : α → β) (hfg : ∀ a, f (g a) = a) : TK P t (Kd.iso d f) (fun b => wf (f b)) :=
  ⟨hs, fun {_ _ W _ _ _ fuel cs x} hx => by
    cases fuel with
    | zero => simp [DataW.trod] at hx
    | succ n =>
      rw [DataW.trod_step] at hx
      unfold DataW.trodStep at hx
      simp only [ht] at hx
      split at hx
      · rename_i hl
        simp only [Option.map_eq_some_iff] at hx
        obtain ⟨ys, hys, _⟩ := hx
        obtain ⟨a, ha, hw⟩ := h.op (by rw [hl, hs]; omega) hys
        exact ⟨g a, by show d.K W (f (g a)) cs; rw [hfg]; exact ha, by rw [hfg]; exact hw⟩
      · simp at hx⟩
/-- An argument. -/
theorem TK.arg {H : Type} {enc : TypeId × Value → H} {W : World} {base : Nat} {sp : Nat → Bool} {held : Bool} {v : Value} {ds : DataW H} {ps : List MemPlace} (h : TK P t d wf) (hd : DataW.Trod enc P W base sp held t v ds ps) : ∃ a, d.K W a v.cells.toList ∧ wf a := by
  obtain ⟨fuel, hf⟩ := hd
  exact h.op hf
end
/-- A slice is no longer than its weight allows. -/
theorem sized_any {H : Type} {enc : TypeId × Value → H} {P : Program} {W : World} {base : Nat} {spare : Nat → Bool} {held : Bool} {t e : TypeId} {a : Option Addr} {len cap : Nat} {d : DataW H} {ps : List MemPlace} {ts : List TypeId} {ds : List (DataW H)} {j : Nat}
    (hsz : (DataW.weightsEach P ts ds).all (· ≤ reachBytes) = true) (ht : ts[j]? = some t) (hd : ds[j]? = some d) (hu : P.underlying t = some (.slice e)) {B : Nat} (hB : P.bytesOf e = B)
    (h : DataW.Trod enc P W base spare held t (.slice a len cap) d ps) : len * B ≤ 140737488351232 := by
  obtain ⟨fuel, hf⟩ := h
  rcases Go.Deep.open_slice hu hf with ⟨hcs, _⟩ | ⟨x, l, c, m, n, D, Pl, hcs, _, hl, _, hmm, hx, _⟩
  · simp [Value.cells] at hcs
    obtain ⟨rfl, rfl, rfl⟩ := hcs
    simp
  · simp [Value.cells] at hcs
    obtain ⟨rfl, rfl, rfl⟩ := hcs
    obtain ⟨hx, _⟩ := Prod.mk.inj hx
    subst hx
    have z := sized_slice hsz ht hd hu
    rw [hB] at z
    have hlm : len ≤ m := by rw [hmm]; split <;> omega
    simp only [List.length_map, List.length_range] at z
    exact Nat.le_trans (Nat.mul_le_mul_right _ (by omega)) z
end Go.Proofs.YtnmngglfeiifaaaGreatDoor.X
