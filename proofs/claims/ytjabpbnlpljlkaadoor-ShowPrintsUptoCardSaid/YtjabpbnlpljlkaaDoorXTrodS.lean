/- Words beside the print's: what a statement's argument is, kind by kind, with the sizes of all that lies in it (as XTrod, over a measure of what was read). -/
import Derived.Test.YtjabpbnlpljlkaaDoorXTrod
namespace Go.Proofs.YtjabpbnlpljlkaaDoor.X
open Go.RowKit Go.ChangeShapes Go.WideShapes Go.Proofs.YtjabpbnlpljlkaaDoorW.PrintWords Go.Proofs.YtjabpbnlpljlkaaDoorW.PrintLast Go.Proofs.YtjabpbnlpljlkaaDoorW.PrintMore
set_option linter.unusedVariables false

/-- A measure: of what is no greater than it allows, no text is longer than S, and each part is no greater. -/
structure Meas (P : Program) (S : Nat) where
  Ok : ∀ {H : Type}, TypeId → DataW H → Prop
  str : ∀ {H : Type} {t : TypeId} {b : List UInt8}, Ok t (DataW.lit (H := H) (.string b)) → b.length ≤ S
  slice : ∀ {H : Type} {t e : TypeId} {elems spare : List (DataW H)}, P.underlying t = some (.slice e) → Ok t (.slice elems spare) → ∀ d ∈ elems, Ok e d
  agg : ∀ {H : Type} {t : TypeId} {fs : Array Field} {parts : List (DataW H)}, P.underlying t = some (.struct fs) → Ok t (.agg parts) → ∀ (i : Nat) f d, fs.toList[i]? = some f → parts[i]? = some d → Ok f.type d
/-- Type t's arguments are told by kind d; each is as wf says. -/
structure TKs {α : Type} (P : Program) {S : Nat} (M : Meas P S) (t : TypeId) (d : Kd α) (wf : α → Prop) : Prop where
  sz : P.cellsOf t = d.sz
  op : ∀ {H : Type} {enc : TypeId × Value → H} {W : World} {base : Nat} {sp : Nat → Bool} {held : Bool} {fuel : Nat} {cs : List Value} {x : DataW H × List MemPlace}, DataW.trod enc P W base sp held fuel t cs = some x → M.Ok t x.1 → ∃ a, d.K W a cs ∧ wf a
section
variable {α β : Type} {P : Program} {S : Nat} {M : Meas P S} {t e : TypeId} {d : Kd α} {wf : α → Prop} {d' : Kd β} {wf' : β → Prop}
theorem TKs.int {k : IntKind} (ht : P.underlying t = some (.int k)) (hs : P.cellsOf t = 1) : TKs P M t (Kd.int k) (fun n => (Lit.int k n).wf = true) := ⟨hs, fun h _ => (TK.int ht hs).op h⟩
theorem TKs.bool (ht : P.underlying t = some .bool) (hs : P.cellsOf t = 1) : TKs P M t Kd.bool (fun _ => True) := ⟨hs, fun h _ => (TK.bool ht hs).op h⟩
theorem TKs.string (ht : P.underlying t = some .string) (hs : P.cellsOf t = 1) : TKs P M t Kd.string (fun s => s.size ≤ S) :=
  ⟨hs, fun {_ _ _ _ _ _ fuel cs x} h hok => by
    cases fuel with
    | zero => simp [DataW.trod] at h
    | succ n =>
      rw [DataW.trod_step] at h
      unfold DataW.trodStep at h
      simp only [ht] at h
      split at h
      all_goals first | (rename_i he; simp at he; done) | skip
      all_goals first
        | (rename_i s _; split at h
           · rename_i hs
             obtain rfl := Option.some.inj h
             refine ⟨s, rfl, ?_⟩
             have := M.str hok
             rw [Array.length_toList] at this
             exact this
           · simp at h)
        | (simp at h)⟩
theorem TKs.slice (ht : P.underlying t = some (.slice e)) (hs : P.cellsOf t = 1) (h : TKs P M e d wf) : TKs P M t (Kd.slice e d) (fun l => l.length ≤ maxLen ∧ ∀ x ∈ l, wf x) :=
  ⟨hs, fun {_ _ W _ _ _ fuel cs x} hx hok => by
    rcases Go.Deep.open_slice ht hx with ⟨rfl, _⟩ | ⟨a, len, cap, m, n, D, Pl, rfl, hb, hl, hm, hmm, rfl, hel⟩
    · exact ⟨[], ⟨none, 0, rfl, Nat.le_refl _, rfl, by simp, fun h => absurd h (Nat.lt_irrefl 0)⟩, by simp, by simp⟩
    · have hlm : len ≤ m := by rw [hmm]; split <;> omega
      have hD : ∀ i, i < len → M.Ok e (D i) := fun i hi => M.slice ht hok (D i) (List.mem_map.2 ⟨i, List.mem_range.2 hi, rfl⟩)
      obtain ⟨l, hll, hq⟩ := choose_list (Q := fun i p => ∃ c : List Value, c.length = d.sz ∧ d.K W p c ∧ wf p ∧ ∀ j u, c[j]? = some u → W.cell? (a.add (i * d.sz + j)) = some u) len (fun i hi => by
        obtain ⟨c, h1, h2⟩ := hel i (by omega)
        obtain ⟨p, hK, hw⟩ := h.op h2 (hD i hi)
        obtain ⟨_, hlen, hc⟩ := World.cells?_some h1
        rw [h.sz] at hc hlen
        refine ⟨p, c, hlen, hK, hw, fun j u hj => ?_⟩
        have := hc j (by have := (List.getElem?_eq_some_iff.1 hj).1; omega)
        rw [add_add, hj] at this
        exact this)
      subst hll
      refine ⟨l, ⟨some a, cap, rfl, hl, rfl, Nat.le_trans hl hm, fun _ => ⟨a, rfl, fun j p hj => ?_⟩⟩, Nat.le_trans hl hm, fun x hx => ?_⟩
      · obtain ⟨c, h1, h2, _, h4⟩ := hq j p hj
        exact ⟨c, h1, h2, h4⟩
      · obtain ⟨j, hj⟩ := List.getElem?_of_mem hx
        obtain ⟨_, _, _, h3, _⟩ := hq j x hj
        exact h3⟩
/-- The fields of a struct from one on. -/
structure TKsF {α : Type} (P : Program) {S : Nat} (M : Meas P S) (fs : List Field) (off : Nat) (d : Kd α) (wf : α → Prop) : Prop where
  op : ∀ {H : Type} {enc : TypeId × Value → H} {W : World} {base : Nat} {sp : Nat → Bool} {held : Bool} {fuel : Nat} {cs : List Value} {xs : List (DataW H × List MemPlace)}, cs.length = off + d.sz →
    fs.mapM (fun f => DataW.trod enc P W base sp held fuel f.type ((cs.drop f.offset).take (P.cellsOf f.type))) = some xs → (∀ (i : Nat) f y, fs[i]? = some f → xs[i]? = some y → M.Ok f.type y.1) → ∃ a, d.K W a (cs.drop off) ∧ wf a
theorem TKsF.one {f : Field} (h : TKs P M f.type d wf) : TKsF P M [f] f.offset d wf :=
  ⟨fun {_ _ W _ _ _ fuel cs xs} hl hx hok => by
    rw [List.mapM_cons] at hx
    simp only [bind, Option.bind_eq_some_iff] at hx
    obtain ⟨y, hy, ys, hys, hxs⟩ := hx
    obtain rfl := Option.some.inj hxs
    rw [h.sz, List.take_of_length_le (by simp; omega)] at hy
    exact h.op hy (hok 0 f y rfl rfl)⟩
theorem TKsF.cons {f : Field} {fs : List Field} (h : TKs P M f.type d wf) (h' : TKsF P M fs (f.offset + d.sz) d' wf') : TKsF P M (f :: fs) f.offset (Kd.pair d d') (fun p => wf p.1 ∧ wf' p.2) :=
  ⟨fun {_ _ W _ _ _ fuel cs xs} hl hx hok => by
    rw [List.mapM_cons] at hx
    simp only [bind, Option.bind_eq_some_iff] at hx
    obtain ⟨y, hy, ys, hys, hxs⟩ := hx
    obtain rfl := Option.some.inj hxs
    rw [h.sz] at hy
    obtain ⟨a, ha, hw⟩ := h.op hy (hok 0 f y rfl rfl)
    have hl' : cs.length = f.offset + d.sz + d'.sz := by rw [hl]; show f.offset + (d.sz + d'.sz) = _; omega
    obtain ⟨b, hb, hw'⟩ := h'.op hl' hys (fun i g z hg hz => hok (i + 1) g z (by simpa using hg) (by simpa using hz))
    refine ⟨(a, b), ⟨_, _, ?_, ha, hb⟩, hw, hw'⟩
    rw [← List.drop_drop]
    exact (List.take_append_drop d.sz _).symm⟩
theorem TKs.struct {fs : Array Field} (ht : P.underlying t = some (.struct fs)) (hs : P.cellsOf t = d.sz) (h : TKsF P M fs.toList 0 d wf) (f : β → α) (g : α → β) (hfg : ∀ a, f (g a) = a) : TKs P M t (Kd.iso d f) (fun b => wf (f b)) :=
  ⟨hs, fun {_ _ W _ _ _ fuel cs x} hx hok => by
    cases fuel with
    | zero => simp [DataW.trod] at hx
    | succ n =>
      rw [DataW.trod_step] at hx
      unfold DataW.trodStep at hx
      simp only [ht] at hx
      split at hx
      · rename_i hl
        simp only [Option.map_eq_some_iff] at hx
        obtain ⟨ys, hys, hxe⟩ := hx
        subst hxe
        obtain ⟨a, ha, hw⟩ := h.op (by rw [hl, hs]; omega) hys (fun i f y hf hy => M.agg ht hok i f y.1 hf (by rw [List.getElem?_map, hy]; rfl))
        exact ⟨g a, by show d.K W (f (g a)) cs; rw [hfg]; exact ha, by rw [hfg]; exact hw⟩
      · simp at hx⟩
/-- An argument. -/
theorem TKs.arg {H : Type} {enc : TypeId × Value → H} {W : World} {base : Nat} {sp : Nat → Bool} {held : Bool} {v : Value} {ds : DataW H} {ps : List MemPlace} (h : TKs P M t d wf) (hd : DataW.Trod enc P W base sp held t v ds ps) (hok : M.Ok t ds) : ∃ a, d.K W a v.cells.toList ∧ wf a := by
  obtain ⟨fuel, hf⟩ := hd
  exact h.op hf hok
end
end Go.Proofs.YtjabpbnlpljlkaaDoor.X
