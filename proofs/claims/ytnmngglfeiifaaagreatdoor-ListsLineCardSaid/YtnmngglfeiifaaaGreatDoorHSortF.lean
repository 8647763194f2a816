/- slices.SortFunc over an own row of structs that begin with a text, sorted by that text (the shelf's contract turned to the print's rows). -/
import Derived.Test.YtnmngglfeiifaaaGreatDoorHSort
import Derived.Shelf.SlSortCmp.NoneTotal
import Derived.Sort.LotA
namespace Go.Proofs.YtnmngglfeiifaaaGreatDoor.H
open Go.RowKit Go.Proofs.YtnmngglfeiifaaaGreatDoorW.PrintWords Go.Proofs.YtnmngglfeiifaaaGreatDoorW.PrintLast Go.Proofs.YtnmngglfeiifaaaGreatDoor.X
open Go.Sort (PermIn SortedIn SWO ltStr swo_ltStr putRow putCells mapBlock flatK size_flatK get_flatK HoldsK)
open Go.Proofs Go.Lib
set_option linter.unusedVariables false
set_option linter.unusedSimpArgs false

theorem cmp_neg : ∀ a b : List UInt8, decide (Lib.compareBytes a b < 0) = decide (a < b)
  | [], [] => rfl
  | [], y :: b => by
    have h : ([] : List UInt8) < y :: b := List.Lex.nil
    rw [decide_eq_true h]
    rfl
  | x :: a, [] => by
    have h : ¬ (x :: a : List UInt8) < [] := fun h => by cases h
    rw [decide_eq_false h]
    rfl
  | x :: a, y :: b => by
    unfold Lib.compareBytes
    split
    · rename_i h
      have hh : (x :: a : List UInt8) < y :: b := List.Lex.rel h
      rw [decide_eq_true hh]
      rfl
    · rename_i h
      split
      · rename_i h2
        have h3 : ¬ (x :: a : List UInt8) < y :: b := fun hl => by
          cases hl with
          | rel hr => exact h hr
          | cons hc => exact absurd h2 (UInt8.lt_irrefl _)
        rw [decide_eq_false h3]
        rfl
      · rename_i h2
        have e : x = y := UInt8.le_antisymm (UInt8.not_lt.1 h2) (UInt8.not_lt.1 h)
        subst e
        rw [cmp_neg a b]
        by_cases hl : a < b
        · have hh : (x :: a : List UInt8) < x :: b := List.Lex.cons hl
          rw [decide_eq_true hl, decide_eq_true hh]
        · have hh : ¬ (x :: a : List UInt8) < x :: b := fun hc => by
            cases hc with
            | rel hr => exact absurd hr (UInt8.lt_irrefl _)
            | cons hc => exact hl hc
          rw [decide_eq_false hl, decide_eq_false hh]
section
variable {α : Type}
/-- An element with its index and its row's head. -/
abbrev El (α : Type) := (α × Nat) × (Option Addr × Nat × Nat)
def encE (key : α → ByteArray) (q : El α) : List Value := [.string (key q.1.1), .slice q.2.1 q.2.2.1 q.2.2.2]
def cfE (key : α → ByteArray) (x y : El α) : Int := Lib.compareBytes (byt (key x.1.1)) (byt (key y.1.1))
theorem ltE (key : α → ByteArray) (x y : El α) : ltOf (cfE key) x y = decide (byt (key x.1.1) < byt (key y.1.1)) := cmp_neg _ _
theorem swoE (key : α → ByteArray) : SWO (ltOf (cfE key)) where
  irrefl x := by rw [ltE]; exact swo_ltStr.irrefl _
  trans x y z h1 h2 := by rw [ltE] at *; exact swo_ltStr.trans _ _ _ h1 h2
  ntrans x y z h1 h2 := by rw [ltE] at *; exact swo_ltStr.ntrans _ _ _ h1 h2
end
theorem putF_cells (F cur : Array Value) (h : F.size ≤ cur.size) : (Go.Sort.putCells id 0 F cur).size = cur.size ∧ (Go.Sort.putCells id 0 F cur).toList.take F.size = F.toList := by
  refine ⟨by simp [Go.Sort.putCells], ?_⟩
  apply List.ext_getElem?
  intro k
  rw [List.getElem?_take]
  by_cases hk : k < F.size
  · rw [if_pos hk, Array.getElem?_toList, Array.getElem?_toList]
    unfold Go.Sort.putCells
    rw [Array.getElem?_mapIdx, Array.getElem?_eq_getElem (show k < cur.size by omega), Array.getElem?_eq_getElem hk, Option.map_some, if_pos ⟨Nat.zero_le _, by omega⟩, Nat.sub_zero, getElem!_pos F k hk]
    rfl
  · rw [if_neg hk, Array.getElem?_toList, Array.getElem?_eq_none (by omega)]
theorem putF_at (w : World) (g : Nat) (cur : Array Value) (e : TypeId) (m : Nat × Nat) (d : Array Value) (h : w.heap[g]? = some (.cells cur e m)) : (putRow id w g 0 d).heap[g]? = some (.cells (putCells id 0 d cur) e m) := by
  unfold putRow mapBlock
  show (w.heap.modify g _)[g]? = _
  rw [Array.getElem?_modify, if_pos rfl, h]
  rfl
theorem putF_far (w : World) (g k : Nat) (d : Array Value) (h : k ≠ g) : (putRow id w g 0 d).heap[k]? = w.heap[k]? := by
  unfold putRow mapBlock
  show (w.heap.modify g _)[k]? = _
  rw [Array.getElem?_modify, if_neg (Ne.symm h)]
theorem putF_size (w : World) (g : Nat) (d : Array Value) : (putRow id w g 0 d).heap.size = w.heap.size := by
  unfold putRow mapBlock
  exact Array.size_modify
theorem putF_grown (w : World) (g n : Nat) (d : Array Value) (os : Array Obj) : w.grownBy (Go.Sort.grow (putRow id (Go.Sort.ahead w n) g 0 d) os) (some g) := by
  refine ⟨rfl, rfl, rfl, ?_, fun k hk hne => ?_⟩
  · show w.heap.size ≤ ((putRow id (Go.Sort.ahead w n) g 0 d).heap ++ os).size
    rw [Array.size_append, putF_size]
    show w.heap.size ≤ w.heap.size + os.size
    omega
  · rw [grow_at _ _ _ (by rw [putF_size]; exact hk), putF_far _ _ _ _ (fun e => hne (by rw [e]))]
    rfl
theorem flat_chunk {β : Type} [Inhabited β] (enc : β → List Value) (k : Nat) (hk0 : 0 < k) (hk : ∀ x, (enc x).length = k) (d : Array β) (j : Nat) (hj : j < d.size) : ((flatK enc k d).toList.drop (j * k)).take k = enc d[j]! := by
  apply List.ext_getElem?
  intro r
  rw [List.getElem?_take]
  by_cases hr : r < k
  · have hb : j * k + r < d.size * k := by
      have := Nat.mul_le_mul_right k (show j + 1 ≤ d.size from hj)
      rw [Nat.add_mul, Nat.one_mul] at this
      omega
    have h1 := get_flatK enc k d (j * k + r) hb
    rw [if_pos hr, List.getElem?_drop, Array.getElem?_toList, Array.getElem?_eq_getElem (by rw [size_flatK]; exact hb)]
    rw [getElem!_pos _ _ (by rw [size_flatK]; exact hb)] at h1
    rw [h1, Nat.mul_comm j k, Nat.mul_add_div hk0, Nat.div_eq_of_lt hr, Nat.add_zero, Nat.mul_add_mod, Nat.mod_eq_of_lt hr]
    rw [getElem!_pos (enc d[j]!) r (by rw [hk]; exact hr), List.getElem?_eq_getElem (by rw [hk]; exact hr)]
  · rw [if_neg hr, List.getElem?_eq_none (by rw [hk]; omega)]
theorem idx_of {l : List Nat} (h : l.Nodup) (j : Nat) (hj : j < l.length) : l.idxOf l[j] = j := by
  have h1 : l.idxOf l[j] < l.length := List.idxOf_lt_length_iff.2 (List.getElem_mem hj)
  exact (List.getElem_inj (h₀ := h1) (h₁ := hj) h).1 (List.getElem_idxOf h1)
/-- slices.SortFunc over an own row whose elements are two cells, a text and a row, and no two of one text. -/
theorem sortF_at {α : Type} [Inhabited α] (d : Kd α) (key : α → ByteArray) (hsz : d.sz = 2) (hopen : ∀ {w : World} {base : Nat} {ok : Nat → Prop} {x : α} {cs : List Value}, d.M w base ok x cs → ∃ A n c, cs = [.string (key x), .slice A n c]) (g : Nat)
    (eg : ∀ args w, (callFunc g args).run Tryz.prog w = .ok (.enter g args) w)
    (hcmp : ∀ (a1 a2 : ByteArray) (v1 v2 : Value) (W : World), Calls Tryz.prog g #[.agg #[.string a1, v1], .agg #[.string a2, v2]] W fun e w' => e = .returned (.int .i64 (Lib.compareBytes (byt a1) (byt a2))) ∧ ∃ q os', w' = Go.Sort.grow (W.drewN q) os')
    (w : World) (base : Nat) (ok : Nat → Prop) (v : Value) (xs : List α) (hS : Kd.S d 54 w base ok v xs) (hl : xs.length < 4611686018427387904) (hnd : (xs.map fun x => byt (key x)).Nodup) :
    Calls Tryz.prog 32 #[v, .func (.func g) #[] #[]] w fun e w' => e = .returned (.tuple #[]) ∧ Kd.S d 54 w' base ok v (sortK (fun x => byt (key x)) xs) ∧ w.grownBy w' v.ownBlock := by
  obtain ⟨f, hok, inner, hown, hrep⟩ := hS
  have hsz' : (Kd.tag f d).sz = 2 := hsz
  rw [List.length_zipIdx, hsz'] at hown
  rcases hown.2 with ⟨rfl, h0⟩ | ⟨gb, cap, cur, rfl, hb, hg, hnc, hcm, hcs, hct⟩
  · obtain rfl : xs = [] := List.eq_nil_of_length_eq_zero h0
    refine (L.slices_SortFunc_none (α := α) none 0 _ w).mono ?_
    rintro e w' ⟨rfl, rfl⟩
    exact ⟨rfl, Kd.S_nil _ _ _ _ _, ⟨rfl, rfl, rfl, Nat.le_refl _, fun _ _ _ => rfl⟩⟩
  have hM : ∀ j x, xs[j]? = some x → (Kd.tag f d).M w base (fun k => ok k ∧ some k ≠ (Value.slice (some ⟨gb, 0, none⟩) xs.length cap).ownBlock) (x, j) ((inner.drop (j * 2)).take 2) := fun j x hj => by
    have := hrep.2 j (x, j) (Kd.zip_at hj)
    rw [hsz'] at this
    exact this
  have hh : ∀ j : Nat, ∃ q : Option Addr × Nat × Nat, ∀ x, xs[j]? = some x → (inner.drop (j * 2)).take 2 = [.string (key x), .slice q.1 q.2.1 q.2.2] := fun j => by
    cases hx : xs[j]? with
    | none => exact ⟨(none, 0, 0), fun x h => by cases h⟩
    | some x =>
      obtain ⟨A, n, c, e⟩ := hopen (hM j x hx)
      exact ⟨(A, n, c), fun y hy => by injection hy with hy; subst hy; exact e⟩
  obtain ⟨h, hh⟩ := Classical.skolem.1 hh
  obtain ⟨D, hD⟩ : ∃ D : List (El α), D = xs.zipIdx.map fun p => (p, h p.2) := ⟨_, rfl⟩
  have hDl : D.length = xs.length := by rw [hD, List.length_map, List.length_zipIdx]
  have hDa : D.toArray.size = xs.length := by rw [List.size_toArray, hDl]
  have hDat : ∀ j (hj : j < D.length), ∃ x, xs[j]? = some x ∧ D[j] = ((x, j), h j) := fun j hj => by
    have hj2 : j < xs.length := by omega
    refine ⟨xs[j], List.getElem?_eq_getElem hj2, ?_⟩
    have : D[j]? = some ((xs[j], j), h j) := by
      rw [hD, List.getElem?_map, Kd.zip_at (List.getElem?_eq_getElem hj2)]
      rfl
    rw [List.getElem?_eq_getElem hj] at this
    injection this
  have hDm : ∀ q ∈ D, ∃ x i, xs[i]? = some x ∧ q = ((x, i), h i) := fun q hq => by
    obtain ⟨j, hj, rfl⟩ := List.mem_iff_getElem.1 hq
    obtain ⟨x, hx, e⟩ := hDat j hj
    exact ⟨x, j, hx, e⟩
  have hek : ∀ q : El α, (encE key q).length = 2 := fun q => rfl
  have hinl : inner.length = xs.length * 2 := hown.1
  have hHK : HoldsK (encE key) 2 w gb 0 D.toArray := by
    intro j hj
    rw [size_flatK, hDa] at hj
    refine ⟨?_, by simp [World.frozen?, hg]⟩
    have hi : j / 2 < D.length := by omega
    obtain ⟨x, hx, e⟩ := hDat (j / 2) hi
    have hc := hh (j / 2) x hx
    have h1 : cur[j]? = inner[j]? := by
      rw [← hct, List.getElem?_take, if_pos hj, Array.getElem?_toList]
    have h2 : inner[j]? = ((inner.drop (j / 2 * 2)).take 2)[j % 2]? := by
      rw [List.getElem?_take, if_pos (by omega), List.getElem?_drop]
      congr 1
      omega
    rw [hc] at h2
    have h3 : (flatK (encE key) 2 D.toArray)[j]! = (encE key D.toArray[j / 2]!)[j % 2]! := get_flatK _ _ _ _ (by rw [hDa]; exact hj)
    have h4 : D.toArray[j / 2]! = ((x, j / 2), h (j / 2)) := by rw [getElem!_pos _ _ (by rw [hDa]; omega)]; simpa using e
    rw [Nat.zero_add, h3, h4]
    have h5 : w.cell? ⟨gb, j, none⟩ = cur[j]? := by simp [World.cell?, hg]
    rw [h5, h1, h2]
    show _ = some (id ((encE key ((x, j / 2), h (j / 2)))[j % 2]!))
    rw [getElem!_pos _ _ (by rw [hek]; omega)]
    exact List.getElem?_eq_getElem (l := encE key ((x, j / 2), h (j / 2))) (by rw [hek]; omega)
  have hC : CmpLays Tryz.prog g #[] (encE key) 2 (cfE key) gb 0 D.toArray.size w := by
    intro m os dk _ x y
    exact hcmp (key x.1.1) (key y.1.1) _ _ _
  have hone : ∀ (q : El α), ∀ u ∈ encE key q, u.oneCell' = true := fun q u hu => by
    simp only [encE, List.mem_cons, List.not_mem_nil, or_false] at hu
    rcases hu with rfl | rfl <;> rfl
  have hc := L.slices_SortFunc (α := El α) 2 (fun w => Tryz.isAgg54 w) (fun w => Tryz.sizeOf54 w) (encE key) hek hone (cfE key) (swoE key) g #[] gb 0 cap D.toArray w eg hC hHK (lt_of_blk' hg) (by rw [hDa]; exact hl)
  rw [hDa] at hc
  refine hc.mono ?_
  rintro e w' ⟨rfl, d', n, os, ⟨hps, _, hpp⟩, hso, rfl⟩
  rw [hDa] at hps
  have hE : d'.toList.Perm D := by
    rw [← hps] at hpp
    have e1 : (d'.extract 0 d'.size).toList = d'.toList := by simp
    have e2 : (D.toArray.extract 0 d'.size).toList = D := by rw [hps, ← hDa]; simp
    rwa [e1, e2] at hpp
  obtain ⟨E, hEe⟩ : ∃ E, E = d'.toList := ⟨_, rfl⟩
  rw [← hEe] at hE
  have hEl : E.length = xs.length := by rw [hE.length_eq, hDl]
  have hEat : ∀ j (hj : j < E.length), d'[j]! = E[j] := fun j hj => by
    rw [getElem!_pos _ _ (by rw [hps]; omega)]
    simp [hEe]
  have hkeys : (E.map fun q => q.1.1).Perm xs := by
    refine (hE.map _).trans ?_
    rw [hD, List.map_map]
    have : ((fun q : El α => q.1.1) ∘ fun p : α × Nat => (p, h p.2)) = Prod.fst := rfl
    rw [this, List.zipIdx_map_fst]
  have hids : (E.map fun q => q.1.2).Nodup := by
    have hp : (E.map fun q => q.1.2).Perm (List.range xs.length) := by
      refine (hE.map _).trans ?_
      rw [hD, List.map_map]
      have : ((fun q : El α => q.1.2) ∘ fun p : α × Nat => (p, h p.2)) = Prod.snd := rfl
      rw [this, List.zipIdx_map_snd, List.range_eq_range']
    exact hp.nodup_iff.2 List.nodup_range
  have hys : (E.map fun q => q.1.1) = sortK (fun x => byt (key x)) xs := by
    refine sortK_unique _ hnd hkeys ?_
    refine List.pairwise_map.2 (List.pairwise_iff_getElem.2 ?_)
    intro i j hi hj hij
    have := hso i j (Nat.zero_le _) hij (by rw [hDa] at *; omega)
    rw [ltE, hEat i hi, hEat j hj] at this
    exact of_decide_eq_false this
  have hgr := putF_grown w gb n (flatK (encE key) 2 d') os
  refine ⟨rfl, ?_, hgr⟩
  rw [← hys]
  have hcz : (flatK (encE key) 2 d').size ≤ cur.size := by rw [size_flatK, hps, hcs]; exact Nat.mul_le_mul_right 2 hnc
  obtain ⟨c1, c2⟩ := putF_cells (flatK (encE key) 2 d') cur hcz
  refine ⟨fun k => (E.map fun q => q.1.2).idxOf (f k), hok, (flatK (encE key) 2 d').toList, ?_, ?_⟩
  · rw [List.length_zipIdx, List.length_map]
    show World.ownsRow _ base 54 d.sz _ E.length _
    rw [hsz, hEl]
    refine ⟨by rw [Array.length_toList, size_flatK, hps], .inr ⟨gb, cap, _, rfl, hb, ?_, hnc, hcm, by rw [c1]; exact hcs, ?_⟩⟩
    · show (Go.Sort.grow (putRow id (Go.Sort.ahead w n) gb 0 (flatK (encE key) 2 d')) os).heap[gb]? = _
      rw [grow_at _ _ _ (by rw [putF_size]; exact lt_of_blk' hg)]
      exact putF_at (Go.Sort.ahead w n) gb cur _ (0, 0) _ hg
    · rw [← c2, size_flatK, hps]
  · refine ⟨by rw [Array.length_toList, size_flatK, hps, List.length_zipIdx, List.length_map, hEl]; show _ = _ * d.sz; rw [hsz], fun j p hj => ?_⟩
    show (Kd.tag _ d).M _ base _ p (((flatK (encE key) 2 d').toList.drop (j * d.sz)).take d.sz)
    rw [hsz]
    have hjl : j < E.length := by
      have := (List.getElem?_eq_some_iff.1 hj).1
      rw [List.length_zipIdx, List.length_map] at this
      exact this
    have hp : p = ((E[j]).1.1, j) := by
      have := Kd.zip_at (xs := E.map fun q => q.1.1) (j := j) (p := E[j].1.1) (by rw [List.getElem?_map, List.getElem?_eq_getElem hjl]; rfl)
      rw [hj] at this
      injection this
    rw [flat_chunk (encE key) 2 (by decide) hek d' j (by rw [hps]; omega), hEat j hjl, hp]
    obtain ⟨x, i, hx, hq⟩ := hDm E[j] (hE.subset (List.getElem_mem hjl))
    have hidx : (E.map fun q => q.1.2).idxOf i = j := by
      have := idx_of hids j (by rw [List.length_map]; exact hjl)
      rw [List.getElem_map, hq] at this
      exact this
    have hMx := hM i x hx
    rw [hh i x hx] at hMx
    rw [hq]
    show d.M _ base (fun k => (ok k ∧ some k ≠ _) ∧ (E.map fun q => q.1.2).idxOf (f k) = j) x _
    refine Kd.M_step (d.M_mono (fun k hk => ⟨hk.1, by rw [hk.2]; exact hidx⟩) hMx) (fun k hk hlt => hgr.block k hlt (fun e => hk.1.2 e))
end Go.Proofs.YtnmngglfeiifaaaGreatDoor.H
