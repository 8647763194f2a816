/- What the nodes of a trie say: plain facts on the list of nodes that child, put make; no program's walk in sight. -/
import Derived.Test.YtokgkhndhlcfpaaHTrie3
namespace Go.Proofs.Ytokgkhndhlcfpaa.X
open Go.RowKit Go.Proofs.YtokgkhndhlcfpaaW.PrintWords Go.Proofs.YtokgkhndhlcfpaaW.PrintLast
open Go.Proofs.Ytokgkhndhlcfpaa.M
set_option linter.unusedVariables false
set_option linter.unusedSimpArgs false

theorem nodup_le {α : Type} [DecidableEq α] : ∀ (xs ys : List α), xs.Nodup → (∀ x ∈ xs, x ∈ ys) → xs.length ≤ ys.length
  | [], ys, _, _ => Nat.zero_le _
  | x :: xs, ys, hn, hs => by
    have hx := hs x List.mem_cons_self
    rw [List.nodup_cons] at hn
    have h1 := nodup_le xs (ys.erase x) hn.2 (fun y hy => (List.mem_erase_of_ne (by rintro rfl; exact hn.1 hy)).2 (hs y (List.mem_cons_of_mem _ hy)))
    rw [List.length_erase_of_mem hx] at h1
    have : 0 < ys.length := List.length_pos_of_mem hx
    simp only [List.length_cons]
    omega
def nd (ns : List Nd) (j : Nat) : Nd := ns.getD j nd0
theorem ndAt_nat (ns : List Nd) (j : Nat) : ndAt ns (j : Int) = nd ns j := by simp [ndAt, nd]
/-- Children, one behind the other. -/
def Chain (ns : List Nd) : Int → List Nat → Prop
  | k, [] => k = 0
  | k, j :: js => k = (j : Int) ∧ 0 < j ∧ j < ns.length ∧ Chain ns (nd ns j).oth js
theorem Chain.lt {ns : List Nd} : ∀ {ks : List Nat} {k : Int}, Chain ns k ks → ∀ j ∈ ks, 0 < j ∧ j < ns.length
  | [], _, _ => fun j hj => by cases hj
  | i :: ks, _, h => fun j hj => by
    rcases List.mem_cons.1 hj with rfl | hj
    · exact ⟨h.2.1, h.2.2.1⟩
    · exact Chain.lt h.2.2.2 j hj
theorem Chain.congr {ns ns' : List Nd} (hl : ns.length ≤ ns'.length) : ∀ {ks : List Nat} {k : Int}, (∀ j ∈ ks, (nd ns' j).oth = (nd ns j).oth) → Chain ns k ks → Chain ns' k ks
  | [], _, _, h => h
  | j :: ks, _, he, h => ⟨h.1, h.2.1, Nat.lt_of_lt_of_le h.2.2.1 hl, by rw [he j List.mem_cons_self]; exact Chain.congr hl (fun i hi => he i (List.mem_cons_of_mem _ hi)) h.2.2.2⟩
theorem Chain.tail {ns : List Nd} : ∀ {ks js : List Nat} {k : Int}, Chain ns k (ks ++ js) → ks = [] ∨ ∃ b, ks.getLast? = some b ∧ Chain ns (nd ns b).oth js
  | [], _, _, _ => .inl rfl
  | j :: ks, js, _, h => by
    rcases Chain.tail h.2.2.2 with rfl | ⟨b, hb, hc⟩
    · exact .inr ⟨j, rfl, h.2.2.2⟩
    · refine .inr ⟨b, ?_, hc⟩
      cases ks with
      | nil => cases hb
      | cons i t => rw [List.getLast?_cons_cons]; exact hb
/-- A new one behind b. -/
theorem Chain.put_ {ns ns' : List Nd} (hl : ns.length ≤ ns'.length) {b n : Nat} {js : List Nat} (hbn : (nd ns' b).oth = (n : Int)) (hn : 0 < n) (hnl : n < ns'.length) (hno : Chain ns' (nd ns' n).oth js) :
    ∀ {pre : List Nat} {k : Int}, pre.getLast? = some b → pre.Nodup → (∀ j ∈ pre, j ≠ b → (nd ns' j).oth = (nd ns j).oth) → Chain ns k (pre ++ js) → Chain ns' k (pre ++ n :: js)
  | [], _, h, _, _, _ => by cases h
  | [j], _, h, _, _, hc => by
    have : j = b := by simpa using h
    subst this
    exact ⟨hc.1, hc.2.1, Nat.lt_of_lt_of_le hc.2.2.1 hl, by rw [hbn]; exact ⟨rfl, hn, hnl, hno⟩⟩
  | j :: i :: pre, _, h, hd, ho, hc => by
    rw [List.getLast?_cons_cons] at h
    have hjb : j ≠ b := by
      rintro rfl
      exact (List.nodup_cons.1 hd).1 (List.mem_of_getLast? h)
    refine ⟨hc.1, hc.2.1, Nat.lt_of_lt_of_le hc.2.2.1 hl, ?_⟩
    rw [ho j List.mem_cons_self hjb]
    exact Chain.put_ hl hbn hn hnl hno h (List.nodup_cons.1 hd).2 (fun x hx => ho x (List.mem_cons_of_mem _ hx)) hc.2.2.2
/-- Where a sign stands among children. -/
theorem seek_spec (ns : List Nd) (r : Int) : ∀ (ks : List Nat) (b k : Int) (f : Nat), Chain ns k ks → ks.length < f →
    seekF ns r f b k = some (((ks.takeWhile fun j => decide ((nd ns j).r < r)).getLast?.map (fun j : Nat => (j : Int))).getD b, ((ks.dropWhile fun j => decide ((nd ns j).r < r)).head?.map (fun j : Nat => (j : Int))).getD 0)
  | [], b, k, 0, _, hf => by simp at hf
  | [], b, k, f + 1, h, _ => by
    have : k = 0 := h
    subst this
    simp [seekF]
  | j :: ks, b, k, 0, _, hf => by simp at hf
  | j :: ks, b, k, f + 1, h, hf => by
    obtain ⟨rfl, h1, h2, h3⟩ := h
    unfold seekF
    rw [if_pos (by omega), if_pos (by omega), ndAt_nat]
    by_cases hr : (nd ns j).r < r
    · rw [if_pos hr, seek_spec ns r ks _ _ f h3 (by simpa using hf)]
      simp only [List.takeWhile_cons, List.dropWhile_cons, hr, decide_true, if_true]
      cases hq : (ks.takeWhile fun j => decide ((nd ns j).r < r)) with
      | nil => simp
      | cons x t =>
        rw [List.getLast?_cons_cons]
        cases hz : (x :: t).getLast? with
        | none => simp at hz
        | some y => rfl
    · rw [if_neg hr]
      simp [List.takeWhile_cons, List.dropWhile_cons, hr]
theorem nd_app (ns : List Nd) (x : Nd) (j : Nat) : nd (ns ++ [x]) j = if j < ns.length then nd ns j else if j = ns.length then x else nd0 := by
  unfold nd
  rw [List.getD_eq_getElem?_getD, List.getD_eq_getElem?_getD]
  by_cases h : j < ns.length
  · rw [if_pos h, List.getElem?_append_left h]
  · rw [if_neg h, List.getElem?_append_right (by omega)]
    by_cases h2 : j = ns.length
    · rw [if_pos h2, h2]; simp
    · rw [if_neg h2, List.getElem?_eq_none (by simp; omega)]; rfl
theorem nd_set (ns : List Nd) (i : Nat) (x : Nd) (j : Nat) : nd (ns.set i x) j = if j = i ∧ i < ns.length then x else nd ns j := by
  unfold nd
  rw [List.getD_eq_getElem?_getD, List.getD_eq_getElem?_getD, List.getElem?_set]
  by_cases h : j = i
  · subst h
    by_cases hl : j < ns.length
    · simp [hl]
    · simp [hl]
  · rw [if_neg (fun e => h e.symm), if_neg (fun e => h e.1)]
/-- The nodes as paths from the root; W the words that end there. -/
structure TrI (ns : List Nd) (P W : List (List Int)) : Prop where
  len : P.length = ns.length
  root : P[0]? = some []
  nodup : P.Nodup
  words : ∀ w ∈ W, w ∈ P
  ends : ∀ k p, P[k]? = some p → ((nd ns k).e = true ↔ p ∈ W)
  kids : ∀ a p, P[a]? = some p → ∃ ks, Chain ns (nd ns a).kid ks ∧ ks.Pairwise (fun i j => (nd ns i).r < (nd ns j).r) ∧ ∀ j q, P[j]? = some q → (j ∈ ks ↔ ∃ x, q = p ++ [x])
  rune : ∀ j q, P[j]? = some q → j ≠ 0 → ∃ p, p ∈ P ∧ q = p ++ [(nd ns j).r]
theorem idx_inj : ∀ {P : List (List Int)}, P.Nodup → ∀ {i j : Nat} {p : List Int}, P[i]? = some p → P[j]? = some p → i = j
  | [], _, i, _, _, hi, _ => by simp at hi
  | x :: P, h, 0, 0, _, _, _ => rfl
  | x :: P, h, 0, j + 1, p, hi, hj => by
    simp only [List.getElem?_cons_zero, Option.some.injEq] at hi
    subst hi
    exact absurd (List.mem_of_getElem? (by simpa using hj)) (List.nodup_cons.1 h).1
  | x :: P, h, i + 1, 0, p, hi, hj => by
    simp only [List.getElem?_cons_zero, Option.some.injEq] at hj
    subst hj
    exact absurd (List.mem_of_getElem? (by simpa using hi)) (List.nodup_cons.1 h).1
  | x :: P, h, i + 1, j + 1, p, hi, hj => by
    have := idx_inj (P := P) (i := i) (j := j) (p := p) (List.nodup_cons.1 h).2 (by simpa using hi) (by simpa using hj)
    omega
theorem lt_of_get {P : List (List Int)} {i : Nat} {p : List Int} (hi : P[i]? = some p) : i < P.length := (List.getElem?_eq_some_iff.1 hi).1
theorem TrI.child {ns : List Nd} {P W : List (List Int)} (h : TrI ns P W) {j : Nat} {p : List Int} {x : Int} (hj : P[j]? = some (p ++ [x])) : (nd ns j).r = x ∧ p ∈ P := by
  have h0 : j ≠ 0 := by
    rintro rfl
    rw [h.root] at hj
    injection hj with hj
    simp at hj
  obtain ⟨p', hp, he⟩ := h.rune j _ hj h0
  have := List.append_inj' he rfl
  obtain ⟨rfl, h2⟩ := this
  injection h2 with h2
  exact ⟨h2.symm, hp⟩
theorem grow_inv {ns ns' : List Nd} {P W : List (List Int)} (h : TrI ns P W) {a : Nat} {p : List Int} (ha : P[a]? = some p) {r k0 : Int} {pre post : List Nat}
    (hks : Chain ns (nd ns a).kid (pre ++ post)) (hpw : (pre ++ post).Pairwise (fun i j => (nd ns i).r < (nd ns j).r)) (hmem : ∀ j q, P[j]? = some q → (j ∈ pre ++ post ↔ ∃ x, q = p ++ [x]))
    (hpre : ∀ j ∈ pre, (nd ns j).r < r) (hpost : ∀ j ∈ post, r < (nd ns j).r) (hL : ns'.length = ns.length + 1)
    (hold : ∀ j, j < ns.length → (nd ns' j).r = (nd ns j).r ∧ (nd ns' j).e = (nd ns j).e) (hnew : nd ns' ns.length = ⟨r, false, 0, k0⟩) (hkid : ∀ j, j < ns.length → j ≠ a → (nd ns' j).kid = (nd ns j).kid)
    (hoth : ∀ j, j < ns.length → j ∉ pre ++ post → (nd ns' j).oth = (nd ns j).oth) (hch : Chain ns' (nd ns' a).kid (pre ++ ns.length :: post)) : p ++ [r] ∉ P ∧ TrI ns' (P ++ [p ++ [r]]) W := by
  have hnot : p ++ [r] ∉ P := by
    intro hm
    obtain ⟨j, hj, he⟩ := List.mem_iff_getElem.1 hm
    have hj' : P[j]? = some (p ++ [r]) := by rw [List.getElem?_eq_getElem hj, he]
    have hr := (h.child hj').1
    rcases List.mem_append.1 ((hmem j _ hj').2 ⟨r, rfl⟩) with h1 | h1
    · have := hpre j h1; omega
    · have := hpost j h1; omega
  have hget : ∀ j q, (P ++ [p ++ [r]])[j]? = some q → (j < ns.length ∧ P[j]? = some q) ∨ (j = ns.length ∧ q = p ++ [r]) := by
    intro j q hj
    have hjl := (List.getElem?_eq_some_iff.1 hj).1
    simp only [List.length_append, List.length_singleton, h.len] at hjl
    by_cases hlt : j < ns.length
    · rw [List.getElem?_append_left (by rw [h.len]; exact hlt)] at hj
      exact .inl ⟨hlt, hj⟩
    · have hje : j = ns.length := by omega
      subst hje
      rw [← h.len, List.getElem?_concat_length] at hj
      injection hj with hj
      exact .inr ⟨rfl, hj.symm⟩
  have hal : a < ns.length := by rw [← h.len]; exact lt_of_get ha
  refine ⟨hnot, ?_, ?_, ?_, ?_, ?_, ?_, ?_⟩
  · rw [List.length_append, h.len, hL]; rfl
  · rw [List.getElem?_append_left (lt_of_get h.root)]; exact h.root
  · refine List.nodup_append.2 ⟨h.nodup, by simp, ?_⟩
    intro x hx y hy e
    simp only [List.mem_singleton] at hy
    subst hy e
    exact hnot hx
  · exact fun w hw => List.mem_append_left _ (h.words w hw)
  · intro k q hk
    rcases hget k q hk with ⟨h1, h2⟩ | ⟨rfl, rfl⟩
    · rw [(hold k h1).2]; exact h.ends k q h2
    · rw [hnew]
      exact ⟨fun e => (by cases e), fun hw => absurd (h.words _ hw) hnot⟩
  · intro a' p' ha'
    rcases hget a' p' ha' with ⟨h1, h2⟩ | ⟨rfl, rfl⟩
    · by_cases haa : a' = a
      · subst haa
        obtain rfl : p' = p := by rw [ha] at h2; injection h2 with h2; exact h2.symm
        refine ⟨_, hch, ?_, ?_⟩
        · rw [List.pairwise_append] at hpw ⊢
          obtain ⟨q1, q2, q3⟩ := hpw
          have hlt := Chain.lt hks
          have hpl : ∀ j ∈ pre, j < ns.length := fun j hj => (hlt j (List.mem_append_left _ hj)).2
          have hql : ∀ j ∈ post, j < ns.length := fun j hj => (hlt j (List.mem_append_right _ hj)).2
          refine ⟨q1.imp_of_mem (fun hi hj hh => by rw [(hold _ (hpl _ hi)).1, (hold _ (hpl _ hj)).1]; exact hh), ?_, ?_⟩
          · rw [List.pairwise_cons]
            exact ⟨fun j hj => by rw [hnew, (hold _ (hql _ hj)).1]; exact hpost j hj, q2.imp_of_mem (fun hi hj hh => by rw [(hold _ (hql _ hi)).1, (hold _ (hql _ hj)).1]; exact hh)⟩
          · intro i hi j hj
            rcases List.mem_cons.1 hj with rfl | hj
            · rw [hnew, (hold _ (hpl _ hi)).1]; exact hpre i hi
            · rw [(hold _ (hpl _ hi)).1, (hold _ (hql _ hj)).1]; exact q3 i hi j hj
        · intro j q hj
          rcases hget j q hj with ⟨g1, g2⟩ | ⟨rfl, rfl⟩
          · rw [← hmem j q g2]
            simp only [List.mem_append, List.mem_cons]
            constructor
            · rintro (x | x | x)
              · exact .inl x
              · omega
              · exact .inr x
            · rintro (x | x)
              · exact .inl x
              · exact .inr (.inr x)
          · simp
      · obtain ⟨ks, k1, k2, k3⟩ := h.kids a' p' h2
        have hpp : p' ≠ p := by
          rintro rfl
          exact haa (idx_inj h.nodup h2 ha)
        have hkl := fun j hj => (Chain.lt k1 j hj).2
        refine ⟨ks, ?_, k2.imp_of_mem (fun hi hj hh => by rw [(hold _ (hkl _ hi)).1, (hold _ (hkl _ hj)).1]; exact hh), ?_⟩
        · rw [hkid a' h1 haa]
          refine Chain.congr (by omega) (fun j hj => hoth j (hkl j hj) (fun hm => ?_)) k1
          obtain ⟨q, hq⟩ : ∃ q, P[j]? = some q := ⟨_, List.getElem?_eq_getElem (by rw [h.len]; exact hkl j hj)⟩
          obtain ⟨x, hx⟩ := (k3 j q hq).1 hj
          obtain ⟨y, hy⟩ := (hmem j q hq).1 hm
          rw [hx] at hy
          exact hpp (List.append_inj' hy rfl).1
        · intro j q hj
          rcases hget j q hj with ⟨g1, g2⟩ | ⟨rfl, rfl⟩
          · exact k3 j q g2
          · constructor
            · intro hm
              have := hkl _ hm
              omega
            · rintro ⟨x, hx⟩
              exact absurd (List.append_inj' hx rfl).1.symm hpp
    · rw [hnew]
      refine ⟨[], rfl, List.Pairwise.nil, ?_⟩
      intro j q hj
      constructor
      · intro hm; cases hm
      · rintro ⟨x, hx⟩
        exfalso
        rcases hget j q hj with ⟨g1, g2⟩ | ⟨rfl, rfl⟩
        · rw [hx] at g2
          exact hnot (h.child g2).2
        · have := congrArg List.length hx
          simp at this
  · intro j q hj hj0
    rcases hget j q hj with ⟨g1, g2⟩ | ⟨rfl, rfl⟩
    · obtain ⟨p', hp, he⟩ := h.rune j q g2 hj0
      exact ⟨p', List.mem_append_left _ hp, by rw [(hold j g1).1]; exact he⟩
    · exact ⟨p, List.mem_append_left _ (List.mem_of_getElem? ha), by rw [hnew]⟩
theorem mem_takeWhile {α : Type} {q : α → Bool} : ∀ {l : List α} {x : α}, x ∈ l.takeWhile q → q x = true
  | [], _, h => by cases h
  | y :: l, x, h => by
    by_cases hy : q y = true
    · rw [List.takeWhile_cons, if_pos hy] at h
      rcases List.mem_cons.1 h with rfl | h
      · exact hy
      · exact mem_takeWhile h
    · rw [List.takeWhile_cons, if_neg hy] at h
      cases h
theorem head_dropWhile {α : Type} {q : α → Bool} : ∀ {l : List α} {x : α} {t : List α}, l.dropWhile q = x :: t → q x = false
  | [], _, _, h => by cases h
  | y :: l, x, t, h => by
    by_cases hy : q y = true
    · rw [List.dropWhile_cons, if_pos hy] at h
      exact head_dropWhile h
    · rw [List.dropWhile_cons, if_neg hy] at h
      injection h with h1 h2
      subst h1
      exact eq_false_of_ne_true hy
theorem child_spec {ns : List Nd} {P W : List (List Int)} (h : TrI ns P W) {a : Nat} {p : List Int} (ha : P[a]? = some p) (r : Int) (hlen : ns.length < 1000000000000) :
    ∃ ns' P' n, Ev (fun f => childF f ns (a : Int) r) (ns', ((n : Nat) : Int)) ∧ TrI ns' P' W ∧ P'[n]? = some (p ++ [r]) ∧ (∀ q, q ∈ P' ↔ q ∈ P ∨ q = p ++ [r]) ∧ ns'.length ≤ ns.length + 1 := by
  have hal : a < ns.length := by rw [← h.len]; exact lt_of_get ha
  obtain ⟨ks, k1, k2, k3⟩ := h.kids a p ha
  obtain ⟨pre, hpre⟩ : ∃ pre, pre = ks.takeWhile fun j => decide ((nd ns j).r < r) := ⟨_, rfl⟩
  obtain ⟨post, hpost⟩ : ∃ post, post = ks.dropWhile fun j => decide ((nd ns j).r < r) := ⟨_, rfl⟩
  have hks : ks = pre ++ post := by rw [hpre, hpost]; exact List.takeWhile_append_dropWhile.symm
  have hs : ∀ f, ks.length < f → seekF ns r f 0 (nd ns a).kid = some ((pre.getLast?.map (fun j : Nat => (j : Int))).getD 0, (post.head?.map (fun j : Nat => (j : Int))).getD 0) := by
    intro f hf
    rw [hpre, hpost]
    exact seek_spec ns r ks 0 _ f k1 hf
  have hlt := Chain.lt k1
  have hpr : ∀ j ∈ pre, (nd ns j).r < r := by
    intro j hj
    rw [hpre] at hj
    simpa using mem_takeWhile hj
  have hc : ∀ f, ks.length < f → childF f ns (a : Int) r = (if 0 < (post.head?.map (fun j : Nat => (j : Int))).getD 0 then (if (ndAt ns ((post.head?.map (fun j : Nat => (j : Int))).getD 0)).r = r then some (ns, (post.head?.map (fun j : Nat => (j : Int))).getD 0) else growF ns a r ((pre.getLast?.map (fun j : Nat => (j : Int))).getD 0) ((post.head?.map (fun j : Nat => (j : Int))).getD 0))
      else growF ns a r ((pre.getLast?.map (fun j : Nat => (j : Int))).getD 0) ((post.head?.map (fun j : Nat => (j : Int))).getD 0)) := by
    intro f hf
    unfold childF
    rw [if_pos (by omega), if_pos (by omega), ndAt_nat, hs f hf]
    rfl
  have found : ∀ j t, post = j :: t → (nd ns j).r = r → ∃ ns' P' n, Ev (fun f => childF f ns (a : Int) r) (ns', ((n : Nat) : Int)) ∧ TrI ns' P' W ∧ P'[n]? = some (p ++ [r]) ∧ (∀ q, q ∈ P' ↔ q ∈ P ∨ q = p ++ [r]) ∧ ns'.length ≤ ns.length + 1 := by
    intro j t hp hr
    have hj := hlt j (by rw [hks, hp]; simp)
    have hjp : j ∈ ks := by rw [hks, hp]; simp
    obtain ⟨q, hq⟩ : ∃ q, P[j]? = some q := ⟨_, List.getElem?_eq_getElem (by rw [h.len]; exact hj.2)⟩
    obtain ⟨x, hx⟩ := (k3 j q hq).1 hjp
    subst hx
    have hxr := (h.child hq).1
    rw [hr] at hxr
    subst hxr
    refine ⟨ns, P, j, ⟨ks.length + 1, fun f hf => ?_⟩, h, hq, fun q => ⟨.inl, ?_⟩, by omega⟩
    · show childF f ns (a : Int) r = _
      rw [hc f (by omega), hp]
      show (if 0 < (j : Int) then (if (ndAt ns (j : Int)).r = r then some (ns, (j : Int)) else _) else _) = _
      rw [if_pos (by omega), ndAt_nat, if_pos hr]
    · rintro (hm | rfl)
      · exact hm
      · exact List.mem_of_getElem? hq
  -- a new one
  have grown : (∀ j ∈ post, r < (nd ns j).r) → ∃ ns' P' n, Ev (fun f => childF f ns (a : Int) r) (ns', ((n : Nat) : Int)) ∧ TrI ns' P' W ∧ P'[n]? = some (p ++ [r]) ∧ (∀ q, q ∈ P' ↔ q ∈ P ∨ q = p ++ [r]) ∧ ns'.length ≤ ns.length + 1 := by
    intro hpo
    obtain ⟨k0, hk0⟩ : ∃ k0, k0 = (post.head?.map (fun j : Nat => (j : Int))).getD 0 := ⟨_, rfl⟩
    have hch0 : Chain ns k0 post := by
      rcases post with _ | ⟨j, t⟩
      · rw [hk0]; rfl
      · rw [hk0]
        rcases Chain.tail (by rw [← hks]; exact k1 : Chain ns _ (pre ++ j :: t)) with rfl | ⟨b, _, hb⟩
        · rw [hks] at k1
          have : (nd ns a).kid = (j : Int) := k1.1
          rw [List.nil_append, this] at k1
          exact k1
        · have : (nd ns b).oth = (j : Int) := hb.1
          rw [this] at hb
          exact hb
    have hgr : ∀ f, ks.length < f → childF f ns (a : Int) r = growF ns a r ((pre.getLast?.map (fun j : Nat => (j : Int))).getD 0) k0 := by
      intro f hf
      rw [hc f hf, ← hk0]
      by_cases hz : 0 < k0
      · rw [if_pos hz]
        rcases post with _ | ⟨j, t⟩
        · rw [hk0] at hz; simp at hz
        · have : k0 = (j : Int) := hk0
          rw [this, ndAt_nat, if_neg (by have := hpo j List.mem_cons_self; omega)]
      · rw [if_neg hz]
    have kk : Chain ns (nd ns a).kid (pre ++ post) := by rw [← hks]; exact k1
    have pw : (pre ++ post).Pairwise (fun i j => (nd ns i).r < (nd ns j).r) := by rw [← hks]; exact k2
    have mm : ∀ j q, P[j]? = some q → (j ∈ pre ++ post ↔ ∃ x, q = p ++ [x]) := by rw [← hks]; exact k3
    have fin : ∀ ns', growF ns a r ((pre.getLast?.map (fun j : Nat => (j : Int))).getD 0) k0 = some (ns', (ns.length : Int)) → ns'.length = ns.length + 1 → (∀ j, j < ns.length → (nd ns' j).r = (nd ns j).r ∧ (nd ns' j).e = (nd ns j).e) → nd ns' ns.length = ⟨r, false, 0, k0⟩ →
        (∀ j, j < ns.length → j ≠ a → (nd ns' j).kid = (nd ns j).kid) → (∀ j, j < ns.length → j ∉ pre ++ post → (nd ns' j).oth = (nd ns j).oth) → Chain ns' (nd ns' a).kid (pre ++ ns.length :: post) →
        ∃ ns' P' n, Ev (fun f => childF f ns (a : Int) r) (ns', ((n : Nat) : Int)) ∧ TrI ns' P' W ∧ P'[n]? = some (p ++ [r]) ∧ (∀ q, q ∈ P' ↔ q ∈ P ∨ q = p ++ [r]) ∧ ns'.length ≤ ns.length + 1 := by
      intro ns' g1 g2 g3 g4 g5 g6 g7
      obtain ⟨_, hI⟩ := grow_inv h ha kk pw mm hpr hpo g2 g3 g4 g5 g6 g7
      exact ⟨ns', P ++ [p ++ [r]], ns.length, ⟨ks.length + 1, fun f hf => (hgr f (by omega)).trans g1⟩, hI, by rw [← h.len, List.getElem?_concat_length], fun q => by simp, by omega⟩
    have hndp : pre.Nodup := by
      refine (List.Pairwise.imp (fun hh e => ?_) (List.pairwise_append.1 pw).1)
      rw [e] at hh
      omega
    obtain ⟨ns1, hns1⟩ : ∃ ns1, ns1 = ns ++ [(⟨r, false, 0, k0⟩ : Nd)] := ⟨_, rfl⟩
    have hl1 : ns1.length = ns.length + 1 := by rw [hns1]; simp
    have ho1 : ∀ j, j < ns.length → nd ns1 j = nd ns j := fun j hj => by rw [hns1, nd_app, if_pos hj]
    have hn1 : nd ns1 ns.length = ⟨r, false, 0, k0⟩ := by rw [hns1, nd_app, if_neg (by omega), if_pos rfl]
    cases hlast : pre.getLast? with
    | none =>
      have hpn : pre = [] := by simpa using hlast
      have hset : ∀ j, nd (setKid ns1 (a : Int) (ns.length : Int)) j = if j = a then ⟨(nd ns1 a).r, (nd ns1 a).e, (ns.length : Int), (nd ns1 a).oth⟩ else nd ns1 j := by
        intro j
        unfold setKid
        rw [nd_set, Int.toNat_natCast, ndAt_nat]
        by_cases hj : j = a
        · rw [if_pos ⟨hj, by omega⟩, if_pos hj]
        · rw [if_neg (fun e => hj e.1), if_neg hj]
      refine fin (setKid ns1 (a : Int) (ns.length : Int)) ?_ ?_ ?_ ?_ ?_ ?_ ?_
      · rw [hlast]
        unfold growF
        rw [if_pos hlen, if_neg (by simp), hns1]
      · unfold setKid; rw [List.length_set]; exact hl1
      · intro j hj
        rw [hset]
        split
        · rename_i e; subst e; rw [ho1 j hj]; exact ⟨rfl, rfl⟩
        · rw [ho1 j hj]; exact ⟨rfl, rfl⟩
      · rw [hset, if_neg (by omega), hn1]
      · intro j hj hja
        rw [hset, if_neg hja, ho1 j hj]
      · intro j hj _
        rw [hset]
        split
        · rename_i e; subst e; rw [ho1 j hj]
        · rw [ho1 j hj]
      · rw [hpn, List.nil_append]
        refine ⟨by rw [hset, if_pos rfl], by omega, by unfold setKid; rw [List.length_set]; omega, ?_⟩
        rw [hset, if_neg (by omega), hn1]
        refine Chain.congr (by unfold setKid; rw [List.length_set]; omega) (fun j hj => ?_) hch0
        have hjl := (hlt j (by rw [hks]; exact List.mem_append_right _ hj)).2
        rw [hset]
        split
        · rename_i e; subst e; rw [ho1 j hjl]
        · rw [ho1 j hjl]
    | some b =>
      have hbm : b ∈ pre := List.mem_of_getLast? hlast
      have hbl := hlt b (by rw [hks]; exact List.mem_append_left _ hbm)
      have hset : ∀ j, nd (setOth ns1 (b : Int) (ns.length : Int)) j = if j = b then ⟨(nd ns1 b).r, (nd ns1 b).e, (nd ns1 b).kid, (ns.length : Int)⟩ else nd ns1 j := by
        intro j
        unfold setOth
        rw [nd_set, Int.toNat_natCast, ndAt_nat]
        by_cases hj : j = b
        · rw [if_pos ⟨hj, by omega⟩, if_pos hj]
        · rw [if_neg (fun e => hj e.1), if_neg hj]
      refine fin (setOth ns1 (b : Int) (ns.length : Int)) ?_ ?_ ?_ ?_ ?_ ?_ ?_
      · rw [hlast]
        show growF ns a r (b : Int) k0 = _
        unfold growF
        rw [if_pos hlen, if_pos (by omega), if_pos (by omega), hns1]
      · unfold setOth; rw [List.length_set]; exact hl1
      · intro j hj
        rw [hset]
        split
        · rename_i e; subst e; rw [ho1 j hj]; exact ⟨rfl, rfl⟩
        · rw [ho1 j hj]; exact ⟨rfl, rfl⟩
      · rw [hset, if_neg (by omega), hn1]
      · intro j hj _
        rw [hset]
        split
        · rename_i e; subst e; rw [ho1 j hj]
        · rw [ho1 j hj]
      · intro j hj hjm
        rw [hset, if_neg (by rintro rfl; exact hjm (List.mem_append_left _ hbm)), ho1 j hj]
      · have hka : (nd (setOth ns1 (b : Int) (ns.length : Int)) a).kid = (nd ns a).kid := by
          rw [hset]
          split
          · rename_i e; subst e; rw [ho1 a hal]
          · rw [ho1 a hal]
        rw [hka]
        have hpl : ∀ j ∈ pre, j < ns.length := fun j hj => (hlt j (by rw [hks]; exact List.mem_append_left _ hj)).2
        refine Chain.put_ (ns := ns) (b := b) (by unfold setOth; rw [List.length_set]; omega) ?_ (by omega) (by unfold setOth; rw [List.length_set]; omega) ?_ hlast hndp ?_ kk
        · rw [hset, if_pos rfl]
        · rw [hset, if_neg (by omega), hn1]
          refine Chain.congr (by unfold setOth; rw [List.length_set]; omega) (fun j hj => ?_) hch0
          have hjl := (hlt j (by rw [hks]; exact List.mem_append_right _ hj)).2
          rw [hset, if_neg ?_, ho1 j hjl]
          rintro rfl
          have := hpr j hbm
          have := hpo j hj
          omega
        · intro j hj hjb
          rw [hset, if_neg hjb, ho1 j (hpl j hj)]
  rcases post with _ | ⟨j, t⟩
  · exact grown (fun j hj => by cases hj)
  · have hjr : ¬ (nd ns j).r < r := by simpa using head_dropWhile hpost.symm
    by_cases hr : (nd ns j).r = r
    · exact found j t rfl hr
    · refine grown (fun i hi => ?_)
      rcases List.mem_cons.1 hi with rfl | hi
      · omega
      · have h1 : (j :: t).Pairwise (fun i j => (nd ns i).r < (nd ns j).r) := by
          rw [hks] at k2
          exact (List.pairwise_append.1 k2).2.1
        have := (List.pairwise_cons.1 h1).1 i hi
        omega
theorem putL_spec : ∀ (l : List Int) {ns : List Nd} {P W : List (List Int)} (h : TrI ns P W) {a : Nat} {p : List Int} (ha : P[a]? = some p) (hlen : ns.length + l.length < 1000000000000),
    ∃ ns' P' n, Ev (fun f => putL f ns (a : Int) l) (ns', ((n : Nat) : Int)) ∧ TrI ns' P' W ∧ P'[n]? = some (p ++ l) ∧ (∀ q, q ∈ P' ↔ q ∈ P ∨ ∃ t, t ≠ [] ∧ t <+: l ∧ q = p ++ t) ∧ ns'.length ≤ ns.length + l.length
  | [], ns, P, W, h, a, p, ha, _ => by
    refine ⟨ns, P, a, Ev.now _, h, by rw [List.append_nil]; exact ha, fun q => ⟨.inl, ?_⟩, by simp⟩
    rintro (hq | ⟨t, h1, h2, _⟩)
    · exact hq
    · exact absurd (List.prefix_nil.1 h2) h1
  | r :: l, ns, P, W, h, a, p, ha, hlen => by
    simp only [List.length_cons] at hlen
    obtain ⟨ns1, P1, n1, e1, i1, g1, m1, l1⟩ := child_spec h ha r (by omega)
    obtain ⟨ns2, P2, n2, e2, i2, g2, m2, l2⟩ := putL_spec l i1 g1 (by omega)
    refine ⟨ns2, P2, n2, Ev.bind e1 e2, i2, by rw [g2, List.append_assoc]; rfl, fun q => ?_, by simp only [List.length_cons]; omega⟩
    rw [m2, m1]
    constructor
    · rintro ((hq | rfl) | ⟨t, h1, h2, rfl⟩)
      · exact .inl hq
      · exact .inr ⟨[r], by simp, by simp, rfl⟩
      · exact .inr ⟨r :: t, by simp, List.cons_prefix_cons.2 ⟨rfl, h2⟩, by simp⟩
    · rintro (hq | ⟨t, h1, h2, rfl⟩)
      · exact .inl (.inl hq)
      · rcases t with _ | ⟨x, t⟩
        · exact absurd rfl h1
        · obtain ⟨rfl, h3⟩ := List.cons_prefix_cons.1 h2
          by_cases ht : t = []
          · subst ht; exact .inl (.inr rfl)
          · exact .inr ⟨t, ht, h3, by simp⟩
theorem end_inv {ns : List Nd} {P W : List (List Int)} (h : TrI ns P W) {n : Nat} {l : List Int} (hn : P[n]? = some l) : TrI (setEnd ns (n : Int)) P (l :: W) := by
  have hnl : n < ns.length := by rw [← h.len]; exact lt_of_get hn
  have hset : ∀ j, nd (setEnd ns (n : Int)) j = if j = n then ⟨(nd ns n).r, true, (nd ns n).kid, (nd ns n).oth⟩ else nd ns j := by
    intro j
    unfold setEnd
    rw [nd_set, Int.toNat_natCast, ndAt_nat]
    by_cases hj : j = n
    · rw [if_pos ⟨hj, hnl⟩, if_pos hj]
    · rw [if_neg (fun e => hj e.1), if_neg hj]
  have hr : ∀ j, (nd (setEnd ns (n : Int)) j).r = (nd ns j).r := fun j => by
    rw [hset]
    split
    · rename_i e; subst e; rfl
    · rfl
  have hk : ∀ j, (nd (setEnd ns (n : Int)) j).kid = (nd ns j).kid := fun j => by
    rw [hset]
    split
    · rename_i e; subst e; rfl
    · rfl
  have ho : ∀ j, (nd (setEnd ns (n : Int)) j).oth = (nd ns j).oth := fun j => by
    rw [hset]
    split
    · rename_i e; subst e; rfl
    · rfl
  have hl : (setEnd ns (n : Int)).length = ns.length := by unfold setEnd; rw [List.length_set]
  refine ⟨by rw [hl]; exact h.len, h.root, h.nodup, ?_, ?_, ?_, ?_⟩
  · intro w hw
    rcases List.mem_cons.1 hw with rfl | hw
    · exact List.mem_of_getElem? hn
    · exact h.words w hw
  · intro k p hp
    rw [hset]
    by_cases e : k = n
    · subst e
      rw [if_pos rfl]
      rw [hn] at hp
      injection hp with hp
      subst hp
      simp
    · rw [if_neg e, h.ends k p hp, List.mem_cons]
      constructor
      · exact .inr
      · rintro (rfl | hw)
        · exact absurd (idx_inj h.nodup hp hn) e
        · exact hw
  · intro a p hp
    obtain ⟨ks, k1, k2, k3⟩ := h.kids a p hp
    refine ⟨ks, ?_, k2.imp (fun hh => by rw [hr, hr]; exact hh), k3⟩
    rw [hk]
    exact Chain.congr (by rw [hl]; omega) (fun j _ => ho j) k1
  · intro j q hq hj
    rw [hr]
    exact h.rune j q hq hj
theorem putF_spec {ns : List Nd} {P W : List (List Int)} (h : TrI ns P W) (w : Int) (l : List Int) (hl : l ∉ W) (hlen : ns.length + l.length < 1000000000000) :
    ∃ ns' P', Ev (fun f => putF f ns w l) (ns', wrap64 (w + 1)) ∧ TrI ns' P' (l :: W) ∧ (∀ q, q ∈ P' ↔ q ∈ P ∨ (q ≠ [] ∧ q <+: l)) ∧ ns'.length ≤ ns.length + l.length := by
  obtain ⟨ns1, P1, n, e1, i1, g1, m1, l1⟩ := putL_spec l h h.root hlen
  rw [List.nil_append] at g1
  have hnl : n < ns1.length := by rw [← i1.len]; exact lt_of_get g1
  refine ⟨setEnd ns1 (n : Int), P1, ?_, end_inv i1 g1, fun q => ?_, by unfold setEnd; rw [List.length_set]; exact l1⟩
  · refine Ev.bind e1 ?_
    have he : ¬ (nd ns1 n).e = true := fun hh => hl ((i1.ends n l g1).1 hh)
    simp only [ndAt_nat]
    rw [if_pos (by omega), if_pos (by omega), if_neg he]
    exact Ev.now _
  · rw [m1]
    constructor
    · rintro (hq | ⟨t, h1, h2, rfl⟩)
      · exact .inl hq
      · exact .inr ⟨h1, h2⟩
    · rintro (hq | ⟨h1, h2⟩)
      · exact .inl hq
      · exact .inr ⟨q, h1, h2, rfl⟩
theorem start_inv : TrI [nd0] [[]] [] := by
  refine ⟨rfl, rfl, by simp, fun w hw => (by cases hw), ?_, ?_, ?_⟩
  · intro k p hp
    have : k = 0 := by have := lt_of_get hp; simp at this; omega
    subst this
    simp [nd, nd0]
  · intro a p hp
    have : a = 0 := by have := lt_of_get hp; simp at this; omega
    subst this
    refine ⟨[], rfl, List.Pairwise.nil, fun j q hq => ?_⟩
    have : j = 0 := by have := lt_of_get hq; simp at this; omega
    subst this
    simp only [List.getElem?_cons_zero, Option.some.injEq] at hq
    subst hq
    simp
  · intro j q hq hj
    have := lt_of_get hq
    simp at this
    omega
theorem TrI.closed {ns : List Nd} {P W : List (List Int)} (h : TrI ns P W) {p : List Int} : ∀ (n : Nat) (t : List Int), t.length = n → p ++ t ∈ P → p ∈ P
  | 0, t, hn, hm => by
    obtain rfl := List.length_eq_zero_iff.1 hn
    rwa [List.append_nil] at hm
  | n + 1, t, hn, hm => by
    have hne : t ≠ [] := by rintro rfl; simp at hn
    rw [← List.dropLast_concat_getLast hne, ← List.append_assoc] at hm
    obtain ⟨j, hj, he⟩ := List.mem_iff_getElem.1 hm
    exact TrI.closed h n t.dropLast (by rw [List.length_dropLast, hn]; rfl) (h.child (j := j) (by rw [List.getElem?_eq_getElem hj, he])).2