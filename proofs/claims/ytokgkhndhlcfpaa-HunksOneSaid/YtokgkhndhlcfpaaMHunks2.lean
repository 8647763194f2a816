/- Plain mathematics of changes, continued: what the changes are between; how few go and come. -/
import Derived.Test.YtokgkhndhlcfpaaMHunks
namespace Go.Proofs.Ytokgkhndhlcfpaa.M
set_option linter.unusedVariables false
set_option linter.unusedSimpArgs false
/-- Lines as lists of bytes. -/
def tl (x : List ByteArray) : List (List UInt8) := x.map ByteArray.toList
theorem lcs_sub (x y : List ByteArray) : ∃ s : List (List UInt8), List.Sublist s (tl x) ∧ List.Sublist s (tl y) ∧ s.length = lcs x y := by
  induction x, y using lcs.induct with
  | case1 y => exact ⟨[], List.nil_sublist _, List.nil_sublist _, by rw [lcs_nil]; rfl⟩
  | case2 a x => exact ⟨[], List.nil_sublist _, List.nil_sublist _, by rw [lcs_nil']; rfl⟩
  | case3 a x b y h ih =>
    obtain ⟨s, h1, h2, h3⟩ := ih
    refine ⟨a.toList :: s, List.Sublist.cons_cons _ h1, ?_, by rw [lcs_cons, if_pos h, List.length_cons, h3]⟩
    show List.Sublist (a.toList :: s) (b.toList :: tl y)
    rw [h]
    exact List.Sublist.cons_cons _ h2
  | case4 a x b y h ih1 ih2 =>
    rw [lcs_cons, if_neg h, Nat.max_def]
    split
    · obtain ⟨s, h1, h2, h3⟩ := ih2
      exact ⟨s, h1, List.Sublist.cons _ h2, h3⟩
    · obtain ⟨s, h1, h2, h3⟩ := ih1
      exact ⟨s, List.Sublist.cons _ h1, h2, h3⟩
theorem lcs_max (x y : List ByteArray) : ∀ s : List (List UInt8), List.Sublist s (tl x) → List.Sublist s (tl y) → s.length ≤ lcs x y := by
  induction x, y using lcs.induct with
  | case1 y =>
    intro s h1 h2
    have := h1.length_le
    simp [tl] at this
    simp [this]
  | case2 a x =>
    intro s h1 h2
    have := h2.length_le
    simp [tl] at this
    simp [this]
  | case3 a x b y h ih =>
    intro s h1 h2
    rw [lcs_cons, if_pos h]
    cases s with
    | nil => simp
    | cons c s =>
      have g1 : List.Sublist s (tl x) := by
        have h1' : List.Sublist (c :: s) (a.toList :: tl x) := h1
        cases h1' with
        | cons _ h => exact (List.sublist_cons_self c s).trans h
        | cons_cons _ h => exact h
      have g2 : List.Sublist s (tl y) := by
        have h2' : List.Sublist (c :: s) (b.toList :: tl y) := h2
        cases h2' with
        | cons _ h => exact (List.sublist_cons_self c s).trans h
        | cons_cons _ h => exact h
      have := ih s g1 g2
      rw [List.length_cons]; omega
  | case4 a x b y h ih1 ih2 =>
    intro s h1 h2
    rw [lcs_cons, if_neg h]
    have h1' : List.Sublist s (a.toList :: tl x) := h1
    have h2' : List.Sublist s (b.toList :: tl y) := h2
    rcases List.sublist_cons_iff.1 h1' with g | ⟨r, e1, g⟩
    · have := ih1 s g h2; omega
    · rcases List.sublist_cons_iff.1 h2' with g2 | ⟨r2, e2, g2⟩
      · have := ih2 s h1 g2; omega
      · rw [e1] at e2
        injection e2 with e2 _
        exact absurd e2 h
theorem tl_append (x y : List ByteArray) : tl (x ++ y) = tl x ++ tl y := List.map_append
/-- One line that is the same at both ends counts once. -/
theorem lcs_snoc (x y : List ByteArray) (a b : ByteArray) (h : a.toList = b.toList) : lcs (x ++ [a]) (y ++ [b]) = lcs x y + 1 := by
  have key : ∀ (s u : List (List UInt8)) (c : List UInt8), List.Sublist s (u ++ [c]) → List.Sublist s.dropLast u := by
    intro s u c hs
    have := List.sublist_append_iff.1 hs
    obtain ⟨s1, s2, rfl, g1, g2⟩ := this
    have hl := g2.length_le
    simp only [List.length_cons, List.length_nil] at hl
    match s2, hl with
    | [], _ => rw [List.append_nil]; exact (List.dropLast_sublist _).trans g1
    | [d], _ => rw [List.dropLast_concat]; exact g1
  apply Nat.le_antisymm
  · obtain ⟨s, h1, h2, h3⟩ := lcs_sub (x ++ [a]) (y ++ [b])
    rw [tl_append] at h1 h2
    have := lcs_max x y s.dropLast (key s (tl x) a.toList h1) (key s (tl y) b.toList h2)
    rw [List.length_dropLast] at this
    omega
  · obtain ⟨s, h1, h2, h3⟩ := lcs_sub x y
    have := lcs_max (x ++ [a]) (y ++ [b]) (s ++ [a.toList]) (by rw [tl_append]; exact List.Sublist.append h1 (List.Sublist.refl _)) (by rw [tl_append, h]; exact List.Sublist.append h2 (List.Sublist.refl _))
    rw [List.length_append, h3] at this
    exact this
/-- Lines that are the same at both beginnings count. -/
theorem lcs_pre : ∀ p q : List ByteArray, lcs p q = pre p q + lcs (p.drop (pre p q)) (q.drop (pre p q))
  | [], q => by rw [pre_nil, List.drop_zero, List.drop_zero, Nat.zero_add]
  | _ :: _, [] => by rw [pre_nil', List.drop_zero, List.drop_zero, Nat.zero_add]
  | a :: x, b :: y => by
    by_cases h : a.toList = b.toList
    · rw [lcs_cons, pre_cons, if_pos h, if_pos h, List.drop_succ_cons, List.drop_succ_cons, lcs_pre x y]; omega
    · rw [pre_cons, if_neg h, List.drop_zero, List.drop_zero, Nat.zero_add]
theorem take_last (x : List ByteArray) (h : 0 < x.length) : x = x.take (x.length - 1) ++ [lastOf x] := by
  have e : x.length - 1 < x.length := by omega
  have h1 := List.take_append_drop (x.length - 1) x
  rw [List.drop_eq_getElem_cons e, List.drop_eq_nil_of_le (show x.length ≤ x.length - 1 + 1 by omega)] at h1
  have : lastOf x = x[x.length - 1] := by unfold lastOf; rw [List.getD_eq_getElem?_getD, List.getElem?_eq_getElem e]; rfl
  rw [this]
  exact h1.symm
/-- What strip takes away. -/
theorem strip_parts (x y : List ByteArray) : ∃ s t : List ByteArray, x = (strip x y).1 ++ s ∧ y = (strip x y).2 ++ t ∧ tl s = tl t ∧ lcs x y = lcs (strip x y).1 (strip x y).2 + s.length := by
  by_cases h : 0 < x.length ∧ 0 < y.length ∧ (lastOf x).toList = (lastOf y).toList
  · rw [strip_pos x y h]
    obtain ⟨s, t, h1, h2, h3, h4⟩ := strip_parts (x.take (x.length - 1)) (y.take (y.length - 1))
    refine ⟨s ++ [lastOf x], t ++ [lastOf y], ?_, ?_, ?_, ?_⟩
    · rw [← List.append_assoc, ← h1]; exact take_last x h.1
    · rw [← List.append_assoc, ← h2]; exact take_last y h.2.1
    · rw [tl_append, tl_append, h3]
      congr 1
      show [_] = [_]
      rw [h.2.2]
    · rw [List.length_append, ← Nat.add_assoc, ← h4, List.length_singleton, ← lcs_snoc _ _ _ _ h.2.2, ← take_last x h.1, ← take_last y h.2.1]
  · rw [strip_neg x y h]
    exact ⟨[], [], (List.append_nil _).symm, (List.append_nil _).symm, rfl, rfl⟩
termination_by x.length
decreasing_by rw [List.length_take]; omega
/-- How many go and come. -/
def moves : List Mv → Nat
  | [] => 0
  | .keep :: s => moves s
  | .del :: s => moves s + 1
  | .ins :: s => moves s + 1
theorem moves_script (x y : List ByteArray) : moves (script x y) + 2 * lcs x y = x.length + y.length := by
  induction x, y using script.induct with
  | case1 => rw [script_nil, lcs_nil]; rfl
  | case2 b y ih => rw [lcs_nil] at ih; rw [script_ins, lcs_nil]; simp only [moves, List.length_cons, List.length_nil] at *; omega
  | case3 a x ih => rw [lcs_nil'] at ih; rw [script_del, lcs_nil']; simp only [moves, List.length_cons, List.length_nil] at *; omega
  | case4 a x b y h ih => rw [script_cons, if_pos h, lcs_cons, if_pos h]; simp only [moves, List.length_cons] at *; omega
  | case5 a x b y h h2 ih => rw [script_cons, if_neg h, if_pos h2, lcs_cons, if_neg h, Nat.max_eq_left h2]; simp only [moves, List.length_cons] at *; omega
  | case6 a x b y h h2 ih => rw [script_cons, if_neg h, if_neg h2, lcs_cons, if_neg h, Nat.max_eq_right (by omega)]; simp only [moves, List.length_cons] at *; omega
/-- The line at a place. -/
def ln (p : List ByteArray) (i : Nat) : List UInt8 := (p.getD i ByteArray.empty).toList
/-- Lines that are the same, from two places on. -/
def Seg (p q : List ByteArray) (a b n : Nat) : Prop := ∀ t, t < n → ln p (a + t) = ln q (b + t)
/-- A script that leads from two places to two others. -/
def Leads (p q : List ByteArray) : Nat → Nat → List Mv → Nat → Nat → Prop
  | a, b, [], e, f => a = e ∧ b = f
  | a, b, .keep :: s, e, f => a < p.length ∧ b < q.length ∧ ln p a = ln q b ∧ Leads p q (a + 1) (b + 1) s e f
  | a, b, .del :: s, e, f => a < p.length ∧ Leads p q (a + 1) b s e f
  | a, b, .ins :: s, e, f => b < q.length ∧ Leads p q a (b + 1) s e f
theorem ln_drop (p : List ByteArray) (a : Nat) (c : ByteArray) (r : List ByteArray) (h : p.drop a = c :: r) : a < p.length ∧ ln p a = c.toList ∧ p.drop (a + 1) = r := by
  have hl : a < p.length := by
    have := congrArg List.length h
    rw [List.length_drop, List.length_cons] at this
    omega
  rw [List.drop_eq_getElem_cons hl] at h
  injection h with h1 h2
  refine ⟨hl, ?_, h2⟩
  unfold ln
  rw [List.getD_eq_getElem?_getD, List.getElem?_eq_getElem hl, ← h1]
  rfl
theorem script_leads (p q : List ByteArray) (x y : List ByteArray) : ∀ (a b : Nat) (s t : List ByteArray), p.drop a = x ++ s → q.drop b = y ++ t → Leads p q a b (script x y) (a + x.length) (b + y.length) := by
  induction x, y using script.induct with
  | case1 => intro a b s t h1 h2; rw [script_nil]; exact ⟨rfl, rfl⟩
  | case2 c y ih =>
    intro a b s t h1 h2
    rw [script_ins]
    obtain ⟨g1, g2, g3⟩ := ln_drop q b c (y ++ t) h2
    refine ⟨g1, ?_⟩
    have := ih a (b + 1) s t h1 g3
    rw [List.length_cons, show b + (y.length + 1) = b + 1 + y.length by omega]
    exact this
  | case3 c x ih =>
    intro a b s t h1 h2
    rw [script_del]
    obtain ⟨g1, g2, g3⟩ := ln_drop p a c (x ++ s) h1
    refine ⟨g1, ?_⟩
    have := ih (a + 1) b s t g3 h2
    rw [List.length_cons, show a + (x.length + 1) = a + 1 + x.length by omega]
    exact this
  | case4 c x d y h ih =>
    intro a b s t h1 h2
    rw [script_cons, if_pos h]
    obtain ⟨g1, g2, g3⟩ := ln_drop p a c (x ++ s) h1
    obtain ⟨f1, f2, f3⟩ := ln_drop q b d (y ++ t) h2
    refine ⟨g1, f1, by rw [g2, f2, h], ?_⟩
    have := ih (a + 1) (b + 1) s t g3 f3
    rw [List.length_cons, List.length_cons, show a + (x.length + 1) = a + 1 + x.length by omega, show b + (y.length + 1) = b + 1 + y.length by omega]
    exact this
  | case5 c x d y h h2 ih =>
    intro a b s t h1 h2'
    rw [script_cons, if_neg h, if_pos h2]
    obtain ⟨g1, g2, g3⟩ := ln_drop p a c (x ++ s) h1
    refine ⟨g1, ?_⟩
    have := ih (a + 1) b s t g3 h2'
    rw [List.length_cons, show a + (x.length + 1) = a + 1 + x.length by omega]
    exact this
  | case6 c x d y h h2 ih =>
    intro a b s t h1 h2'
    rw [script_cons, if_neg h, if_neg h2]
    obtain ⟨f1, f2, f3⟩ := ln_drop q b d (y ++ t) h2'
    refine ⟨f1, ?_⟩
    have := ih a (b + 1) s t h1 f3
    rw [List.length_cons (a := d), show b + (y.length + 1) = b + 1 + y.length by omega]
    exact this
/-- Changes that rise, apart, with lines that stay between, from two places on, so many lines moved as yet; done, they make the new lines of the old ones. -/
def GoodC (p q : List ByteArray) : Bool → Nat → Nat → Nat → List Ch → Nat → Prop
  | _, a, b, m, [], tot => a ≤ p.length ∧ b ≤ q.length ∧ p.length - a = q.length - b ∧ Seg p q a b (p.length - a) ∧ tot = m
  | fst, a, b, m, c :: cs, tot => ∃ o os n ns : Nat, c = ⟨o, os, n, ns⟩ ∧ a ≤ o ∧ b ≤ n ∧ o - a = n - b ∧ (fst = false → a < o) ∧ os + ns ≠ 0 ∧ o + os ≤ p.length ∧ n + ns ≤ q.length ∧ Seg p q a b (o - a) ∧ GoodC p q false (o + os) (n + ns) (m + (os + ns)) cs tot
theorem Seg.cat {p q : List ByteArray} {a b n m : Nat} (h : Seg p q a b n) (g : Seg p q (a + n) (b + n) m) : Seg p q a b (n + m) := by
  intro t ht
  by_cases h1 : t < n
  · exact h t h1
  · have := g (t - n) (by omega)
    rw [show a + n + (t - n) = a + t by omega, show b + n + (t - n) = b + t by omega] at this
    exact this
theorem Seg.one {p q : List ByteArray} {a b : Nat} (h : ln p a = ln q b) : Seg p q a b 1 := by
  intro t ht
  obtain rfl : t = 0 := by omega
  exact h
theorem grp_good (p q : List ByteArray) (fr e f : Nat) (he : e ≤ p.length) (hf : f ≤ q.length) (hend : p.length - e = q.length - f) (hseg : Seg p q e f (p.length - e)) : ∀ (s : List Mv) (i k o os n ns a b m : Nat) (fst : Bool),
    Leads p q (fr + i) (fr + k) s e f → o + os = fr + i → n + ns = fr + k → fr + i ≤ p.length → fr + k ≤ q.length → a ≤ o → b ≤ n → o - a = n - b → (fst = false → a < o) → Seg p q a b (o - a) →
    GoodC p q fst a b m (grp fr i k ⟨o, os, n, ns⟩ s) (m + (os + ns) + moves s) := by
  have fin : ∀ (o os n ns a b m : Nat) (fst : Bool), o + os = e → n + ns = f → a ≤ o → b ≤ n → o - a = n - b → (fst = false → a < o) → Seg p q a b (o - a) → GoodC p q fst a b m (flushed ⟨o, os, n, ns⟩) (m + (os + ns)) := by
    intro o os n ns a b m fst h1 h2 h5 h6 h7 h8 h9
    unfold flushed
    by_cases hp : os + ns = 0
    · rw [if_neg (by show ¬ ((os : Int) + (ns : Int) > 0); omega)]
      refine ⟨by omega, by omega, by omega, ?_, by omega⟩
      have := h9.cat (m := p.length - e) (by rw [show a + (o - a) = e by omega, show b + (o - a) = f by omega]; exact hseg)
      rw [show o - a + (p.length - e) = p.length - a by omega] at this
      exact this
    · rw [if_pos (by show ((os : Int) + (ns : Int) > 0); omega)]
      refine ⟨o, os, n, ns, rfl, h5, h6, h7, h8, hp, by omega, by omega, h9, by omega, by omega, by omega, ?_, rfl⟩
      rw [h1, h2]; exact hseg
  intro s
  induction s with
  | nil =>
    intro i k o os n ns a b m fst hL h1 h2 h3 h4 h5 h6 h7 h8 h9
    obtain ⟨l1, l2⟩ := hL
    exact fin o os n ns a b m fst (by omega) (by omega) h5 h6 h7 h8 h9
  | cons v s ih =>
    intro i k o os n ns a b m fst hL h1 h2 h3 h4 h5 h6 h7 h8 h9
    cases v with
    | keep =>
      obtain ⟨l1, l2, l3, l4⟩ := hL
      rw [grp_keep]
      have ec : (⟨(fr : Int) + ((i : Int) + 1), 0, (fr : Int) + ((k : Int) + 1), 0⟩ : Ch) = ⟨((fr + (i + 1) : Nat) : Int), ((0 : Nat) : Int), ((fr + (k + 1) : Nat) : Int), ((0 : Nat) : Int)⟩ := by
        congr 1
      have ei : (i : Int) + 1 = ((i + 1 : Nat) : Int) := by omega
      have ek : (k : Int) + 1 = ((k + 1 : Nat) : Int) := by omega
      rw [ec, ei, ek]
      unfold flushed
      by_cases hp : os + ns = 0
      · rw [if_neg (by show ¬ ((os : Int) + (ns : Int) > 0); omega), List.nil_append]
        have hs' : Seg p q a b (fr + (i + 1) - a) := by
          have := h9.cat (m := 1) (by rw [show a + (o - a) = fr + i by omega, show b + (o - a) = fr + k by omega]; exact Seg.one l3)
          rw [show o - a + 1 = fr + (i + 1) - a by omega] at this
          exact this
        have := ih (i + 1) (k + 1) (fr + (i + 1)) 0 (fr + (k + 1)) 0 a b m fst l4 (by omega) (by omega) (by omega) (by omega) (by omega) (by omega) (by omega) (fun hf => by omega) hs'
        rw [hp]
        exact this
      · rw [if_pos (by show ((os : Int) + (ns : Int) > 0); omega)]
        refine ⟨o, os, n, ns, rfl, h5, h6, h7, h8, hp, by omega, by omega, h9, ?_⟩
        have := ih (i + 1) (k + 1) (fr + (i + 1)) 0 (fr + (k + 1)) 0 (o + os) (n + ns) (m + (os + ns)) false l4 (by omega) (by omega) (by omega) (by omega) (by omega) (by omega) (by omega) (fun hf => by omega)
          (by rw [show fr + (i + 1) - (o + os) = 1 by omega, h1, h2]; exact Seg.one l3)
        exact this
    | del =>
      obtain ⟨l1, l4⟩ := hL
      rw [grp_del]
      have ec : (⟨(o : Int), (os : Int) + 1, (n : Int), (ns : Int)⟩ : Ch) = ⟨(o : Int), ((os + 1 : Nat) : Int), (n : Int), (ns : Int)⟩ := by congr 1
      have ei : (i : Int) + 1 = ((i + 1 : Nat) : Int) := by omega
      simp only
      rw [ec, ei]
      have := ih (i + 1) k o (os + 1) n ns a b m fst l4 (by omega) (by omega) (by omega) (by omega) h5 h6 h7 h8 h9
      rw [show m + (os + 1 + ns) + moves s = m + (os + ns) + (moves s + 1) by omega] at this
      exact this
    | ins =>
      obtain ⟨l1, l4⟩ := hL
      rw [grp_ins]
      have ec : (⟨(o : Int), (os : Int), (n : Int), (ns : Int) + 1⟩ : Ch) = ⟨(o : Int), (os : Int), (n : Int), ((ns + 1 : Nat) : Int)⟩ := by congr 1
      have ek : (k : Int) + 1 = ((k + 1 : Nat) : Int) := by omega
      simp only
      rw [ec, ek]
      have := ih i (k + 1) o os n (ns + 1) a b m fst l4 (by omega) (by omega) (by omega) (by omega) h5 h6 h7 h8 h9
      rw [show m + (os + (ns + 1)) + moves s = m + (os + ns) + (moves s + 1) by omega] at this
      exact this
theorem pre_seg : ∀ (p q : List ByteArray), Seg p q 0 0 (pre p q)
  | [], q => fun t ht => by rw [pre_nil] at ht; omega
  | _ :: _, [] => fun t ht => by rw [pre_nil'] at ht; omega
  | a :: x, b :: y => fun t ht => by
    by_cases h : a.toList = b.toList
    · rw [pre_cons, if_pos h] at ht
      cases t with
      | zero => exact h
      | succ t =>
        have := pre_seg x y t (by omega)
        rw [Nat.zero_add] at this ⊢
        exact this
    · rw [pre_cons, if_neg h] at ht; omega
theorem ln_tail (p : List ByteArray) (e : Nat) (s : List ByteArray) (h : p.drop e = s) (t : Nat) : ln p (e + t) = (tl s).getD t [] := by
  subst h
  unfold ln tl
  rw [List.getD_eq_getElem?_getD, List.getD_eq_getElem?_getD, List.getElem?_map, List.getElem?_drop]
  cases p[e + t]?
  · show ByteArray.empty.toList = []; decide +kernel
  · rfl
/-- The changes are good ones, and move as few lines as may be. -/
theorem chgs_good (p q : List ByteArray) (hp : p.length ≤ 1000) (hq : q.length ≤ 1000) : GoodC p q true 0 0 0 (chgs p q) (p.length + q.length - 2 * lcs p q) := by
  have hpl := pre_le p q
  have hsl := strip_le (p.drop (pre p q)) (q.drop (pre p q))
  obtain ⟨s, t, e1, e2, e3, e4⟩ := strip_parts (p.drop (pre p q)) (q.drop (pre p q))
  have e5 := lcs_pre p q
  have e6 := moves_script (strip (p.drop (pre p q)) (q.drop (pre p q))).1 (strip (p.drop (pre p q)) (q.drop (pre p q))).2
  have hL := script_leads p q _ _ (pre p q) (pre p q) s t e1 e2
  have e7 := congrArg List.length e1
  have e8 := congrArg List.length e2
  have e9 := congrArg List.length e3
  unfold tl at e9
  rw [List.length_map, List.length_map] at e9
  rw [List.length_append, List.length_drop] at e7 e8
  rw [List.length_drop, List.length_drop] at hsl
  unfold chgs
  simp only
  generalize (strip (p.drop (pre p q)) (q.drop (pre p q))).1 = x at *
  generalize (strip (p.drop (pre p q)) (q.drop (pre p q))).2 = y at *
  rw [if_neg (by omega)]
  have d1 : p.drop (pre p q + x.length) = s := by rw [← List.drop_drop, e1, List.drop_left]
  have d2 : q.drop (pre p q + y.length) = t := by rw [← List.drop_drop, e2, List.drop_left]
  have hseg : Seg p q (pre p q + x.length) (pre p q + y.length) (p.length - (pre p q + x.length)) := by
    intro j hj
    rw [ln_tail p _ s d1 j, ln_tail q _ t d2 j, e3]
  have main := grp_good p q (pre p q) (pre p q + x.length) (pre p q + y.length) (by omega) (by omega) (by omega) hseg (script x y) 0 0 (pre p q) 0 (pre p q) 0 0 0 0 true hL rfl rfl (by omega) (by omega) (Nat.zero_le _) (Nat.zero_le _) rfl (fun h => by cases h) (pre_seg p q)
  rw [show 0 + (0 + 0) + moves (script x y) = p.length + q.length - 2 * lcs p q by omega] at main
  exact main
theorem chgs_len (p q : List ByteArray) : (chgs p q).length ≤ p.length + q.length + 1 := by
  have hsl := strip_le (p.drop (pre p q)) (q.drop (pre p q))
  rw [List.length_drop, List.length_drop] at hsl
  unfold chgs
  simp only
  split
  · simp
  · have := grp_len (script (strip (p.drop (pre p q)) (q.drop (pre p q))).1 (strip (p.drop (pre p q)) (q.drop (pre p q))).2) (pre p q) 0 0 ⟨pre p q, 0, pre p q, 0⟩
    have := script_len (strip (p.drop (pre p q)) (q.drop (pre p q))).1 (strip (p.drop (pre p q)) (q.drop (pre p q))).2
    omega
end Go.Proofs.Ytokgkhndhlcfpaa.M
