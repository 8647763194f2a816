/- Plain mathematics of hunks: lines with their signs; changes that stand near one another. -/
import Derived.Test.YtokgkhndhlcfpaaMHunks2
namespace Go.Proofs.Ytokgkhndhlcfpaa.M
set_option linter.unusedVariables false
set_option linter.unusedSimpArgs false
/-- A line of a hunk. -/
structure Ln where
  sg : Int
  tx : ByteArray
  br : Bool
/-- A hunk. -/
structure Hk where
  o : Int
  os : Int
  n : Int
  ns : Int
  ls : List Ln
/-- Does a newline end it? -/
def nlEnd (s : ByteArray) : Bool := if 1 ≤ s.size then (s.extract (s.size - 1) s.size).toList == (⟨#[10]⟩ : ByteArray).toList else false
def lineM (sg : Int) (s : ByteArray) : Ln := if nlEnd s then ⟨sg, s.extract 0 (s.size - 1), false⟩ else ⟨sg, s, true⟩
theorem lineM_sg (sg : Int) (s : ByteArray) : (lineM sg s).sg = sg := by unfold lineM; split <;> rfl
/-- A part of a list. -/
def piece (P : List ByteArray) (a b : Nat) : List ByteArray := (P.take b).drop a
theorem piece_len (P : List ByteArray) (a b : Nat) (h : b ≤ P.length) : (piece P a b).length = b - a := by unfold piece; rw [List.length_drop, List.length_take]; omega
/-- A hunk's lines, without those behind its last change. -/
def bodyM (P Q : List ByteArray) : Nat → List Ch → List Ln
  | _, [] => []
  | a, c :: cs => (piece P a c.o.toNat).map (lineM 32) ++ ((piece P c.o.toNat (c.o + c.os).toNat).map (lineM 45) ++ ((piece Q c.n.toNat (c.n + c.ns).toNat).map (lineM 43) ++ bodyM P Q (c.o + c.os).toNat cs))
def endM : Nat → List Ch → Nat
  | a, [] => a
  | _, c :: cs => endM (c.o + c.os).toNat cs
def endN : Nat → List Ch → Nat
  | b, [] => b
  | _, c :: cs => endN (c.n + c.ns).toNat cs
theorem bodyM_cons (P Q : List ByteArray) (a : Nat) (c : Ch) (cs : List Ch) : bodyM P Q a (c :: cs) = (piece P a c.o.toNat).map (lineM 32) ++ ((piece P c.o.toNat (c.o + c.os).toNat).map (lineM 45) ++ ((piece Q c.n.toNat (c.n + c.ns).toNat).map (lineM 43) ++ bodyM P Q (c.o + c.os).toNat cs)) := rfl
theorem endM_cons (a : Nat) (c : Ch) (cs : List Ch) : endM a (c :: cs) = endM (c.o + c.os).toNat cs := rfl
theorem endN_cons (a : Nat) (c : Ch) (cs : List Ch) : endN a (c :: cs) = endN (c.n + c.ns).toNat cs := rfl
/-- How many lines of a sign. -/
def cntM (sg : Int) : List Ln → Nat
  | [] => 0
  | l :: t => if l.sg = sg then cntM sg t + 1 else cntM sg t
theorem cntM_cons (sg : Int) (l : Ln) (t : List Ln) : cntM sg (l :: t) = if l.sg = sg then cntM sg t + 1 else cntM sg t := rfl
theorem cntM_append (sg : Int) (x y : List Ln) : cntM sg (x ++ y) = cntM sg x + cntM sg y := by
  induction x with
  | nil => show _ = 0 + _; rw [Nat.zero_add]; rfl
  | cons l t ih =>
    show (if l.sg = sg then cntM sg (t ++ y) + 1 else cntM sg (t ++ y)) = (if l.sg = sg then cntM sg t + 1 else cntM sg t) + _
    rw [ih]; split <;> omega
theorem cntM_map (sg sg' : Int) (x : List ByteArray) : cntM sg (x.map (lineM sg')) = if sg' = sg then x.length else 0 := by
  induction x with
  | nil => split <;> rfl
  | cons l t ih =>
    show (if (lineM sg' l).sg = sg then cntM sg (t.map (lineM sg')) + 1 else cntM sg (t.map (lineM sg'))) = _
    rw [lineM_sg, ih]
    split <;> simp
theorem cntM_le (sg : Int) (x : List Ln) : cntM sg x ≤ x.length := by
  induction x with
  | nil => exact Nat.le_refl _
  | cons l t ih => unfold cntM; rw [List.length_cons]; split <;> omega
/-- All of a hunk's lines. -/
def linesM (P Q : List ByteArray) (ctx a : Nat) (l : List Ch) : List Ln := bodyM P Q a l ++ (piece P (endM a l) (min (endM a l + ctx) P.length)).map (lineM 32)
/-- The hunk of changes. -/
def hunkM (P Q : List ByteArray) (ctx : Nat) (c : Ch) (cs : List Ch) : Hk :=
  let lead := min ctx c.o.toNat
  let a := c.o.toNat - lead
  let L := linesM P Q ctx a (c :: cs)
  ⟨a, (L.length : Int) - (cntM 43 L : Int), c.n - (lead : Int), (L.length : Int) - (cntM 45 L : Int), L⟩
/-- How many changes, behind one, stand near it. -/
def nearM (ctx : Nat) : Ch → List Ch → Nat
  | _, [] => 0
  | p, c :: cs => if c.o - (p.o + p.os) ≤ 2 * (ctx : Int) then nearM ctx c cs + 1 else 0
theorem nearM_le (ctx : Nat) : ∀ (cs : List Ch) (p : Ch), nearM ctx p cs ≤ cs.length
  | [], _ => Nat.le_refl _
  | c :: cs, p => by
    have := nearM_le ctx cs c
    unfold nearM
    rw [List.length_cons]
    split <;> omega
/-- The hunks of changes. -/
def makeM (P Q : List ByteArray) (ctx : Nat) : List Ch → List Hk
  | [] => []
  | c :: cs => hunkM P Q ctx c (cs.take (nearM ctx c cs)) :: makeM P Q ctx (cs.drop (nearM ctx c cs))
termination_by l => l.length
decreasing_by rw [List.length_drop, List.length_cons]; omega
theorem makeM_nil (P Q : List ByteArray) (ctx : Nat) : makeM P Q ctx [] = [] := by rw [makeM]
theorem makeM_cons (P Q : List ByteArray) (ctx : Nat) (c : Ch) (cs : List Ch) : makeM P Q ctx (c :: cs) = hunkM P Q ctx c (cs.take (nearM ctx c cs)) :: makeM P Q ctx (cs.drop (nearM ctx c cs)) := by rw [makeM]
/-- Changes that lie within both lists, behind a place. -/
def Fit (P Q : List ByteArray) : Nat → List Ch → Prop
  | _, [] => True
  | a, c :: cs => ∃ o os n ns : Nat, c = ⟨o, os, n, ns⟩ ∧ a ≤ o ∧ o + os ≤ P.length ∧ n + ns ≤ Q.length ∧ Fit P Q (o + os) cs
theorem Fit.mono {P Q : List ByteArray} {a a' : Nat} {l : List Ch} (h : Fit P Q a l) (ha : a' ≤ a) : Fit P Q a' l := by
  cases l with
  | nil => trivial
  | cons c cs =>
    obtain ⟨o, os, n, ns, h1, h2, h3, h4, h5⟩ := h
    exact ⟨o, os, n, ns, h1, by omega, h3, h4, h5⟩
theorem Fit.take {P Q : List ByteArray} : ∀ {l : List Ch} {a : Nat} (m : Nat), Fit P Q a l → Fit P Q a (l.take m)
  | [], _, m, _ => by rw [List.take_nil]; trivial
  | _ :: _, _, 0, _ => trivial
  | _ :: _, _, m + 1, ⟨o, os, n, ns, h1, h2, h3, h4, h5⟩ => ⟨o, os, n, ns, h1, h2, h3, h4, h5.take m⟩
theorem Fit.drop {P Q : List ByteArray} : ∀ {l : List Ch} {a : Nat} (m : Nat), Fit P Q a l → Fit P Q a (l.drop m)
  | [], _, m, _ => by rw [List.drop_nil]; trivial
  | _ :: _, _, 0, h => h
  | _ :: _, a, m + 1, ⟨o, os, n, ns, h1, h2, h3, h4, h5⟩ => (h5.drop m).mono (by omega)
theorem GoodC.fit {P Q : List ByteArray} : ∀ {l : List Ch} {fst : Bool} {a b m tot : Nat}, GoodC P Q fst a b m l tot → Fit P Q a l
  | [], _, _, _, _, _, _ => trivial
  | _ :: _, _, _, _, _, _, ⟨o, os, n, ns, h1, h2, h3, h4, h5, h6, h7, h8, h9, h10⟩ => ⟨o, os, n, ns, h1, h2, h7, h8, h10.fit⟩
/-- What the first changes leave. -/
theorem GoodC.rest {P Q : List ByteArray} : ∀ {l : List Ch} {a b m tot : Nat} (k : Nat), GoodC P Q false a b m l tot → ∃ m', GoodC P Q false (endM a (l.take k)) (endN b (l.take k)) m' (l.drop k) tot
  | [], a, b, m, tot, k, h => ⟨m, by rw [List.take_nil, List.drop_nil]; exact h⟩
  | _ :: _, a, b, m, tot, 0, h => ⟨m, h⟩
  | c :: cs, a, b, m, tot, k + 1, ⟨o, os, n, ns, h1, h2, h3, h4, h5, h6, h7, h8, h9, h10⟩ => by
    obtain ⟨m', h⟩ := h10.rest k
    refine ⟨m', ?_⟩
    subst h1
    exact h
theorem GoodC.rest1 {P Q : List ByteArray} {fst : Bool} {c : Ch} {cs : List Ch} {a b m tot : Nat} (k : Nat) (h : GoodC P Q fst a b m (c :: cs) tot) : ∃ m', GoodC P Q false (endM a (c :: cs.take k)) (endN b (c :: cs.take k)) m' (cs.drop k) tot := by
  obtain ⟨o, os, n, ns, h1, h2, h3, h4, h5, h6, h7, h8, h9, h10⟩ := h
  obtain ⟨m', h⟩ := h10.rest k
  refine ⟨m', ?_⟩
  subst h1
  exact h
/-- A hunk's numbers are its lines'. -/
theorem body_counts {P Q : List ByteArray} : ∀ (l : List Ch) (fst : Bool) (a b m tot : Nat) (rest : List Ch), GoodC P Q fst a b m (l ++ rest) tot →
    (bodyM P Q a l).length = cntM 43 (bodyM P Q a l) + (endM a l - a) ∧ (bodyM P Q a l).length = cntM 45 (bodyM P Q a l) + (endN b l - b) ∧ a ≤ endM a l ∧ b ≤ endN b l ∧ endM a l ≤ P.length ∧ endN b l ≤ Q.length
  | [], fst, a, b, m, tot, rest, h => by
    have h0 : a ≤ P.length ∧ b ≤ Q.length := by
      cases rest with
      | nil => exact ⟨h.1, h.2.1⟩
      | cons c cs =>
        obtain ⟨o, os, n, ns, h1, h2, h3, h4, h5, h6, h7, h8, h9, h10⟩ := h
        omega
    refine ⟨?_, ?_, Nat.le_refl _, Nat.le_refl _, h0.1, h0.2⟩
    · show 0 = 0 + (a - a); omega
    · show 0 = 0 + (b - b); omega
  | c :: l, fst, a, b, m, tot, rest, h => by
    obtain ⟨o, os, n, ns, h1, h2, h3, h4, h5, h6, h7, h8, h9, h10⟩ := h
    subst h1
    obtain ⟨g1, g2, g3, g4, g5, g6⟩ := body_counts l false (o + os) (n + ns) _ tot rest h10
    have e1 : ((o : Int) + (os : Int)).toNat = o + os := by omega
    have e2 : ((n : Int) + (ns : Int)).toNat = n + ns := by omega
    unfold bodyM endM endN
    simp only [List.length_append, List.length_map, cntM_append, cntM_map, Int.toNat_natCast, e1, e2, show ¬ ((32 : Int) = 43) by decide, show ¬ ((45 : Int) = 43) by decide, show ¬ ((32 : Int) = 45) by decide, show ¬ ((43 : Int) = 45) by decide, if_true, if_false]
    rw [piece_len P a o (by omega), piece_len P o (o + os) h7, piece_len Q n (n + ns) h8]
    refine ⟨by omega, by omega, by omega, by omega, g5, g6⟩
/-- The next change stands further off than twice the context. -/
def Gap (ctx a : Nat) : List Ch → Prop
  | [] => True
  | c :: _ => a + 2 * ctx < c.o.toNat
theorem near_gap (P Q : List ByteArray) (ctx : Nat) : ∀ (cs : List Ch) (p : Ch) (a : Nat), Fit P Q a (p :: cs) → Gap ctx (endM a (p :: cs.take (nearM ctx p cs))) (cs.drop (nearM ctx p cs))
  | [], p, a, _ => by rw [List.drop_nil]; trivial
  | c :: cs, p, a, h => by
    obtain ⟨o, os, n, ns, h1, h2, h3, h4, o', os', n', ns', g1, g2, g3, g4, g5⟩ := h
    subst h1
    subst g1
    unfold nearM
    simp only
    by_cases hc : (o' : Int) - ((o : Int) + (os : Int)) ≤ 2 * (ctx : Int)
    · rw [if_pos hc, List.take_succ_cons, List.drop_succ_cons]
      have := near_gap P Q ctx cs ⟨o', os', n', ns'⟩ (o + os) ⟨o', os', n', ns', rfl, g2, g3, g4, g5⟩
      exact this
    · rw [if_neg hc]
      show ((o : Int) + (os : Int)).toNat + 2 * ctx < ((o' : Int)).toNat
      omega
theorem cnt_both (x : List Ln) : cntM 43 x + cntM 45 x ≤ x.length := by
  induction x with
  | nil => exact Nat.le_refl _
  | cons l t ih =>
    rw [cntM_cons, cntM_cons, List.length_cons]
    by_cases h : l.sg = 43
    · rw [if_pos h, if_neg (by omega)]; omega
    · rw [if_neg h]; split <;> omega
/-- Where a hunk may begin. -/
def St (ctx a b : Nat) (l : List Ch) : Prop := Gap ctx a l ∨ (a = 0 ∧ b = 0)
theorem GoodC.start {P Q : List ByteArray} {ctx : Nat} {fst : Bool} {a b m tot o os n ns : Nat} {cs : List Ch} (h : GoodC P Q fst a b m (⟨o, os, n, ns⟩ :: cs) tot) (hs : St ctx a b (⟨o, os, n, ns⟩ :: cs)) :
    GoodC P Q true (o - min ctx o) (n - min ctx o) m (⟨o, os, n, ns⟩ :: cs) tot ∧ min ctx o ≤ n ∧ a ≤ o - min ctx o ∧ b ≤ n - min ctx o ∧ o - min ctx o - a = n - min ctx o - b ∧ 0 < os + ns := by
  obtain ⟨o', os', n', ns', h1, h2, h3, h4, h5, h6, h7, h8, h9, h10⟩ := h
  injection h1 with e1 e2 e3 e4
  have e1 : o = o' := by omega
  have e2 : os = os' := by omega
  have e3 : n = n' := by omega
  have e4 : ns = ns' := by omega
  subst e1; subst e2; subst e3; subst e4
  have hl : min ctx o ≤ o - a := by
    rcases hs with hs | ⟨hs, _⟩
    · have hs' : a + 2 * ctx < ((o : Int)).toNat := hs
      omega
    · omega
  refine ⟨⟨o, os, n, ns, rfl, by omega, by omega, by omega, fun h => (by cases h), h6, h7, h8, fun t ht => ?_, h10⟩, by omega, by omega, by omega, by omega, by omega⟩
  have := h9 (o - min ctx o - a + t) (by omega)
  rw [show a + (o - min ctx o - a + t) = o - min ctx o + t by omega, show b + (o - min ctx o - a + t) = n - min ctx o + t by omega] at this
  exact this
/-- Hunks whose numbers are their lines', that rise, apart. -/
def HkGood : Nat → Nat → List Hk → Prop
  | _, _, [] => True
  | a, b, h :: t => ∃ o os n ns : Nat, h.o = o ∧ h.os = os ∧ h.n = n ∧ h.ns = ns ∧ a ≤ o ∧ b ≤ n ∧ o - a = n - b ∧ h.ls.length = cntM 43 h.ls + os ∧ h.ls.length = cntM 45 h.ls + ns ∧ 0 < cntM 43 h.ls + cntM 45 h.ls ∧ h.ls.length ≤ 20000 ∧ o + os ≤ 10000 ∧ n + ns ≤ 20000 ∧ HkGood (o + os) (n + ns) t
theorem body_moved {P Q : List ByteArray} (a : Nat) (cs : List Ch) (o os n ns : Nat) (h : 0 < os + ns) (h1 : o + os ≤ P.length) (h2 : n + ns ≤ Q.length) : 0 < cntM 43 (bodyM P Q a (⟨o, os, n, ns⟩ :: cs)) + cntM 45 (bodyM P Q a (⟨o, os, n, ns⟩ :: cs)) := by
  have t1 : ((o : Int) + (os : Int)).toNat = o + os := by omega
  have t2 : ((n : Int) + (ns : Int)).toNat = n + ns := by omega
  have p1 := piece_len P o (o + os) h1
  have p2 := piece_len Q n (n + ns) h2
  simp only [bodyM_cons, cntM_append, cntM_map, Int.toNat_natCast, t1, t2, show ¬ ((32 : Int) = 43) by decide, show ¬ ((45 : Int) = 43) by decide, show ¬ ((32 : Int) = 45) by decide, show ¬ ((43 : Int) = 45) by decide, if_true, if_false]
  omega
theorem hunk_lines {P Q : List ByteArray} {ctx : Nat} {a b m tot : Nat} (l rest : List Ch) (h : GoodC P Q true a b m (l ++ rest) tot) :
    (linesM P Q ctx a l).length = cntM 43 (linesM P Q ctx a l) + (min (endM a l + ctx) P.length - a) ∧ (linesM P Q ctx a l).length = cntM 45 (linesM P Q ctx a l) + (endN b l + (min (endM a l + ctx) P.length - endM a l) - b) ∧ (linesM P Q ctx a l).length ≤ 2 * P.length + 2 * Q.length := by
  obtain ⟨g1, g2, g3, g4, g5, g6⟩ := body_counts l true a b m tot rest h
  have hb := cnt_both (bodyM P Q a l)
  have hp := piece_len P (endM a l) (min (endM a l + ctx) P.length) (by omega)
  unfold linesM
  simp only [List.length_append, List.length_map, cntM_append, cntM_map, show ¬ ((32 : Int) = 43) by decide, show ¬ ((32 : Int) = 45) by decide, if_false]
  omega
theorem make_good (P Q : List ByteArray) (hP : P.length ≤ 1000) (hQ : Q.length ≤ 1000) (ctx : Nat) (hc : ctx ≤ 16) : ∀ (k : Nat) (l : List Ch) (fst : Bool) (a b m tot at_ to_ : Nat), l.length ≤ k → GoodC P Q fst a b m l tot → ((Gap ctx a l ∧ at_ = min (a + ctx) P.length ∧ to_ = b + (at_ - a)) ∨ (a = 0 ∧ b = 0 ∧ at_ = 0 ∧ to_ = 0)) → HkGood at_ to_ (makeM P Q ctx l) := by
  intro k
  induction k with
  | zero =>
    intro l fst a b m tot at_ to_ hl hG hs
    cases l with
    | nil => rw [makeM_nil]; trivial
    | cons c cs => simp at hl
  | succ k ih =>
    intro l fst a b m tot at_ to_ hl hG hs
    cases l with
    | nil => rw [makeM_nil]; trivial
    | cons c cs =>
      have hF := hG.fit
      have hng := near_gap P Q ctx cs c a hF
      have hG0 := hG
      obtain ⟨o, os, n, ns, rfl, h1, h2, h3, h4, h5, h6, h7, h8, h9⟩ := hG
      have hst : St ctx a b (⟨o, os, n, ns⟩ :: cs) := by
        rcases hs with ⟨hs, _⟩ | ⟨e1, e2, _⟩
        · exact .inl hs
        · exact .inr ⟨e1, e2⟩
      obtain ⟨s1, s2, s3, s4, s5, s6⟩ := hG0.start hst
      rw [makeM_cons]
      generalize hk : nearM ctx ⟨o, os, n, ns⟩ cs = j at *
      have s1' : GoodC P Q true (o - min ctx o) (n - min ctx o) m ((⟨o, os, n, ns⟩ :: cs.take j) ++ cs.drop j) tot := by rw [List.cons_append, List.take_append_drop]; exact s1
      obtain ⟨l1, l2, l3⟩ := hunk_lines (ctx := ctx) _ _ s1'
      obtain ⟨g1, g2, g3, g4, g5, g6⟩ := body_counts _ true _ _ m tot _ s1'
      obtain ⟨m', hR⟩ := hG0.rest1 j
      have hmv := body_moved (P := P) (Q := Q) (o - min ctx o) (cs.take j) o os n ns s6 h6 h7
      have eM : endM (o - min ctx o) (⟨o, os, n, ns⟩ :: cs.take j) = endM a (⟨o, os, n, ns⟩ :: cs.take j) := rfl
      have eN : endN (n - min ctx o) (⟨o, os, n, ns⟩ :: cs.take j) = endN b (⟨o, os, n, ns⟩ :: cs.take j) := rfl
      rw [eM] at l1 l2 g3 g5
      rw [eN] at l2 g4 g6
      have hrest := ih (cs.drop j) false _ _ m' tot (min (endM a (⟨o, os, n, ns⟩ :: cs.take j) + ctx) P.length) (endN b (⟨o, os, n, ns⟩ :: cs.take j) + (min (endM a (⟨o, os, n, ns⟩ :: cs.take j) + ctx) P.length - endM a (⟨o, os, n, ns⟩ :: cs.take j))) (by rw [List.length_drop]; rw [List.length_cons] at hl; omega) hR (.inl ⟨hng, rfl, rfl⟩)
      generalize endM a (⟨o, os, n, ns⟩ :: cs.take j) = e at *
      generalize endN b (⟨o, os, n, ns⟩ :: cs.take j) = f at *
      have hcm : cntM 43 (bodyM P Q (o - min ctx o) (⟨o, os, n, ns⟩ :: cs.take j)) + cntM 45 (bodyM P Q (o - min ctx o) (⟨o, os, n, ns⟩ :: cs.take j)) ≤ cntM 43 (linesM P Q ctx (o - min ctx o) (⟨o, os, n, ns⟩ :: cs.take j)) + cntM 45 (linesM P Q ctx (o - min ctx o) (⟨o, os, n, ns⟩ :: cs.take j)) := by
        unfold linesM
        rw [cntM_append, cntM_append]
        omega
      generalize hLs : linesM P Q ctx (o - min ctx o) (⟨o, os, n, ns⟩ :: cs.take j) = Ls at *
      have ho : ((o : Int)).toNat = o := by omega
      refine ⟨o - min ctx o, min (e + ctx) P.length - (o - min ctx o), n - min ctx o, f + (min (e + ctx) P.length - e) - (n - min ctx o), ?_, ?_, ?_, ?_, ?_, ?_, ?_, ?_, ?_, ?_, ?_, ?_, ?_, ?_⟩
      · show (((o : Int).toNat - min ctx (o : Int).toNat : Nat) : Int) = _
        rw [ho]
      · unfold hunkM
        simp only [ho, hLs]
        omega
      · unfold hunkM
        simp only [ho]
        omega
      · unfold hunkM
        simp only [ho, hLs]
        omega
      · rcases hs with ⟨hs, e1, e2⟩ | ⟨e1, e2, e3, e4⟩
        · have hs' : a + 2 * ctx < ((o : Int)).toNat := hs
          omega
        · omega
      · rcases hs with ⟨hs, e1, e2⟩ | ⟨e1, e2, e3, e4⟩
        · have hs' : a + 2 * ctx < ((o : Int)).toNat := hs
          omega
        · omega
      · rcases hs with ⟨hs, e1, e2⟩ | ⟨e1, e2, e3, e4⟩
        · have hs' : a + 2 * ctx < ((o : Int)).toNat := hs
          omega
        · omega
      · unfold hunkM
        simp only [ho, hLs]
        omega
      · unfold hunkM
        simp only [ho, hLs]
        omega
      · unfold hunkM
        simp only [ho, hLs]
        omega
      · unfold hunkM
        simp only [ho, hLs]
        omega
      · omega
      · omega
      · rw [show o - min ctx o + (min (e + ctx) P.length - (o - min ctx o)) = min (e + ctx) P.length by omega, show n - min ctx o + (f + (min (e + ctx) P.length - e) - (n - min ctx o)) = f + (min (e + ctx) P.length - e) by omega]
        exact hrest
theorem makeM_len (P Q : List ByteArray) (ctx : Nat) : ∀ (k : Nat) (l : List Ch), l.length ≤ k → (makeM P Q ctx l).length ≤ l.length
  | _, [], _ => by rw [makeM_nil]; exact Nat.le_refl _
  | 0, _ :: _, h => by simp at h
  | k + 1, c :: cs, h => by
    rw [makeM_cons, List.length_cons, List.length_cons]
    rw [List.length_cons] at h
    have := makeM_len P Q ctx k (cs.drop (nearM ctx c cs)) (by rw [List.length_drop]; omega)
    rw [List.length_drop] at this
    omega
theorem makeM_empty (P Q : List ByteArray) (ctx : Nat) (l : List Ch) : makeM P Q ctx l = [] ↔ l = [] := by
  cases l with
  | nil => simp [makeM_nil]
  | cons c cs => rw [makeM_cons]; simp
end Go.Proofs.Ytokgkhndhlcfpaa.M
