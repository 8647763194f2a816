/- The reference's Changes, as printed, tells the plain changes. -/
import Derived.Test.YtokgkhndhlcfpaaBCommHunksChanges
import Derived.Test.YtokgkhndhlcfpaaMHunks2
namespace Go.Proofs.Ytokgkhndhlcfpaa.Pure
open Go.RowKit Go.Proofs.Ytokgkhndhlcfpaa.PHunksChanges Go.Proofs.YtokgkhndhlcfpaaW.PrintWords Go.Proofs.YtokgkhndhlcfpaaW.PrintLast Go.Proofs.YtokgkhndhlcfpaaW.PrintMore
open Go.Proofs.Ytokgkhndhlcfpaa.M Go.Proofs.Ytokgkhndhlcfpaa.X
set_option linter.unusedVariables false
set_option linter.unusedSimpArgs false

/-- A change as the reference tells it. -/
def toR (c : Ch) : S40 := ⟨c.o, c.os, c.n, c.ns⟩
theorem flushed_some (c : Ch) (h : c.os + c.ns > 0) : flushed c = [c] := by unfold flushed; exact if_pos h
theorem flushed_none (a b : Int) : flushed ⟨a, 0, b, 0⟩ = [] := by unfold flushed; exact if_neg (by simp)
section
variable (x y : List ByteArray) (hx : x.length ≤ 100000) (hy : y.length ≤ 100000) (fr : Nat) (hfr : fr ≤ 100000)
include hx hy hfr
set_option maxHeartbeats 3200000 in
theorem rchg_both : ∀ (d : Nat), (∀ (i k : Nat) (out : List S40), (x.length - i) + (y.length - k) ≤ d → i ≤ x.length → k ≤ y.length → out.length ≤ i + k →
      Ev (fun f => redpenref18_Changes.l2 f (fr : Int) x y out (i : Int) (k : Int)) (out ++ (grp fr i k ⟨fr + i, 0, fr + k, 0⟩ (script (x.drop i) (y.drop k))).map toR)) ∧
    (∀ (i k os ns : Nat) (o n : Int) (out : List S40), (x.length - i) + (y.length - k) ≤ d → i ≤ x.length → k ≤ y.length → out.length + 1 ≤ i + k + 1 → os ≤ i → ns ≤ k → (0 < os + ns → out.length + 1 ≤ i + k) →
      (0 < os + ns ∨ ((i < x.length ∨ k < y.length) ∧ ∀ (h1 : i < x.length) (h2 : k < y.length), x[i].toList ≠ y[k].toList)) →
      Ev (fun f => redpenref18_Changes.l3 f (fr : Int) x y out (i : Int) (k : Int) o (os : Int) n (ns : Int)) (out ++ (grp fr i k ⟨o, os, n, ns⟩ (script (x.drop i) (y.drop k))).map toR)) := by
  intro d
  induction d with
  | zero =>
    have A : ∀ (i k : Nat) (out : List S40), (x.length - i) + (y.length - k) ≤ 0 → i ≤ x.length → k ≤ y.length → out.length ≤ i + k →
        Ev (fun f => redpenref18_Changes.l2 f (fr : Int) x y out (i : Int) (k : Int)) (out ++ (grp fr i k ⟨fr + i, 0, fr + k, 0⟩ (script (x.drop i) (y.drop k))).map toR) := by
      intro i k out hd hi hk hl
      obtain rfl : i = x.length := by omega
      obtain rfl : k = y.length := by omega
      rw [List.drop_length, List.drop_length, script_nil, show grp (fr : Int) (x.length : Int) (y.length : Int) ⟨fr + (x.length : Int), 0, fr + (y.length : Int), 0⟩ [] = flushed ⟨fr + (x.length : Int), 0, fr + (y.length : Int), 0⟩ from rfl, flushed_none, List.map_nil, List.append_nil]
      refine Ev.step (f := fun f => redpenref18_Changes.j6 f (fr : Int) x y out (x.length : Int) (y.length : Int) false) (fun f => ?_) (Ev.step (f := fun _ => some out) (fun f => ?_) (Ev.now _))
      · simp only [redpenref18_Changes.l2]
        rw [if_neg (by omega), decide_eq_false (by omega)]
      · simp only [redpenref18_Changes.j6]
        rw [if_neg (by simp)]
    refine ⟨A, ?_⟩
    intro i k os ns o n out hd hi hk hl h1 h2 h3 hor
    have hpos : 0 < os + ns := by
      rcases hor with h | ⟨h, _⟩
      · exact h
      · omega
    have a := A i k (out ++ [toR ⟨o, os, n, ns⟩]) hd hi hk (by rw [List.length_append, List.length_singleton]; exact h3 hpos)
    obtain rfl : i = x.length := by omega
    obtain rfl : k = y.length := by omega
    rw [List.drop_length, List.drop_length, script_nil] at a ⊢
    rw [show grp (fr : Int) (x.length : Int) (y.length : Int) ⟨fr + (x.length : Int), 0, fr + (y.length : Int), 0⟩ [] = flushed ⟨fr + (x.length : Int), 0, fr + (y.length : Int), 0⟩ from rfl, flushed_none, List.map_nil, List.append_nil] at a
    rw [show grp (fr : Int) (x.length : Int) (y.length : Int) ⟨o, (os : Int), n, (ns : Int)⟩ [] = flushed ⟨o, os, n, ns⟩ from rfl, flushed_some _ (by show (os : Int) + (ns : Int) > 0; omega)]
    refine Ev.step (f := fun f => redpenref18_Changes.j9 f (fr : Int) x y out (x.length : Int) (y.length : Int) false o (os : Int) n (ns : Int)) (fun f => ?_) (Ev.step (fun f => ?_) a)
    · simp only [redpenref18_Changes.l3]
      rw [if_neg (by omega), decide_eq_false (by omega)]
    · simp only [redpenref18_Changes.j9]
      rw [if_neg (by simp), if_pos (by omega)]
      rfl
  | succ d ih =>
    obtain ⟨ihA, ihB⟩ := ih
    -- behind a line that stays, or at the end
    have key : ∀ (i k : Nat) (h1 : i < x.length) (h2 : k < y.length) (out : List S40), x[i].toList = y[k].toList → (x.length - i) + (y.length - k) ≤ d + 1 → out.length ≤ i + k →
        Ev (fun f => redpenref18_Changes.l2 f (fr : Int) x y out (i : Int) (k : Int)) (out ++ (grp fr ((i : Int) + 1) ((k : Int) + 1) ⟨fr + ((i : Int) + 1), 0, fr + ((k : Int) + 1), 0⟩ (script (x.drop (i + 1)) (y.drop (k + 1)))).map toR) := by
      intro i k h1 h2 out he hd hl
      have e1 : ∀ _ : Unit, wrap64 ((i : Int) + 1) = ((i + 1 : Nat) : Int) := fun _ => hw64 _ _ (by omega) (by omega)
      have e2 : ∀ _ : Unit, wrap64 ((k : Int) + 1) = ((k + 1 : Nat) : Int) := fun _ => hw64 _ _ (by omega) (by omega)
      have a := ihA (i + 1) (k + 1) out (by omega) (by omega) (by omega) (by omega)
      rw [show ((i + 1 : Nat) : Int) = (i : Int) + 1 by omega, show ((k + 1 : Nat) : Int) = (k : Int) + 1 by omega] at a
      refine Ev.step (f := fun f => redpenref18_Changes.j6 f (fr : Int) x y out (i : Int) (k : Int) true) (fun f => ?_) (Ev.step (f := fun f => redpenref18_Changes.j7 f (fr : Int) x y out (i : Int) (k : Int) true) (fun f => ?_) (Ev.step (fun f => ?_) a))
      · simp only [redpenref18_Changes.l2]
        rw [if_pos (by omega)]
      · simp only [redpenref18_Changes.j6]
        rw [if_pos (by simp), if_pos (by omega), if_pos (by omega), if_pos (by omega), if_pos (by omega), rdOf_at x i h1, rdOf_at y k h2, he]
        simp
      · simp only [redpenref18_Changes.j7]
        rw [if_pos (by simp), e1 (), e2 (), show ((i + 1 : Nat) : Int) = (i : Int) + 1 by omega, show ((k + 1 : Nat) : Int) = (k : Int) + 1 by omega]
    have B : ∀ (i k os ns : Nat) (o n : Int) (out : List S40), (x.length - i) + (y.length - k) ≤ d + 1 → i ≤ x.length → k ≤ y.length → out.length + 1 ≤ i + k + 1 → os ≤ i → ns ≤ k → (0 < os + ns → out.length + 1 ≤ i + k) →
        (0 < os + ns ∨ ((i < x.length ∨ k < y.length) ∧ ∀ (h1 : i < x.length) (h2 : k < y.length), x[i].toList ≠ y[k].toList)) →
        Ev (fun f => redpenref18_Changes.l3 f (fr : Int) x y out (i : Int) (k : Int) o (os : Int) n (ns : Int)) (out ++ (grp fr i k ⟨o, os, n, ns⟩ (script (x.drop i) (y.drop k))).map toR) := by
      intro i k os ns o n out hd hi hk hl q1 q2 q3 hor
      by_cases hz : (x.length - i) + (y.length - k) ≤ d
      · exact ihB i k os ns o n out hz hi hk hl q1 q2 q3 hor
      have e1 : ∀ _ : Unit, wrap64 ((i : Int) + 1) = ((i + 1 : Nat) : Int) := fun _ => hw64 _ _ (by omega) (by omega)
      have e2 : ∀ _ : Unit, wrap64 ((k : Int) + 1) = ((k + 1 : Nat) : Int) := fun _ => hw64 _ _ (by omega) (by omega)
      have e3 : ∀ _ : Unit, wrap64 ((os : Int) + 1) = ((os + 1 : Nat) : Int) := fun _ => hw64 _ _ (by omega) (by omega)
      have e4 : ∀ _ : Unit, wrap64 ((ns : Int) + 1) = ((ns + 1 : Nat) : Int) := fun _ => hw64 _ _ (by omega) (by omega)
      have ei : ((i + 1 : Nat) : Int) = (i : Int) + 1 := by omega
      have ek : ((k + 1 : Nat) : Int) = (k : Int) + 1 := by omega
      have eo : ((os + 1 : Nat) : Int) = (os : Int) + 1 := by omega
      have en : ((ns + 1 : Nat) : Int) = (ns : Int) + 1 := by omega
      have del : i < x.length → Ev (fun f => redpenref18_Changes.l3 f (fr : Int) x y out ((i + 1 : Nat) : Int) (k : Int) o ((os + 1 : Nat) : Int) n (ns : Int)) (out ++ (grp fr i k ⟨o, os, n, ns⟩ (.del :: script (x.drop (i + 1)) (y.drop k))).map toR) := by
        intro h1
        have := ihB (i + 1) k (os + 1) ns o n out (by omega) (by omega) hk (by omega) (by omega) q2 (fun _ => by omega) (.inl (by omega))
        rw [grp_del]
        rw [ei, eo] at this ⊢
        exact this
      have ins : k < y.length → Ev (fun f => redpenref18_Changes.l3 f (fr : Int) x y out (i : Int) ((k + 1 : Nat) : Int) o (os : Int) n ((ns + 1 : Nat) : Int)) (out ++ (grp fr i k ⟨o, os, n, ns⟩ (.ins :: script (x.drop i) (y.drop (k + 1)))).map toR) := by
        intro h1
        have := ihB i (k + 1) os (ns + 1) o n out (by omega) hi (by omega) (by omega) q1 (by omega) (fun _ => by omega) (.inl (by omega))
        rw [grp_ins]
        rw [ek, en] at this ⊢
        exact this
      by_cases h1 : i < x.length
      · have dx := List.drop_eq_getElem_cons h1
        have s1 : ∀ f : Nat, redpenref18_Changes.l3 (f + 1) (fr : Int) x y out (i : Int) (k : Int) o (os : Int) n (ns : Int) = redpenref18_Changes.j9 f (fr : Int) x y out (i : Int) (k : Int) true o (os : Int) n (ns : Int) := by
          intro f
          simp only [redpenref18_Changes.l3]
          rw [if_pos (by omega)]
        by_cases h2 : k < y.length
        · have dy := List.drop_eq_getElem_cons h2
          have s2 : ∀ f : Nat, redpenref18_Changes.j9 (f + 1) (fr : Int) x y out (i : Int) (k : Int) true o (os : Int) n (ns : Int) = redpenref18_Changes.j10 f (fr : Int) x y out (i : Int) (k : Int) (x[i].toList == y[k].toList) o (os : Int) n (ns : Int) := by
            intro f
            simp only [redpenref18_Changes.j9]
            rw [if_pos (by simp), if_pos (by omega), if_pos (by omega), if_pos (by omega), if_pos (by omega), rdOf_at x i h1, rdOf_at y k h2]
          by_cases he : x[i].toList = y[k].toList
          · have hpos : 0 < os + ns := by
              rcases hor with h | ⟨_, h⟩
              · exact h
              · exact absurd he (h h1 h2)
            have a := key i k h1 h2 (out ++ [toR ⟨o, os, n, ns⟩]) he hd (by rw [List.length_append, List.length_singleton]; exact q3 hpos)
            rw [dx, dy, script_cons, if_pos he, grp_keep, flushed_some _ (by show (os : Int) + (ns : Int) > 0; omega), List.map_append]
            rw [List.append_assoc] at a
            refine Ev.step s1 (Ev.step s2 (Ev.step (fun f => ?_) a))
            simp only [redpenref18_Changes.j10]
            rw [if_pos (by simp [he]), if_pos (by omega)]
            rfl
          · have c1 := common_ev (x.drop (i + 1)) (y.drop k) (by rw [List.length_drop]; omega) (by rw [List.length_drop]; omega)
            have c2 := common_ev (x.drop i) (y.drop (k + 1)) (by rw [List.length_drop]; omega) (by rw [List.length_drop]; omega)
            rw [dx, dy, script_cons, if_neg he, ← dx, ← dy]
            refine Ev.step s1 (Ev.step s2 (Ev.step (f := fun f => (redpenref18_Common.f f (x.drop (i + 1)) (y.drop k)).bind fun t => (redpenref18_Common.f f (x.drop i) (y.drop (k + 1))).bind fun u => if t ≥ u then redpenref18_Changes.l3 f (fr : Int) x y out ((i + 1 : Nat) : Int) (k : Int) o ((os + 1 : Nat) : Int) n (ns : Int) else redpenref18_Changes.l3 f (fr : Int) x y out (i : Int) ((k + 1 : Nat) : Int) o (os : Int) n ((ns + 1 : Nat) : Int)) (fun f => ?_) (Ev.bind c1 (Ev.bind c2 ?_))))
            · simp only [redpenref18_Changes.j10]
              rw [if_neg (by simp [he]), if_pos (by omega), if_neg (by omega), e1 (), e2 (), e3 (), e4 ()]
              rw [if_pos (by omega), if_pos (by omega), if_pos (by omega), if_pos (by omega)]
              simp only [Int.toNat_natCast, if_pos (show (0 : Int) ≤ (i : Int) by omega), if_pos (show (i : Int) ≤ (x.length : Int) by omega), if_pos (show (0 : Int) ≤ ((k + 1 : Nat) : Int) by omega), if_pos (show ((k + 1 : Nat) : Int) ≤ (y.length : Int) by omega)]
            · by_cases hc : lcs (x.drop i) (y.drop (k + 1)) ≤ lcs (x.drop (i + 1)) (y.drop k)
              · rw [if_pos hc]
                simp only [if_pos (show (lcs (x.drop (i + 1)) (y.drop k) : Int) ≥ (lcs (x.drop i) (y.drop (k + 1)) : Int) by omega)]
                exact del h1
              · rw [if_neg hc]
                simp only [if_neg (show ¬ (lcs (x.drop (i + 1)) (y.drop k) : Int) ≥ (lcs (x.drop i) (y.drop (k + 1)) : Int) by omega)]
                exact ins h2
        · obtain rfl : k = y.length := by omega
          have dd := del h1
          rw [List.drop_length] at dd
          rw [dx, List.drop_length, script_del]
          refine Ev.step s1 (Ev.step (f := fun f => redpenref18_Changes.j10 f (fr : Int) x y out (i : Int) (y.length : Int) false o (os : Int) n (ns : Int)) (fun f => ?_) (Ev.step (fun f => ?_) dd))
          · simp only [redpenref18_Changes.j9]
            rw [if_pos (by simp), if_pos (by omega), if_neg (by omega)]
          · simp only [redpenref18_Changes.j10]
            rw [if_neg (by simp), if_pos (by omega), if_pos trivial, e1 (), e3 ()]
      · obtain rfl : i = x.length := by omega
        have h2 : k < y.length := by omega
        have dy := List.drop_eq_getElem_cons h2
        have dd := ins h2
        rw [List.drop_length] at dd
        rw [dy, List.drop_length, script_ins]
        refine Ev.step (f := fun f => redpenref18_Changes.j9 f (fr : Int) x y out (x.length : Int) (k : Int) true o (os : Int) n (ns : Int)) (fun f => ?_) (Ev.step (f := fun f => redpenref18_Changes.j10 f (fr : Int) x y out (x.length : Int) (k : Int) false o (os : Int) n (ns : Int)) (fun f => ?_) (Ev.step (fun f => ?_) dd))
        · simp only [redpenref18_Changes.l3]
          rw [if_neg (by omega), decide_eq_true (by omega)]
        · simp only [redpenref18_Changes.j9]
          rw [if_pos (by simp), if_neg (by omega)]
        · simp only [redpenref18_Changes.j10]
          rw [if_neg (by simp), if_neg (by omega), e2 (), e4 ()]
    refine ⟨?_, B⟩
    intro i k out hd hi hk hl
    by_cases hz : (x.length - i) + (y.length - k) ≤ d
    · exact ihA i k out hz hi hk hl
    have e5 : ∀ _ : Unit, wrap64 ((fr : Int) + (i : Int)) = (fr : Int) + (i : Int) := fun _ => w64 (by omega) (by omega)
    have e6 : ∀ _ : Unit, wrap64 ((fr : Int) + (k : Int)) = (fr : Int) + (k : Int) := fun _ => w64 (by omega) (by omega)
    by_cases hke : ∃ (h1 : i < x.length) (h2 : k < y.length), x[i].toList = y[k].toList
    · obtain ⟨h1, h2, he⟩ := hke
      have a := key i k h1 h2 out he hd hl
      rw [List.drop_eq_getElem_cons h1, List.drop_eq_getElem_cons h2, script_cons, if_pos he, grp_keep, flushed_none, List.nil_append]
      exact a
    · have hne : ∀ (h1 : i < x.length) (h2 : k < y.length), x[i].toList ≠ y[k].toList := fun h1 h2 he => hke ⟨h1, h2, he⟩
      have b := B i k 0 0 (fr + (i : Int)) (fr + (k : Int)) out hd hi hk (by omega) (Nat.zero_le _) (Nat.zero_le _) (fun h => by omega) (.inr ⟨by omega, hne⟩)
      refine Ev.step (f := fun f => redpenref18_Changes.j6 f (fr : Int) x y out (i : Int) (k : Int) true) (fun f => ?_) (Ev.step (f := fun f => redpenref18_Changes.j7 f (fr : Int) x y out (i : Int) (k : Int) false) (fun f => ?_) (Ev.step (fun f => ?_) b))
      · simp only [redpenref18_Changes.l2]
        by_cases h1 : i < x.length
        · rw [if_pos (by omega)]
        · rw [if_neg (by omega), decide_eq_true (by omega)]
      · simp only [redpenref18_Changes.j6]
        rw [if_pos (by simp)]
        by_cases h1 : i < x.length
        · by_cases h2 : k < y.length
          · rw [if_pos (by omega), if_pos (by omega), if_pos (by omega), if_pos (by omega), rdOf_at x i h1, rdOf_at y k h2, beq_eq_false_iff_ne.2 (hne h1 h2)]
          · rw [if_pos (by omega), if_neg (by omega)]
        · rw [if_neg (by omega)]
      · simp only [redpenref18_Changes.j7]
        rw [if_neg (by simp), e5 (), e6 ()]
        rfl
end
theorem take_drop_take (P : List ByteArray) (f n : Nat) (h : f ≤ n) (hn : n + 1 ≤ P.length) : ((P.take (n + 1)).drop f).take (((P.take (n + 1)).drop f).length - 1) = (P.take n).drop f := by
  rw [List.length_drop, List.length_take, List.take_drop, List.take_take]
  congr 2
  omega
theorem lastOf_td (P : List ByteArray) (f n m : Nat) (hm : m = n + 1) (h : f ≤ n) (hn : n + 1 ≤ P.length) : lastOf ((P.take m).drop f) = P[n] := by
  subst hm
  unfold lastOf
  rw [List.length_drop, List.length_take, List.getD_eq_getElem?_getD, List.getElem?_drop, List.getElem?_take, if_pos (by omega), show f + (min (n + 1) P.length - f - 1) = n by omega, List.getElem?_eq_getElem (by omega)]
  rfl
section
variable (P Q : List ByteArray) (hP : P.length ≤ 100000) (hQ : Q.length ≤ 100000)
include hP hQ
theorem rchg_l1 (f : Nat) (hf : f ≤ P.length) (hf2 : f ≤ Q.length) : ∀ (d e : Nat), P.length - f - e = d → e ≤ P.length - f → e ≤ Q.length - f →
    Ev (fun k => redpenref18_Changes.l1 k P Q (f : Int) (e : Int)) ((let s := strip ((P.take (P.length - e)).drop f) ((Q.take (Q.length - e)).drop f)
      if s.1.length > 1000 ∨ s.2.length > 1000 then [(⟨f, s.1.length, f, s.2.length⟩ : Ch)] else grp f 0 0 ⟨f, 0, f, 0⟩ (script s.1 s.2)).map toR) := by
  have fin : ∀ e : Nat, e ≤ P.length - f → e ≤ Q.length - f → strip ((P.take (P.length - e)).drop f) ((Q.take (Q.length - e)).drop f) = ((P.take (P.length - e)).drop f, (Q.take (Q.length - e)).drop f) →
      Ev (fun k => redpenref18_Changes.j3 k P Q (f : Int) (e : Int)) ((let s := strip ((P.take (P.length - e)).drop f) ((Q.take (Q.length - e)).drop f)
      if s.1.length > 1000 ∨ s.2.length > 1000 then [(⟨f, s.1.length, f, s.2.length⟩ : Ch)] else grp f 0 0 ⟨f, 0, f, 0⟩ (script s.1 s.2)).map toR) := by
    intro e h1 h2 hs
    rw [hs]
    simp only
    have lx : ((P.take (P.length - e)).drop f).length ≤ 100000 := by rw [List.length_drop, List.length_take]; omega
    have ly : ((Q.take (Q.length - e)).drop f).length ≤ 100000 := by rw [List.length_drop, List.length_take]; omega
    have e1 : ∀ _ : Unit, wrap64 ((P.length : Int) - (e : Int)) = ((P.length - e : Nat) : Int) := fun _ => hw64 _ _ (by omega) (by omega)
    have e2 : ∀ _ : Unit, wrap64 ((Q.length : Int) - (e : Int)) = ((Q.length - e : Nat) : Int) := fun _ => hw64 _ _ (by omega) (by omega)
    have st : ∀ k : Nat, redpenref18_Changes.j3 (k + 1) P Q (f : Int) (e : Int) = redpenref18_Changes.j4 k (f : Int) ((P.take (P.length - e)).drop f) ((Q.take (Q.length - e)).drop f) (decide (((P.take (P.length - e)).drop f).length > 1000 ∨ ((Q.take (Q.length - e)).drop f).length > 1000)) := by
      intro k
      simp only [redpenref18_Changes.j3]
      rw [e1 (), e2 (), if_pos (by omega), if_pos (by omega), if_pos (by omega)]
      simp only [Option.bind_some, Int.toNat_natCast]
      rw [if_pos (by omega), if_pos (by omega)]
      by_cases hb : ((P.take (P.length - e)).drop f).length > 1000
      · rw [if_pos (by omega), decide_eq_true (Or.inl hb)]
      · rw [if_neg (by omega)]
        congr 1
        by_cases hb2 : ((Q.take (Q.length - e)).drop f).length > 1000
        · rw [decide_eq_true (Or.inr hb2), decide_eq_true (by omega)]
        · rw [decide_eq_false (by omega), decide_eq_false (by omega)]
    generalize (P.take (P.length - e)).drop f = x at *
    generalize (Q.take (Q.length - e)).drop f = y at *
    refine Ev.step st ?_
    by_cases hb : x.length > 1000 ∨ y.length > 1000
    · rw [if_pos hb, decide_eq_true hb]
      refine Ev.step (f := fun _ => some [⟨(f : Int), (x.length : Int), (f : Int), (y.length : Int)⟩]) (fun k => ?_) (Ev.now _)
      simp only [redpenref18_Changes.j4]
      rw [if_pos trivial]
    · rw [if_neg hb, decide_eq_false hb]
      have main := (rchg_both x y lx ly f (by omega) _).1 0 0 [] (Nat.le_refl _) (Nat.zero_le _) (Nat.zero_le _) (Nat.zero_le _)
      rw [List.drop_zero, List.drop_zero, List.nil_append, show ((0 : Nat) : Int) = 0 from rfl, Int.add_zero] at main
      refine Ev.step (fun k => ?_) main
      simp only [redpenref18_Changes.j4]
      rw [if_neg (by simp)]
  intro d
  induction d with
  | zero =>
    intro e hd h1 h2
    have e1 : ∀ _ : Unit, wrap64 ((P.length : Int) - (f : Int)) = ((P.length - f : Nat) : Int) := fun _ => hw64 _ _ (by omega) (by omega)
    have hs : strip ((P.take (P.length - e)).drop f) ((Q.take (Q.length - e)).drop f) = ((P.take (P.length - e)).drop f, (Q.take (Q.length - e)).drop f) := strip_neg _ _ (fun h => by
      have := h.1
      rw [List.length_drop, List.length_take] at this
      omega)
    refine Ev.step (fun k => ?_) (fin e h1 h2 hs)
    simp only [redpenref18_Changes.l1]
    rw [e1 (), if_neg (by omega)]
  | succ d ih =>
    intro e hd h1 h2
    have e1 : ∀ _ : Unit, wrap64 ((P.length : Int) - (f : Int)) = ((P.length - f : Nat) : Int) := fun _ => hw64 _ _ (by omega) (by omega)
    have e2 : ∀ _ : Unit, wrap64 ((Q.length : Int) - (f : Int)) = ((Q.length - f : Nat) : Int) := fun _ => hw64 _ _ (by omega) (by omega)
    by_cases h3 : e < Q.length - f
    · have e3 : ∀ _ : Unit, wrap64 ((wrap64 ((P.length : Int) - 1)) - (e : Int)) = ((P.length - e - 1 : Nat) : Int) := fun _ => by rw [hw64 ((P.length : Int) - 1) (P.length - 1) (by omega) (by omega)]; exact hw64 _ _ (by omega) (by omega)
      have e4 : ∀ _ : Unit, wrap64 ((wrap64 ((Q.length : Int) - 1)) - (e : Int)) = ((Q.length - e - 1 : Nat) : Int) := fun _ => by rw [hw64 ((Q.length : Int) - 1) (Q.length - 1) (by omega) (by omega)]; exact hw64 _ _ (by omega) (by omega)
      have e5 : ∀ _ : Unit, wrap64 ((e : Int) + 1) = ((e + 1 : Nat) : Int) := fun _ => hw64 _ _ (by omega) (by omega)
      have hl1 := lastOf_td P f (P.length - e - 1) (P.length - e) (by omega) (by omega) (by omega)
      have hl2 := lastOf_td Q f (Q.length - e - 1) (Q.length - e) (by omega) (by omega) (by omega)
      by_cases he : P[P.length - e - 1].toList = Q[Q.length - e - 1].toList
      · have ht1 := take_drop_take P f (P.length - e - 1) (by omega) (by omega)
        have ht2 := take_drop_take Q f (Q.length - e - 1) (by omega) (by omega)
        rw [show P.length - e - 1 + 1 = P.length - e by omega, show P.length - e - 1 = P.length - (e + 1) by omega] at ht1
        rw [show Q.length - e - 1 + 1 = Q.length - e by omega, show Q.length - e - 1 = Q.length - (e + 1) by omega] at ht2
        have a := ih (e + 1) (by omega) (by omega) (by omega)
        rw [strip_pos ((P.take (P.length - e)).drop f) _ ⟨by rw [List.length_drop, List.length_take]; omega, by rw [List.length_drop, List.length_take]; omega, by rw [hl1, hl2]; exact he⟩, ht1, ht2]
        refine Ev.step (fun k => ?_) a
        simp only [redpenref18_Changes.l1]
        rw [e1 (), e2 (), if_pos (by omega), if_pos (by omega), e3 (), e4 (), if_pos (by omega), if_pos (by omega), if_pos (by omega), if_pos (by omega), rdOf_at P _ (by omega), rdOf_at Q _ (by omega), if_pos he, e5 ()]
      · refine Ev.step (fun k => ?_) (fin e h1 h2 (strip_neg _ _ (fun h => he (by rw [← hl1, ← hl2]; exact h.2.2))))
        simp only [redpenref18_Changes.l1]
        rw [e1 (), e2 (), if_pos (by omega), if_pos (by omega), e3 (), e4 (), if_pos (by omega), if_pos (by omega), if_pos (by omega), if_pos (by omega), rdOf_at P _ (by omega), rdOf_at Q _ (by omega), if_neg he]
    · refine Ev.step (fun k => ?_) (fin e h1 h2 (strip_neg _ _ (fun h => by
        have := h.2.1
        rw [List.length_drop, List.length_take] at this
        omega)))
      simp only [redpenref18_Changes.l1]
      rw [e1 (), e2 (), if_pos (by omega), if_neg (by omega)]
theorem rchg_l0 : ∀ (d j : Nat), P.length - j = d → j ≤ P.length → j ≤ Q.length → j + pre (P.drop j) (Q.drop j) = pre P Q →
    Ev (fun f => redpenref18_Changes.l0 f P Q (j : Int)) ((chgs P Q).map toR) := by
  intro d
  have fin : ∀ j : Nat, j ≤ P.length → j ≤ Q.length → j = pre P Q → Ev (fun f => redpenref18_Changes.j1 f P Q (j : Int)) ((chgs P Q).map toR) := by
    intro j h1 h2 h3
    have main := rchg_l1 P Q hP hQ j h1 h2 _ 0 rfl (Nat.zero_le _) (Nat.zero_le _)
    rw [Nat.sub_zero, Nat.sub_zero, List.take_length, List.take_length] at main
    unfold chgs
    rw [← h3]
    refine Ev.step (fun f => ?_) main
    simp only [redpenref18_Changes.j1]
    rfl
  induction d with
  | zero =>
    intro j hd h1 h2 h3
    obtain rfl : j = P.length := by omega
    rw [List.drop_length, pre_nil] at h3
    refine Ev.step (fun f => ?_) (fin _ h1 h2 h3)
    simp only [redpenref18_Changes.l0]
    rw [if_neg (by omega)]
  | succ d ih =>
    intro j hd h1 h2 h3
    have hlt : j < P.length := by omega
    by_cases hq2 : j < Q.length
    · rw [List.drop_eq_getElem_cons hlt, List.drop_eq_getElem_cons hq2, pre_cons] at h3
      by_cases he : P[j].toList = Q[j].toList
      · rw [if_pos he] at h3
        refine Ev.step (fun f => ?_) (ih (j + 1) (by omega) (by omega) (by omega) (by omega))
        simp only [redpenref18_Changes.l0]
        rw [if_pos (by omega), if_pos (by omega), if_pos (by omega), rdOf_at P j hlt, rdOf_at Q j hq2, if_pos he, hw64 ((j : Int) + 1) (j + 1) (by omega) (by omega)]
      · rw [if_neg he] at h3
        refine Ev.step (fun f => ?_) (fin j h1 h2 (by omega))
        simp only [redpenref18_Changes.l0]
        rw [if_pos (by omega), if_pos (by omega), if_pos (by omega), rdOf_at P j hlt, rdOf_at Q j hq2, if_neg he]
    · rw [List.drop_eq_nil_of_le (show Q.length ≤ j by omega), pre_nil'] at h3
      refine Ev.step (fun f => ?_) (fin j h1 h2 (by omega))
      simp only [redpenref18_Changes.l0]
      rw [if_pos (by omega), if_neg (by omega)]
theorem rchanges_ev : Ev (fun f => redpenref18_Changes.f f P Q) ((chgs P Q).map toR) :=
  Ev.congr (fun f => rfl) (rchg_l0 P Q hP hQ _ 0 rfl (Nat.zero_le _) (Nat.zero_le _) (by rw [Nat.zero_add]; rfl))
end
end Go.Proofs.Ytokgkhndhlcfpaa.Pure
