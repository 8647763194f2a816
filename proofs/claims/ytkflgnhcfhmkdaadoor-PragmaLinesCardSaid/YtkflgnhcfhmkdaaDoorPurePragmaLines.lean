/- PragmaLines: what single lines ask, one behind the other. The tables of Go's library lie as their texts lay them. -/
import Derived.Test.YtkflgnhcfhmkdaaDoorBPragPragmaLines
namespace Go.Proofs.YtkflgnhcfhmkdaaDoor.Pure
open Go.RowKit Go.Proofs.YtkflgnhcfhmkdaaDoor.PPragmaLines Go.Proofs.YtkflgnhcfhmkdaaDoorW.PrintWords Go.Proofs.YtkflgnhcfhmkdaaDoorW.PrintLast
open Go.Proofs.YtkflgnhcfhmkdaaDoor.M Go.Proofs.YtkflgnhcfhmkdaaDoor.X Go.Proofs.YtkflgnhcfhmkdaaDoor.H
set_option linter.unusedVariables false
set_option linter.unusedSimpArgs false

theorem prag_awake : Ev (fun k => redpenlaw17_Awake.f k) true := Ev.of redpenlaw17_Awake.mono (k := 60) (by decide +kernel)
/-- The five kinds of lines, without their ends. -/
def luM : Nat → List Int
  | 0 => [120, 32, 115, 112, 101, 108, 108, 58, 111, 102, 102, 32, 121]
  | 1 => [115, 112, 101, 108, 108, 58, 111, 110]
  | 2 => [115, 112, 101, 108, 108, 58, 108, 105, 110, 101]
  | 3 => [115, 112, 101, 108, 108, 58, 110, 101, 120, 116]
  | _ => [112, 108, 97, 105, 110]
def lnM (m : Nat) : List Int := luM m ++ [10]
/-- What a line does: is all left alone behind it, is the next line, is it itself? -/
def sp : Nat → Bool → Bool → Bool × Bool × Bool
  | 0, _, _ => (true, false, true)
  | 1, off, next => (false, false, off || next)
  | 2, off, _ => (off, false, true)
  | 3, off, next => (off, true, off || next)
  | _, off, next => (off, false, off || next)
def AL (l : List Int) : List Ak := asksM ((strOfNums l).size + 1) (strOfNums l)
theorem five (p : Nat → Prop) (h0 : p 0) (h1 : p 1) (h2 : p 2) (h3 : p 3) (h4 : p 4) : ∀ m, m ≤ 4 → p m := by
  intro m hm
  rcases (show m = 0 ∨ m = 1 ∨ m = 2 ∨ m = 3 ∨ m = 4 by omega) with rfl | rfl | rfl | rfl | rfl <;> assumption
theorem step_sp : ∀ m, m ≤ 4 → ∀ off next : Bool, stepQ (AL (lnM m)) off false (off || next) = sp m off next :=
  five _ (by decide +kernel) (by decide +kernel) (by decide +kernel) (by decide +kernel) (by decide +kernel)
theorem no_words : ∀ m, m ≤ 4 → NoWords (AL (lnM m)) := five _ (by unfold NoWords; decide +kernel) (by unfold NoWords; decide +kernel) (by unfold NoWords; decide +kernel) (by unfold NoWords; decide +kernel) (by unfold NoWords; decide +kernel)
theorem ln_len : ∀ m, m ≤ 4 → 6 ≤ (lnM m).length ∧ (lnM m).length ≤ 14 := five _ (by decide) (by decide) (by decide) (by decide) (by decide)
theorem lu_nl : ∀ m, m ≤ 4 → ∀ x ∈ luM m, x ≠ 10 := five _ (by decide) (by decide) (by decide) (by decide) (by decide)
def flatM : List Nat → List Int
  | [] => []
  | m :: t => lnM m ++ flatM t
def begsM : List Nat → Nat → List Int
  | [], _ => []
  | m :: t, p => (p : Int) :: begsM t (p + (lnM m).length)
def wantsM : List Nat → Bool → Bool → List Bool
  | [], _, _ => []
  | m :: t, off, next => (sp m off next).2.2 :: wantsM t (sp m off next).1 (sp m off next).2.1
def stM : List Nat → Bool → Bool → Bool × Bool
  | [], off, next => (off, next)
  | m :: t, off, next => stM t (sp m off next).1 (sp m off next).2.1
def spansM : List Nat → Nat → Bool → Bool → List (Int × Int)
  | [], _, _, _ => []
  | m :: t, p, off, next => (if (sp m off next).2.2 = true then [((p : Int), ((lnM m).length : Int))] else []) ++ spansM t (p + (lnM m).length) (sp m off next).1 (sp m off next).2.1
def In5 (ms : List Nat) : Prop := ∀ m ∈ ms, m ≤ 4
theorem flat_snoc : ∀ (ms : List Nat) (m : Nat), flatM (ms ++ [m]) = flatM ms ++ lnM m
  | [], m => by simp [flatM]
  | x :: t, m => by
    show lnM x ++ flatM (t ++ [m]) = (lnM x ++ flatM t) ++ lnM m
    rw [flat_snoc t m, List.append_assoc]
theorem begs_snoc' : ∀ (ms : List Nat) (m p : Nat), begsM (ms ++ [m]) p = begsM ms p ++ [((p + (flatM ms).length : Nat) : Int)]
  | [], m, p => rfl
  | x :: t, m, p => by
    show (p : Int) :: begsM (t ++ [m]) _ = (p : Int) :: (begsM t _ ++ _)
    rw [begs_snoc' t m]
    congr 3
    show _ = (((p + (lnM x ++ flatM t).length : Nat)) : Int)
    rw [List.length_append]
    omega
theorem wants_snoc : ∀ (ms : List Nat) (m : Nat) (off next : Bool), wantsM (ms ++ [m]) off next = wantsM ms off next ++ [(sp m (stM ms off next).1 (stM ms off next).2).2.2]
  | [], m, off, next => rfl
  | x :: t, m, off, next => by
    show _ :: wantsM (t ++ [m]) _ _ = _ :: (wantsM t _ _ ++ _)
    rw [wants_snoc t m]
    rfl
theorem st_snoc : ∀ (ms : List Nat) (m : Nat) (off next : Bool), stM (ms ++ [m]) off next = ((sp m (stM ms off next).1 (stM ms off next).2).1, (sp m (stM ms off next).1 (stM ms off next).2).2.1)
  | [], m, off, next => rfl
  | x :: t, m, off, next => by
    show stM (t ++ [m]) _ _ = _
    rw [st_snoc t m]
    rfl
theorem flat_len : ∀ (ms : List Nat), In5 ms → (flatM ms).length ≤ 14 * ms.length
  | [], _ => Nat.zero_le _
  | m :: t, h => by
    have h1 := (ln_len m (h m (by simp))).2
    have h2 := flat_len t (fun x hx => h x (by simp [hx]))
    show (lnM m ++ flatM t).length ≤ _
    rw [List.length_append, List.length_cons]
    omega
theorem linesOf_nl (t : List Int) : ∀ (u cur : List Int), (∀ x ∈ u, x ≠ 10) → linesOf cur (u ++ 10 :: t) = (cur ++ (u ++ [10])) :: linesOf [] t
  | [], cur, _ => by
    show (if (10 : Int) = 10 then (cur ++ [10]) :: linesOf [] t else linesOf (cur ++ [10]) t) = _
    rw [if_pos rfl]
    rfl
  | c :: u, cur, h => by
    show (if c = 10 then (cur ++ [c]) :: linesOf [] (u ++ 10 :: t) else linesOf (cur ++ [c]) (u ++ 10 :: t)) = _
    rw [if_neg (h c (by simp)), linesOf_nl t u (cur ++ [c]) (fun x hx => h x (by simp [hx])), List.append_assoc]
    rfl
theorem flat_lines : ∀ (ms : List Nat), In5 ms → ls (flatM ms) = ms.map lnM
  | [], _ => rfl
  | m :: t, h => by
    have ih := flat_lines t (fun x hx => h x (by simp [hx]))
    have := linesOf_nl (flatM t) (luM m) [] (lu_nl m (h m (by simp)))
    unfold ls at ih ⊢
    show linesOf [] ((luM m ++ [10]) ++ flatM t) = _
    rw [List.append_assoc, List.singleton_append, this, ih]
    rfl
theorem offs_spans : ∀ (ms : List Nat) (p : Nat) (off next : Bool), In5 ms → offsQ AL (ms.map lnM) p off next = spansM ms p off next
  | [], _, _, _, _ => rfl
  | m :: t, p, off, next, h => by
    have ih := fun p off next => offs_spans t p off next (fun x hx => h x (by simp [hx]))
    rw [List.map_cons]
    unfold offsQ spansM
    rw [step_sp m (h m (by simp)), ih]
theorem spans_len : ∀ (ms : List Nat) (p : Nat) (off next : Bool), (spansM ms p off next).length = (wantsM ms off next).count true
  | [], _, _, _ => rfl
  | m :: t, p, off, next => by
    have ih := spans_len t (p + (lnM m).length) (sp m off next).1 (sp m off next).2.1
    unfold spansM wantsM
    rw [List.length_append, ih, List.count_cons]
    cases (sp m off next).2.2 <;> simp <;> omega
theorem wants_len : ∀ (ms : List Nat) (off next : Bool), (wantsM ms off next).length = ms.length
  | [], _, _ => rfl
  | m :: t, off, next => by
    unfold wantsM
    rw [List.length_cons, List.length_cons, wants_len t]
theorem begs_len' : ∀ (ms : List Nat) (p : Nat), (begsM ms p).length = ms.length
  | [], _ => rfl
  | m :: t, p => by
    unfold begsM
    rw [List.length_cons, List.length_cons, begs_len' t]
theorem any_before : ∀ (ms : List Nat) (p : Nat) (off next : Bool) (a : Int), a < (p : Int) → pragma_Rules_Off.any a (spansM ms p off next) = false
  | [], _, _, _, _, _ => rfl
  | m :: t, p, off, next, a, h => by
    have ih := any_before t (p + (lnM m).length) (sp m off next).1 (sp m off next).2.1 a (by omega)
    unfold spansM
    split
    · show (if a ≥ (p : Int) then _ else _) = _
      rw [if_neg (by omega)]
      exact ih
    · exact ih
theorem begs_ge : ∀ (ms : List Nat) (p : Nat), ∀ a ∈ begsM ms p, (p : Int) ≤ a
  | [], _, a, h => by cases h
  | m :: t, p, a, h => by
    rcases List.mem_cons.1 h with rfl | h
    · exact Int.le_refl _
    · have := begs_ge t _ a h
      omega
theorem any_at : ∀ (ms : List Nat) (p : Nat) (off next : Bool), In5 ms → p + 14 * ms.length ≤ 100000 → ∀ (i : Nat) (h : i < ms.length), pragma_Rules_Off.any ((begsM ms p)[i]'(by rw [begs_len']; exact h)) (spansM ms p off next) = (wantsM ms off next)[i]'(by rw [wants_len]; exact h)
  | [], _, _, _, _, _, i, h => by simp at h
  | m :: t, p, off, next, h5, hp, i, h => by
    have hl := ln_len m (h5 m (by simp))
    rw [List.length_cons] at hp
    have ih := any_at t (p + (lnM m).length) (sp m off next).1 (sp m off next).2.1 (fun x hx => h5 x (by simp [hx])) (by omega)
    have ew : ∀ _ : Unit, wrap64 ((p : Int) + ((lnM m).length : Int)) = ((p + (lnM m).length : Nat) : Int) := fun _ => hw _ _ (by omega) (by omega)
    cases i with
    | zero =>
      show pragma_Rules_Off.any (p : Int) (spansM (m :: t) p off next) = (sp m off next).2.2
      unfold spansM
      cases hs : (sp m off next).2.2
      · rw [if_neg (by simp), List.nil_append]
        exact any_before t _ _ _ _ (by omega)
      · rw [if_pos rfl]
        show (if (p : Int) ≥ (p : Int) then (if (p : Int) < wrap64 ((p : Int) + ((lnM m).length : Int)) then true else _) else _) = true
        rw [if_pos (Int.le_refl _), ew (), if_pos (by omega)]
    | succ i =>
      rw [List.length_cons] at h
      have hi := ih i (by omega)
      have hge := begs_ge t (p + (lnM m).length) _ (List.getElem_mem (show i < (begsM t (p + (lnM m).length)).length by rw [begs_len']; omega))
      obtain ⟨q, hq⟩ : ∃ q, q = (begsM t (p + (lnM m).length))[i]'(by rw [begs_len']; omega) := ⟨_, rfl⟩
      rw [← hq] at hi hge
      show pragma_Rules_Off.any ((begsM t (p + (lnM m).length))[i]'(by rw [begs_len']; omega)) (spansM (m :: t) p off next) = (wantsM t (sp m off next).1 (sp m off next).2.1)[i]'(by rw [wants_len]; omega)
      rw [← hq, ← hi, show spansM (m :: t) p off next = (if (sp m off next).2.2 = true then [((p : Int), ((lnM m).length : Int))] else []) ++ spansM t (p + (lnM m).length) (sp m off next).1 (sp m off next).2.1 from rfl]
      split
      · show (if q ≥ (p : Int) then (if q < wrap64 ((p : Int) + ((lnM m).length : Int)) then true else _) else _) = _
        rw [if_pos (by omega), ew (), if_neg (by omega)]
        rfl
      · rfl
section
variable (ms : List Nat) (h5 : In5 ms) (hn : ms.length ≤ 61)
include h5 hn
theorem lines_l1 : ∀ (d i n : Nat), ms.length - i = d → i ≤ ms.length → n + ((wantsM ms false false).drop i).count true = (wantsM ms false false).count true →
    Ev (fun k => redpenlaw17_PragmaLines.l1 k (wantsM ms false false) [⟨spansM ms 0 false false, []⟩] (n : Int) (begsM ms 0) ((begsM ms 0).length : Int) (i : Int)) true := by
  have hb := begs_len' ms 0
  have hwl := wants_len ms false false
  have hsl := spans_len ms 0 false false
  have hcl : (wantsM ms false false).count true ≤ 61 := Nat.le_trans List.count_le_length (by omega)
  intro d
  induction d with
  | zero =>
    intro i n hd hi hN
    rw [List.drop_of_length_le (by omega)] at hN
    have hn2 : n = (wantsM ms false false).count true := by simpa using hN
    have hsp : pragma_Rules_Spans.f [⟨spansM ms 0 false false, []⟩] = some ((spansM ms 0 false false).map pragma_Rules_Spans.mk) := by
      show (if (spansM ms 0 false false).length < 1000000000000 then some ((spansM ms 0 false false).map pragma_Rules_Spans.mk) else none) = _
      rw [if_pos (by omega)]
    refine Ev.step (f := fun _ => some true) (fun k => ?_) (Ev.now _)
    simp only [redpenlaw17_PragmaLines.l1]
    rw [if_neg (by omega), hsp]
    show some (((((spansM ms 0 false false).map pragma_Rules_Spans.mk).length : Nat) : Int) == (n : Int)) = some true
    rw [List.length_map, hsl, hn2, beq_self_eq_true]
  | succ d ih =>
    intro i n hd hi hN
    have hlt : i < ms.length := by omega
    have ha := any_at ms 0 false false h5 (by omega) i hlt
    have hr : rd (begsM ms 0) (i : Int) = (begsM ms 0)[i]'(by omega) := by
      unfold rd
      rw [Int.toNat_natCast, List.getD_eq_getElem?_getD, List.getElem?_eq_getElem (by omega)]
      rfl
    have hv : rdOf false (wantsM ms false false) (i : Int) = (wantsM ms false false)[i]'(by omega) := by
      unfold rdOf
      rw [Int.toNat_natCast, List.getD_eq_getElem?_getD, List.getElem?_eq_getElem (by omega)]
      rfl
    have hof : pragma_Rules_Off.f [⟨spansM ms 0 false false, []⟩] ((begsM ms 0)[i]'(by omega)) = some ((wantsM ms false false)[i]'(by omega)) := by
      show (if (spansM ms 0 false false).length < 1000000000000 then some (pragma_Rules_Off.any _ (spansM ms 0 false false)) else none) = _
      rw [if_pos (by omega), ha]
    have ei : ∀ _ : Unit, wrap64 ((i : Int) + 1) = ((i + 1 : Nat) : Int) := fun _ => hw _ _ (by omega) (by omega)
    rw [List.drop_eq_getElem_cons (by omega), List.count_cons] at hN
    generalize hx : (wantsM ms false false)[i]'(by omega) = x at *
    cases x with
    | true =>
      have en : ∀ _ : Unit, wrap64 ((n : Int) + 1) = ((n + 1 : Nat) : Int) := fun _ => hw _ _ (by simp at hN; omega) (by simp at hN; omega)
      refine Ev.step (fun k => ?_) (ih (i + 1) (n + 1) (by omega) (by omega) (by simp at hN; omega))
      simp only [redpenlaw17_PragmaLines.l1]
      rw [if_pos (by omega), if_pos (by omega), if_pos (by omega), hr, hof]
      simp only [Option.bind_some]
      rw [if_pos (by omega), hv, if_neg (by decide), if_pos rfl, ei (), en ()]
    | false =>
      refine Ev.step (fun k => ?_) (ih (i + 1) n (by omega) (by omega) (by simp at hN; omega))
      simp only [redpenlaw17_PragmaLines.l1]
      rw [if_pos (by omega), if_pos (by omega), if_pos (by omega), hr, hof]
      simp only [Option.bind_some]
      rw [if_pos (by omega), hv, if_neg (by decide), if_neg (by decide), ei ()]
theorem lines_j2 : Ev (fun k => redpenlaw17_PragmaLines.j2 k (flatM ms) (begsM ms 0) (wantsM ms false false)) true := by
  have hfl := flat_len ms h5
  have hls := flat_lines ms h5
  have hrq := read_quiet (flatM ms) (by omega) AL (fun l hl => ?_)
  · rw [hls, offs_spans ms 0 false false h5] at hrq
    refine Ev.step (f := fun k => (pragma_Read.f k (flatM ms)).bind fun t => redpenlaw17_PragmaLines.l1 k (wantsM ms false false) t 0 (begsM ms 0) ((begsM ms 0).length : Int) 0) (fun k => ?_) (Ev.bind hrq (lines_l1 ms h5 hn _ 0 0 rfl (Nat.zero_le _) (by simp)))
    simp only [redpenlaw17_PragmaLines.j2]
  · rw [hls] at hl
    obtain ⟨m, hm, rfl⟩ := List.mem_map.1 hl
    have hlen := ln_len m (h5 m hm)
    have hz : (strOfNums (lnM m)).size = (lnM m).length := strOfNums_size _
    refine ⟨asks_ev _ (by omega), no_words m (h5 m hm), ?_⟩
    have := asksM_len ((strOfNums (lnM m)).size + 1) (strOfNums (lnM m))
    unfold AL
    omega
end
theorem lines_l0 (l0 : List Int) (hB : BT l0) (hl : l0.length ≤ 140737488351232) : ∀ (d : Nat) (ms : List Nat), 61 - ms.length = d → ms.length ≤ 61 → ms.length ≤ l0.length → In5 ms →
    Ev (fun k => redpenlaw17_PragmaLines.l0 k (flatM ms) (begsM ms 0) (wantsM ms false false) (stM ms false false).1 (stM ms false false).2 l0 (l0.length : Int) (ms.length : Int)) true := by
  intro d
  induction d with
  | zero =>
    intro ms hd h61 hml h5
    have hj := lines_j2 ms h5 h61
    refine Ev.step (fun k => ?_) hj
    simp only [redpenlaw17_PragmaLines.l0]
    by_cases hlt : ms.length < l0.length
    · rw [if_pos (by omega), if_pos (by omega), if_pos (by omega), if_pos (by omega)]
    · rw [if_neg (by omega)]
  | succ d ih =>
    intro ms hd h61 hml h5
    by_cases hlt : ms.length < l0.length
    · have hr : rd l0 (ms.length : Int) = l0[ms.length] := by
        unfold rd
        rw [Int.toNat_natCast, List.getD_eq_getElem?_getD, List.getElem?_eq_getElem hlt]
        rfl
      have hc := hB _ (List.getElem_mem hlt)
      obtain ⟨m, hm, hm4⟩ : ∃ m : Nat, Int.tmod l0[ms.length] 5 = (m : Int) ∧ m ≤ 4 := by
        have e : Int.tmod l0[ms.length] 5 = l0[ms.length] % 5 := Int.tmod_eq_emod_of_nonneg hc.1
        exact ⟨(l0[ms.length] % 5).toNat, by omega, by omega⟩
      have hfl := flat_len ms h5
      have hbl := begs_len' ms 0
      have hwl := wants_len ms false false
      have h5' : In5 (ms ++ [m]) := fun x hx => by
        rcases List.mem_append.1 hx with hx | hx
        · exact h5 x hx
        · rw [List.mem_singleton.1 hx]; exact hm4
      have hnext := ih (ms ++ [m]) (by rw [List.length_append, List.length_singleton]; omega) (by rw [List.length_append, List.length_singleton]; omega) (by rw [List.length_append, List.length_singleton]; omega) h5'
      rw [flat_snoc, begs_snoc', wants_snoc, st_snoc, List.length_append, List.length_singleton, Nat.zero_add] at hnext
      have ei : ∀ _ : Unit, wrap64 ((ms.length : Int) + 1) = ((ms.length + 1 : Nat) : Int) := fun _ => hw _ _ (by omega) (by omega)
      generalize hst : stM ms false false = st at *
      obtain ⟨off, next⟩ := st
      simp only at hnext ⊢
      have main : Ev (fun k => redpenlaw17_PragmaLines.j1 k (flatM ms) (begsM ms 0 ++ [((flatM ms).length : Int)]) (wantsM ms false false) off l0[ms.length] (off || next) l0 (l0.length : Int) (ms.length : Int)) true := by
        refine Ev.step (fun k => ?_) hnext
        simp only [redpenlaw17_PragmaLines.j1]
        rw [hm]
        rcases (show m = 0 ∨ m = 1 ∨ m = 2 ∨ m = 3 ∨ m = 4 by omega) with rfl | rfl | rfl | rfl | rfl
        · rw [if_pos (by decide), if_pos (by omega), if_pos (by omega), ei ()]
          rfl
        · rw [if_neg (by decide), if_pos (by decide), if_pos (by omega), if_pos (by omega), ei ()]
          rfl
        · rw [if_neg (by decide), if_neg (by decide), if_pos (by decide), if_pos (by omega), if_pos (by omega), ei ()]
          rfl
        · rw [if_neg (by decide), if_neg (by decide), if_neg (by decide), if_pos (by decide), if_pos (by omega), if_pos (by omega), ei ()]
          rfl
        · rw [if_neg (by decide), if_neg (by decide), if_neg (by decide), if_neg (by decide), if_pos (by omega), if_pos (by omega), ei ()]
          rfl
      refine Ev.step (fun k => ?_) main
      simp only [redpenlaw17_PragmaLines.l0, Option.bind_some, hr]
      rw [if_pos (by omega), if_pos (by omega), if_pos (by omega), if_neg (by omega), if_pos (by omega)]
      cases off <;> rfl
    · have hj := lines_j2 ms h5 (by omega)
      refine Ev.step (fun k => ?_) hj
      simp only [redpenlaw17_PragmaLines.l0]
      rw [if_neg (by omega)]
theorem PragmaLines (l0 : List Int) (h0 : l0.length * 1 ≤ 140737488351232) (h1 : ∀ x ∈ l0, (fun n => (Lit.int .u8 n).wf = true) x) : ∃ k, redpenlaw17_PragmaLines.f k l0 = some true := by
  have hB : BT l0 := by
    intro x hx
    have := h1 x hx
    simp [Lit.wf, IntKind.min, IntKind.max, IntKind.signed, IntKind.bits] at this
    omega
  refine Ev.rounds (Ev.bind prag_awake ?_)
  simp only [if_true]
  exact lines_l0 l0 hB (by omega) _ [] rfl (by simp) (by simp) (fun x hx => by cases hx)
end Go.Proofs.YtkflgnhcfhmkdaaDoor.Pure
