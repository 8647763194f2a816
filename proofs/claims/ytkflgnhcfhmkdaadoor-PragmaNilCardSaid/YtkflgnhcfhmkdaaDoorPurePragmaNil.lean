/- PragmaNil: nil rules; bytes that are changed behind it. The tables of Go's library lie as their texts lay them. -/
import Derived.Test.YtkflgnhcfhmkdaaDoorBAll
namespace Go.Proofs.YtkflgnhcfhmkdaaDoor.Pure
open Go.RowKit Go.Proofs.YtkflgnhcfhmkdaaDoor.PPragmaNil Go.Proofs.YtkflgnhcfhmkdaaDoorW.PrintWords Go.Proofs.YtkflgnhcfhmkdaaDoorW.PrintLast
open Go.Proofs.YtkflgnhcfhmkdaaDoor.M Go.Proofs.YtkflgnhcfhmkdaaDoor.X Go.Proofs.YtkflgnhcfhmkdaaDoor.H
set_option linter.unusedVariables false
set_option linter.unusedSimpArgs false

theorem prag_awake : Ev (fun k => redpenlaw17_Awake.f k) true := Ev.of redpenlaw17_Awake.mono (k := 60) (by decide +kernel)
abbrev T1 : List Int := [115, 112, 101, 108, 108, 58, 119, 111, 114, 100, 115, 32, 113, 113]
abbrev T2 : List Int := [115, 112, 101, 108, 108, 58, 108, 105, 110, 101, 10]
abbrev qq : ByteArray := ⟨#[113, 113]⟩
theorem linesOf_nl (t : List Int) : ∀ (u cur : List Int), (∀ x ∈ u, x ≠ 10) → linesOf cur (u ++ 10 :: t) = (cur ++ (u ++ [10])) :: linesOf [] t
  | [], cur, _ => by
    show (if (10 : Int) = 10 then (cur ++ [10]) :: linesOf [] t else linesOf (cur ++ [10]) t) = _
    rw [if_pos rfl]
    rfl
  | c :: u, cur, h => by
    show (if c = 10 then (cur ++ [c]) :: linesOf [] (u ++ 10 :: t) else linesOf (cur ++ [c]) (u ++ 10 :: t)) = _
    rw [if_neg (h c (by simp)), linesOf_nl t u (cur ++ [c]) (fun x hx => h x (by simp [hx])), List.append_assoc]
    rfl
theorem ls_first (t : List Int) : ls (T1 ++ 10 :: t) = (T1 ++ [10]) :: ls t := linesOf_nl t T1 [] (by decide)
theorem qq_fold : foldB ⟨#[81, 81]⟩ = qq := by decide +kernel
theorem first_words : wordsQ (AL (T1 ++ [10])) [] = [qq] := by decide +kernel
theorem known_pre : ∀ (f : Nat) (s : ByteArray) (ws : List ByteArray), ∃ r, knownF f s ws = ws ++ r
  | 0, s, ws => ⟨[], by simp [knownF]⟩
  | f + 1, s, ws => by
    unfold knownF
    split
    · obtain ⟨r, h⟩ := known_pre f ((trimB s).extract (pragma_Rules_known.n (trimB s)) (trimB s).size) (ws ++ [foldB ((trimB s).extract 0 (pragma_Rules_known.n (trimB s)))])
      exact ⟨_, by rw [h, List.append_assoc]⟩
    · exact ⟨[], by simp⟩
theorem wordsQ_pre : ∀ (qs : List Ak) (ws : List ByteArray), ∃ r, wordsQ qs ws = ws ++ r
  | [], ws => ⟨[], by simp [wordsQ]⟩
  | a :: t, ws => by
    unfold wordsQ
    split
    · obtain ⟨r, h⟩ := known_pre (a.f1.size + 1) a.f1 ws
      obtain ⟨r2, h2⟩ := wordsQ_pre t (knownF (a.f1.size + 1) a.f1 ws)
      exact ⟨r ++ r2, by rw [h2, h, List.append_assoc]⟩
    · exact wordsQ_pre t ws
theorem wordsL_pre : ∀ (L : List (List Int)) (ws : List ByteArray), ∃ r, wordsL L ws = ws ++ r
  | [], ws => ⟨[], by simp [wordsL]⟩
  | l :: t, ws => by
    obtain ⟨r, h⟩ := wordsQ_pre (AL l) ws
    obtain ⟨r2, h2⟩ := wordsL_pre t (wordsQ (AL l) ws)
    exact ⟨r ++ r2, by unfold wordsL; rw [h2, h, List.append_assoc]⟩
theorem knows_qq (t : List Int) : hasW (wordsL (ls (T1 ++ 10 :: t)) []) qq = true := by
  rw [ls_first]
  unfold wordsL
  rw [first_words]
  obtain ⟨r, h⟩ := wordsL_pre (ls t) [qq]
  rw [h]
  unfold hasW
  rw [List.any_append, show ([qq].any fun t => t.toList == qq.toList) = true by decide +kernel]
  rfl
theorem offsQ_len (A : List Int → List Ak) : ∀ (L : List (List Int)) (p : Nat) (off next : Bool), (offsQ A L p off next).length ≤ L.length
  | [], _, _, _ => Nat.le_refl _
  | l :: t, p, off, next => by
    have ih := offsQ_len A t (p + l.length) (stepQ (A l) off false (off || next)).1 (stepQ (A l) off false (off || next)).2.1
    unfold offsQ
    rw [List.length_append, List.length_cons]
    split
    · rw [List.length_singleton]; omega
    · rw [List.length_nil]; omega
section
variable (a1 : Int) (a2 : ByteArray) (offs : List (Int × Int)) (ws wd : List ByteArray) (ho : offs.length ≤ 100000) (hq : hasW ws qq = true)
include ho hq
theorem nil_l1 (n : Nat) (hn : n ≤ 100000) : ∀ (d i : Nat) (x : List S40), x.length = n → n - i = d → i ≤ n → Ev (fun k => redpenlaw17_PragmaNil.l1 k a1 a2 [⟨offs, ws⟩] (i : Int) x (offs.map pragma_Rules_Spans.mk) wd) true := by
  intro d
  induction d with
  | zero =>
    intro i x hx hd hi
    have g1 : pragma_Rules_Off.f [⟨offs, ws⟩] a1 = some (pragma_Rules_Off.any a1 offs) := if_pos (show offs.length < 1000000000000 by omega)
    have e1 : pragma_Rules_Off.f [] a1 = some false := rfl
    have e2 : ∀ k, pragma_Rules_Knows.f k [] a2 = some false := fun k => rfl
    have e3 : pragma_Rules_Spans.f [] = some [] := rfl
    have hA := alone_ev a1 wd offs ho offs.length 0 rfl (Nat.zero_le _)
    rw [List.drop_zero] at hA
    have hK : Ev (fun k => pragma_Rules_Knows.f k [⟨offs, ws⟩] ⟨#[81, 81]⟩) true := by
      have hf := fold_ev ⟨#[81, 81]⟩ (by decide)
      refine Ev.bind (f := fun k s => if s.size ≤ 140737488351232 then some (hasW ws s) else none) hf ?_
      rw [qq_fold, hq]
      exact ⟨0, fun k _ => if_pos (by decide)⟩
    refine Ev.step (f := fun k => (redpenref15_Rules_Alone.f k (offs.map pragma_Rules_Spans.mk) wd a1).bind fun t371 => (if (pragma_Rules_Off.any a1 offs == t371) = true then ((pragma_Rules_Knows.f k [⟨offs, ws⟩] (⟨#[81, 81]⟩ : ByteArray)).bind fun t372 => (some t372)) else (some false))) (fun k => ?_) (Ev.bind hA ?_)
    · simp only [redpenlaw17_PragmaNil.l1]
      rw [if_neg (by omega)]
      refine ob e1 ((if_neg Bool.false_ne_true).trans (ob (e2 k) ((if_neg Bool.false_ne_true).trans (ob e3 ((if_pos rfl).trans (ob g1 rfl))))))
    · rw [beq_self_eq_true]
      simp only [if_true]
      exact Ev.bind hK (Ev.now _)
  | succ d ih =>
    intro i x hx hd hi
    have ew : ∀ _ : Unit, wrap64 ((i : Int) + 1) = ((i + 1 : Nat) : Int) := fun _ => hw _ _ (by omega) (by omega)
    refine Ev.step (fun k => ?_) (ih (i + 1) (x.set i ⟨0, 0⟩) (by rw [List.length_set]; exact hx) (by omega) (by omega))
    simp only [redpenlaw17_PragmaNil.l1, ew ()]
    rw [if_pos (by omega), if_pos (by omega), Int.toNat_natCast]
theorem nil_l0 (X : List Int) (hR : Ev (fun k => redpenref15_Read.f k X) (offs.map pragma_Rules_Spans.mk, wd)) (n : Nat) (hn : n ≤ 100000) : ∀ (d i : Nat) (x : List Int), x.length = n → n - i = d → i ≤ n → Ev (fun k => redpenlaw17_PragmaNil.l0 k a1 a2 X [⟨offs, ws⟩] x (n : Int) (i : Int)) true := by
  intro d
  induction d with
  | zero =>
    intro i x hx hd hi
    have g1 : pragma_Rules_Spans.f [⟨offs, ws⟩] = some (offs.map pragma_Rules_Spans.mk) := if_pos (show offs.length < 1000000000000 by omega)
    have h1 := nil_l1 a1 a2 offs ws wd ho hq offs.length ho _ 0 (offs.map pragma_Rules_Spans.mk) (by rw [List.length_map]) rfl (Nat.zero_le _)
    refine Ev.step (f := fun k => (redpenref15_Read.f k X).bind fun bt354 => ((pragma_Rules_Spans.f [⟨offs, ws⟩]).bind fun t361 => (redpenlaw17_PragmaNil.l1 k a1 a2 [⟨offs, ws⟩] 0 t361 bt354.1 bt354.2))) (fun k => ?_) (Ev.bind hR ?_)
    · simp only [redpenlaw17_PragmaNil.l0]
      rw [if_neg (by omega)]
    · exact Ev.congr (fun k => ob g1 rfl) h1
  | succ d ih =>
    intro i x hx hd hi
    have ew : ∀ _ : Unit, wrap64 ((i : Int) + 1) = ((i + 1 : Nat) : Int) := fun _ => hw _ _ (by omega) (by omega)
    refine Ev.step (fun k => ?_) (ih (i + 1) (x.set i 122) (by rw [List.length_set]; exact hx) (by omega) (by omega))
    simp only [redpenlaw17_PragmaNil.l0, ew ()]
    rw [if_pos (by omega), if_pos (by omega), if_pos (by omega), Int.toNat_natCast]
end
theorem PragmaNil (l0 : List Int) (a1 : Int) (a2 : ByteArray) (h0 : l0.length * 1 ≤ 140737488351232) (h1 : ∀ x ∈ l0, (fun n => (Lit.int .u8 n).wf = true) x) (h2 : (Lit.int .i64 a1).wf = true) (h3 : a2.size ≤ 140737488351232) : ∃ k, redpenlaw17_PragmaNil.f k l0 a1 a2 = some true := by
  refine Ev.rounds (Ev.bind prag_awake ?_)
  simp only [if_true]
  by_cases c1 : (l0.length : Int) > 500
  · simp only [if_pos c1]
    refine Ev.step (f := fun _ => some true) (fun k => ?_) (Ev.now _)
    simp only [redpenlaw17_PragmaNil.j0]
    rw [if_pos trivial]
  · simp only [if_neg c1]
    by_cases c2 : (a2.size : Int) > 300
    · rw [decide_eq_true c2]
      refine Ev.step (f := fun _ => some true) (fun k => ?_) (Ev.now _)
      simp only [redpenlaw17_PragmaNil.j0]
      rw [if_pos trivial]
    · rw [decide_eq_false c2]
      have hX : ∃ X : List Int, X = T1 ++ 10 :: (T2 ++ l0) := ⟨_, rfl⟩
      obtain ⟨X, hX⟩ := hX
      have hXl : X.length = 26 + l0.length := by rw [hX]; simp; omega
      have hn := ls_count X
      have hr := read_any X (by omega)
      have hd := refread_any X (by omega)
      have hq : hasW (wordsL (ls X) []) qq = true := by rw [hX]; exact knows_qq _
      have ho := offsQ_len AL (ls X) 0 false false
      have h := nil_l0 a1 a2 (offsQ AL (ls X) 0 false false) (wordsL (ls X) []) (wordsLD (ls X) []) (by omega) hq X hd X.length (by omega) _ 0 X rfl rfl (Nat.zero_le _)
      refine Ev.step (f := fun k => (pragma_Read.f k X).bind fun t350 => redpenlaw17_PragmaNil.l0 k a1 a2 X t350 X (X.length : Int) 0) (fun k => ?_) (Ev.bind hr h)
      have hXe : (([115, 112, 101, 108, 108, 58, 119, 111, 114, 100, 115, 32, 113, 113, 10, 115, 112, 101, 108, 108, 58, 108, 105, 110, 101, 10] : List Int) ++ l0) = X := by rw [hX]; rfl
      simp only [redpenlaw17_PragmaNil.j0]
      rw [if_neg (by simp), if_pos (by omega), hXe]
      simp only [Option.bind_some, List.nil_append, List.length_nil, Nat.zero_add]
      rw [if_pos (by omega)]
end Go.Proofs.YtkflgnhcfhmkdaaDoor.Pure
