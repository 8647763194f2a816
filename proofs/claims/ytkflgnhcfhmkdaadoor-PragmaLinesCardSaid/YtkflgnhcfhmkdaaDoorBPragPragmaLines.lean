/- pragma.asks and pragma.Read, as printed, in plain words; a text whose lines ask for no words. -/
import Derived.Test.YtkflgnhcfhmkdaaDoorBLnPragmaLines
import Derived.Test.YtkflgnhcfhmkdaaDoorMStr
import Derived.Lib.CutLaws
namespace Go.Proofs.YtkflgnhcfhmkdaaDoor.Pure
open Go.RowKit Go.Proofs.YtkflgnhcfhmkdaaDoor.PPragmaLines Go.Proofs.YtkflgnhcfhmkdaaDoorW.PrintWords Go.Proofs.YtkflgnhcfhmkdaaDoorW.PrintLast Go.Proofs.YtkflgnhcfhmkdaaDoor.X
open Go.Proofs.YtkflgnhcfhmkdaaDoor.M Go.Proofs.YtkflgnhcfhmkdaaDoor.H
set_option linter.unusedVariables false
set_option linter.unusedSimpArgs false

abbrev Ak := S57
abbrev mk : ByteArray := ⟨#[115, 112, 101, 108, 108, 58]⟩
theorem hw (x : Int) (n : Nat) (h : x = (n : Int)) (hb : n < 9223372036854775808) : wrap64 x = (n : Int) := by rw [h]; exact w64 (by omega) (by omega)
/-- How many small letters, from a place on. -/
def leadF (s : ByteArray) : Nat → Nat → Nat
  | 0, i => i
  | d + 1, i => if 97 ≤ bt s (i : Int) then (if bt s (i : Int) ≤ 122 then leadF s d (i + 1) else i) else i
def leadB (s : ByteArray) : Nat := leadF s s.size 0
theorem leadF_le (s : ByteArray) : ∀ d i, i ≤ leadF s d i ∧ leadF s d i ≤ i + d
  | 0, i => ⟨Nat.le_refl _, Nat.le_refl _⟩
  | d + 1, i => by
    have ih := leadF_le s d (i + 1)
    unfold leadF
    split
    · split <;> omega
    · omega
theorem leadB_le (s : ByteArray) : leadB s ≤ s.size := by have := (leadF_le s s.size 0).2; unfold leadB; omega
/-- What a line asks. -/
def asksM : Nat → ByteArray → List Ak
  | 0, _ => []
  | f + 1, s => if (cutB s mk).2.2 = true then ⟨(cutB s mk).2.1.extract 0 (leadB (cutB s mk).2.1), (cutB s mk).2.1.extract (leadB (cutB s mk).2.1) (cutB s mk).2.1.size⟩ :: asksM f ((cutB s mk).2.1.extract (leadB (cutB s mk).2.1) (cutB s mk).2.1.size) else []
theorem asksM_len : ∀ (f : Nat) (s : ByteArray), (asksM f s).length ≤ f
  | 0, _ => Nat.le_refl _
  | f + 1, s => by
    unfold asksM
    split
    · have := asksM_len f ((cutB s mk).2.1.extract (leadB (cutB s mk).2.1) (cutB s mk).2.1.size)
      rw [List.length_cons]; omega
    · simp
theorem cut_small (s : ByteArray) (h : (cutB s mk).2.2 = true) : (cutB s mk).2.1.size + 6 ≤ s.size := by
  unfold cutB Lib.cut at h ⊢
  split at h
  · rename_i hi
    rw [if_pos hi]
    have hr := Lib.index_room s.data.toList mk.data.toList hi
    have e : s.data.toList.length = s.size := by rw [Array.length_toList]; rfl
    have e2 : mk.data.toList.length = 6 := rfl
    show (List.drop ((Lib.index s.data.toList mk.data.toList).toNat + mk.data.toList.length) s.data.toList).toArray.size + 6 ≤ _
    rw [List.size_toArray, List.length_drop]
    omega
  · cases h
section
variable {R : List Ak}
theorem asks_l1 (acc : List Ak) (x : ByteArray) (hx : x.size ≤ 1000000) (ha : acc.length ≤ 10000000)
    (cont : Ev (fun k => pragma_asks.l0 k (x.extract (leadB x) x.size) (acc ++ [(⟨x.extract 0 (leadB x), x.extract (leadB x) x.size⟩ : Ak)])) R) :
    ∀ (d i : Nat), i + d = x.size → leadF x d i = leadB x → Ev (fun k => pragma_asks.l1 k acc x (i : Int)) R := by
  have hl := leadB_le x
  intro d
  induction d with
  | zero =>
    intro i hi he
    have e : i = leadB x := he
    refine Ev.step (fun k => ?_) cont
    simp only [pragma_asks.l1]
    rw [if_neg (by omega), if_pos (by omega), if_pos (by omega), if_pos (by omega), Int.toNat_natCast, e]
  | succ d ih =>
    intro i hi he
    have hlt : i < x.size := by omega
    unfold leadF at he
    by_cases c1 : 97 ≤ bt x (i : Int)
    · rw [if_pos c1] at he
      by_cases c2 : bt x (i : Int) ≤ 122
      · rw [if_pos c2] at he
        refine Ev.step (fun k => ?_) (ih (i + 1) (by omega) he)
        simp only [pragma_asks.l1]
        rw [if_pos (by omega), if_pos (by omega), if_pos (by omega), if_pos c2, hw ((i : Int) + 1) (i + 1) (by omega) (by omega)]
      · rw [if_neg c2] at he
        refine Ev.step (fun k => ?_) cont
        simp only [pragma_asks.l1]
        rw [if_pos (by omega), if_pos (by omega), if_pos (by omega), if_neg c2, if_pos (by omega), if_pos (by omega), Int.toNat_natCast, he]
    · rw [if_neg c1] at he
      refine Ev.step (fun k => ?_) cont
      simp only [pragma_asks.l1]
      rw [if_pos (by omega), if_pos (by omega), if_neg (by omega), if_pos (by omega), if_pos (by omega), Int.toNat_natCast, he]
end
theorem asks_l0 : ∀ (f : Nat) (s : ByteArray) (acc : List Ak), s.size < f → s.size ≤ 1000000 → acc.length + s.size ≤ 5000000 → Ev (fun k => pragma_asks.l0 k s acc) (acc ++ asksM f s) := by
  intro f
  induction f with
  | zero => intro s acc h; omega
  | succ f ih =>
    intro s acc hf hs ha
    have hc : strings_Cut.f s mk = some (cutB s mk) := by
      unfold strings_Cut.f
      rw [if_pos (by omega)]
    unfold asksM
    by_cases h : (cutB s mk).2.2 = true
    · have hz := cut_small s h
      rw [if_pos h]
      have hxt := h
      obtain ⟨x, hxe⟩ : ∃ x, (cutB s mk).2.1 = x := ⟨_, rfl⟩
      rw [hxe] at hz ⊢
      have hx : (x.extract (leadB x) x.size).size ≤ x.size := by rw [ByteArray.size_extract]; omega
      have hn := ih (x.extract (leadB x) x.size) (acc ++ [(⟨x.extract 0 (leadB x), x.extract (leadB x) x.size⟩ : Ak)]) (by omega) (by omega) (by rw [List.length_append, List.length_singleton]; omega)
      rw [List.append_assoc] at hn
      have hn2 := asks_l1 acc x (by omega) (by omega) hn x.size 0 (by omega) rfl
      refine Ev.step (fun k => ?_) hn2
      simp only [pragma_asks.l0, hc, Option.bind_some]
      rw [if_pos hxt, hxe]
      rfl
    · rw [if_neg h, List.append_nil]
      refine Ev.step (f := fun _ => some acc) (fun k => ?_) (Ev.now _)
      simp only [pragma_asks.l0, hc, Option.bind_some]
      rw [if_neg h]
theorem asks_ev (s : ByteArray) (hs : s.size ≤ 1000000) : Ev (fun k => pragma_asks.f k s) (asksM (s.size + 1) s) := asks_l0 (s.size + 1) s [] (by omega) hs (by simp; omega)
/-! ### Read, where no line asks for words -/
def NoWords (qs : List Ak) : Prop := ∀ a ∈ qs, a.f0.toList ≠ ([119, 111, 114, 100, 115] : List UInt8)
def stepQ : List Ak → Bool → Bool → Bool → Bool × Bool × Bool
  | [], off, next, skip => (off, next, skip)
  | a :: t, off, next, skip =>
    if a.f0.toList = ([111, 102, 102] : List UInt8) then stepQ t true next true
    else if a.f0.toList = ([108, 105, 110, 101] : List UInt8) then stepQ t off next true
    else if a.f0.toList = ([111, 110] : List UInt8) then stepQ t false next skip
    else if a.f0.toList = ([110, 101, 120, 116] : List UInt8) then stepQ t off true skip
    else stepQ t off next skip
theorem l1_quiet (k : Nat) : ∀ (qs : List Ak) (off next skip : Bool) (ws : List ByteArray), NoWords qs → pragma_Read.l1 k qs off next skip ws = some ((stepQ qs off next skip).1, (stepQ qs off next skip).2.1, (stepQ qs off next skip).2.2, ws)
  | [], _, _, _, _, _ => rfl
  | a :: t, off, next, skip, ws, h => by
    have ht : NoWords t := fun x hx => h x (by simp [hx])
    unfold pragma_Read.l1 stepQ
    split
    · exact l1_quiet k t _ _ _ _ ht
    split
    · exact l1_quiet k t _ _ _ _ ht
    split
    · exact l1_quiet k t _ _ _ _ ht
    split
    · exact l1_quiet k t _ _ _ _ ht
    rw [if_neg (h a (by simp))]
    exact l1_quiet k t _ _ _ _ ht
/-- The spans of the lines that are left alone. -/
def offsQ (A : List Int → List Ak) : List (List Int) → Nat → Bool → Bool → List (Int × Int)
  | [], _, _, _ => []
  | l :: t, p, off, next => (if (stepQ (A l) off false (off || next)).2.2 = true then [((p : Int), (l.length : Int))] else []) ++ offsQ A t (p + l.length) (stepQ (A l) off false (off || next)).1 (stepQ (A l) off false (off || next)).2.1
section
variable (b : List Int) (hl : b.length ≤ 1000000) (A : List Int → List Ak) (hA : ∀ l ∈ ls b, Ev (fun k => pragma_asks.f k (strOfNums l)) (A l) ∧ NoWords (A l) ∧ (A l).length < 1000000000000)
include hl hA
theorem read_l0 : ∀ (d j : Nat) (off next : Bool) (offs : List (Int × Int)), (ls b).length - j = d → j ≤ (ls b).length → offs.length ≤ j →
    Ev (fun k => pragma_Read.l0 k b [b] d j off next offs []) [⟨offs ++ offsQ A ((ls b).drop j) (Go.Proofs.YtkflgnhcfhmkdaaDoor.M.off (ls b) j) off next, []⟩] := by
  have hn := ls_count b
  intro d
  induction d with
  | zero =>
    intro j off next offs hd hj ho
    rw [List.drop_of_length_le (by omega)]
    unfold offsQ
    rw [List.append_nil]
    exact ⟨0, fun k _ => rfl⟩
  | succ d ih =>
    intro j off next offs hd hj ho
    have hlt : j < (ls b).length := by omega
    have hs := span_in (b := b) (by omega) j hlt
    have ho1 := off_succ (ls b) j hlt
    have ho2 := off_le (ls b) (j + 1)
    rw [ls_flat] at ho2
    have hc := cut_line (ls b) j hlt
    rw [ls_flat] at hc
    have hg : (ls b).getD j [] = (ls b)[j] := by rw [List.getD_eq_getElem?_getD, List.getElem?_eq_getElem hlt]; rfl
    rw [hg] at hs ho1 hc
    obtain ⟨a1, a2, a3⟩ := hA _ (List.getElem_mem hlt)
    have e2 : ∀ _ : Unit, wrap64 ((Go.Proofs.YtkflgnhcfhmkdaaDoor.M.off (ls b) j : Int) + ((ls b)[j].length : Int)) = (Go.Proofs.YtkflgnhcfhmkdaaDoor.M.off (ls b) (j + 1) : Int) := fun _ => hw _ _ (by omega) (by omega)
    have g1 : (0 : Int) ≤ (Go.Proofs.YtkflgnhcfhmkdaaDoor.M.off (ls b) j : Int) := by omega
    have g2 : (Go.Proofs.YtkflgnhcfhmkdaaDoor.M.off (ls b) j : Int) ≤ (Go.Proofs.YtkflgnhcfhmkdaaDoor.M.off (ls b) (j + 1) : Int) := by omega
    have g3 : (Go.Proofs.YtkflgnhcfhmkdaaDoor.M.off (ls b) (j + 1) : Int) ≤ (b.length : Int) := by omega
    have g4 : offs.length < 1000000000000 := by omega
    rw [List.drop_eq_getElem_cons hlt]
    unfold offsQ
    generalize hq : stepQ (A (ls b)[j]) off false (off || next) = q
    have hnext := ih (j + 1) q.1 q.2.1 (offs ++ if q.2.2 = true then [((Go.Proofs.YtkflgnhcfhmkdaaDoor.M.off (ls b) j : Int), ((ls b)[j].length : Int))] else []) (by omega) (by omega) (by rw [List.length_append]; split <;> simp <;> omega)
    rw [List.append_assoc, ho1] at hnext
    refine Ev.congr (f := fun k => (pragma_asks.f k (strOfNums (ls b)[j])).bind fun qs => if qs.length < 1000000000000 then (pragma_Read.l1 k qs off false (off || next) []).bind fun q => if offs.length < 1000000000000 then pragma_Read.l0 k b [b] d (j + 1) q.1 q.2.1 (if q.2.2.1 = true then offs ++ [((Go.Proofs.YtkflgnhcfhmkdaaDoor.M.off (ls b) j : Int), ((ls b)[j].length : Int))] else offs) q.2.2.2 else none else none) (fun k => ?_) (Ev.bind a1 ?_)
    · have hs' : lines_Index_Span.f [b] ((j + 1 : Nat) : Int) = some ((Go.Proofs.YtkflgnhcfhmkdaaDoor.M.off (ls b) j : Int), ((ls b)[j].length : Int), 0) := by rw [show ((j + 1 : Nat) : Int) = (j : Int) + 1 by omega]; exact hs
      have hp : (b.take (wrap64 ((Go.Proofs.YtkflgnhcfhmkdaaDoor.M.off (ls b) j : Int) + ((ls b)[j].length : Int))).toNat).drop ((Go.Proofs.YtkflgnhcfhmkdaaDoor.M.off (ls b) j : Int)).toNat = (ls b)[j] := by rw [e2 (), Int.toNat_natCast, Int.toNat_natCast, hc]
      have h2 : (Go.Proofs.YtkflgnhcfhmkdaaDoor.M.off (ls b) j : Int) ≤ wrap64 ((Go.Proofs.YtkflgnhcfhmkdaaDoor.M.off (ls b) j : Int) + ((ls b)[j].length : Int)) := by rw [e2 ()]; exact g2
      have h3 : wrap64 ((Go.Proofs.YtkflgnhcfhmkdaaDoor.M.off (ls b) j : Int) + ((ls b)[j].length : Int)) ≤ (b.length : Int) := by rw [e2 ()]; exact g3
      have e : pragma_Read.l0 k b [b] (d + 1) j off next offs [] = (lines_Index_Span.f [b] ((j + 1 : Nat) : Int)).bind fun sp => if 0 ≤ sp.1 then (if sp.1 ≤ wrap64 (sp.1 + sp.2.1) then (if wrap64 (sp.1 + sp.2.1) ≤ (b.length : Int) then
        (pragma_asks.f k (strOfNums ((b.take (wrap64 (sp.1 + sp.2.1)).toNat).drop sp.1.toNat))).bind fun qs => if qs.length < 1000000000000 then (pragma_Read.l1 k qs off false (off || next) []).bind fun q =>
          if offs.length < 1000000000000 then pragma_Read.l0 k b [b] d (j + 1) q.1 q.2.1 (if q.2.2.1 = true then offs ++ [(sp.1, sp.2.1)] else offs) q.2.2.2 else none else none else none) else none) else none := rfl
      refine e.trans (ob hs' ((if_pos g1).trans ((if_pos h2).trans ((if_pos h3).trans ?_))))
      show (pragma_asks.f k (strOfNums ((b.take (wrap64 ((Go.Proofs.YtkflgnhcfhmkdaaDoor.M.off (ls b) j : Int) + ((ls b)[j].length : Int))).toNat).drop ((Go.Proofs.YtkflgnhcfhmkdaaDoor.M.off (ls b) j : Int)).toNat))).bind _ = _
      rw [hp]
    · refine Ev.congr (fun k => (if_pos a3).trans (ob (l1_quiet k _ _ _ _ _ a2) ((if_pos g4).trans ?_))) hnext
      show pragma_Read.l0 k b [b] d (j + 1) (stepQ (A (ls b)[j]) off false (off || next)).1 (stepQ (A (ls b)[j]) off false (off || next)).2.1 (if (stepQ (A (ls b)[j]) off false (off || next)).2.2 = true then _ else _) [] = _
      rw [hq]
      congr 1
      split <;> simp
theorem read_quiet : Ev (fun k => pragma_Read.f k b) [⟨offsQ A (ls b) 0 false false, []⟩] := by
  have hn := ls_count b
  have h0 := read_l0 b hl A hA _ 0 false false [] rfl (Nat.zero_le _) (Nat.zero_le _)
  rw [List.nil_append, off_zero, List.drop_zero] at h0
  have g : ((ls b).length : Int) < 1000000000000 := by omega
  have g2 : b.length < 100000000000 := by omega
  refine Ev.congr (fun k => ?_) h0
  have e : pragma_Read.f k b = (lines_New.f b).bind fun ix => (lines_Index_Lines.f ix).bind fun n => if n < 1000000000000 then pragma_Read.l0 k b ix n.toNat 0 false false [] [] else none := rfl
  exact e.trans (ob (new_eq g2) (ob (nlines_eq g2) (if_pos g)))
end
end Go.Proofs.YtkflgnhcfhmkdaaDoor.Pure
