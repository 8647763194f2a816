/- The printed functions are the plain ones. -/
import Derived.Test.YtkflgnhcfhmkdaaDoorPPragmaReadsx
import Derived.Test.YtkflgnhcfhmkdaaDoorHM
import Derived.Lib.CutLaws
section
/- A text's lines as the index tells them. -/
namespace Go.Proofs.YtkflgnhcfhmkdaaDoor.Pure
open Go.RowKit Go.Proofs.YtkflgnhcfhmkdaaDoor.PPragmaReads Go.Proofs.YtkflgnhcfhmkdaaDoorW.PrintWords Go.Proofs.YtkflgnhcfhmkdaaDoorW.PrintLast
open Go.Proofs.YtkflgnhcfhmkdaaDoor.M Go.Proofs.YtkflgnhcfhmkdaaDoor.X
set_option linter.unusedVariables false
set_option linter.unusedSimpArgs false
theorem new_eq {b : List Int} (hl : b.length < 100000000000) : lines_New.f b = some [b] := by
  unfold lines_New.f
  rw [if_pos hl]
theorem nlines_eq {b : List Int} (hl : b.length < 100000000000) : lines_Index_Lines.f [b] = some ((ls b).length : Int) := by
  show (if b.length < 100000000000 then some (nlines b) else none) = _
  rw [if_pos hl, nlines_ls]
theorem span_in {b : List Int} (hl : b.length < 100000000000) (j : Nat) (hj : j < (ls b).length) : lines_Index_Span.f [b] ((j : Int) + 1) = some ((off (ls b) j : Int), (((ls b).getD j []).length : Int), 0) := by
  show (if b.length < 100000000000 then (if (j : Int) + 1 < 1 then some (0, 0, 2) else if nlines b < (j : Int) + 1 then some (0, 0, 2) else some ((spanOf b ((j : Int) + 1)).1, (spanOf b ((j : Int) + 1)).2, 0)) else none) = _
  have h2 := begins_next b j hj
  have h3 := off_succ (ls b) j hj
  rw [if_pos hl, if_neg (by omega), nlines_ls, if_neg (by omega)]
  unfold spanOf
  simp only
  rw [show ((j : Int) + 1).toNat - 1 = j by omega, show ((j : Int) + 1).toNat = j + 1 by omega, begins_lt b j hj, h2, h3]
  congr 3
  omega
end Go.Proofs.YtkflgnhcfhmkdaaDoor.Pure
end
section
/- pragma.asks and pragma.Read, as printed, in plain words; a text whose lines ask for no words. -/
namespace Go.Proofs.YtkflgnhcfhmkdaaDoor.Pure
open Go.RowKit Go.Proofs.YtkflgnhcfhmkdaaDoor.PPragmaReads Go.Proofs.YtkflgnhcfhmkdaaDoorW.PrintWords Go.Proofs.YtkflgnhcfhmkdaaDoorW.PrintLast Go.Proofs.YtkflgnhcfhmkdaaDoor.X
open Go.Proofs.YtkflgnhcfhmkdaaDoor.M Go.Proofs.YtkflgnhcfhmkdaaDoor.H
set_option linter.unusedVariables false
set_option linter.unusedSimpArgs false
abbrev Ak := S57
abbrev mk : ByteArray := ⟨#[115, 112, 101, 108, 108, 58]⟩
theorem hw (x : Int) (n : Nat) (h : x = (n : Int)) (hb : n < 9223372036854775808) : wrap64 x = (n : Int) := by rw [h]; exact w64 (by omega) (by omega)
def leadF (s : ByteArray) : Nat → Nat → Nat
  | 0, i => i
  | d + 1, i => if 97 ≤ bt s (i : Int) then (if bt s (i : Int) ≤ 122 then leadF s d (i + 1) else i) else i
def leadB (s : ByteArray) : Nat := leadF s s.size 0
theorem leadF_le (s : ByteArray) : ∀ d i, i ≤ leadF s d i ∧ leadF s d i ≤ i + d
  | 0, i => ⟨Nat.le_refl _, Nat.le_refl _⟩
  | d + 1, i => by
    have ih := leadF_le s d (i + 1)
    unfold leadF
    split
    · split <;> omega
    · omega
theorem leadB_le (s : ByteArray) : leadB s ≤ s.size := by have := (leadF_le s s.size 0).2; unfold leadB; omega
def asksM : Nat → ByteArray → List Ak
  | 0, _ => []
  | f + 1, s => if (cutB s mk).2.2 = true then ⟨(cutB s mk).2.1.extract 0 (leadB (cutB s mk).2.1), (cutB s mk).2.1.extract (leadB (cutB s mk).2.1) (cutB s mk).2.1.size⟩ :: asksM f ((cutB s mk).2.1.extract (leadB (cutB s mk).2.1) (cutB s mk).2.1.size) else []
theorem asksM_len : ∀ (f : Nat) (s : ByteArray), (asksM f s).length ≤ f
  | 0, _ => Nat.le_refl _
  | f + 1, s => by
    unfold asksM
    split
    · have := asksM_len f ((cutB s mk).2.1.extract (leadB (cutB s mk).2.1) (cutB s mk).2.1.size)
      rw [List.length_cons]; omega
    · simp
theorem cut_small (s : ByteArray) (h : (cutB s mk).2.2 = true) : (cutB s mk).2.1.size + 6 ≤ s.size := by
  unfold cutB Lib.cut at h ⊢
  split at h
  · rename_i hi
    rw [if_pos hi]
    have hr := Lib.index_room s.data.toList mk.data.toList hi
    have e : s.data.toList.length = s.size := by rw [Array.length_toList]; rfl
    have e2 : mk.data.toList.length = 6 := rfl
    show (List.drop ((Lib.index s.data.toList mk.data.toList).toNat + mk.data.toList.length) s.data.toList).toArray.size + 6 ≤ _
    rw [List.size_toArray, List.length_drop]
    omega
  · cases h
section
variable {R : List Ak}
theorem asks_l1 (acc : List Ak) (x : ByteArray) (hx : x.size ≤ 1000000) (ha : acc.length ≤ 10000000)
    (cont : Ev (fun k => pragma_asks.l0 k (x.extract (leadB x) x.size) (acc ++ [(⟨x.extract 0 (leadB x), x.extract (leadB x) x.size⟩ : Ak)])) R) :
    ∀ (d i : Nat), i + d = x.size → leadF x d i = leadB x → Ev (fun k => pragma_asks.l1 k acc x (i : Int)) R := by
  have hl := leadB_le x
  intro d
  induction d with
  | zero =>
    intro i hi he
    have e : i = leadB x := he
    refine Ev.step (fun k => ?_) cont
    simp only [pragma_asks.l1]
    rw [if_neg (by omega), if_pos (by omega), if_pos (by omega), if_pos (by omega), Int.toNat_natCast, e]
  | succ d ih =>
    intro i hi he
    have hlt : i < x.size := by omega
    unfold leadF at he
    by_cases c1 : 97 ≤ bt x (i : Int)
    · rw [if_pos c1] at he
      by_cases c2 : bt x (i : Int) ≤ 122
      · rw [if_pos c2] at he
        refine Ev.step (fun k => ?_) (ih (i + 1) (by omega) he)
        simp only [pragma_asks.l1]
        rw [if_pos (by omega), if_pos (by omega), if_pos (by omega), if_pos c2, hw ((i : Int) + 1) (i + 1) (by omega) (by omega)]
      · rw [if_neg c2] at he
        refine Ev.step (fun k => ?_) cont
        simp only [pragma_asks.l1]
        rw [if_pos (by omega), if_pos (by omega), if_pos (by omega), if_neg c2, if_pos (by omega), if_pos (by omega), Int.toNat_natCast, he]
    · rw [if_neg c1] at he
      refine Ev.step (fun k => ?_) cont
      simp only [pragma_asks.l1]
      rw [if_pos (by omega), if_pos (by omega), if_neg (by omega), if_pos (by omega), if_pos (by omega), Int.toNat_natCast, he]
end
theorem asks_l0 : ∀ (f : Nat) (s : ByteArray) (acc : List Ak), s.size < f → s.size ≤ 1000000 → acc.length + s.size ≤ 5000000 → Ev (fun k => pragma_asks.l0 k s acc) (acc ++ asksM f s) := by
  intro f
  induction f with
  | zero => intro s acc h; omega
  | succ f ih =>
    intro s acc hf hs ha
    have hc : strings_Cut.f s mk = some (cutB s mk) := by
      unfold strings_Cut.f
      rw [if_pos (by omega)]
    unfold asksM
    by_cases h : (cutB s mk).2.2 = true
    · have hz := cut_small s h
      rw [if_pos h]
      have hxt := h
      obtain ⟨x, hxe⟩ : ∃ x, (cutB s mk).2.1 = x := ⟨_, rfl⟩
      rw [hxe] at hz ⊢
      have hx : (x.extract (leadB x) x.size).size ≤ x.size := by rw [ByteArray.size_extract]; omega
      have hn := ih (x.extract (leadB x) x.size) (acc ++ [(⟨x.extract 0 (leadB x), x.extract (leadB x) x.size⟩ : Ak)]) (by omega) (by omega) (by rw [List.length_append, List.length_singleton]; omega)
      rw [List.append_assoc] at hn
      have hn2 := asks_l1 acc x (by omega) (by omega) hn x.size 0 (by omega) rfl
      refine Ev.step (fun k => ?_) hn2
      simp only [pragma_asks.l0, hc, Option.bind_some]
      rw [if_pos hxt, hxe]
      rfl
    · rw [if_neg h, List.append_nil]
      refine Ev.step (f := fun _ => some acc) (fun k => ?_) (Ev.now _)
      simp only [pragma_asks.l0, hc, Option.bind_some]
      rw [if_neg h]
theorem asks_ev (s : ByteArray) (hs : s.size ≤ 1000000) : Ev (fun k => pragma_asks.f k s) (asksM (s.size + 1) s) := asks_l0 (s.size + 1) s [] (by omega) hs (by simp; omega)
def NoWords (qs : List Ak) : Prop := ∀ a ∈ qs, a.f0.toList ≠ ([119, 111, 114, 100, 115] : List UInt8)
def stepQ : List Ak → Bool → Bool → Bool → Bool × Bool × Bool
  | [], off, next, skip => (off, next, skip)
  | a :: t, off, next, skip =>
    if a.f0.toList = ([111, 102, 102] : List UInt8) then stepQ t true next true
    else if a.f0.toList = ([108, 105, 110, 101] : List UInt8) then stepQ t off next true
    else if a.f0.toList = ([111, 110] : List UInt8) then stepQ t false next skip
    else if a.f0.toList = ([110, 101, 120, 116] : List UInt8) then stepQ t off true skip
    else stepQ t off next skip
def offsQ (A : List Int → List Ak) : List (List Int) → Nat → Bool → Bool → List (Int × Int)
  | [], _, _, _ => []
  | l :: t, p, off, next => (if (stepQ (A l) off false (off || next)).2.2 = true then [((p : Int), (l.length : Int))] else []) ++ offsQ A t (p + l.length) (stepQ (A l) off false (off || next)).1 (stepQ (A l) off false (off || next)).2.1
section
variable (b : List Int) (hl : b.length ≤ 1000000) (A : List Int → List Ak) (hA : ∀ l ∈ ls b, Ev (fun k => pragma_asks.f k (strOfNums l)) (A l) ∧ NoWords (A l) ∧ (A l).length < 1000000000000)
include hl hA
end
end Go.Proofs.YtkflgnhcfhmkdaaDoor.Pure
end
section
/- What a line asks, place by place. -/
namespace Go.Proofs.YtkflgnhcfhmkdaaDoor.Pure
open Go.RowKit Go.Proofs.YtkflgnhcfhmkdaaDoor.PPragmaReads Go.Proofs.YtkflgnhcfhmkdaaDoorW.PrintWords Go.Proofs.YtkflgnhcfhmkdaaDoorW.PrintLast Go.Proofs.YtkflgnhcfhmkdaaDoor.X
open Go.Proofs.YtkflgnhcfhmkdaaDoor.M Go.Proofs.YtkflgnhcfhmkdaaDoor.H
set_option linter.unusedVariables false
set_option linter.unusedSimpArgs false
abbrev mkL : List UInt8 := [115, 112, 101, 108, 108, 58]
def endP (s : ByteArray) (p : Nat) : Nat := leadF s (s.size - (p + 6)) (p + 6)
theorem endP_le (s : ByteArray) (p : Nat) (h : p + 6 ≤ s.size) : p + 6 ≤ endP s p ∧ endP s p ≤ s.size := by
  have := leadF_le s (s.size - (p + 6)) (p + 6)
  unfold endP
  omega
def asksP : Nat → ByteArray → Nat → List Ak
  | 0, _, _ => []
  | f + 1, s, p => if p + 6 ≤ s.size then (if (s.extract p (p + 6)).toList = mkL then ⟨s.extract (p + 6) (endP s p), s.extract (endP s p) s.size⟩ :: asksP f s (endP s p) else asksP f s (p + 1)) else []
theorem ext_ext (s : ByteArray) (p i j : Nat) (hp : p ≤ s.size) : (s.extract p s.size).extract i j = s.extract (p + i) (min (p + j) s.size) := by
  rw [ByteArray.extract_extract]
theorem bt_ext (s : ByteArray) (q i : Nat) (h : q + i < s.size) : bt (s.extract q s.size) (i : Int) = bt s ((q + i : Nat) : Int) := by
  unfold bt
  rw [dif_pos (by rw [Int.toNat_natCast, ByteArray.size_extract]; omega), dif_pos (by rw [Int.toNat_natCast]; exact h)]
  simp only [Int.toNat_natCast, ByteArray.getElem_extract]
theorem lead_ext (s : ByteArray) (q : Nat) : ∀ d i, q + i + d ≤ s.size → leadF s d (q + i) = q + leadF (s.extract q s.size) d i
  | 0, i, _ => rfl
  | d + 1, i, h => by
    have ih := lead_ext s q d (i + 1) (by omega)
    unfold leadF
    rw [bt_ext s q i (by omega), show q + i + 1 = q + (i + 1) by omega, ih]
    split
    · split <;> rfl
    · rfl
theorem cut_skip (b : UInt8) (l sep : List UInt8) (h : sep.isPrefixOf (b :: l) = false) : (Lib.cut (b :: l) sep).2 = (Lib.cut l sep).2 := by
  have hg := Lib.index_ge l sep
  have e : Lib.index (b :: l) sep = if Lib.index l sep == -1 then -1 else Lib.index l sep + 1 := by
    show (if sep.isPrefixOf (b :: l) then (0 : Int) else _) = _
    rw [h, if_neg (by decide)]
  unfold Lib.cut
  by_cases c : Lib.index l sep = -1
  · have e2 : Lib.index (b :: l) sep = -1 := by rw [e, c]; rfl
    rw [e2, c, if_neg (by decide), if_neg (by decide)]
  · have e2 : Lib.index (b :: l) sep = Lib.index l sep + 1 := by
      rw [e, if_neg (by rw [beq_iff_eq]; exact c)]
    have e3 : (Lib.index l sep + 1).toNat + sep.length = ((Lib.index l sep).toNat + sep.length) + 1 := by omega
    rw [e2, if_pos (by omega), if_pos (by omega), e3]
    rfl
theorem tail_data (s : ByteArray) (p : Nat) : (s.extract p s.size).data.toList = s.data.toList.drop p := by
  rw [Lib.extract_data, List.take_of_length_le]
  rw [List.length_drop, Array.length_toList]
  exact Nat.le_refl _
theorem asks_P (s : ByteArray) : ∀ (g p f : Nat), s.size - p < g → s.size - p < f → p ≤ s.size → asksM f (s.extract p s.size) = asksP g s p := by
  have hsz : s.data.toList.length = s.size := by rw [Array.length_toList]; rfl
  intro g
  induction g with
  | zero => intro p f h; omega
  | succ g ih =>
    intro p f hg hf hp
    obtain ⟨f, rfl⟩ : ∃ m, f = m + 1 := ⟨f - 1, by omega⟩
    have hu := tail_data s p
    have hus : (s.extract p s.size).size = s.size - p := by rw [ByteArray.size_extract]; omega
    unfold asksP
    by_cases c6 : p + 6 ≤ s.size
    · rw [if_pos c6]
      by_cases cm : (s.extract p (p + 6)).toList = mkL
      · rw [if_pos cm]
        have hpre : List.isPrefixOf mkL (s.data.toList.drop p) = true := by
          rw [Lib.extract_toList, show p + 6 - p = 6 by omega] at cm
          rw [List.isPrefixOf_iff_prefix, ← cm]
          exact List.take_prefix _ _
        have hi : Lib.indexB (s.extract p s.size) mk = ((0 : Nat) : Int) := by
          show Lib.index (s.extract p s.size).data.toList mk.data.toList = _
          rw [hu]
          exact Lib.index_first (i := 0) (Nat.zero_le _) (by unfold Lib.occAt; rw [List.drop_zero]; exact hpre) (fun j h => by omega)
        obtain ⟨_, h2, h3⟩ := Lib.cutB_hit (s.extract p s.size) mk 0 hi
        have h2' : (cutB (s.extract p s.size) mk).2.1 = s.extract (p + 6) s.size := by
          refine h2.trans ?_
          rw [ext_ext s p _ _ hp, hus]
          congr 1 <;> omega
        have h3' : (cutB (s.extract p s.size) mk).2.2 = true := h3
        unfold asksM
        rw [if_pos h3', h2']
        have hl := lead_ext s (p + 6) (s.size - (p + 6)) 0 (by omega)
        have hxs : (s.extract (p + 6) s.size).size = s.size - (p + 6) := by rw [ByteArray.size_extract]; omega
        have he := endP_le s p c6
        have hel : p + 6 + leadB (s.extract (p + 6) s.size) = endP s p := by
          unfold leadB endP
          rw [hxs, ← hl]
        have h4 : (s.extract (p + 6) s.size).extract 0 (leadB (s.extract (p + 6) s.size)) = s.extract (p + 6) (endP s p) := by
          rw [ext_ext s (p + 6) _ _ c6, hel]
          rw [Nat.min_eq_left he.2, Nat.add_zero]
        have h5 : (s.extract (p + 6) s.size).extract (leadB (s.extract (p + 6) s.size)) (s.extract (p + 6) s.size).size = s.extract (endP s p) s.size := by
          rw [ext_ext s (p + 6) _ _ c6, hel, hxs]
          congr 1 <;> omega
        rw [h4, h5, ih (endP s p) f (by omega) (by omega) he.2]
      · rw [if_neg cm]
        have hlt : p < s.data.toList.length := by omega
        have hd : s.data.toList.drop p = s.data.toList[p] :: s.data.toList.drop (p + 1) := List.drop_eq_getElem_cons hlt
        have hpre : List.isPrefixOf mkL (s.data.toList[p] :: s.data.toList.drop (p + 1)) = false := by
          rw [← hd, Bool.eq_false_iff]
          intro h
          rw [List.isPrefixOf_iff_prefix] at h
          apply cm
          rw [Lib.extract_toList, show p + 6 - p = 6 by omega]
          exact (List.prefix_iff_eq_take.1 h).symm
        have hc : (cutB (s.extract p s.size) mk).2 = (cutB (s.extract (p + 1) s.size) mk).2 := by
          unfold cutB
          rw [hu, tail_data s (p + 1), hd]
          have := cut_skip s.data.toList[p] (s.data.toList.drop (p + 1)) mk.data.toList hpre
          rw [this]
        rw [← ih (p + 1) (f + 1) (by omega) (by omega) (by omega)]
        unfold asksM
        rw [hc]
    · rw [if_neg c6]
      have hi : Lib.indexB (s.extract p s.size) mk = -1 := by
        rcases Lib.indexB_cases (s.extract p s.size) mk with h | ⟨i, h, hr⟩
        · exact h
        · have : mk.size = 6 := rfl
          omega
      have h3 : (cutB (s.extract p s.size) mk).2.2 = false := (Lib.cutB_miss (s.extract p s.size) mk hi).2.2
      unfold asksM
      rw [h3, if_neg (by decide)]
theorem asks_zero (s : ByteArray) : asksM (s.size + 1) s = asksP (s.size + 1) s 0 := by
  have h := asks_P s (s.size + 1) 0 (s.size + 1) (by omega) (by omega) (Nat.zero_le _)
  rw [ByteArray.extract_zero_size] at h
  exact h
theorem asksM_f1 : ∀ (f : Nat) (s : ByteArray), ∀ a ∈ asksM f s, a.f1.size ≤ s.size
  | 0, _, a, h => by cases h
  | f + 1, s, a, h => by
    unfold asksM at h
    split at h
    · rename_i hc
      have hz := cut_small s hc
      generalize (cutB s mk).2.1 = x at *
      rcases List.mem_cons.1 h with rfl | h
      · show (x.extract _ _).size ≤ _
        rw [ByteArray.size_extract]; omega
      · have := asksM_f1 f _ a h
        rw [ByteArray.size_extract] at this
        omega
    · cases h
end Go.Proofs.YtkflgnhcfhmkdaaDoor.Pure
end
section
/- The printed functions of utf are the plain ones: utf.Next, utf.Units. -/
namespace Go.Proofs.YtkflgnhcfhmkdaaDoor.PPragmaReads
open Go.RowKit Go.Proofs.YtkflgnhcfhmkdaaDoorW.PrintWords Go.Proofs.YtkflgnhcfhmkdaaDoorW.PrintLast Go.Proofs.YtkflgnhcfhmkdaaDoorW.PrintMore
open Go.Proofs.YtkflgnhcfhmkdaaDoor.M
set_option linter.unusedVariables false
set_option linter.unusedSimpArgs false
theorem first_a (m : Nat) {c : Int} (h0 : 0 ≤ c) (h : c < 128) : utf_first.f m c = some (c, 0, 0, true) := by
  unfold utf_first.f
  rw [if_pos h, w32 (x := c) (by omega) (by omega)]
theorem first_b (m : Nat) {c : Int} (h0 : 194 ≤ c) (h1 : c < 224) : utf_first.f (m + 1 + 1) c = some (c - 192, 1, 128, true) := by
  unfold utf_first.f
  rw [if_neg (by omega), if_pos h0]
  simp only [utf_first.j0]
  rw [if_pos (decide_eq_true h1), u8_and31 c (by omega) (by omega), w32 (x := c % 32) (by omega) (by omega)]
  congr 2; omega
theorem first_c (m : Nat) {c : Int} (h0 : 224 ≤ c) (h1 : c < 240) : utf_first.f (m + 1 + 1) c = some (c - 224, 2, 2048, true) := by
  unfold utf_first.f
  rw [if_neg (by omega), if_pos (by omega)]
  simp only [utf_first.j0, utf_first.j1]
  rw [if_neg (by rw [decide_eq_true_eq]; omega), if_pos h0, if_pos (decide_eq_true h1), u8_and15 c (by omega) (by omega), w32 (x := c % 16) (by omega) (by omega)]
  congr 2; omega
theorem first_d (m : Nat) {c : Int} (h0 : 240 ≤ c) (h1 : c < 245) : utf_first.f (m + 1 + 1) c = some (c - 240, 3, 65536, true) := by
  unfold utf_first.f
  rw [if_neg (by omega), if_pos (by omega)]
  simp only [utf_first.j0, utf_first.j1]
  rw [if_neg (by rw [decide_eq_true_eq]; omega), if_pos (by omega), if_neg (by rw [decide_eq_true_eq]; omega), if_pos h0, if_pos h1, u8_and7 c (by omega) (by omega), w32 (x := c % 8) (by omega) (by omega)]
  congr 2; omega
theorem first_e (m : Nat) {c : Int} (h0 : 128 ≤ c) (h : c < 194 ∨ 245 ≤ c) : utf_first.f (m + 1 + 1) c = some (0, 0, 0, false) := by
  unfold utf_first.f
  rw [if_neg (by omega)]
  by_cases h1 : c ≥ 194
  · rw [if_pos h1]
    simp only [utf_first.j0, utf_first.j1]
    rw [if_neg (by rw [decide_eq_true_eq]; omega), if_pos (by omega), if_neg (by rw [decide_eq_true_eq]; omega), if_pos (by omega), if_neg (by omega)]
  · rw [if_neg h1]
    simp only [utf_first.j0, utf_first.j1]
    rw [if_neg (by simp)]
    by_cases h2 : c ≥ 224
    · omega
    · rw [if_neg h2, if_neg (by simp), if_neg (by omega)]
theorem step_T (k : Nat) (r more least c : Int) (l : List Int) (n i : Int) (hi : 0 ≤ i) (hn : i < n) (hl : i < (l.length : Int)) (hc : rd l i = c) (h0 : 0 ≤ c) (h1 : c < 256) (hr0 : 0 ≤ r) (hr : r < 33554432) (hi' : i < 1000) :
    utf_Next.l0 (k + 1) r more least l n i = if isT c = true then utf_Next.l0 k (r * 64 + (c - 128)) more least l n (i + 1) else some (-1, 1) := by
  have e1 : Go.bits .and .u8 c 192 = c / 64 * 64 := by
    have : ∀ x : Fin 256, Go.bits .and .u8 ((x.val : Nat) : Int) 192 = ((x.val : Nat) : Int) / 64 * 64 := by decide +kernel
    have h := this ⟨c.toNat, by omega⟩
    simpa [Int.toNat_of_nonneg h0] using h
  simp only [utf_Next.l0]
  rw [if_pos hn, if_pos hi, if_pos hl, hc, e1]
  by_cases hT : isT c = true
  · have hT' := (isT_iff c).1 hT
    rw [if_pos (by omega), if_pos hT, u8_and63 c h0 h1, w32 (x := r * 64) (by omega) (by omega), w32 (x := c % 64) (by omega) (by omega), i32_or6 (r * 64) (c % 64) (by omega) (by omega) (by omega) (by omega) (by omega), w64 (x := i + 1) (by omega) (by omega)]
    congr 1; omega
  · have hT' : ¬ (128 ≤ c ∧ c < 192) := fun h => hT ((isT_iff c).2 h)
    rw [if_neg (by omega), if_neg hT]
theorem end_T (k : Nat) (r more least : Int) (l : List Int) (n : Int) (hr : least ≤ r) (hr1 : r ≤ 1114111) (hs : ¬ (55296 ≤ r ∧ r < 57344)) (hm0 : 0 ≤ more) (hm : more < 10) :
    utf_Next.l0 (k + 1) r more least l n n = some (r, 1 + more) := by
  simp only [utf_Next.l0]
  rw [if_neg (by omega), if_neg (by omega), if_neg (by omega), w64 (x := 1 + more) (by omega) (by omega)]
  by_cases h : r ≥ 55296
  · rw [if_pos h, if_neg (by omega)]
  · rw [if_neg h]
theorem end_F (k : Nat) (r more least : Int) (l : List Int) (n : Int) (h : r < least ∨ 1114111 < r ∨ (55296 ≤ r ∧ r < 57344)) :
    utf_Next.l0 (k + 1) r more least l n n = some (-1, 1) := by
  simp only [utf_Next.l0]
  rw [if_neg (by omega)]
  by_cases h1 : r < least
  · rw [if_pos h1]
  · rw [if_neg h1]
    by_cases h2 : r > 1114111
    · rw [if_pos h2]
    · rw [if_neg h2, if_pos (by omega), if_pos (by omega)]
theorem j0_short (k : Nat) (b : List Int) (r more least : Int) : utf_Next.j0 (k + 1) b r more least true = some (-1, 1) := by
  simp only [utf_Next.j0, ↓reduceIte]
theorem j0_long (k : Nat) (b : List Int) (r more least : Int) (hm0 : 0 ≤ more) (hn : more < (b.length : Int)) (hn' : more < 10) :
    utf_Next.j0 (k + 1) b r more least false = utf_Next.l0 k r more least ((b.take (more.toNat + 1)).drop 1) more 0 := by
  simp only [utf_Next.j0]
  have e : wrap64 (1 + more) = 1 + more := w64 (by omega) (by omega)
  have e3 : (1 + more).toNat = more.toNat + 1 := by omega
  have e2 : (((b.take (more.toNat + 1)).drop 1).length : Int) = more := by rw [List.length_drop, List.length_take]; omega
  rw [if_neg (by simp), e, if_pos (by omega), if_pos (by omega), e3]
  simp only [Option.bind_some]
  rw [e2]
theorem next_eq {k : Nat} (hk : 6 ≤ k) {b : List Int} (hB : BT b) : utf_Next.f k b = some (nx b) := by
  obtain ⟨m, rfl⟩ : ∃ m, k = m + 1 + 1 + 1 + 1 + 1 + 1 := ⟨k - 6, by omega⟩
  rcases b with _ | ⟨c, t⟩
  · rfl
  have hc := hB.head
  have hl : (((c :: t).length : Nat) : Int) = t.length + 1 := by simp
  unfold utf_Next.f
  rw [if_neg (by rw [hl]; omega), if_pos (by rw [hl]; omega), show rd (c :: t) 0 = c from rfl]
  by_cases h1 : c < 128
  · rw [first_a _ hc.1 h1]
    simp only [Option.bind_some, ↓reduceIte]
    rw [decide_eq_false (by rw [hl]; omega), j0_long (m + 1 + 1 + 1 + 1 + 1) (c :: t) c 0 0 (by omega) (by rw [hl]; omega) (by omega), end_T (m + 1 + 1 + 1 + 1) c 0 0 _ 0 hc.1 (by omega) (by omega) (by omega) (by omega)]
    simp [nx, h1]
  by_cases h2 : 194 ≤ c ∧ c < 224
  · rw [first_b (m + 1 + 1 + 1 + 1) h2.1 h2.2]
    simp only [Option.bind_some, ↓reduceIte]
    rcases t with _ | ⟨c1, t⟩
    · rw [decide_eq_true (by simp), j0_short]; simp [nx, h1, h2]
    · have b1 := hB.tail.head
      rw [decide_eq_false (by simp; omega), j0_long (m + 1 + 1 + 1 + 1 + 1) (c :: c1 :: t) (c - 192) 1 128 (by omega) (by simp; omega) (by omega)]
      rw [show ((c :: c1 :: t).take ((1 : Int).toNat + 1)).drop 1 = [c1] from rfl]
      rw [step_T (m + 1 + 1 + 1 + 1) (c - 192) 1 128 c1 [c1] 1 0 (by omega) (by omega) (by simp) rfl b1.1 b1.2 (by omega) (by omega) (by omega)]
      by_cases hT : isT c1 = true
      · have := (isT_iff c1).1 hT
        rw [if_pos hT, show (0 : Int) + 1 = 1 from rfl, end_T (m + 1 + 1 + 1) ((c - 192) * 64 + (c1 - 128)) 1 128 [c1] 1 (by omega) (by omega) (by omega) (by omega) (by omega)]
        simp [nx, h1, h2, hT, v2]
      · rw [if_neg hT]; simp [nx, h1, h2, hT]
  by_cases h3 : 224 ≤ c ∧ c < 240
  · rw [first_c (m + 1 + 1 + 1 + 1) h3.1 h3.2]
    simp only [Option.bind_some, ↓reduceIte]
    rcases t with _ | ⟨c1, _ | ⟨c2, t⟩⟩
    · rw [decide_eq_true (by simp), j0_short]; simp [nx, h1, h2, h3]
    · rw [decide_eq_true (by simp), j0_short]; simp [nx, h1, h2, h3]
    · have b1 := hB.tail.head
      have b2 := hB.tail.tail.head
      rw [decide_eq_false (by simp; omega), j0_long (m + 1 + 1 + 1 + 1 + 1) (c :: c1 :: c2 :: t) (c - 224) 2 2048 (by omega) (by simp; omega) (by omega)]
      rw [show ((c :: c1 :: c2 :: t).take ((2 : Int).toNat + 1)).drop 1 = [c1, c2] from rfl]
      rw [step_T (m + 1 + 1 + 1 + 1) (c - 224) 2 2048 c1 [c1, c2] 2 0 (by omega) (by omega) (by simp) rfl b1.1 b1.2 (by omega) (by omega) (by omega)]
      simp only [nx]
      rw [if_neg h1, if_neg h2, if_pos h3]
      by_cases hT : isT c1 = true
      · have t1 := (isT_iff c1).1 hT
        rw [if_pos hT, step_T (m + 1 + 1 + 1) ((c - 224) * 64 + (c1 - 128)) 2 2048 c2 [c1, c2] 2 (0 + 1) (by omega) (by omega) (by simp) rfl b2.1 b2.2 (by omega) (by omega) (by omega)]
        by_cases hT2 : isT c2 = true
        · have t2 := (isT_iff c2).1 hT2
          rw [if_pos hT2, show (0 : Int) + 1 + 1 = 2 from rfl]
          by_cases hv : 2048 ≤ v3 c c1 c2 ∧ ¬ (55296 ≤ v3 c c1 c2 ∧ v3 c c1 c2 < 57344)
          · rw [if_pos ⟨hT, hT2, hv.1, hv.2⟩]
            exact end_T (m + 1 + 1) (v3 c c1 c2) 2 2048 [c1, c2] 2 hv.1 (by unfold v3; omega) hv.2 (by omega) (by omega)
          · rw [if_neg (fun h => hv h.2.2)]
            exact end_F (m + 1 + 1) (v3 c c1 c2) 2 2048 [c1, c2] 2 (by omega)
        · rw [if_neg hT2, if_neg (fun h => hT2 h.2.1)]
      · rw [if_neg hT, if_neg (fun h => hT h.1)]
  by_cases h4 : 240 ≤ c ∧ c < 245
  · rw [first_d (m + 1 + 1 + 1 + 1) h4.1 h4.2]
    simp only [Option.bind_some, ↓reduceIte]
    rcases t with _ | ⟨c1, _ | ⟨c2, _ | ⟨c3, t⟩⟩⟩
    · rw [decide_eq_true (by simp), j0_short]; simp [nx, h1, h2, h3, h4]
    · rw [decide_eq_true (by simp), j0_short]; simp [nx, h1, h2, h3, h4]
    · rw [decide_eq_true (by simp), j0_short]; simp [nx, h1, h2, h3, h4]
    · have b1 := hB.tail.head
      have b2 := hB.tail.tail.head
      have b3 := hB.tail.tail.tail.head
      rw [decide_eq_false (by simp; omega), j0_long (m + 1 + 1 + 1 + 1 + 1) (c :: c1 :: c2 :: c3 :: t) (c - 240) 3 65536 (by omega) (by simp; omega) (by omega)]
      rw [show ((c :: c1 :: c2 :: c3 :: t).take ((3 : Int).toNat + 1)).drop 1 = [c1, c2, c3] from rfl]
      rw [step_T (m + 1 + 1 + 1 + 1) (c - 240) 3 65536 c1 [c1, c2, c3] 3 0 (by omega) (by omega) (by simp) rfl b1.1 b1.2 (by omega) (by omega) (by omega)]
      simp only [nx]
      rw [if_neg h1, if_neg h2, if_neg h3, if_pos h4]
      by_cases hT : isT c1 = true
      · have t1 := (isT_iff c1).1 hT
        rw [if_pos hT, step_T (m + 1 + 1 + 1) ((c - 240) * 64 + (c1 - 128)) 3 65536 c2 [c1, c2, c3] 3 (0 + 1) (by omega) (by omega) (by simp) rfl b2.1 b2.2 (by omega) (by omega) (by omega)]
        by_cases hT2 : isT c2 = true
        · have t2 := (isT_iff c2).1 hT2
          rw [if_pos hT2, step_T (m + 1 + 1) (((c - 240) * 64 + (c1 - 128)) * 64 + (c2 - 128)) 3 65536 c3 [c1, c2, c3] 3 (0 + 1 + 1) (by omega) (by omega) (by simp) rfl b3.1 b3.2 (by omega) (by omega) (by omega)]
          by_cases hT3 : isT c3 = true
          · have t3 := (isT_iff c3).1 hT3
            rw [if_pos hT3, show (0 : Int) + 1 + 1 + 1 = 3 from rfl]
            by_cases hv : 65536 ≤ v4 c c1 c2 c3 ∧ v4 c c1 c2 c3 ≤ 1114111
            · rw [if_pos ⟨hT, hT2, hT3, hv.1, hv.2⟩]
              exact end_T (m + 1) (v4 c c1 c2 c3) 3 65536 [c1, c2, c3] 3 hv.1 hv.2 (by omega) (by omega) (by omega)
            · rw [if_neg (fun h => hv h.2.2.2)]
              exact end_F (m + 1) (v4 c c1 c2 c3) 3 65536 [c1, c2, c3] 3 (by omega)
          · rw [if_neg hT3, if_neg (fun h => hT3 h.2.2.1)]
        · rw [if_neg hT2, if_neg (fun h => hT2 h.2.1)]
      · rw [if_neg hT, if_neg (fun h => hT h.1)]
  · rw [first_e (m + 1 + 1 + 1 + 1) (by omega) (by omega)]
    simp only [Option.bind_some]
    rw [if_neg (by simp), j0_short]
    simp [nx, h1, h2, h3, h4]
def mkU : Int → List (Int × Int) → List S73
  | _, [] => []
  | at_, (r, n) :: l => ⟨r, ⟨at_, n⟩⟩ :: mkU (at_ + n) l
theorem mkU_len (a : Int) (l : List (Int × Int)) : (mkU a l).length = l.length := by
  induction l generalizing a with
  | nil => rfl
  | cons x l ih => simp [mkU, ih]
theorem mkU_get (a : Int) (l : List (Int × Int)) (i : Nat) (h : i < l.length) : (mkU a l).getD i z73 = ⟨(l.getD i (0, 0)).1, ⟨a + pos l i, (l.getD i (0, 0)).2⟩⟩ := by
  induction l generalizing a i with
  | nil => simp at h
  | cons x l ih =>
    cases i with
    | zero => simp [mkU, pos]
    | succ i =>
      have := ih (a + x.2) i (by simpa using h)
      simp only [mkU, List.getD_cons_succ, this, pos_cons]
      congr 2
      omega
theorem units_from {b : List Int} (hB : BT b) (hlen : b.length < 5864062014805) : ∀ (d k at_ : Nat) (acc : List S73), b.length - at_ = d → at_ ≤ b.length → d + 7 ≤ k → acc.length ≤ at_ →
    utf_Units.l0 k b acc at_ = some (acc ++ mkU at_ (us (b.drop at_))) := by
  intro d
  induction d using Nat.strongRecOn with
  | _ d ih =>
    intro k at_ acc hd ha hk hac
    obtain ⟨k, rfl⟩ : ∃ m, k = m + 1 := ⟨k - 1, by omega⟩
    simp only [utf_Units.l0]
    by_cases he : at_ < b.length
    · have hne : b.drop at_ ≠ [] := by
        intro h; have := congrArg List.length h; rw [List.length_drop] at this; simp at this; omega
      have hl := nx_len hne
      rw [List.length_drop] at hl
      rw [if_pos (by omega), if_pos (by omega), if_pos (by omega), Int.toNat_natCast, next_eq (by omega) (hB.drop _)]
      simp only [Option.bind_some]
      have e : wrap64 ((at_ : Int) + (nx (b.drop at_)).2) = ((at_ + (nx (b.drop at_)).2.toNat : Nat) : Int) := by
        rw [w64 (by omega) (by omega)]; omega
      rw [if_pos (by omega), e, ih (d - (nx (b.drop at_)).2.toNat) (by omega) k _ _ (by omega) (by omega) (by omega) (by rw [List.length_append]; simp; omega), us_cons hne, List.drop_drop, List.append_assoc]
      simp only [mkU, List.singleton_append]
      congr 4
      omega
    · rw [if_neg (by omega), show b.drop at_ = [] from List.drop_eq_nil_of_le (by omega)]
      simp [us_nil, mkU]
theorem units_eq {b : List Int} (hB : BT b) (hlen : b.length < 5864062014805) {k : Nat} (hk : b.length + 7 ≤ k) : utf_Units.f k b = some (mkU 0 (us b)) := by
  unfold utf_Units.f
  have := units_from hB hlen b.length k 0 [] (by omega) (by omega) (by omega) (by simp)
  simpa using this
end Go.Proofs.YtkflgnhcfhmkdaaDoor.PPragmaReads
end
section
/- The printed utf.Runes is the plain one. -/
namespace Go.Proofs.YtkflgnhcfhmkdaaDoor.PPragmaReads
open Go.RowKit Go.Proofs.YtkflgnhcfhmkdaaDoorW.PrintWords Go.Proofs.YtkflgnhcfhmkdaaDoorW.PrintLast Go.Proofs.YtkflgnhcfhmkdaaDoorW.PrintMore
open Go.Proofs.YtkflgnhcfhmkdaaDoor.M Go.Proofs.YtkflgnhcfhmkdaaDoor.X
set_option linter.unusedVariables false
set_option linter.unusedSimpArgs false
theorem mkU_rune (a : Int) (l : List (Int × Int)) (i : Nat) (h : i < l.length) : (rd_T73 (mkU a l) (i : Int)).f0 = (l.map (·.1)).getD i 0 := by
  unfold rd_T73
  rw [Int.toNat_natCast, mkU_get a l i h]
  rw [List.getD_eq_getElem?_getD, List.getD_eq_getElem?_getD, List.getElem?_map, List.getElem?_eq_getElem h]
  rfl
theorem runes_from (l : List (Int × Int)) (hl : l.length < 35184372088832) : ∀ (d k i : Nat), l.length - i = d → i ≤ l.length → d < k →
    utf_Runes.l0 k ((l.map (·.1)).take i) (mkU 0 l) (l.length : Int) (i : Int) = some (l.map (·.1)) := by
  intro d
  induction d with
  | zero =>
    intro k i hd hi hk
    obtain ⟨k, rfl⟩ : ∃ m, k = m + 1 := ⟨k - 1, by omega⟩
    simp only [utf_Runes.l0]
    rw [if_neg (by omega), List.take_of_length_le (by rw [List.length_map]; omega)]
  | succ d ih =>
    intro k i hd hi hk
    obtain ⟨k, rfl⟩ : ∃ m, k = m + 1 := ⟨k - 1, by omega⟩
    have hlt : i < l.length := by omega
    have ew : wrap64 ((i : Int) + 1) = ((i + 1 : Nat) : Int) := by rw [w64 (by omega) (by omega)]; omega
    simp only [utf_Runes.l0]
    rw [if_pos (by omega), if_pos (by omega), if_pos (by rw [mkU_len]; omega), if_pos (by rw [List.length_take, List.length_map]; omega), mkU_rune 0 l i hlt, ew]
    have := ih k (i + 1) (by omega) (by omega) (by omega)
    rw [List.take_succ_eq_append_getElem (by rw [List.length_map]; exact hlt)] at this
    rw [List.getD_eq_getElem?_getD, List.getElem?_eq_getElem (by rw [List.length_map]; exact hlt)]
    exact this
theorem runes_eq {k : Nat} (s : ByteArray) (hs : s.size < 5864062014805) (hk : s.size + 8 ≤ k) : utf_Runes.f k s = some (rs (bytesOf s)) := by
  unfold utf_Runes.f
  have hB := bytesOf_BT s
  have hl := bytesOf_length s
  have hul := us_len (bytesOf s)
  refine ob (conv_of_str s (by omega)) ?_
  refine ob (units_eq hB (by omega) (by omega)) ?_
  rw [mkU_len]
  exact runes_from (us (bytesOf s)) (by omega) _ _ 0 rfl (by omega) (by omega)
theorem runes_of {k : Nat} {b : List Int} (hB : BT b) (hb : b.length < 5864062014805) (hk : b.length + 8 ≤ k) : utf_Runes.f k (strOfNums b) = some (rs b) := by
  rw [runes_eq (strOfNums b) (by rw [strOfNums_size]; exact hb) (by rw [strOfNums_size]; exact hk), bytesOf_strOfNums hB]
end Go.Proofs.YtkflgnhcfhmkdaaDoor.PPragmaReads
end
section
/- The printed utf.Put and utf.Text are the plain ones. -/
namespace Go.Proofs.YtkflgnhcfhmkdaaDoor.PPragmaReads
open Go.RowKit Go.Proofs.YtkflgnhcfhmkdaaDoorW.PrintWords Go.Proofs.YtkflgnhcfhmkdaaDoorW.PrintLast Go.Proofs.YtkflgnhcfhmkdaaDoorW.PrintMore
open Go.Proofs.YtkflgnhcfhmkdaaDoor.M Go.Proofs.YtkflgnhcfhmkdaaDoor.X
set_option linter.unusedVariables false
set_option linter.unusedSimpArgs false
theorem and191 {x : Int} (h0 : 0 ≤ x) (h1 : x < 256) : Go.bits .and .u8 x 191 = x / 128 * 128 + x % 64 := by
  have : ∀ x : Fin 256, Go.bits .and .u8 ((x.val : Nat) : Int) 191 = ((x.val : Nat) : Int) / 128 * 128 + ((x.val : Nat) : Int) % 64 := by decide +kernel
  have h := this ⟨x.toNat, by omega⟩
  simpa [Int.toNat_of_nonneg h0] using h
theorem or128 {x : Int} (h0 : 0 ≤ x) (h1 : x < 256) : Go.bits .or .u8 128 x = 128 + x % 128 := by
  have : ∀ x : Fin 256, Go.bits .or .u8 128 ((x.val : Nat) : Int) = 128 + ((x.val : Nat) : Int) % 128 := by decide +kernel
  have h := this ⟨x.toNat, by omega⟩
  simpa [Int.toNat_of_nonneg h0] using h
theorem tail_byte {x : Int} : Go.bits .or .u8 128 (Go.bits .and .u8 (x % 256) 191) = 128 + x % 64 := by
  rw [and191 (by omega) (by omega), or128 (by omega) (by omega)]
  omega
theorem put_eq {k : Nat} (hk : 1 ≤ k) (b : List Int) (r : Int) (hb : b.length < 140737488355300) :
    utf_Put.f k b r = some (if okR r = true then (b ++ enc r, 0) else ([], 2)) := by
  obtain ⟨k, rfl⟩ : ∃ m, k = m + 1 := ⟨k - 1, by omega⟩
  unfold utf_Put.f
  refine ob rfl ?_
  rw [if_pos (by rw [List.length_nil]; omega)]
  refine ob rfl ?_
  rw [List.nil_append]
  have hbad : utf_Put.j0 (k + 1) r b true = some ([], 2) := by simp only [utf_Put.j0, ↓reduceIte]
  by_cases h0 : r < 0
  · rw [if_pos h0, hbad, if_neg (by rw [okR_iff]; omega)]
  rw [if_neg h0]
  by_cases h1 : r > 1114111
  · rw [if_pos h1, hbad, if_neg (by rw [okR_iff]; omega)]
  rw [if_neg h1]
  have hgood : ¬ (55296 ≤ r ∧ r < 57344) → utf_Put.j0 (k + 1) r b false = some (b ++ enc r, 0) := by
    intro hs
    simp only [utf_Put.j0]
    rw [if_neg (by simp)]
    unfold enc
    by_cases h2 : r < 128
    · rw [if_pos h2, if_pos (by omega), if_pos h2, show r % 256 = r by omega]
    rw [if_neg h2, if_neg h2]
    by_cases h3 : r < 2048
    · rw [if_pos h3, if_pos (by omega), if_pos h3]
      refine ob rfl ?_
      rw [if_pos (by rw [List.length_append]; simp; omega), tail_byte, show r / 64 % 256 = r / 64 by omega, u8_or192 (r / 64) (by omega) (by omega), List.append_assoc]
      rfl
    rw [if_neg h3, if_neg h3]
    by_cases h4 : r < 65536
    · rw [if_pos h4, if_pos h4]
      refine ob rfl ?_
      rw [if_pos (by simp; omega)]
      refine ob rfl ?_
      rw [if_pos (by rw [List.length_append]; simp; omega), tail_byte, tail_byte, show r / 4096 % 256 = r / 4096 by omega, u8_or224 (r / 4096) (by omega) (by omega), List.append_assoc]
      rfl
    · rw [if_neg h4, if_neg h4]
      refine ob rfl ?_
      rw [if_pos (by simp; omega)]
      refine ob rfl ?_
      rw [if_pos (by rw [List.length_append]; simp; omega), tail_byte, tail_byte, tail_byte, show r / 262144 % 256 = r / 262144 by omega, u8_or240 (r / 262144) (by omega) (by omega), List.append_assoc]
      rfl
  by_cases h2 : r ≥ 55296
  · rw [if_pos h2]
    by_cases h3 : r < 57344
    · rw [decide_eq_true h3, hbad, if_neg (by rw [okR_iff]; omega)]
    · rw [decide_eq_false h3, hgood (by omega), if_pos ((okR_iff r).2 (by omega))]
  · rw [if_neg h2, hgood (by omega), if_pos ((okR_iff r).2 (by omega))]
theorem text_from (l : List Int) (hl : l.length ≤ 1000000000000) : ∀ (d k i : Nat), l.length - i = d → i ≤ l.length → d + 2 ≤ k → ∀ b : List Int, b.length ≤ 4 * i →
    utf_Text.l0 k b l (l.length : Int) (i : Int) = some (strOfNums (b ++ encL (l.drop i))) := by
  intro d
  induction d with
  | zero =>
    intro k i hd hi hk b hb
    obtain ⟨k, rfl⟩ : ∃ m, k = m + 1 := ⟨k - 1, by omega⟩
    simp only [utf_Text.l0]
    rw [if_neg (by omega), List.drop_eq_nil_of_le (by omega)]
    simp [encL]
  | succ d ih =>
    intro k i hd hi hk b hb
    obtain ⟨k, rfl⟩ : ∃ m, k = m + 1 := ⟨k - 1, by omega⟩
    have hlt : i < l.length := by omega
    have ew : wrap64 ((i : Int) + 1) = ((i + 1 : Nat) : Int) := by rw [w64 (by omega) (by omega)]; omega
    have hrd : rd l (i : Int) = l[i] := by
      unfold rd
      rw [Int.toNat_natCast, List.getD_eq_getElem?_getD, List.getElem?_eq_getElem hlt]
      rfl
    simp only [utf_Text.l0]
    rw [if_pos (by omega), if_pos (by omega), if_pos (by omega)]
    refine ob (put_eq (by omega) b _ (by omega)) ?_
    rw [hrd, List.drop_eq_getElem_cons hlt, ew]
    have he := enc_len l[i]
    simp only [encL]
    by_cases h : okR l[i] = true
    · rw [if_pos h]
      dsimp only
      rw [if_pos rfl, ih k (i + 1) (by omega) (by omega) (by omega) (b ++ enc l[i]) (by rw [List.length_append]; omega), if_pos h, List.append_assoc]
    · rw [if_neg h]
      dsimp only
      rw [if_neg (by decide), ih k (i + 1) (by omega) (by omega) (by omega) b (by omega), if_neg h, List.nil_append]
theorem text_eq {k : Nat} {l : List Int} (hl : l.length ≤ 1000000000000) (hk : l.length + 2 ≤ k) : utf_Text.f k l = some (strOfNums (encL l)) := by
  unfold utf_Text.f
  have := text_from l hl l.length k 0 (by omega) (by omega) hk [] (by simp)
  simpa using this
end Go.Proofs.YtkflgnhcfhmkdaaDoor.PPragmaReads
end
section
/- The printed functions of fold great and small are the plain ones. -/
namespace Go.Proofs.YtkflgnhcfhmkdaaDoor.Pure
open Go.RowKit Go.Proofs.YtkflgnhcfhmkdaaDoor.PPragmaReads Go.Proofs.YtkflgnhcfhmkdaaDoorW.PrintWords Go.Proofs.YtkflgnhcfhmkdaaDoorW.PrintLast
open Go.Proofs.YtkflgnhcfhmkdaaDoor.M Go.Proofs.YtkflgnhcfhmkdaaDoor.X
set_option linter.unusedVariables false
set_option linter.unusedSimpArgs false
theorem fgreat_eq (r : Int) : fold_great.f r = some (great r) := by
  unfold fold_great.f
  cases h : great r
  · rw [great_not] at h
    (repeat' split) <;> first | rfl | omega | (rw [Option.some.injEq, bne_eq_false_iff_eq]; omega)
  · rw [great_iff] at h
    (repeat' split) <;> first | rfl | omega | (rw [Option.some.injEq, bne_iff_ne]; omega)
theorem fsmall_eq (r : Int) : fold_small.f r = some (small r) := by
  unfold fold_small.f
  cases h : small r
  · rw [small_not] at h
    (repeat' split) <;> first | rfl | omega | (rw [Option.some.injEq, bne_eq_false_iff_eq]; omega)
  · rw [small_iff] at h
    (repeat' split) <;> first | rfl | omega | (rw [Option.some.injEq, bne_iff_ne]; omega)
end Go.Proofs.YtkflgnhcfhmkdaaDoor.Pure
end
section
/- fold.Fold, as printed, over a text's runes. -/
namespace Go.Proofs.YtkflgnhcfhmkdaaDoor.Pure
open Go.RowKit Go.Proofs.YtkflgnhcfhmkdaaDoor.PPragmaReads Go.Proofs.YtkflgnhcfhmkdaaDoorW.PrintWords Go.Proofs.YtkflgnhcfhmkdaaDoorW.PrintLast
open Go.Proofs.YtkflgnhcfhmkdaaDoor.M Go.Proofs.YtkflgnhcfhmkdaaDoor.X
set_option linter.unusedVariables false
set_option linter.unusedSimpArgs false
theorem fdown_eq {r : Int} (h0 : -2147483648 ≤ r) (h1 : r < 2147483648) : fold_Down.f r = some (downR r) := by
  unfold fold_Down.f
  refine ob (fgreat_eq r) ?_
  unfold downR
  split
  · rename_i h
    rw [great_iff] at h
    rw [w32 (by omega) (by omega)]
  · rfl
theorem rs_range {b : List Int} (hB : BT b) : ∀ r ∈ rs b, -1 ≤ r ∧ r ≤ 1114111 := by
  intro r hr
  rcases rs_each b hB r hr with h | h
  · omega
  · rw [okR_iff] at h; omega
theorem fold_from (L : List Int) (hL : ∀ r ∈ L, -1 ≤ r ∧ r ≤ 1114111) (hl : L.length ≤ 1000000) : ∀ (d k i : Nat), L.length - i = d → i ≤ L.length → d + L.length + 3 ≤ k →
    fold_Fold.l0 k ((L.map downR).take i) L (L.length : Int) i = some (strOfNums (encL (L.map downR))) := by
  intro d
  induction d with
  | zero =>
    intro k i hd hi hk
    obtain ⟨k, rfl⟩ : ∃ m, k = m + 1 := ⟨k - 1, by omega⟩
    simp only [fold_Fold.l0]
    rw [if_neg (by omega), List.take_of_length_le (by rw [List.length_map]; omega)]
    exact ob (text_eq (by rw [List.length_map]; omega) (by rw [List.length_map]; omega)) rfl
  | succ d ih =>
    intro k i hd hi hk
    obtain ⟨k, rfl⟩ : ∃ m, k = m + 1 := ⟨k - 1, by omega⟩
    have hlt : i < L.length := by omega
    have ew : wrap64 ((i : Int) + 1) = ((i + 1 : Nat) : Int) := by rw [w64 (by omega) (by omega)]; omega
    have hr := hL _ (List.getElem_mem hlt)
    have b1 : -2147483648 ≤ L[i] := by omega
    have b2 : L[i] < 2147483648 := by omega
    have g1 : (i : Int) < (L.length : Int) := by omega
    have g2 : (0 : Int) ≤ (i : Int) := by omega
    have g3 : ((L.map downR).take i).length < 35184372088832 := by rw [List.length_take, List.length_map]; omega
    have hrd : rd L (i : Int) = L[i] := by
      unfold rd
      rw [Int.toNat_natCast, List.getD_eq_getElem?_getD, List.getElem?_eq_getElem hlt]
      rfl
    have hi2 := ih k (i + 1) (by omega) (by omega) (by omega)
    rw [List.take_succ_eq_append_getElem (by rw [List.length_map]; exact hlt), List.getElem_map] at hi2
    simp only [fold_Fold.l0]
    rw [if_pos g1, if_pos g2, if_pos g1, hrd, ew]
    refine ob (fdown_eq b1 b2) ?_
    rw [if_pos g3]
    exact hi2
theorem fold_of {k : Nat} {b : List Int} (hB : BT b) (hb : b.length ≤ 1000000) (hk : 2 * b.length + 8 ≤ k) : fold_Fold.f k (strOfNums b) = some (strOfNums (encL ((rs b).map downR))) := by
  have hr := rs_len b
  have hu := us_len b
  unfold fold_Fold.f
  refine ob (runes_of hB (by omega) (by omega)) ?_
  exact fold_from (rs b) (rs_range hB) (by omega) (rs b).length k 0 (by omega) (by omega) (by omega)
def foldB (s : ByteArray) : ByteArray := strOfNums (encL ((rs (bytesOf s)).map downR))
theorem fold_ev (s : ByteArray) (hs : s.size ≤ 1000000) : Ev (fun k => fold_Fold.f k s) (foldB s) := by
  have hl : (bytesOf s).length = s.size := bytesOf_length s
  refine ⟨2 * s.size + 8, fun k hk => ?_⟩
  have := fold_of (k := k) (bytesOf_BT s) (by omega) (by omega)
  rw [strOfNums_bytesOf] at this
  exact this
theorem foldB_size (s : ByteArray) : (foldB s).size ≤ 4 * s.size := by
  unfold foldB
  rw [strOfNums_size]
  have h1 := encL_len ((rs (bytesOf s)).map downR)
  have h2 := rs_len (bytesOf s)
  have h3 := us_len (bytesOf s)
  have hl : (bytesOf s).length = s.size := bytesOf_length s
  rw [List.length_map] at h1
  omega
end Go.Proofs.YtkflgnhcfhmkdaaDoor.Pure
end
section
/- fold.Letter, Great, Small, and the reference's, are the plain ones. -/
namespace Go.Proofs.YtkflgnhcfhmkdaaDoor.Pure
open Go.RowKit Go.Proofs.YtkflgnhcfhmkdaaDoor.PPragmaReads Go.Proofs.YtkflgnhcfhmkdaaDoorW.PrintWords Go.Proofs.YtkflgnhcfhmkdaaDoorW.PrintLast
open Go.Proofs.YtkflgnhcfhmkdaaDoor.M Go.Proofs.YtkflgnhcfhmkdaaDoor.X
set_option linter.unusedVariables false
set_option linter.unusedSimpArgs false
theorem fletter_eq (r : Int) : fold_Letter.f r = some (letter r) := by
  unfold fold_Letter.f
  refine ob (fgreat_eq r) ?_
  have hi := letter_iff r
  cases hg : great r
  · rw [if_neg (by decide)]
    refine ob (fsmall_eq r) ?_
    cases hs : small r
    · rw [if_neg (by decide)]
      rw [hg, hs] at hi
      simp only [Bool.false_eq_true, false_or] at hi
      cases hl : letter r
      · rw [hl] at hi
        simp only [Bool.false_eq_true, false_iff] at hi
        (repeat' split) <;> first | rfl | omega | (rw [Option.some.injEq, decide_eq_false_iff_not]; omega)
      · have h := hi.1 hl
        (repeat' split) <;> first | rfl | omega | (rw [Option.some.injEq, decide_eq_true_iff]; omega)
    · rw [if_pos rfl, hi.2 (.inr (.inl hs))]
  · rw [if_pos rfl, hi.2 (.inl hg)]
end Go.Proofs.YtkflgnhcfhmkdaaDoor.Pure
end
section
/- lists.Check and pragma's known, as printed, in plain words; pragma.Read of any text. -/
namespace Go.Proofs.YtkflgnhcfhmkdaaDoor.Pure
open Go.RowKit Go.Proofs.YtkflgnhcfhmkdaaDoor.PPragmaReads Go.Proofs.YtkflgnhcfhmkdaaDoorW.PrintWords Go.Proofs.YtkflgnhcfhmkdaaDoorW.PrintLast Go.Proofs.YtkflgnhcfhmkdaaDoor.X
open Go.Proofs.YtkflgnhcfhmkdaaDoor.M Go.Proofs.YtkflgnhcfhmkdaaDoor.H
set_option linter.unusedVariables false
set_option linter.unusedSimpArgs false
def goodAt (l : List Int) (i : Nat) : Bool := letter (rd l (i : Int)) || (decide (rd l (i : Int) = 39) && (decide (0 < i) && (decide (i + 1 < l.length) && (letter (rd l ((i - 1 : Nat) : Int)) && letter (rd l ((i + 1 : Nat) : Int))))))
def chkF (l : List Int) : Nat → Nat → Int
  | 0, _ => 0
  | d + 1, i => if goodAt l i = true then chkF l d (i + 1) else 5
def checkM (s : ByteArray) : Int := if s.size > 64 then 3 else if (rs (bytesOf s)).length = 0 then 5 else chkF (rs (bytesOf s)) (rs (bytesOf s)).length 0
theorem check_l0 (l : List Int) (hl : l.length ≤ 1000000) : ∀ (d i : Nat), l.length - i = d → i ≤ l.length → Ev (fun k => lists_Check.l0 k l l (l.length : Int) (i : Int)) (chkF l d i) := by
  intro d
  induction d with
  | zero =>
    intro i hd hi
    refine Ev.step (f := fun _ => some 0) (fun k => ?_) (Ev.now _)
    simp only [lists_Check.l0]
    rw [if_neg (by omega)]
  | succ d ih =>
    intro i hd hi
    have ei : ∀ _ : Unit, wrap64 ((i : Int) + 1) = ((i + 1 : Nat) : Int) := fun _ => hw _ _ (by omega) (by omega)
    have el : ∀ _ : Unit, wrap64 ((l.length : Int) - 1) = ((l.length - 1 : Nat) : Int) := fun _ => hw _ _ (by omega) (by omega)
    have nx := ih (i + 1) (by omega) (by omega)
    have done5 : ∀ g : Nat → Option Int, (∀ k, lists_Check.l0 (k + 1) l l (l.length : Int) (i : Int) = some 5) → goodAt l i = false → Ev (fun k => lists_Check.l0 k l l (l.length : Int) (i : Int)) (chkF l (d + 1) i) := by
      intro _ h hb
      show Ev _ (if goodAt l i = true then chkF l d (i + 1) else 5)
      rw [hb, if_neg (by simp)]
      exact Ev.step (f := fun _ => some 5) h (Ev.now _)
    have go : (∀ k, lists_Check.l0 (k + 1) l l (l.length : Int) (i : Int) = lists_Check.l0 k l l (l.length : Int) ((i + 1 : Nat) : Int)) → goodAt l i = true → Ev (fun k => lists_Check.l0 k l l (l.length : Int) (i : Int)) (chkF l (d + 1) i) := by
      intro h hb
      show Ev _ (if goodAt l i = true then chkF l d (i + 1) else 5)
      rw [hb, if_pos rfl]
      exact Ev.step h nx
    by_cases c0 : 0 < i
    · have ep : ∀ _ : Unit, wrap64 ((i : Int) - 1) = ((i - 1 : Nat) : Int) := fun _ => hw _ _ (by omega) (by omega)
      by_cases c1 : i + 1 < l.length
      · cases cp : letter (rd l ((i - 1 : Nat) : Int)) with
        | true =>
          cases cl : letter (rd l (i : Int)) with
          | true =>
            refine go (fun k => ?_) (by unfold goodAt; rw [cl]; rfl)
            simp only [lists_Check.l0, ei (), el (), ep (), fletter_eq, Option.bind_some, cp, cl, Bool.false_eq_true, if_true, if_false]
            repeat (first | rw [if_pos (by omega)] | rw [if_neg (by omega)])
          | false =>
            by_cases c39 : rd l (i : Int) = 39
            · cases cn : letter (rd l ((i + 1 : Nat) : Int)) with
              | true =>
                refine go (fun k => ?_) (by unfold goodAt; rw [cl, cp, cn, decide_eq_true c39, decide_eq_true c0, decide_eq_true c1]; rfl)
                simp only [lists_Check.l0, ei (), el (), ep (), fletter_eq, Option.bind_some, cp, cl, cn, Bool.false_eq_true, if_true, if_false]
                repeat (first | rw [if_pos (by omega)] | rw [if_neg (by omega)] | rw [if_pos c39] | rw [if_neg c39])
              | false =>
                refine done5 (fun _ => none) (fun k => ?_) (by unfold goodAt; rw [cl, cp, cn]; simp)
                simp only [lists_Check.l0, ei (), el (), ep (), fletter_eq, Option.bind_some, cp, cl, cn, Bool.false_eq_true, if_true, if_false]
                repeat (first | rw [if_pos (by omega)] | rw [if_neg (by omega)] | rw [if_pos c39] | rw [if_neg c39])
            · refine done5 (fun _ => none) (fun k => ?_) (by unfold goodAt; rw [cl, decide_eq_false c39]; simp)
              simp only [lists_Check.l0, ei (), el (), ep (), fletter_eq, Option.bind_some, cp, cl, Bool.false_eq_true, if_true, if_false]
              repeat (first | rw [if_pos (by omega)] | rw [if_neg (by omega)] | rw [if_pos c39] | rw [if_neg c39])
        | false =>
          cases cl : letter (rd l (i : Int)) with
          | true =>
            refine go (fun k => ?_) (by unfold goodAt; rw [cl]; rfl)
            simp only [lists_Check.l0, ei (), el (), ep (), fletter_eq, Option.bind_some, cp, cl, Bool.false_eq_true, if_true, if_false]
            repeat (first | rw [if_pos (by omega)] | rw [if_neg (by omega)])
          | false =>
            refine done5 (fun _ => none) (fun k => ?_) (by unfold goodAt; rw [cl, cp]; simp)
            simp only [lists_Check.l0, ei (), el (), ep (), fletter_eq, Option.bind_some, cp, cl, Bool.false_eq_true, if_true, if_false]
            repeat (first | rw [if_pos (by omega)] | rw [if_neg (by omega)])
            all_goals (try (split <;> rfl))
      · cases cl : letter (rd l (i : Int)) with
        | true =>
          refine go (fun k => ?_) (by unfold goodAt; rw [cl]; rfl)
          simp only [lists_Check.l0, ei (), el (), fletter_eq, Option.bind_some, cl, Bool.false_eq_true, if_true, if_false]
          repeat (first | rw [if_pos (by omega)] | rw [if_neg (by omega)])
        | false =>
          refine done5 (fun _ => none) (fun k => ?_) (by unfold goodAt; rw [cl, decide_eq_false c1]; simp)
          simp only [lists_Check.l0, ei (), el (), fletter_eq, Option.bind_some, cl, Bool.false_eq_true, if_true, if_false]
          repeat (first | rw [if_pos (by omega)] | rw [if_neg (by omega)])
          all_goals (try (split <;> rfl))
    · cases cl : letter (rd l (i : Int)) with
      | true =>
        refine go (fun k => ?_) (by unfold goodAt; rw [cl]; rfl)
        simp only [lists_Check.l0, ei (), fletter_eq, Option.bind_some, cl, Bool.false_eq_true, if_true, if_false]
        repeat (first | rw [if_pos (by omega)] | rw [if_neg (by omega)])
      | false =>
        refine done5 (fun _ => none) (fun k => ?_) (by unfold goodAt; rw [cl, decide_eq_false c0]; simp)
        simp only [lists_Check.l0, ei (), fletter_eq, Option.bind_some, cl, Bool.false_eq_true, if_true, if_false]
        repeat (first | rw [if_pos (by omega)] | rw [if_neg (by omega)])
        all_goals (try (split <;> rfl))
theorem check_ev (s : ByteArray) (hs : s.size ≤ 1000000) : Ev (fun k => lists_Check.f k s) (checkM s) := by
  have hl : (bytesOf s).length = s.size := bytesOf_length s
  have h1 := rs_len (bytesOf s)
  have h2 := us_len (bytesOf s)
  unfold checkM
  by_cases c : s.size > 64
  · rw [if_pos c]
    refine Ev.congr (f := fun _ => some 3) (fun k => ?_) (Ev.now _)
    unfold lists_Check.f
    rw [if_pos (by omega)]
  · rw [if_neg c]
    have hr : Ev (fun k => utf_Runes.f k s) (rs (bytesOf s)) := ⟨s.size + 8, fun k hk => runes_eq s (by omega) hk⟩
    refine Ev.congr (f := fun k => (utf_Runes.f k s).bind fun t => if (t.length : Int) = 0 then some 5 else lists_Check.l0 k t t (t.length : Int) 0) (fun k => ?_) (Ev.bind hr ?_)
    · unfold lists_Check.f
      rw [if_neg (by omega)]
    · by_cases c0 : (rs (bytesOf s)).length = 0
      · rw [if_pos c0]
        simp only [if_pos (show ((rs (bytesOf s)).length : Int) = 0 by omega)]
        exact Ev.now _
      · rw [if_neg c0]
        simp only [if_neg (show ¬ ((rs (bytesOf s)).length : Int) = 0 by omega)]
        exact check_l0 (rs (bytesOf s)) (by omega) _ 0 (by omega) (Nat.zero_le _)
theorem check_empty {s : ByteArray} (h : s.size = 0) : checkM s = 5 := by
  have hl : (bytesOf s).length = s.size := bytesOf_length s
  have h1 := rs_len (bytesOf s)
  have h2 := us_len (bytesOf s)
  unfold checkM
  rw [if_neg (by omega), if_pos (by omega)]
theorem kn_le (t : ByteArray) : pragma_Rules_known.n t ≤ t.size := by
  unfold pragma_Rules_known.n
  have hr := Lib.idxFuncFrom_range pragma_Rules_known.p true t t.size 0
  split
  · exact Nat.le_refl _
  · rename_i h
    rcases hr with hr | hr
    · exact absurd (show Lib.idxFunc pragma_Rules_known.p true t < 0 by show Lib.idxFuncFrom _ _ _ _ _ < 0; omega) h
    · have : Lib.idxFunc pragma_Rules_known.p true t < t.size := hr.2
      omega
def knownF : Nat → ByteArray → List ByteArray → List ByteArray
  | 0, _, ws => ws
  | f + 1, s, ws => if checkM ((trimB s).extract 0 (pragma_Rules_known.n (trimB s))) = 0 then knownF f ((trimB s).extract (pragma_Rules_known.n (trimB s)) (trimB s).size) (ws ++ [foldB ((trimB s).extract 0 (pragma_Rules_known.n (trimB s)))]) else ws
theorem known_ev : ∀ (f : Nat) (s : ByteArray) (ws : List ByteArray), s.size < f → s.size ≤ 1000000 → ws.length + s.size ≤ 100000000000 → Ev (fun k => pragma_Rules_known.f k s ws) (knownF f s ws) ∧ (knownF f s ws).length ≤ ws.length + s.size := by
  intro f
  induction f with
  | zero => intro s ws h; omega
  | succ f ih =>
    intro s ws hf hs hw_
    have hz := trimB_size s
    have hn := kn_le (trimB s)
    have e : ∀ k, pragma_Rules_known.f (k + 1) s ws = if pragma_Rules_known.n (trimB s) ≤ (trimB s).size then (lists_Check.f k ((trimB s).extract 0 (pragma_Rules_known.n (trimB s)))).bind fun c =>
      if c = 0 then (fold_Fold.f k ((trimB s).extract 0 (pragma_Rules_known.n (trimB s)))).bind fun u => if ws.length < 1000000000000 then (if u.size ≤ 140737488351232 then pragma_Rules_known.f k ((trimB s).extract (pragma_Rules_known.n (trimB s)) (trimB s).size) (ws ++ [u]) else none) else none
      else some ws else none := fun k => rfl
    unfold knownF
    generalize pragma_Rules_known.n (trimB s) = n at *
    generalize trimB s = t at *
    have hx : (t.extract 0 n).size = n := by rw [ByteArray.size_extract]; omega
    have hy : (t.extract n t.size).size = t.size - n := by rw [ByteArray.size_extract]; omega
    have hc := check_ev (t.extract 0 n) (by omega)
    have hfo := fold_ev (t.extract 0 n) (by omega)
    have hfs := foldB_size (t.extract 0 n)
    by_cases c : checkM (t.extract 0 n) = 0
    · have hn1 : 1 ≤ n := by
        rcases Nat.eq_zero_or_pos n with h | h
        · rw [check_empty (by omega)] at c; cases c
        · exact h
      obtain ⟨i1, i2⟩ := ih (t.extract n t.size) (ws ++ [foldB (t.extract 0 n)]) (by omega) (by omega) (by rw [List.length_append, List.length_singleton]; omega)
      rw [if_pos c]
      rw [List.length_append, List.length_singleton] at i2
      refine ⟨?_, by omega⟩
      refine Ev.step (fun k => (e k).trans (if_pos hn)) (Ev.bind hc ?_)
      rw [c]
      simp only [if_true]
      refine Ev.bind hfo ?_
      have g1 : ws.length < 1000000000000 := by omega
      have g2 : (foldB (t.extract 0 n)).size ≤ 140737488351232 := by omega
      simp only [if_pos g1, if_pos g2]
      exact i1
    · rw [if_neg c]
      refine ⟨?_, by omega⟩
      refine Ev.step (fun k => (e k).trans (if_pos hn)) (Ev.bind hc ?_)
      simp only [if_neg c]
      exact Ev.now _
end Go.Proofs.YtkflgnhcfhmkdaaDoor.Pure
end
section
/- The reference's Next, Units, SameUnits, Runes, Bytes and Text are the plain ones. -/
namespace Go.Proofs.YtkflgnhcfhmkdaaDoor.PPragmaReads
open Go.RowKit Go.Proofs.YtkflgnhcfhmkdaaDoorW.PrintWords Go.Proofs.YtkflgnhcfhmkdaaDoorW.PrintLast Go.Proofs.YtkflgnhcfhmkdaaDoorW.PrintMore
open Go.Proofs.YtkflgnhcfhmkdaaDoor.M Go.Proofs.YtkflgnhcfhmkdaaDoor.X
set_option linter.unusedVariables false
set_option linter.unusedSimpArgs false
theorem rtail_yes (b : List Int) (i c : Int) (hi : 0 ≤ i) (hl : i < (b.length : Int)) (hc : rd b i = c) : redpenref01_tail.f b i = some (isT c) := by
  unfold redpenref01_tail.f
  rw [if_pos hl, if_pos hi, hc]
  unfold isT
  by_cases h : c ≥ 128
  · rw [if_pos h, decide_eq_true (p := 128 ≤ c) h, Bool.true_and]
  · rw [if_neg h, decide_eq_false (p := 128 ≤ c) h, Bool.false_and]
theorem rtail_no (b : List Int) (i : Int) (hl : (b.length : Int) ≤ i) : redpenref01_tail.f b i = some false := by
  unfold redpenref01_tail.f
  rw [if_neg (by omega)]
theorem rj4_no (k : Nat) (b : List Int) (c : Int) : redpenref01_Next.j4 (k + 1) b c false = some (-1, 1) := by
  simp only [redpenref01_Next.j4]; rw [if_neg (by simp)]
theorem rj3_out (k : Nat) (b : List Int) (c : Int) (h : c < 240 ∨ 248 ≤ c) : redpenref01_Next.j3 (k + 1 + 1) b c = some (-1, 1) := by
  simp only [redpenref01_Next.j3]
  by_cases h1 : c ≥ 240
  · rw [if_pos h1, if_neg (by omega), rj4_no]
  · rw [if_neg h1, rj4_no]
theorem rj2_no (k : Nat) (b : List Int) (c : Int) : redpenref01_Next.j2 (k + 1) b c false = redpenref01_Next.j3 k b c := by
  simp only [redpenref01_Next.j2]; rw [if_neg (by simp)]
theorem rj1_out (k : Nat) (b : List Int) (c : Int) (h : c < 224 ∨ 240 ≤ c) : redpenref01_Next.j1 (k + 1 + 1) b c = redpenref01_Next.j3 k b c := by
  simp only [redpenref01_Next.j1]
  by_cases h1 : c ≥ 224
  · rw [if_pos h1, if_neg (by omega), rj2_no]
  · rw [if_neg h1, rj2_no]
theorem rj0_no (k : Nat) (b : List Int) (c : Int) : redpenref01_Next.j0 (k + 1) b c false = redpenref01_Next.j1 k b c := by
  simp only [redpenref01_Next.j0]; rw [if_neg (by simp)]
theorem refnext_eq {k : Nat} (hk : 6 ≤ k) {b : List Int} (hB : BT b) : redpenref01_Next.f k b = some (nx b) := by
  obtain ⟨m, rfl⟩ : ∃ m, k = m + 1 + 1 + 1 + 1 + 1 + 1 := ⟨k - 6, by omega⟩
  rcases b with _ | ⟨c, t⟩
  · rfl
  have hc := hB.head
  have hl : (((c :: t).length : Nat) : Int) = t.length + 1 := by simp
  unfold redpenref01_Next.f
  rw [if_neg (by rw [hl]; omega), if_pos (by rw [hl]; omega), show rd (c :: t) 0 = c from rfl, w32 (x := c) (by omega) (by omega)]
  by_cases h1 : c < 128
  · rw [if_pos h1]; simp [nx, h1]
  rw [if_neg h1]
  by_cases h2 : 194 ≤ c ∧ c < 224
  · rw [if_pos (by omega), if_pos (by omega)]
    rcases t with _ | ⟨c1, t⟩
    · refine ob (rtail_no _ 1 (by simp)) ?_
      rw [rj0_no, rj1_out _ _ _ (by omega), rj3_out _ _ _ (by omega)]; simp [nx, h1, h2]
    · have b1 := hB.tail.head
      refine ob (rtail_yes _ 1 c1 (by omega) (by simp; omega) rfl) ?_
      by_cases hT : isT c1 = true
      · have t1 := (isT_iff c1).1 hT
        rw [hT]
        simp only [redpenref01_Next.j0, ↓reduceIte]
        rw [if_pos (by simp; omega), show rd (c :: c1 :: t) 1 = c1 from rfl, w32 (x := c - 192) (by omega) (by omega), w32 (x := (c - 192) * 64) (by omega) (by omega), w32 (x := c1) (by omega) (by omega), w32 (x := (c - 192) * 64 + c1) (by omega) (by omega), w32 (x := (c - 192) * 64 + c1 - 128) (by omega) (by omega), if_pos (by omega)]
        simp only [nx]
        rw [if_neg h1, if_pos h2, if_pos hT]
        unfold v2
        congr 2; omega
      · rw [show isT c1 = false by simpa using hT, rj0_no, rj1_out _ _ _ (by omega), rj3_out _ _ _ (by omega)]; simp [nx, h1, h2, hT]
  by_cases h2' : 192 ≤ c ∧ c < 194
  · rw [if_pos (by omega), if_pos (by omega)]
    have hn : nx (c :: t) = (-1, 1) := by
      simp only [nx]; rw [if_neg h1, if_neg h2, if_neg (by omega), if_neg (by omega)]
    rw [hn]
    rcases t with _ | ⟨c1, t⟩
    · refine ob (rtail_no _ 1 (by simp)) ?_
      rw [rj0_no, rj1_out _ _ _ (by omega), rj3_out _ _ _ (by omega)]
    · have b1 := hB.tail.head
      refine ob (rtail_yes _ 1 c1 (by omega) (by simp; omega) rfl) ?_
      by_cases hT : isT c1 = true
      · have t1 := (isT_iff c1).1 hT
        rw [hT]
        simp only [redpenref01_Next.j0, ↓reduceIte]
        rw [if_pos (by simp; omega), show rd (c :: c1 :: t) 1 = c1 from rfl, w32 (x := c - 192) (by omega) (by omega), w32 (x := (c - 192) * 64) (by omega) (by omega), w32 (x := c1) (by omega) (by omega), w32 (x := (c - 192) * 64 + c1) (by omega) (by omega), w32 (x := (c - 192) * 64 + c1 - 128) (by omega) (by omega), if_neg (by omega), rj1_out _ _ _ (by omega), rj3_out _ _ _ (by omega)]
      · rw [show isT c1 = false by simpa using hT, rj0_no, rj1_out _ _ _ (by omega), rj3_out _ _ _ (by omega)]
  have hj0 : (if c ≥ 192 then (if c < 224 then ((redpenref01_tail.f (c :: t) 1).bind fun t133 => (redpenref01_Next.j0 (m + 1 + 1 + 1 + 1 + 1 + 1) (c :: t) c t133)) else (redpenref01_Next.j0 (m + 1 + 1 + 1 + 1 + 1 + 1) (c :: t) c false)) else (redpenref01_Next.j0 (m + 1 + 1 + 1 + 1 + 1 + 1) (c :: t) c false)) = redpenref01_Next.j1 (m + 1 + 1 + 1 + 1 + 1) (c :: t) c := by
    by_cases h : c ≥ 192
    · rw [if_pos h, if_neg (by omega), rj0_no]
    · rw [if_neg h, rj0_no]
  rw [hj0]
  clear hj0
  by_cases h3 : 224 ≤ c ∧ c < 240
  · simp only [redpenref01_Next.j1]
    rw [if_pos h3.1, if_pos h3.2]
    rcases t with _ | ⟨c1, t⟩
    · refine ob (rtail_no _ 1 (by simp)) ?_
      rw [if_neg (by simp), rj2_no, rj3_out _ _ _ (by omega)]; simp [nx, h1, h2, h3]
    have b1 := hB.tail.head
    refine ob (rtail_yes _ 1 c1 (by omega) (by simp; omega) rfl) ?_
    by_cases hT : isT c1 = true
    · rw [if_pos hT]
      have t1 := (isT_iff c1).1 hT
      rcases t with _ | ⟨c2, t⟩
      · refine ob (rtail_no _ 2 (by simp)) ?_
        rw [rj2_no, rj3_out _ _ _ (by omega)]; simp [nx, h1, h2, h3]
      have b2 := hB.tail.tail.head
      refine ob (rtail_yes _ 2 c2 (by omega) (by simp; omega) rfl) ?_
      by_cases hT2 : isT c2 = true
      · have t2 := (isT_iff c2).1 hT2
        rw [hT2]
        simp only [redpenref01_Next.j2, ↓reduceIte]
        have hv : v3 c c1 c2 = ((c - 224) * 64 + (c1 - 128)) * 64 + (c2 - 128) := rfl
        rw [if_pos (by simp; omega), if_pos (by simp; omega), show rd (c :: c1 :: c2 :: t) 1 = c1 from rfl, show rd (c :: c1 :: c2 :: t) 2 = c2 from rfl, w32 (x := c - 224) (by omega) (by omega), w32 (x := (c - 224) * 4096) (by omega) (by omega), w32 (x := c1) (by omega) (by omega), w32 (x := c1 - 128) (by omega) (by omega), w32 (x := (c1 - 128) * 64) (by omega) (by omega), w32 (x := (c - 224) * 4096 + (c1 - 128) * 64) (by omega) (by omega), w32 (x := c2) (by omega) (by omega), w32 (x := (c - 224) * 4096 + (c1 - 128) * 64 + c2) (by omega) (by omega), w32 (x := (c - 224) * 4096 + (c1 - 128) * 64 + c2 - 128) (by omega) (by omega), show (c - 224) * 4096 + (c1 - 128) * 64 + c2 - 128 = v3 c c1 c2 by omega]
        simp only [nx]
        rw [if_neg h1, if_neg h2, if_pos h3]
        generalize v3 c c1 c2 = v at hv
        by_cases g1 : v ≥ 2048
        · rw [if_pos g1]
          by_cases g2 : v < 55296
          · rw [if_pos g2, if_pos ⟨hT, hT2, by omega, by omega⟩]
          · rw [if_neg g2]
            by_cases g3 : v > 57343
            · rw [if_pos g3, if_pos ⟨hT, hT2, by omega, by omega⟩]
            · rw [if_neg g3, rj3_out _ _ _ (by omega), if_neg (by omega)]
        · rw [if_neg g1, rj3_out _ _ _ (by omega), if_neg (by omega)]
      · rw [show isT c2 = false by simpa using hT2, rj2_no, rj3_out _ _ _ (by omega)]
        simp only [nx]; rw [if_neg h1, if_neg h2, if_pos h3, if_neg (fun h => hT2 h.2.1)]
    · rw [if_neg hT, rj2_no, rj3_out _ _ _ (by omega)]
      rcases t with _ | ⟨c2, t⟩
      · simp [nx, h1, h2, h3]
      · simp only [nx]; rw [if_neg h1, if_neg h2, if_pos h3, if_neg (fun h => hT h.1)]
  rw [rj1_out _ _ _ (by omega)]
  by_cases h4 : 240 ≤ c ∧ c < 248
  · simp only [redpenref01_Next.j3]
    rw [if_pos h4.1, if_pos h4.2]
    rcases t with _ | ⟨c1, t⟩
    · refine ob (rtail_no _ 1 (by simp)) ?_
      rw [if_neg (by simp), rj4_no]; simp [nx, h1, h2, h3]
    have b1 := hB.tail.head
    refine ob (rtail_yes _ 1 c1 (by omega) (by simp; omega) rfl) ?_
    by_cases hT : isT c1 = true
    · rw [if_pos hT]
      have t1 := (isT_iff c1).1 hT
      rcases t with _ | ⟨c2, t⟩
      · refine ob (rtail_no _ 2 (by simp)) ?_
        rw [if_neg (by simp), rj4_no]; simp [nx, h1, h2, h3]
      have b2 := hB.tail.tail.head
      refine ob (rtail_yes _ 2 c2 (by omega) (by simp; omega) rfl) ?_
      by_cases hT2 : isT c2 = true
      · rw [if_pos hT2]
        have t2 := (isT_iff c2).1 hT2
        rcases t with _ | ⟨c3, t⟩
        · refine ob (rtail_no _ 3 (by simp)) ?_
          rw [rj4_no]; simp [nx, h1, h2, h3]
        have b3 := hB.tail.tail.tail.head
        refine ob (rtail_yes _ 3 c3 (by omega) (by simp; omega) rfl) ?_
        by_cases hT3 : isT c3 = true
        · have t3 := (isT_iff c3).1 hT3
          rw [hT3]
          simp only [redpenref01_Next.j4, ↓reduceIte]
          have hv : v4 c c1 c2 c3 = (((c - 240) * 64 + (c1 - 128)) * 64 + (c2 - 128)) * 64 + (c3 - 128) := rfl
          rw [if_pos (by simp; omega), if_pos (by simp; omega), if_pos (by simp; omega), show rd (c :: c1 :: c2 :: c3 :: t) 1 = c1 from rfl, show rd (c :: c1 :: c2 :: c3 :: t) 2 = c2 from rfl, show rd (c :: c1 :: c2 :: c3 :: t) 3 = c3 from rfl, w32 (x := c - 240) (by omega) (by omega), w32 (x := (c - 240) * 262144) (by omega) (by omega), w32 (x := c1) (by omega) (by omega), w32 (x := c1 - 128) (by omega) (by omega), w32 (x := (c1 - 128) * 4096) (by omega) (by omega), w32 (x := (c - 240) * 262144 + (c1 - 128) * 4096) (by omega) (by omega), w32 (x := c2) (by omega) (by omega), w32 (x := c2 - 128) (by omega) (by omega), w32 (x := (c2 - 128) * 64) (by omega) (by omega), w32 (x := (c - 240) * 262144 + (c1 - 128) * 4096 + (c2 - 128) * 64) (by omega) (by omega), w32 (x := c3) (by omega) (by omega), w32 (x := (c - 240) * 262144 + (c1 - 128) * 4096 + (c2 - 128) * 64 + c3) (by omega) (by omega), w32 (x := (c - 240) * 262144 + (c1 - 128) * 4096 + (c2 - 128) * 64 + c3 - 128) (by omega) (by omega), show (c - 240) * 262144 + (c1 - 128) * 4096 + (c2 - 128) * 64 + c3 - 128 = v4 c c1 c2 c3 by omega]
          by_cases h5 : c < 245
          · simp only [nx]
            rw [if_neg h1, if_neg h2, if_neg h3, if_pos (show 240 ≤ c ∧ c < 245 from ⟨h4.1, h5⟩)]
            generalize v4 c c1 c2 c3 = v at hv
            by_cases g1 : v ≥ 65536
            · rw [if_pos g1]
              by_cases g2 : v ≤ 1114111
              · rw [if_pos g2, if_pos ⟨hT, hT2, hT3, by omega, by omega⟩]
              · rw [if_neg g2, if_neg (by omega)]
            · rw [if_neg g1, if_neg (by omega)]
          · have hn : nx (c :: c1 :: c2 :: c3 :: t) = (-1, 1) := by
              simp only [nx]; rw [if_neg h1, if_neg h2, if_neg h3, if_neg (by omega)]
            rw [hn, if_pos (by omega), if_neg (by omega)]
        · rw [show isT c3 = false by simpa using hT3, rj4_no]
          simp only [nx]; rw [if_neg h1, if_neg h2, if_neg h3]
          by_cases h5 : 240 ≤ c ∧ c < 245
          · rw [if_pos h5, if_neg (fun h => hT3 h.2.2.1)]
          · rw [if_neg h5]
      · rw [if_neg hT2, rj4_no]
        rcases t with _ | ⟨c3, t⟩
        · simp [nx, h1, h2, h3]
        · simp only [nx]; rw [if_neg h1, if_neg h2, if_neg h3]
          by_cases h5 : 240 ≤ c ∧ c < 245
          · rw [if_pos h5, if_neg (fun h => hT2 h.2.1)]
          · rw [if_neg h5]
    · rw [if_neg hT, rj4_no]
      rcases t with _ | ⟨c2, _ | ⟨c3, t⟩⟩
      · simp [nx, h1, h2, h3]
      · simp [nx, h1, h2, h3]
      · simp only [nx]; rw [if_neg h1, if_neg h2, if_neg h3]
        by_cases h5 : 240 ≤ c ∧ c < 245
        · rw [if_pos h5, if_neg (fun h => hT h.1)]
        · rw [if_neg h5]
  · rw [rj3_out _ _ _ (by omega)]
    simp only [nx]; rw [if_neg h1, if_neg h2, if_neg h3, if_neg (by omega)]
theorem refunits_from {b : List Int} (hB : BT b) (hlen : b.length < 5864062014805) : ∀ (d k at_ : Nat) (acc : List S73), b.length - at_ = d → at_ ≤ b.length → d + 7 ≤ k → acc.length ≤ at_ →
    redpenref01_Units.l0 k b acc at_ = some (acc ++ mkU at_ (us (b.drop at_))) := by
  intro d
  induction d using Nat.strongRecOn with
  | _ d ih =>
    intro k at_ acc hd ha hk hac
    obtain ⟨k, rfl⟩ : ∃ m, k = m + 1 := ⟨k - 1, by omega⟩
    simp only [redpenref01_Units.l0]
    by_cases he : at_ < b.length
    · have hne : b.drop at_ ≠ [] := by
        intro h; have := congrArg List.length h; rw [List.length_drop] at this; simp at this; omega
      have hl := nx_len hne
      rw [List.length_drop] at hl
      rw [if_pos (by omega), if_pos (by omega), if_pos (by omega), Int.toNat_natCast, refnext_eq (by omega) (hB.drop _)]
      simp only [Option.bind_some]
      have e : wrap64 ((at_ : Int) + (nx (b.drop at_)).2) = ((at_ + (nx (b.drop at_)).2.toNat : Nat) : Int) := by
        rw [w64 (by omega) (by omega)]; omega
      rw [if_pos (by omega), e, ih (d - (nx (b.drop at_)).2.toNat) (by omega) k _ _ (by omega) (by omega) (by omega) (by rw [List.length_append]; simp; omega), us_cons hne, List.drop_drop, List.append_assoc]
      simp only [mkU, List.singleton_append]
      congr 4
      omega
    · rw [if_neg (by omega), show b.drop at_ = [] from List.drop_eq_nil_of_le (by omega)]
      simp [us_nil, mkU]
theorem refunits_eq {b : List Int} (hB : BT b) (hlen : b.length < 5864062014805) {k : Nat} (hk : b.length + 7 ≤ k) : redpenref01_Units.f k b = some (mkU 0 (us b)) := by
  unfold redpenref01_Units.f
  have := refunits_from hB hlen b.length k 0 [] (by omega) (by omega) (by omega) (by simp)
  simpa using this
end Go.Proofs.YtkflgnhcfhmkdaaDoor.PPragmaReads
end
section
/- The reference's Runes, Bytes and Text are the plain ones. -/
namespace Go.Proofs.YtkflgnhcfhmkdaaDoor.PPragmaReads
open Go.RowKit Go.Proofs.YtkflgnhcfhmkdaaDoorW.PrintWords Go.Proofs.YtkflgnhcfhmkdaaDoorW.PrintLast Go.Proofs.YtkflgnhcfhmkdaaDoorW.PrintMore
open Go.Proofs.YtkflgnhcfhmkdaaDoor.M Go.Proofs.YtkflgnhcfhmkdaaDoor.X
set_option linter.unusedVariables false
set_option linter.unusedSimpArgs false
theorem refrunes_from (l : List (Int × Int)) (hl : l.length < 35184372088832) : ∀ (d k i : Nat), l.length - i = d → i ≤ l.length → d < k →
    redpenref01_Runes.l0 k ((l.map (·.1)).take i) (mkU 0 l) (i : Int) = some (l.map (·.1)) := by
  intro d
  induction d with
  | zero =>
    intro k i hd hi hk
    obtain ⟨k, rfl⟩ : ∃ m, k = m + 1 := ⟨k - 1, by omega⟩
    simp only [redpenref01_Runes.l0]
    rw [if_neg (by rw [mkU_len]; omega), List.take_of_length_le (by rw [List.length_map]; omega)]
  | succ d ih =>
    intro k i hd hi hk
    obtain ⟨k, rfl⟩ : ∃ m, k = m + 1 := ⟨k - 1, by omega⟩
    have hlt : i < l.length := by omega
    have ew : wrap64 ((i : Int) + 1) = ((i + 1 : Nat) : Int) := by rw [w64 (by omega) (by omega)]; omega
    have hm : (rd_T73 (mkU 0 l) (i : Int)).f0 = (l.map (·.1)).getD i 0 := by
      unfold rd_T73
      rw [Int.toNat_natCast, mkU_get 0 l i hlt, List.getD_eq_getElem?_getD, List.getD_eq_getElem?_getD, List.getElem?_map, List.getElem?_eq_getElem hlt]
      rfl
    simp only [redpenref01_Runes.l0]
    rw [if_pos (by rw [mkU_len]; omega), if_pos (by omega), if_pos (by rw [List.length_take, List.length_map]; omega), hm, ew]
    have := ih k (i + 1) (by omega) (by omega) (by omega)
    rw [List.take_succ_eq_append_getElem (by rw [List.length_map]; exact hlt)] at this
    rw [List.getD_eq_getElem?_getD, List.getElem?_eq_getElem (by rw [List.length_map]; exact hlt)]
    exact this
theorem refrunes_eq {k : Nat} (s : ByteArray) (hs : s.size < 5864062014805) (hk : s.size + 8 ≤ k) : redpenref01_Runes.f k s = some (rs (bytesOf s)) := by
  unfold redpenref01_Runes.f
  have hB := bytesOf_BT s
  have hl := bytesOf_length s
  have hul := us_len (bytesOf s)
  refine ob (conv_of_str s (by omega)) ?_
  refine ob (refunits_eq hB (by omega) (by omega)) ?_
  exact refrunes_from (us (bytesOf s)) (by omega) _ _ 0 rfl (by omega) (by omega)
theorem refbytes_eq {k : Nat} (hk : 1 ≤ k) (r : Int) : redpenref01_Bytes.f k r = some (if okR r = true then enc r else []) := by
  obtain ⟨k, rfl⟩ : ∃ m, k = m + 1 := ⟨k - 1, by omega⟩
  have hbad : redpenref01_Bytes.j0 (k + 1) r true = some [] := by simp only [redpenref01_Bytes.j0, ↓reduceIte]
  unfold redpenref01_Bytes.f
  by_cases h0 : r < 0
  · rw [if_pos h0, hbad, if_neg (by rw [okR_iff]; omega)]
  rw [if_neg h0]
  by_cases h1 : r > 1114111
  · rw [if_pos h1, hbad, if_neg (by rw [okR_iff]; omega)]
  rw [if_neg h1]
  have td : ∀ n : Int, Int.tdiv r n = r / n := fun n => Int.tdiv_eq_ediv_of_nonneg (by omega)
  have tm : Int.tmod r 64 = r % 64 := Int.tmod_eq_emod_of_nonneg (by omega)
  have tm2 : ∀ n : Int, 0 < n → Int.tmod (r / n) 64 = r / n % 64 := fun n hn => Int.tmod_eq_emod_of_nonneg (Int.ediv_nonneg (by omega) (by omega))
  have hgood : ¬ (55296 ≤ r ∧ r < 57344) → redpenref01_Bytes.j0 (k + 1) r false = some (enc r) := by
    intro hs
    simp only [redpenref01_Bytes.j0]
    rw [if_neg (by simp)]
    unfold enc
    by_cases h2 : r < 128
    · rw [if_pos h2, if_pos h2, show r % 256 = r by omega]
    rw [if_neg h2, if_neg h2]
    by_cases h3 : r < 2048
    · rw [if_pos h3, if_pos h3, td, tm, w32 (x := r / 64) (by omega) (by omega), w32 (x := 192 + r / 64) (by omega) (by omega), w32 (x := 128 + r % 64) (by omega) (by omega), show (192 + r / 64) % 256 = 192 + r / 64 by omega, show (128 + r % 64) % 256 = 128 + r % 64 by omega]
    rw [if_neg h3, if_neg h3]
    by_cases h4 : r < 65536
    · rw [if_pos h4, if_pos h4, td, td, tm, w32 (x := r / 64) (by omega) (by omega), tm2 64 (by omega), w32 (x := r / 4096) (by omega) (by omega), w32 (x := 224 + r / 4096) (by omega) (by omega), w32 (x := 128 + r / 64 % 64) (by omega) (by omega), w32 (x := 128 + r % 64) (by omega) (by omega), show (224 + r / 4096) % 256 = 224 + r / 4096 by omega, show (128 + r / 64 % 64) % 256 = 128 + r / 64 % 64 by omega, show (128 + r % 64) % 256 = 128 + r % 64 by omega]
    · rw [if_neg h4, if_neg h4, td, td, td, tm, w32 (x := r / 64) (by omega) (by omega), tm2 64 (by omega), w32 (x := r / 4096) (by omega) (by omega), tm2 4096 (by omega), w32 (x := r / 262144) (by omega) (by omega), w32 (x := 240 + r / 262144) (by omega) (by omega), w32 (x := 128 + r / 4096 % 64) (by omega) (by omega), w32 (x := 128 + r / 64 % 64) (by omega) (by omega), w32 (x := 128 + r % 64) (by omega) (by omega), show (240 + r / 262144) % 256 = 240 + r / 262144 by omega, show (128 + r / 4096 % 64) % 256 = 128 + r / 4096 % 64 by omega, show (128 + r / 64 % 64) % 256 = 128 + r / 64 % 64 by omega, show (128 + r % 64) % 256 = 128 + r % 64 by omega]
  by_cases h2 : r ≥ 55296
  · rw [if_pos h2]
    by_cases h3 : r ≤ 57343
    · rw [decide_eq_true h3, hbad, if_neg (by rw [okR_iff]; omega)]
    · rw [decide_eq_false h3, hgood (by omega), if_pos ((okR_iff r).2 (by omega))]
  · rw [if_neg h2, hgood (by omega), if_pos ((okR_iff r).2 (by omega))]
theorem reftext_from (l : List Int) (hl : l.length ≤ 1000000000000) : ∀ (d k i : Nat), l.length - i = d → i ≤ l.length → d + 2 ≤ k → ∀ b : List Int, b.length ≤ 4 * i →
    redpenref01_Text.l0 k l b (i : Int) = some (strOfNums (b ++ encL (l.drop i))) := by
  intro d
  induction d with
  | zero =>
    intro k i hd hi hk b hb
    obtain ⟨k, rfl⟩ : ∃ m, k = m + 1 := ⟨k - 1, by omega⟩
    simp only [redpenref01_Text.l0]
    rw [if_neg (by omega), List.drop_eq_nil_of_le (by omega)]
    simp [encL]
  | succ d ih =>
    intro k i hd hi hk b hb
    obtain ⟨k, rfl⟩ : ∃ m, k = m + 1 := ⟨k - 1, by omega⟩
    have hlt : i < l.length := by omega
    have ew : wrap64 ((i : Int) + 1) = ((i + 1 : Nat) : Int) := by rw [w64 (by omega) (by omega)]; omega
    have hrd : rd l (i : Int) = l[i] := by
      unfold rd
      rw [Int.toNat_natCast, List.getD_eq_getElem?_getD, List.getElem?_eq_getElem hlt]
      rfl
    have he := enc_len l[i]
    simp only [redpenref01_Text.l0]
    rw [if_pos (by omega), if_pos (by omega)]
    refine ob (refbytes_eq (by omega) _) ?_
    rw [hrd, List.drop_eq_getElem_cons hlt, ew]
    simp only [encL]
    by_cases h : okR l[i] = true
    · rw [if_pos h, if_pos (by omega), ih k (i + 1) (by omega) (by omega) (by omega) (b ++ enc l[i]) (by rw [List.length_append]; omega), List.append_assoc]
    · rw [if_neg h, if_pos (by rw [List.length_nil]; omega), List.append_nil, ih k (i + 1) (by omega) (by omega) (by omega) b (by omega), List.nil_append]
theorem reftext_eq {k : Nat} {l : List Int} (hl : l.length ≤ 1000000000000) (hk : l.length + 2 ≤ k) : redpenref01_Text.f k l = some (strOfNums (encL l)) := by
  unfold redpenref01_Text.f
  have := reftext_from l hl l.length k 0 (by omega) (by omega) hk [] (by simp)
  simpa using this
end Go.Proofs.YtkflgnhcfhmkdaaDoor.PPragmaReads
end
section
/- The document's letters, Check, Fold and words, as printed, in plain words. -/
namespace Go.Proofs.YtkflgnhcfhmkdaaDoor.Pure
open Go.RowKit Go.Proofs.YtkflgnhcfhmkdaaDoor.PPragmaReads Go.Proofs.YtkflgnhcfhmkdaaDoorW.PrintWords Go.Proofs.YtkflgnhcfhmkdaaDoorW.PrintLast Go.Proofs.YtkflgnhcfhmkdaaDoor.X
open Go.Proofs.YtkflgnhcfhmkdaaDoor.M Go.Proofs.YtkflgnhcfhmkdaaDoor.H
set_option linter.unusedVariables false
set_option linter.unusedSimpArgs false
theorem rgreat_eq (r : Int) : redpenref01_Great.f r = some (great r) := by
  unfold redpenref01_Great.f
  cases h : great r
  · rw [great_not] at h
    (repeat' split) <;> first | rfl | omega | (rw [Option.some.injEq, bne_eq_false_iff_eq]; omega)
  · rw [great_iff] at h
    (repeat' split) <;> first | rfl | omega | (rw [Option.some.injEq, bne_iff_ne]; omega)
theorem rsmall_eq {r : Int} (h0 : -2147483648 ≤ r) (h1 : r < 2147483648) : redpenref01_Small.f r = some (small r) := by
  unfold redpenref01_Small.f
  have e : great (wrap32 (r - 32)) = small r := by
    by_cases h : -2147483648 ≤ r - 32
    · rw [w32 h (by omega)]; rfl
    · have e1 : small r = false := by rw [small_not]; omega
      rw [e1, great_not]
      unfold wrap32
      omega
  refine ob (rgreat_eq _) ?_
  rw [e]
theorem rletter_eq {r : Int} (h0 : -2147483648 ≤ r) (h1 : r < 2147483648) : redpenref01_Letter.f r = some (letter r) := by
  unfold redpenref01_Letter.f
  refine ob (rgreat_eq r) ?_
  have hi := letter_iff r
  cases hg : great r
  · rw [if_neg (by decide)]
    refine ob (rsmall_eq h0 h1) ?_
    cases hs : small r
    · rw [if_neg (by decide)]
      rw [hg, hs] at hi
      simp only [Bool.false_eq_true, false_or] at hi
      cases hl : letter r
      · rw [hl] at hi
        simp only [Bool.false_eq_true, false_iff] at hi
        (repeat' split) <;> first | rfl | omega | (rw [Option.some.injEq, decide_eq_false_iff_not]; omega)
      · have h := hi.1 hl
        (repeat' split) <;> first | rfl | omega | (rw [Option.some.injEq, decide_eq_true_iff]; omega)
    · rw [if_pos rfl, hi.2 (.inr (.inl hs))]
  · rw [if_pos rfl, hi.2 (.inl hg)]
theorem rl_at {l : List Int} (hR : ∀ r ∈ l, -1 ≤ r ∧ r ≤ 1114111) (j : Nat) (hj : j < l.length) : redpenref01_Letter.f (rd l (j : Int)) = some (letter (rd l (j : Int))) := by
  have e : rd l (j : Int) = l[j] := by unfold rd; rw [Int.toNat_natCast, List.getD_eq_getElem?_getD, List.getElem?_eq_getElem hj]; rfl
  have := hR _ (List.getElem_mem hj)
  rw [e]
  exact rletter_eq (by omega) (by omega)
theorem rcheck_l0 (l : List Int) (hl : l.length ≤ 1000000) (hR : ∀ r ∈ l, -1 ≤ r ∧ r ≤ 1114111) (hne : ¬ (l.length : Int) = 0) : ∀ (d i : Nat), l.length - i = d → i ≤ l.length → Ev (fun k => redpenref06_Check.l0 k l (i : Int)) (chkF l d i) := by
  intro d
  induction d with
  | zero =>
    intro i hd hi
    refine Ev.step (f := fun _ => some 0) (fun k => ?_) (Ev.now _)
    simp only [redpenref06_Check.l0]
    rw [if_neg (by omega), if_neg hne]
  | succ d ih =>
    intro i hd hi
    have ei : ∀ _ : Unit, wrap64 ((i : Int) + 1) = ((i + 1 : Nat) : Int) := fun _ => hw _ _ (by omega) (by omega)
    have nx := ih (i + 1) (by omega) (by omega)
    have hlt : i < l.length := by omega
    have e : ∀ k, redpenref06_Check.l0 (k + 1) l (i : Int) = (redpenref01_Letter.f (rd l (i : Int))).bind fun t293 => (if t293 = true then (redpenref06_Check.l0 k l ((i + 1 : Nat) : Int)) else (if (rd l (i : Int)) = 39 then (if (i : Int) > 0 then (if ((i + 1 : Nat) : Int) < (l.length : Int) then (if 0 ≤ (wrap64 ((i : Int) - 1)) then (if (wrap64 ((i : Int) - 1)) < (l.length : Int) then ((redpenref01_Letter.f (rd l (wrap64 ((i : Int) - 1)))).bind fun t296 => (if t296 = true then (if 0 ≤ ((i + 1 : Nat) : Int) then ((redpenref01_Letter.f (rd l ((i + 1 : Nat) : Int))).bind fun t298 => (if t298 = true then (redpenref06_Check.l0 k l ((i + 1 : Nat) : Int)) else (some 5))) else (none)) else (some 5))) else (none)) else (none)) else (some 5)) else (some 5)) else (some 5))) := by
      intro k
      rw [← ei ()]
      show (if (i : Int) < (l.length : Int) then (if 0 ≤ (i : Int) then _ else _) else _) = _
      rw [if_pos (by omega), if_pos (by omega)]
    have yes : (∀ k, redpenref06_Check.l0 (k + 1) l (i : Int) = redpenref06_Check.l0 k l ((i + 1 : Nat) : Int)) → goodAt l i = true → Ev (fun k => redpenref06_Check.l0 k l (i : Int)) (chkF l (d + 1) i) := by
      intro h hb
      show Ev _ (if goodAt l i = true then chkF l d (i + 1) else 5)
      rw [hb, if_pos rfl]
      exact Ev.step h nx
    have no : (∀ k, redpenref06_Check.l0 (k + 1) l (i : Int) = some 5) → goodAt l i = false → Ev (fun k => redpenref06_Check.l0 k l (i : Int)) (chkF l (d + 1) i) := by
      intro h hb
      show Ev _ (if goodAt l i = true then chkF l d (i + 1) else 5)
      rw [hb, if_neg (by simp)]
      exact Ev.step (f := fun _ => some 5) h (Ev.now _)
    have hL := rl_at hR i hlt
    cases cl : letter (rd l (i : Int)) with
    | true =>
      rw [cl] at hL
      exact yes (fun k => (e k).trans (ob hL (if_pos rfl))) (by unfold goodAt; rw [cl]; rfl)
    | false =>
      rw [cl] at hL
      by_cases c39 : rd l (i : Int) = 39
      · by_cases c0 : 0 < i
        · have ep : ∀ _ : Unit, wrap64 ((i : Int) - 1) = ((i - 1 : Nat) : Int) := fun _ => hw _ _ (by omega) (by omega)
          have hP := rl_at hR (i - 1) (by omega)
          by_cases c1 : i + 1 < l.length
          · have hN := rl_at hR (i + 1) c1
            have g2 : ((i + 1 : Nat) : Int) < (l.length : Int) := by omega
            have g3 : (0 : Int) ≤ wrap64 ((i : Int) - 1) := by rw [ep ()]; omega
            have g4 : wrap64 ((i : Int) - 1) < (l.length : Int) := by rw [ep ()]; omega
            have g5 : (0 : Int) ≤ ((i + 1 : Nat) : Int) := by omega
            rw [← ep ()] at hP
            have e2 : ∀ k, redpenref06_Check.l0 (k + 1) l (i : Int) = (redpenref01_Letter.f (rd l (wrap64 ((i : Int) - 1)))).bind fun t296 => (if t296 = true then (if 0 ≤ ((i + 1 : Nat) : Int) then ((redpenref01_Letter.f (rd l ((i + 1 : Nat) : Int))).bind fun t298 => (if t298 = true then (redpenref06_Check.l0 k l ((i + 1 : Nat) : Int)) else (some 5))) else (none)) else (some 5)) :=
              fun k => (e k).trans (ob hL ((if_neg (by decide)).trans ((if_pos c39).trans ((if_pos (by omega)).trans ((if_pos g2).trans ((if_pos g3).trans (if_pos g4)))))))
            rw [ep ()] at hP
            cases cp : letter (rd l ((i - 1 : Nat) : Int)) with
            | true =>
              rw [cp, ← ep ()] at hP
              cases cn : letter (rd l ((i + 1 : Nat) : Int)) with
              | true =>
                rw [cn] at hN
                exact yes (fun k => (e2 k).trans (ob hP ((if_pos rfl).trans ((if_pos g5).trans (ob hN (if_pos rfl)))))) (by unfold goodAt; rw [cl, cp, cn, decide_eq_true c39, decide_eq_true c0, decide_eq_true c1]; rfl)
              | false =>
                rw [cn] at hN
                exact no (fun k => (e2 k).trans (ob hP ((if_pos rfl).trans ((if_pos g5).trans (ob hN (if_neg (by decide))))))) (by unfold goodAt; rw [cl, cp, cn]; simp)
            | false =>
              rw [cp, ← ep ()] at hP
              exact no (fun k => (e2 k).trans (ob hP (if_neg (by decide)))) (by unfold goodAt; rw [cl, cp]; simp)
          · exact no (fun k => (e k).trans (ob hL ((if_neg (by decide)).trans ((if_pos c39).trans ((if_pos (by omega)).trans (if_neg (by omega))))))) (by unfold goodAt; rw [cl, decide_eq_false c1]; simp)
        · exact no (fun k => (e k).trans (ob hL ((if_neg (by decide)).trans ((if_pos c39).trans (if_neg (by omega)))))) (by unfold goodAt; rw [cl, decide_eq_false c0]; simp)
      · exact no (fun k => (e k).trans (ob hL ((if_neg (by decide)).trans (if_neg c39)))) (by unfold goodAt; rw [cl, decide_eq_false c39]; simp)
theorem rcheck_ev (s : ByteArray) (hs : s.size ≤ 1000000) : Ev (fun k => redpenref06_Check.f k s) (checkM s) := by
  have hl : (bytesOf s).length = s.size := bytesOf_length s
  have h1 := rs_len (bytesOf s)
  have h2 := us_len (bytesOf s)
  have hR := rs_range (bytesOf_BT s)
  unfold checkM
  by_cases c : s.size > 64
  · rw [if_pos c]
    refine Ev.congr (f := fun _ => some 3) (fun k => ?_) (Ev.now _)
    unfold redpenref06_Check.f
    rw [if_pos (by omega)]
  · rw [if_neg c]
    have hr : Ev (fun k => redpenref01_Runes.f k s) (rs (bytesOf s)) := ⟨s.size + 8, fun k hk => refrunes_eq s (by omega) hk⟩
    refine Ev.congr (f := fun k => (redpenref01_Runes.f k s).bind fun t => redpenref06_Check.l0 k t 0) (fun k => ?_) (Ev.bind hr ?_)
    · unfold redpenref06_Check.f
      rw [if_neg (by omega)]
    · by_cases c0 : (rs (bytesOf s)).length = 0
      · rw [if_pos c0]
        refine Ev.step (f := fun _ => some 5) (fun k => ?_) (Ev.now _)
        simp only [redpenref06_Check.l0]
        rw [if_neg (by omega), if_pos (by omega)]
      · rw [if_neg c0]
        exact rcheck_l0 (rs (bytesOf s)) (by omega) hR (by omega) _ 0 (by omega) (Nat.zero_le _)
theorem rfold_l0 (L : List Int) (hL : ∀ r ∈ L, -1 ≤ r ∧ r ≤ 1114111) (hl : L.length ≤ 1000000) : ∀ (d i : Nat), L.length - i = d → i ≤ L.length → Ev (fun k => redpenref01_Fold.l0 k (i : Int) ((L.map downR).take i ++ L.drop i)) (strOfNums (encL (L.map downR))) := by
  intro d
  induction d with
  | zero =>
    intro i hd hi
    have h1 : (L.map downR).take i ++ L.drop i = L.map downR := by rw [List.take_of_length_le (by rw [List.length_map]; omega), List.drop_of_length_le (by omega), List.append_nil]
    have ht : Ev (fun k => redpenref01_Text.f k (L.map downR)) (strOfNums (encL (L.map downR))) := ⟨(L.map downR).length + 2, fun k hk => reftext_eq (by rw [List.length_map]; omega) hk⟩
    rw [h1]
    have hn : ((L.map downR).length : Int) = (L.length : Int) := by rw [List.length_map]
    refine Ev.step (f := fun k => (redpenref01_Text.f k (L.map downR)).bind fun t => some t) (fun k => ?_) (Ev.bind ht (Ev.now _))
    show (if (i : Int) < ((L.map downR).length : Int) then _ else _) = _
    rw [if_neg (by omega)]
  | succ d ih =>
    intro i hd hi
    have hlt : i < L.length := by omega
    have ei : ∀ _ : Unit, wrap64 ((i : Int) + 1) = ((i + 1 : Nat) : Int) := fun _ => hw _ _ (by omega) (by omega)
    have hr := hL _ (List.getElem_mem hlt)
    have nx := ih (i + 1) (by omega) (by omega)
    have hp : ((L.map downR).take i).length = i := by rw [List.length_take, List.length_map]; omega
    have hx : (L.map downR).take i ++ L.drop i = (L.map downR).take i ++ L[i] :: L.drop (i + 1) := by rw [List.drop_eq_getElem_cons hlt]
    have hy : (L.map downR).take (i + 1) ++ L.drop (i + 1) = (L.map downR).take i ++ downR L[i] :: L.drop (i + 1) := by
      rw [List.take_succ_eq_append_getElem (by rw [List.length_map]; exact hlt), List.getElem_map, List.append_assoc]; rfl
    rw [hy] at nx
    rw [hx]
    generalize hD : L.drop (i + 1) = D at *
    have hDl : D.length = L.length - (i + 1) := by rw [← hD, List.length_drop]
    generalize (L.map downR).take i = P at *
    generalize L[i] = c at *
    have hn : ((P ++ c :: D).length : Int) = (L.length : Int) := by rw [List.length_append, List.length_cons]; omega
    have hrd : rd (P ++ c :: D) (i : Int) = c := by
      unfold rd
      rw [Int.toNat_natCast, List.getD_eq_getElem?_getD, List.getElem?_append_right (by omega), hp, Nat.sub_self]; rfl
    have hst : ∀ v : Int, (P ++ c :: D).set i v = P ++ v :: D := by
      intro v
      rw [List.set_append_right _ _ (by omega), hp, Nat.sub_self]; rfl
    have e : ∀ k, redpenref01_Fold.l0 (k + 1) (i : Int) (P ++ c :: D) = (redpenref01_Great.f c).bind fun t282 => (if t282 = true then (redpenref01_Fold.l0 k ((i + 1 : Nat) : Int) (P ++ (wrap32 (c + 32)) :: D)) else (redpenref01_Fold.l0 k ((i + 1 : Nat) : Int) (P ++ c :: D))) := by
      intro k
      rw [← ei (), ← hst (wrap32 (c + 32))]
      show (if (i : Int) < ((P ++ c :: D).length : Int) then (if 0 ≤ (i : Int) then (redpenref01_Great.f (rd (P ++ c :: D) (i : Int))).bind _ else _) else _) = _
      rw [if_pos (by omega), if_pos (by omega), hrd, Int.toNat_natCast]
    cases hg : great c with
    | true =>
      have hd2 : downR c = c + 32 := by unfold downR; rw [if_pos hg]
      rw [hd2] at nx
      rw [great_iff] at hg
      have ew : ∀ _ : Unit, wrap32 (c + 32) = c + 32 := fun _ => w32 (by omega) (by omega)
      refine Ev.step (fun k => (e k).trans ?_) nx
      rw [ew ()]
      exact ob ((rgreat_eq c).trans (congrArg some ((great_iff c).2 hg))) (if_pos rfl)
    | false =>
      have hd2 : downR c = c := by unfold downR; rw [if_neg (by rw [hg]; decide)]
      rw [hd2] at nx
      refine Ev.step (fun k => (e k).trans ?_) nx
      exact ob ((rgreat_eq c).trans (congrArg some hg)) (if_neg (by decide))
theorem rfold_ev (s : ByteArray) (hs : s.size ≤ 1000000) : Ev (fun k => redpenref01_Fold.f k s) (foldB s) := by
  have hl : (bytesOf s).length = s.size := bytesOf_length s
  have h1 := rs_len (bytesOf s)
  have h2 := us_len (bytesOf s)
  have hr : Ev (fun k => redpenref01_Runes.f k s) (rs (bytesOf s)) := ⟨s.size + 8, fun k hk => refrunes_eq s (by omega) hk⟩
  exact Ev.bind hr (rfold_l0 (rs (bytesOf s)) (rs_range (bytesOf_BT s)) (by omega) _ 0 rfl (Nat.zero_le _))
end Go.Proofs.YtkflgnhcfhmkdaaDoor.Pure
end
section
/- The document's words of a line, as printed, end; what they are, in plain words. -/
namespace Go.Proofs.YtkflgnhcfhmkdaaDoor.Pure
open Go.RowKit Go.Proofs.YtkflgnhcfhmkdaaDoor.PPragmaReads Go.Proofs.YtkflgnhcfhmkdaaDoorW.PrintWords Go.Proofs.YtkflgnhcfhmkdaaDoorW.PrintLast Go.Proofs.YtkflgnhcfhmkdaaDoor.X
open Go.Proofs.YtkflgnhcfhmkdaaDoor.M Go.Proofs.YtkflgnhcfhmkdaaDoor.H
set_option linter.unusedVariables false
set_option linter.unusedSimpArgs false
def cntF (l : List Int) : Nat → Nat → Nat
  | 0, i => i
  | d + 1, i => if letter (rd l (i : Int)) = true then cntF l d (i + 1) else if rd l (i : Int) = 39 then cntF l d (i + 1) else i
theorem cntF_le (l : List Int) : ∀ d i, cntF l d i ≤ i + d
  | 0, i => Nat.le_refl _
  | d + 1, i => by
    have := cntF_le l d (i + 1)
    unfold cntF
    split
    · omega
    · split <;> omega
theorem pos_succ (l : List (Int × Int)) (k : Nat) (h : k < l.length) : pos l (k + 1) = pos l k + (l.getD k (0, 0)).2 := by
  unfold pos
  rw [List.take_succ_eq_append_getElem h, List.map_append, List.sum_append, List.getD_eq_getElem?_getD, List.getElem?_eq_getElem h]
  simp
def endU (s : ByteArray) : Nat := (pos (us (bytesOf s)) (cntF (rs (bytesOf s)) (us (bytesOf s)).length 0)).toNat
theorem endU_le (s : ByteArray) : endU s ≤ s.size := by
  have h1 := pos_le (bytesOf s) (cntF (rs (bytesOf s)) (us (bytesOf s)).length 0)
  have h2 : (bytesOf s).length = s.size := bytesOf_length s
  unfold endU
  omega
def wordsR : Nat → ByteArray → List ByteArray
  | 0, _ => []
  | f + 1, s => if checkM ((trimB s).extract 0 (endU (trimB s))) = 0 then foldB ((trimB s).extract 0 (endU (trimB s))) :: wordsR f ((trimB s).extract (endU (trimB s)) (trimB s).size) else []
theorem trim_cons (c : UInt8) (t : List UInt8) : trimB ⟨(c :: t).toArray⟩ = if ([32, 9, 44] : List UInt8).contains c = true then trimB ⟨t.toArray⟩ else ⟨(c :: t).toArray⟩ := by
  unfold trimB Lib.trimLeftS
  show (⟨(List.dropWhile (([32, 9, 44] : List UInt8).contains ·) (c :: t)).toArray⟩ : ByteArray) = _
  rw [List.dropWhile_cons]
  split <;> rfl
theorem strip_ev {R : List ByteArray} : ∀ L : List UInt8, L.length ≤ 1000000 → Ev (fun k => redpenref15_words.j1 k (trimB ⟨L.toArray⟩)) R → Ev (fun k => redpenref15_words.l0 k ⟨L.toArray⟩) R
  | [], _, h => by
    refine Ev.step (fun k => ?_) h
    exact if_neg (by decide)
  | c :: t, hl, h => by
    rw [List.length_cons] at hl
    have hz : ((⟨(c :: t).toArray⟩ : ByteArray).size : Int) = (t.length : Int) + 1 := by
      show ((c :: t).toArray.size : Int) = _
      simp
    have hb : bt ⟨(c :: t).toArray⟩ 0 = (c.toNat : Int) := by
      unfold bt
      rw [dif_pos (by show 0 < (c :: t).toArray.size; simp)]
      rfl
    have hx : (⟨(c :: t).toArray⟩ : ByteArray).extract 1 (⟨(c :: t).toArray⟩ : ByteArray).size = ⟨t.toArray⟩ := by
      rw [Lib.extract_eq]
      show (⟨((t).take _).toArray⟩ : ByteArray) = _
      rw [List.take_of_length_le]
      show t.length ≤ (c :: t).toArray.size - 1
      simp
    have e : ∀ k, redpenref15_words.l0 (k + 1) ⟨(c :: t).toArray⟩ = if (c.toNat : Int) = 32 then redpenref15_words.l0 k ⟨t.toArray⟩ else if (c.toNat : Int) = 9 then redpenref15_words.l0 k ⟨t.toArray⟩ else if (c.toNat : Int) = 44 then redpenref15_words.l0 k ⟨t.toArray⟩ else redpenref15_words.j1 k ⟨(c :: t).toArray⟩ := by
      intro k
      have hp : ((⟨(c :: t).toArray⟩ : ByteArray).size : Int) > 0 := by omega
      have hp1 : (1 : Int) ≤ ((⟨(c :: t).toArray⟩ : ByteArray).size : Int) := by omega
      rw [← hx, ← hb]
      refine (if_pos hp).trans ((if_pos hp).trans ?_)
      rw [if_pos hp1]
    rw [trim_cons] at h
    have key : ([32, 9, 44] : List UInt8).contains c = true ↔ ((c.toNat : Int) = 32 ∨ (c.toNat : Int) = 9 ∨ (c.toNat : Int) = 44) := by
      have q : ∀ n : UInt8, c = n ↔ (c.toNat : Int) = (n.toNat : Int) := fun n => ⟨fun h => by rw [h], fun h => UInt8.toNat_inj.1 (by omega)⟩
      rw [List.contains_iff_mem]
      simp only [List.mem_cons, List.not_mem_nil, or_false, q]
      exact Iff.rfl
    by_cases hk : ([32, 9, 44] : List UInt8).contains c = true
    · rw [if_pos hk] at h
      have ih := strip_ev t (by omega) h
      refine Ev.step (fun k => (e k).trans ?_) ih
      have := key.1 hk
      split
      · rfl
      · split
        · rfl
        · rw [if_pos (by omega)]
    · rw [if_neg hk] at h
      refine Ev.step (fun k => (e k).trans ?_) h
      have hn := fun h => hk (key.2 h)
      rw [if_neg (fun h => hn (.inl h)), if_neg (fun h => hn (.inr (.inl h))), if_neg (fun h => hn (.inr (.inr h)))]
theorem strip_of (s : ByteArray) {R : List ByteArray} (hs : s.size ≤ 1000000) (h : Ev (fun k => redpenref15_words.j1 k (trimB s)) R) : Ev (fun k => redpenref15_words.l0 k s) R := by
  obtain ⟨⟨L⟩⟩ := s
  exact strip_ev L hs h
section
variable (t : ByteArray) (ht : t.size ≤ 1000000) {R : List ByteArray}
include ht
theorem words_j3 (h : Ev (fun k => redpenref15_words.j4 k t (endU t : Int)) R) : Ev (fun k => redpenref15_words.j3 k t (mkU 0 (us (bytesOf t))) ((cntF (rs (bytesOf t)) (us (bytesOf t)).length 0 : Nat) : Int)) R := by
  have hl : (bytesOf t).length = t.size := bytesOf_length t
  have hu := us_len (bytesOf t)
  have hn := cntF_le (rs (bytesOf t)) (us (bytesOf t)).length 0
  have hp := pos_nonneg (us_each (bytesOf t)) (cntF (rs (bytesOf t)) (us (bytesOf t)).length 0)
  have hq := pos_le (bytesOf t) (cntF (rs (bytesOf t)) (us (bytesOf t)).length 0)
  have he : (endU t : Int) = pos (us (bytesOf t)) (cntF (rs (bytesOf t)) (us (bytesOf t)).length 0) := by unfold endU; omega
  rw [he] at h
  generalize cntF (rs (bytesOf t)) (us (bytesOf t)).length 0 = n at *
  have hm : ((mkU 0 (us (bytesOf t))).length : Int) = ((us (bytesOf t)).length : Int) := by rw [mkU_len]
  by_cases c : 0 < n
  · have ew : ∀ _ : Unit, wrap64 ((n : Int) - 1) = ((n - 1 : Nat) : Int) := fun _ => hw _ _ (by omega) (by omega)
    have hlt : n - 1 < (us (bytesOf t)).length := by omega
    have hu2 : (rd_T73 (mkU 0 (us (bytesOf t))) ((n - 1 : Nat) : Int)).f1.f0 + (rd_T73 (mkU 0 (us (bytesOf t))) ((n - 1 : Nat) : Int)).f1.f1 = pos (us (bytesOf t)) n := by
      have hp2 := pos_succ (us (bytesOf t)) (n - 1) hlt
      unfold rd_T73
      rw [Int.toNat_natCast, mkU_get 0 _ _ hlt]
      rw [show n - 1 + 1 = n by omega] at hp2
      rw [hp2]
      simp
    refine Ev.step (fun k => ?_) h
    have g1 : (0 : Int) ≤ wrap64 ((n : Int) - 1) := by rw [ew ()]; omega
    have g2 : wrap64 ((n : Int) - 1) < ((mkU 0 (us (bytesOf t))).length : Int) := by rw [ew ()]; omega
    refine (if_pos (show (n : Int) > 0 by omega)).trans ((if_pos g1).trans ((if_pos g2).trans ?_))
    rw [ew (), hu2, w64 (by omega) (by omega)]
  · obtain rfl : n = 0 := by omega
    rw [pos_zero] at h
    refine Ev.step (fun k => ?_) h
    simp only [redpenref15_words.j3]
    rw [if_neg (by omega)]
theorem words_l1 (h : Ev (fun k => redpenref15_words.j3 k t (mkU 0 (us (bytesOf t))) ((cntF (rs (bytesOf t)) (us (bytesOf t)).length 0 : Nat) : Int)) R) : ∀ d i, (us (bytesOf t)).length - i = d → i ≤ (us (bytesOf t)).length → cntF (rs (bytesOf t)) d i = cntF (rs (bytesOf t)) (us (bytesOf t)).length 0 → Ev (fun k => redpenref15_words.l1 k t (mkU 0 (us (bytesOf t))) (i : Int)) R := by
  have hl : (bytesOf t).length = t.size := bytesOf_length t
  have hu := us_len (bytesOf t)
  have hrl := rs_len (bytesOf t)
  have hR := rs_range (bytesOf_BT t)
  have hm : ((mkU 0 (us (bytesOf t))).length : Int) = ((us (bytesOf t)).length : Int) := by rw [mkU_len]
  intro d
  induction d with
  | zero =>
    intro i hd hi he
    rw [← he] at h
    refine Ev.step (fun k => ?_) h
    exact if_neg (by omega)
  | succ d ih =>
    intro i hd hi he
    have hlt : i < (us (bytesOf t)).length := by omega
    have ew : ∀ _ : Unit, wrap64 ((i : Int) + 1) = ((i + 1 : Nat) : Int) := fun _ => hw _ _ (by omega) (by omega)
    have hr : (rd_T73 (mkU 0 (us (bytesOf t))) (i : Int)).f0 = rd (rs (bytesOf t)) (i : Int) := by
      rw [mkU_rune 0 _ i hlt]
      rfl
    have hL := rl_at hR i (by omega)
    have e : ∀ k, redpenref15_words.l1 (k + 1) t (mkU 0 (us (bytesOf t))) (i : Int) = (redpenref01_Letter.f (rd (rs (bytesOf t)) (i : Int))).bind fun t306 => (if t306 = true then (redpenref15_words.l1 k t (mkU 0 (us (bytesOf t))) ((i + 1 : Nat) : Int)) else (if (rd (rs (bytesOf t)) (i : Int)) = 39 then (redpenref15_words.l1 k t (mkU 0 (us (bytesOf t))) ((i + 1 : Nat) : Int)) else (redpenref15_words.j3 k t (mkU 0 (us (bytesOf t))) (i : Int)))) := by
      intro k
      rw [← ew (), ← hr]
      exact (if_pos (by omega)).trans (if_pos (by omega))
    have he2 : cntF (rs (bytesOf t)) (d + 1) i = if letter (rd (rs (bytesOf t)) (i : Int)) = true then cntF (rs (bytesOf t)) d (i + 1) else if rd (rs (bytesOf t)) (i : Int) = 39 then cntF (rs (bytesOf t)) d (i + 1) else i := rfl
    rw [he2] at he
    cases cl : letter (rd (rs (bytesOf t)) (i : Int)) with
    | true =>
      rw [cl] at hL
      rw [if_pos cl] at he
      exact Ev.step (fun k => (e k).trans (ob hL (if_pos rfl))) (ih (i + 1) (by omega) (by omega) he)
    | false =>
      rw [cl] at hL
      rw [if_neg (by rw [cl]; decide)] at he
      by_cases c39 : rd (rs (bytesOf t)) (i : Int) = 39
      · rw [if_pos c39] at he
        exact Ev.step (fun k => (e k).trans (ob hL ((if_neg (by decide)).trans (if_pos c39)))) (ih (i + 1) (by omega) (by omega) he)
      · rw [if_neg c39] at he
        rw [← he] at h
        exact Ev.step (fun k => (e k).trans (ob hL ((if_neg (by decide)).trans (if_neg c39)))) h
theorem words_j1 (h : Ev (fun k => redpenref15_words.j4 k t (endU t : Int)) R) : Ev (fun k => redpenref15_words.j1 k t) R := by
  have hl : (bytesOf t).length = t.size := bytesOf_length t
  have hu : Ev (fun k => redpenref01_Units.f k (bytesOf t)) (mkU 0 (us (bytesOf t))) := ⟨(bytesOf t).length + 7, fun k hk => refunits_eq (bytesOf_BT t) (by omega) hk⟩
  have h1 := words_l1 t ht (words_j3 t ht h) _ 0 rfl (Nat.zero_le _) rfl
  refine Ev.step (f := fun k => (redpenref01_Units.f k (bytesOf t)).bind fun u => redpenref15_words.l1 k t u 0) (fun k => ?_) (Ev.bind hu ?_)
  · exact ob (conv_of_str t (by omega)) rfl
  · exact h1
end
theorem words_ev : ∀ (f : Nat) (s : ByteArray), s.size < f → s.size ≤ 1000000 → Ev (fun k => redpenref15_words.f k s) (wordsR f s) ∧ (wordsR f s).length ≤ s.size := by
  intro f
  induction f with
  | zero => intro s h; omega
  | succ f ih =>
    intro s hf hs
    have hz := trimB_size s
    have hn := endU_le (trimB s)
    unfold wordsR
    have go : ∀ R, Ev (fun k => redpenref15_words.j4 k (trimB s) (endU (trimB s) : Int)) R → Ev (fun k => redpenref15_words.f k s) R := fun R h => Ev.step (fun k => rfl) (strip_of s hs (words_j1 (trimB s) (by omega) h))
    generalize endU (trimB s) = n at *
    generalize trimB s = t at *
    have hx : (t.extract 0 n).size = n := by rw [ByteArray.size_extract]; omega
    have hy : (t.extract n t.size).size = t.size - n := by rw [ByteArray.size_extract]; omega
    have hc := rcheck_ev (t.extract 0 n) (by omega)
    have hfo := rfold_ev (t.extract 0 n) (by omega)
    have e : ∀ k, redpenref15_words.j4 (k + 1) t (n : Int) = (redpenref06_Check.f k (t.extract 0 n)).bind fun t310 => (if t310 = 0 then ((redpenref01_Fold.f k (t.extract 0 n)).bind fun t311 => ((some (([t311] : List ByteArray) : List ByteArray)).bind fun y312 => ((redpenref15_words.f k (t.extract n t.size)).bind fun t315 => (if y312.length + t315.length < 8796093022208 then (some (y312 ++ t315)) else (none))))) else (some ([] : List ByteArray))) := by
      intro k
      simp only [redpenref15_words.j4]
      rw [if_pos (by omega), if_pos (by omega), Int.toNat_natCast]
    by_cases c : checkM (t.extract 0 n) = 0
    · have hn1 : 1 ≤ n := by
        rcases Nat.eq_zero_or_pos n with h | h
        · rw [check_empty (by omega)] at c; cases c
        · exact h
      obtain ⟨i1, i2⟩ := ih (t.extract n t.size) (by omega) (by omega)
      rw [if_pos c]
      refine ⟨go _ (Ev.step e (Ev.bind hc ?_)), by rw [List.length_cons]; omega⟩
      rw [c]
      simp only [if_true]
      refine Ev.bind hfo ?_
      simp only [Option.bind_some]
      refine Ev.bind i1 ?_
      have g : ([foldB (t.extract 0 n)] : List ByteArray).length + (wordsR f (t.extract n t.size)).length < 8796093022208 := by rw [List.length_singleton]; omega
      simp only [if_pos g]
      exact Ev.now _
    · rw [if_neg c]
      refine ⟨go _ (Ev.step e (Ev.bind hc ?_)), by simp⟩
      simp only [if_neg c]
      exact Ev.now _
end Go.Proofs.YtkflgnhcfhmkdaaDoor.Pure
end
section
/- The reference's lines are the plain ones. -/
namespace Go.Proofs.YtkflgnhcfhmkdaaDoor.Pure
open Go.RowKit Go.Proofs.YtkflgnhcfhmkdaaDoor.PPragmaReads Go.Proofs.YtkflgnhcfhmkdaaDoorW.PrintWords Go.Proofs.YtkflgnhcfhmkdaaDoorW.PrintLast
open Go.Proofs.YtkflgnhcfhmkdaaDoor.M Go.Proofs.YtkflgnhcfhmkdaaDoor.X
set_option linter.unusedVariables false
set_option linter.unusedSimpArgs false
theorem reflines_from {b : List Int} (hb : b.length < 8796093022208) : ∀ (d k i from_ : Nat) (acc : List ByteArray), b.length - i = d → i ≤ b.length → from_ ≤ i → acc.length ≤ i → d < k →
    redpenref01_Lines.l0 k b acc from_ i = some (acc ++ (linesOf ((b.take i).drop from_) (b.drop i)).map strOfNums) := by
  intro d
  induction d with
  | zero =>
    intro k i from_ acc hd hi hf hc hk
    obtain ⟨k, rfl⟩ : ∃ m, k = m + 1 := ⟨k - 1, by omega⟩
    have e : i = b.length := by omega
    subst e
    simp only [redpenref01_Lines.l0]
    rw [if_neg (by omega), List.take_length, List.drop_length]
    by_cases h : from_ < b.length
    · have hne : b.drop from_ ≠ [] := by
        intro h2; have := congrArg List.length h2; rw [List.length_drop, List.length_nil] at this; omega
      rw [if_pos (by omega), if_pos (by omega), if_pos (by omega), if_pos (by omega), Int.toNat_natCast]
      unfold linesOf
      rw [if_neg hne]
      rfl
    · rw [if_neg (by omega), List.drop_eq_nil_of_le (by omega)]
      unfold linesOf
      rw [if_pos rfl]
      simp
  | succ d ih =>
    intro k i from_ acc hd hi hf hc hk
    obtain ⟨k, rfl⟩ : ∃ m, k = m + 1 := ⟨k - 1, by omega⟩
    have hlt : i < b.length := by omega
    have ew : wrap64 ((i : Int) + 1) = ((i + 1 : Nat) : Int) := by rw [w64 (by omega) (by omega)]; omega
    have hrd : rd b (i : Int) = b[i] := by
      unfold rd
      rw [Int.toNat_natCast, List.getD_eq_getElem?_getD, List.getElem?_eq_getElem hlt]
      rfl
    have hdr : b.drop i = b[i] :: b.drop (i + 1) := List.drop_eq_getElem_cons hlt
    have htk : (b.take (i + 1)).drop from_ = (b.take i).drop from_ ++ [b[i]] := by
      rw [List.take_succ_eq_append_getElem hlt, List.drop_append_of_le_length (by rw [List.length_take]; omega)]
    simp only [redpenref01_Lines.l0]
    rw [if_pos (by omega), if_pos (by omega), hrd, hdr, ew]
    by_cases h : b[i] = 10
    · rw [if_pos h, if_pos (by omega), if_pos (by omega), if_pos (by omega), if_pos (by omega), Int.toNat_natCast, Int.toNat_natCast]
      rw [ih k (i + 1) (i + 1) _ (by omega) (by omega) (by omega) (by rw [List.length_append]; simp; omega) (by omega)]
      rw [show ((b.take (i + 1)).drop (i + 1)) = [] from List.drop_eq_nil_of_le (by rw [List.length_take]; omega)]
      rw [htk]
      conv => rhs; unfold linesOf
      rw [if_pos h, List.map_cons, List.append_assoc, List.singleton_append]
    · rw [if_neg h, ih k (i + 1) from_ acc (by omega) (by omega) (by omega) (by omega) (by omega), htk]
      conv => rhs; unfold linesOf
      rw [if_neg h]
theorem reflines_eq {b : List Int} (hb : b.length < 8796093022208) {k : Nat} (hk : b.length < k) : redpenref01_Lines.f k b = some ((ls b).map strOfNums) := by
  unfold redpenref01_Lines.f
  have := reflines_from hb b.length k 0 0 [] (by omega) (by omega) (by omega) (by simp) hk
  exact this
theorem str_at (L : List (List Int)) (j : Nat) (hj : j < L.length) : rdOf ByteArray.empty (L.map strOfNums) (j : Int) = strOfNums (L.getD j []) := by
  unfold rdOf
  rw [Int.toNat_natCast, List.getD_eq_getElem?_getD, List.getD_eq_getElem?_getD, List.getElem?_map, List.getElem?_eq_getElem hj]
  rfl
end Go.Proofs.YtkflgnhcfhmkdaaDoor.Pure
end
section
/- pragma.Read of any text that is not long, as printed; the document's Read: the same lines are left alone. -/
namespace Go.Proofs.YtkflgnhcfhmkdaaDoor.Pure
open Go.RowKit Go.Proofs.YtkflgnhcfhmkdaaDoor.PPragmaReads Go.Proofs.YtkflgnhcfhmkdaaDoorW.PrintWords Go.Proofs.YtkflgnhcfhmkdaaDoorW.PrintLast Go.Proofs.YtkflgnhcfhmkdaaDoor.X
open Go.Proofs.YtkflgnhcfhmkdaaDoor.M Go.Proofs.YtkflgnhcfhmkdaaDoor.H
set_option linter.unusedVariables false
set_option linter.unusedSimpArgs false
abbrev wL : List UInt8 := [119, 111, 114, 100, 115]
def wordsQ : List Ak → List ByteArray → List ByteArray
  | [], ws => ws
  | a :: t, ws => wordsQ t (if a.f0.toList = wL then knownF (a.f1.size + 1) a.f1 ws else ws)
theorem l1_any (Z : Nat) (hZ : Z ≤ 4000) : ∀ (qs : List Ak) (off next skip : Bool) (ws : List ByteArray), (∀ a ∈ qs, a.f1.size ≤ Z) → ws.length + qs.length * Z ≤ 90000000000 → Ev (fun k => pragma_Read.l1 k qs off next skip ws) ((stepQ qs off next skip).1, (stepQ qs off next skip).2.1, (stepQ qs off next skip).2.2, wordsQ qs ws) ∧ (wordsQ qs ws).length ≤ ws.length + qs.length * Z
  | [], off, next, skip, ws, _, _ => ⟨⟨0, fun k _ => rfl⟩, Nat.le_add_right _ _⟩
  | a :: t, off, next, skip, ws, h, hb => by
    have ht : ∀ x ∈ t, x.f1.size ≤ Z := fun x hx => h x (by simp [hx])
    have ha := h a (by simp)
    rw [List.length_cons, Nat.succ_mul] at hb ⊢
    have e : ∀ k, pragma_Read.l1 k (a :: t) off next skip ws = if a.f0.toList = ([111, 102, 102] : List UInt8) then pragma_Read.l1 k t true next true ws
      else if a.f0.toList = ([108, 105, 110, 101] : List UInt8) then pragma_Read.l1 k t off next true ws
      else if a.f0.toList = ([111, 110] : List UInt8) then pragma_Read.l1 k t false next skip ws
      else if a.f0.toList = ([110, 101, 120, 116] : List UInt8) then pragma_Read.l1 k t off true skip ws
      else if a.f0.toList = wL then (pragma_Rules_known.f k a.f1 ws).bind fun ws2 => pragma_Read.l1 k t off next skip ws2
      else pragma_Read.l1 k t off next skip ws := fun k => rfl
    have plain : ∀ (o n s : Bool), (∀ k, pragma_Read.l1 k (a :: t) off next skip ws = pragma_Read.l1 k t o n s ws) → a.f0.toList ≠ wL → Ev (fun k => pragma_Read.l1 k (a :: t) off next skip ws) ((stepQ t o n s).1, (stepQ t o n s).2.1, (stepQ t o n s).2.2, wordsQ (a :: t) ws) ∧ (wordsQ (a :: t) ws).length ≤ ws.length + (t.length * Z + Z) := by
      intro o n s he hne
      have hw' : wordsQ (a :: t) ws = wordsQ t ws := by
        show wordsQ t (if a.f0.toList = wL then _ else _) = _
        rw [if_neg hne]
      obtain ⟨i1, i2⟩ := l1_any Z hZ t o n s ws ht (by omega)
      rw [hw']
      exact ⟨Ev.congr he i1, by omega⟩
    unfold stepQ
    by_cases h1 : a.f0.toList = ([111, 102, 102] : List UInt8)
    · rw [if_pos h1]
      exact plain _ _ _ (fun k => (e k).trans (if_pos h1)) (by rw [h1]; decide)
    rw [if_neg h1]
    by_cases h2 : a.f0.toList = ([108, 105, 110, 101] : List UInt8)
    · rw [if_pos h2]
      exact plain _ _ _ (fun k => (e k).trans ((if_neg h1).trans (if_pos h2))) (by rw [h2]; decide)
    rw [if_neg h2]
    by_cases h3 : a.f0.toList = ([111, 110] : List UInt8)
    · rw [if_pos h3]
      exact plain _ _ _ (fun k => (e k).trans ((if_neg h1).trans ((if_neg h2).trans (if_pos h3)))) (by rw [h3]; decide)
    rw [if_neg h3]
    by_cases h4 : a.f0.toList = ([110, 101, 120, 116] : List UInt8)
    · rw [if_pos h4]
      exact plain _ _ _ (fun k => (e k).trans ((if_neg h1).trans ((if_neg h2).trans ((if_neg h3).trans (if_pos h4))))) (by rw [h4]; decide)
    rw [if_neg h4]
    by_cases h5 : a.f0.toList = wL
    · have hw' : wordsQ (a :: t) ws = wordsQ t (knownF (a.f1.size + 1) a.f1 ws) := by
        show wordsQ t (if a.f0.toList = wL then _ else _) = _
        rw [if_pos h5]
      obtain ⟨k1, k2⟩ := known_ev (a.f1.size + 1) a.f1 ws (by omega) (by omega) (by omega)
      obtain ⟨i1, i2⟩ := l1_any Z hZ t off next skip (knownF (a.f1.size + 1) a.f1 ws) ht (by omega)
      rw [hw']
      exact ⟨Ev.congr (fun k => (e k).trans ((if_neg h1).trans ((if_neg h2).trans ((if_neg h3).trans ((if_neg h4).trans (if_pos h5)))))) (Ev.bind k1 i1), by omega⟩
    · exact plain _ _ _ (fun k => (e k).trans ((if_neg h1).trans ((if_neg h2).trans ((if_neg h3).trans ((if_neg h4).trans (if_neg h5)))))) h5
def AL (l : List Int) : List Ak := asksM ((strOfNums l).size + 1) (strOfNums l)
def wordsL : List (List Int) → List ByteArray → List ByteArray
  | [], ws => ws
  | l :: t, ws => wordsL t (wordsQ (AL l) ws)
theorem AL_ok (l : List Int) (h : l.length ≤ 4000) : Ev (fun k => pragma_asks.f k (strOfNums l)) (AL l) ∧ (AL l).length ≤ 4001 ∧ ∀ a ∈ AL l, a.f1.size ≤ 4000 := by
  have hs : (strOfNums l).size = l.length := strOfNums_size l
  refine ⟨asks_ev _ (by omega), Nat.le_trans (asksM_len _ _) (by omega), fun a ha => Nat.le_trans (asksM_f1 _ _ a ha) (by omega)⟩
section
variable (b : List Int) (hl : b.length ≤ 4000)
include hl
theorem any_l0 : ∀ (d j : Nat) (off next : Bool) (offs : List (Int × Int)) (ws : List ByteArray), (ls b).length - j = d → j ≤ (ls b).length → offs.length ≤ j → ws.length ≤ j * 16004000 →
    Ev (fun k => pragma_Read.l0 k b [b] d j off next offs ws) [⟨offs ++ offsQ AL ((ls b).drop j) (Go.Proofs.YtkflgnhcfhmkdaaDoor.M.off (ls b) j) off next, wordsL ((ls b).drop j) ws⟩] := by
  have hn := ls_count b
  intro d
  induction d with
  | zero =>
    intro j off next offs ws hd hj ho hw1
    rw [List.drop_of_length_le (by omega)]
    unfold offsQ
    rw [List.append_nil]
    exact ⟨0, fun k _ => rfl⟩
  | succ d ih =>
    intro j off next offs ws hd hj ho hw1
    have hlt : j < (ls b).length := by omega
    have hs := span_in (b := b) (by omega) j hlt
    have ho1 := off_succ (ls b) j hlt
    have ho2 := off_le (ls b) (j + 1)
    rw [ls_flat] at ho2
    have hc := cut_line (ls b) j hlt
    rw [ls_flat] at hc
    have hg : (ls b).getD j [] = (ls b)[j] := by rw [List.getD_eq_getElem?_getD, List.getElem?_eq_getElem hlt]; rfl
    rw [hg] at hs ho1 hc
    obtain ⟨a1, a2, a4⟩ := AL_ok (ls b)[j] (by omega)
    have a3 : (AL (ls b)[j]).length < 1000000000000 := by omega
    have hm : (AL (ls b)[j]).length * 4000 ≤ 16004000 := by omega
    obtain ⟨l1, l2⟩ := l1_any 4000 (Nat.le_refl _) (AL (ls b)[j]) off false (off || next) ws a4 (by omega)
    have e2 : ∀ _ : Unit, wrap64 ((Go.Proofs.YtkflgnhcfhmkdaaDoor.M.off (ls b) j : Int) + ((ls b)[j].length : Int)) = (Go.Proofs.YtkflgnhcfhmkdaaDoor.M.off (ls b) (j + 1) : Int) := fun _ => hw _ _ (by omega) (by omega)
    have g1 : (0 : Int) ≤ (Go.Proofs.YtkflgnhcfhmkdaaDoor.M.off (ls b) j : Int) := by omega
    have g2 : (Go.Proofs.YtkflgnhcfhmkdaaDoor.M.off (ls b) j : Int) ≤ (Go.Proofs.YtkflgnhcfhmkdaaDoor.M.off (ls b) (j + 1) : Int) := by omega
    have g3 : (Go.Proofs.YtkflgnhcfhmkdaaDoor.M.off (ls b) (j + 1) : Int) ≤ (b.length : Int) := by omega
    have g4 : offs.length < 1000000000000 := by omega
    rw [List.drop_eq_getElem_cons hlt]
    unfold offsQ wordsL
    generalize hq : stepQ (AL (ls b)[j]) off false (off || next) = q at *
    generalize wordsQ (AL (ls b)[j]) ws = ws2 at *
    have hnext := ih (j + 1) q.1 q.2.1 (offs ++ if q.2.2 = true then [((Go.Proofs.YtkflgnhcfhmkdaaDoor.M.off (ls b) j : Int), ((ls b)[j].length : Int))] else []) ws2 (by omega) (by omega) (by rw [List.length_append]; split <;> simp <;> omega) (by omega)
    rw [List.append_assoc, ho1] at hnext
    refine Ev.congr (f := fun k => (pragma_asks.f k (strOfNums (ls b)[j])).bind fun qs => if qs.length < 1000000000000 then (pragma_Read.l1 k qs off false (off || next) ws).bind fun q => if offs.length < 1000000000000 then pragma_Read.l0 k b [b] d (j + 1) q.1 q.2.1 (if q.2.2.1 = true then offs ++ [((Go.Proofs.YtkflgnhcfhmkdaaDoor.M.off (ls b) j : Int), ((ls b)[j].length : Int))] else offs) q.2.2.2 else none else none) (fun k => ?_) (Ev.bind a1 ?_)
    · have hs' : lines_Index_Span.f [b] ((j + 1 : Nat) : Int) = some ((Go.Proofs.YtkflgnhcfhmkdaaDoor.M.off (ls b) j : Int), ((ls b)[j].length : Int), 0) := by rw [show ((j + 1 : Nat) : Int) = (j : Int) + 1 by omega]; exact hs
      have hp : (b.take (wrap64 ((Go.Proofs.YtkflgnhcfhmkdaaDoor.M.off (ls b) j : Int) + ((ls b)[j].length : Int))).toNat).drop ((Go.Proofs.YtkflgnhcfhmkdaaDoor.M.off (ls b) j : Int)).toNat = (ls b)[j] := by rw [e2 (), Int.toNat_natCast, Int.toNat_natCast, hc]
      have h2 : (Go.Proofs.YtkflgnhcfhmkdaaDoor.M.off (ls b) j : Int) ≤ wrap64 ((Go.Proofs.YtkflgnhcfhmkdaaDoor.M.off (ls b) j : Int) + ((ls b)[j].length : Int)) := by rw [e2 ()]; exact g2
      have h3 : wrap64 ((Go.Proofs.YtkflgnhcfhmkdaaDoor.M.off (ls b) j : Int) + ((ls b)[j].length : Int)) ≤ (b.length : Int) := by rw [e2 ()]; exact g3
      have e : pragma_Read.l0 k b [b] (d + 1) j off next offs ws = (lines_Index_Span.f [b] ((j + 1 : Nat) : Int)).bind fun sp => if 0 ≤ sp.1 then (if sp.1 ≤ wrap64 (sp.1 + sp.2.1) then (if wrap64 (sp.1 + sp.2.1) ≤ (b.length : Int) then
        (pragma_asks.f k (strOfNums ((b.take (wrap64 (sp.1 + sp.2.1)).toNat).drop sp.1.toNat))).bind fun qs => if qs.length < 1000000000000 then (pragma_Read.l1 k qs off false (off || next) ws).bind fun q =>
          if offs.length < 1000000000000 then pragma_Read.l0 k b [b] d (j + 1) q.1 q.2.1 (if q.2.2.1 = true then offs ++ [(sp.1, sp.2.1)] else offs) q.2.2.2 else none else none else none) else none) else none := rfl
      refine e.trans (ob hs' ((if_pos g1).trans ((if_pos h2).trans ((if_pos h3).trans ?_))))
      show (pragma_asks.f k (strOfNums ((b.take (wrap64 ((Go.Proofs.YtkflgnhcfhmkdaaDoor.M.off (ls b) j : Int) + ((ls b)[j].length : Int))).toNat).drop ((Go.Proofs.YtkflgnhcfhmkdaaDoor.M.off (ls b) j : Int)).toNat))).bind _ = _
      rw [hp]
    · simp only [if_pos a3]
      refine Ev.bind l1 ?_
      refine Ev.congr (fun k => (if_pos g4).trans ?_) hnext
      show pragma_Read.l0 k b [b] d (j + 1) q.1 q.2.1 (if q.2.2 = true then _ else _) ws2 = _
      congr 1
      split <;> simp
theorem read_any : Ev (fun k => pragma_Read.f k b) [⟨offsQ AL (ls b) 0 false false, wordsL (ls b) []⟩] := by
  have hn := ls_count b
  have h0 := any_l0 b hl _ 0 false false [] [] rfl (Nat.zero_le _) (Nat.zero_le _) (Nat.zero_le _)
  rw [List.nil_append, off_zero, List.drop_zero] at h0
  have g : ((ls b).length : Int) < 1000000000000 := by omega
  have g2 : b.length < 100000000000 := by omega
  refine Ev.congr (fun k => ?_) h0
  have e : pragma_Read.f k b = (lines_New.f b).bind fun ix => (lines_Index_Lines.f ix).bind fun n => if n < 1000000000000 then pragma_Read.l0 k b ix n.toNat 0 false false [] [] else none := rfl
  exact e.trans (ob (new_eq g2) (ob (nlines_eq g2) (if_pos g)))
end
end Go.Proofs.YtkflgnhcfhmkdaaDoor.Pure
end
section
/- The document's Read, as printed, of any text that is not long: the lines that are left alone are the program's. -/
namespace Go.Proofs.YtkflgnhcfhmkdaaDoor.Pure
open Go.RowKit Go.Proofs.YtkflgnhcfhmkdaaDoor.PPragmaReads Go.Proofs.YtkflgnhcfhmkdaaDoorW.PrintWords Go.Proofs.YtkflgnhcfhmkdaaDoorW.PrintLast Go.Proofs.YtkflgnhcfhmkdaaDoor.X
open Go.Proofs.YtkflgnhcfhmkdaaDoor.M Go.Proofs.YtkflgnhcfhmkdaaDoor.H
set_option linter.unusedVariables false
set_option linter.unusedSimpArgs false
def wordsD : List Ak → List ByteArray → List ByteArray
  | [], ws => ws
  | a :: t, ws => wordsD t (if a.f0.toList = wL then ws ++ wordsR (a.f1.size + 1) a.f1 else ws)
def wordsLD : List (List Int) → List ByteArray → List ByteArray
  | [], ws => ws
  | l :: t, ws => wordsLD t (wordsD (AL l) ws)
theorem wordsD_len : ∀ (qs : List Ak) (ws : List ByteArray), (∀ a ∈ qs, a.f1.size ≤ 4000) → (wordsD qs ws).length ≤ ws.length + qs.length * 4000
  | [], ws, _ => Nat.le_add_right _ _
  | a :: t, ws, h => by
    have ha := h a (by simp)
    have h1 := (words_ev (a.f1.size + 1) a.f1 (by omega) (by omega)).2
    have ih := wordsD_len t (if a.f0.toList = wL then ws ++ wordsR (a.f1.size + 1) a.f1 else ws) (fun x hx => h x (by simp [hx]))
    rw [List.length_cons, Nat.succ_mul]
    refine Nat.le_trans ih ?_
    split
    · rw [List.length_append]; omega
    · omega
section
variable (ss : List ByteArray) (s : ByteArray) (fr i : Int) (acc : List S40) (hs : s.size ≤ 4000) (ha : acc.length < 8796093022208) {R : List S40 × List ByteArray}
include hs
theorem rr_l2 (p : Nat) (off next alone : Bool) (ws : List ByteArray) (hp : p + 6 ≤ s.size) (h : Ev (fun k => redpenref15_Read.j4 k ss off next fr i s alone (p : Int) (endP s p : Int) acc ws) R) :
    ∀ d n, n + d = s.size → leadF s d n = endP s p → Ev (fun k => redpenref15_Read.l2 k ss off next fr i s alone (p : Int) (n : Int) acc ws) R := by
  intro d
  induction d with
  | zero =>
    intro n hn he
    rw [← he] at h
    refine Ev.step (fun k => ?_) h
    simp only [redpenref15_Read.l2]
    rw [if_neg (by omega)]
    rfl
  | succ d ih =>
    intro n hn he
    have ew : ∀ _ : Unit, wrap64 ((n : Int) + 1) = ((n + 1 : Nat) : Int) := fun _ => hw _ _ (by omega) (by omega)
    have hu : leadF s (d + 1) n = if 97 ≤ bt s (n : Int) then (if bt s (n : Int) ≤ 122 then leadF s d (n + 1) else n) else n := rfl
    rw [hu] at he
    by_cases c1 : 97 ≤ bt s (n : Int)
    · rw [if_pos c1] at he
      by_cases c2 : bt s (n : Int) ≤ 122
      · rw [if_pos c2] at he
        refine Ev.step (fun k => ?_) (ih (n + 1) (by omega) he)
        simp only [redpenref15_Read.l2, ew ()]
        rw [if_pos (by omega), if_pos (by omega), if_pos c1, if_pos c2]
      · rw [if_neg c2] at he
        rw [← he] at h
        refine Ev.step (fun k => ?_) h
        simp only [redpenref15_Read.l2]
        rw [if_pos (by omega), if_pos (by omega), if_pos c1, if_neg c2]
    · rw [if_neg c1] at he
      rw [← he] at h
      refine Ev.step (fun k => ?_) h
      simp only [redpenref15_Read.l2]
      rw [if_pos (by omega), if_pos (by omega), if_neg c1]
include ha
theorem rr_l1 : ∀ (g p : Nat) (off next alone : Bool) (ws : List ByteArray), s.size - p < g → p ≤ s.size → ws.length + (s.size - p) * 4000 ≤ 8000000000000 →
    Ev (fun k => redpenref15_Read.l0 k ss (stepQ (asksP g s p) off next alone).1 (stepQ (asksP g s p) off next alone).2.1 (wrap64 (fr + (s.size : Int))) (wrap64 (i + 1)) (if (stepQ (asksP g s p) off next alone).2.2 = true then acc ++ [⟨fr, (s.size : Int)⟩] else acc) (wordsD (asksP g s p) ws)) R →
    Ev (fun k => redpenref15_Read.l1 k ss off next fr i s alone (p : Int) acc ws) R := by
  intro g
  induction g with
  | zero => intro p off next alone ws h; omega
  | succ g ih =>
    intro p off next alone ws hg hp hb cont
    have e6 : ∀ _ : Unit, wrap64 ((p : Int) + 6) = ((p + 6 : Nat) : Int) := fun _ => hw _ _ (by omega) (by omega)
    have e1 : ∀ _ : Unit, wrap64 ((p : Int) + 1) = ((p + 1 : Nat) : Int) := fun _ => hw _ _ (by omega) (by omega)
    have ha' : acc.length < 8796093022208 := ha
    unfold asksP at cont
    by_cases c6 : p + 6 ≤ s.size
    · rw [if_pos c6] at cont
      by_cases cm : (s.extract p (p + 6)).toList = mkL
      · rw [if_pos cm] at cont
        have he := endP_le s p c6
        have ex : (s.extract (endP s p) s.size).size = s.size - endP s p := by rw [ByteArray.size_extract]; omega
        have go : Ev (fun k => redpenref15_Read.j4 k ss off next fr i s alone (p : Int) (endP s p : Int) acc ws) R := by
          generalize endP s p = e at *
          have ee : ∀ _ : Unit, wrap64 (wrap64 ((e : Int) - 1) + 1) = (e : Int) := fun _ => by
            rw [show wrap64 ((e : Int) - 1) = ((e - 1 : Nat) : Int) from hw _ _ (by omega) (by omega)]
            exact hw _ _ (by omega) (by omega)
          generalize ht : asksP g s e = T at *
          have key : ∀ k, redpenref15_Read.j4 (k + 1) ss off next fr i s alone (p : Int) (e : Int) acc ws = if (s.extract (p + 6) e).toList = ([111, 102, 102] : List UInt8) then redpenref15_Read.l1 k ss true next fr i s true (e : Int) acc ws
            else if (s.extract (p + 6) e).toList = ([108, 105, 110, 101] : List UInt8) then redpenref15_Read.l1 k ss off next fr i s true (e : Int) acc ws
            else if (s.extract (p + 6) e).toList = ([111, 110] : List UInt8) then redpenref15_Read.l1 k ss false next fr i s alone (e : Int) acc ws
            else if (s.extract (p + 6) e).toList = ([110, 101, 120, 116] : List UInt8) then redpenref15_Read.l1 k ss off true fr i s alone (e : Int) acc ws
            else if (s.extract (p + 6) e).toList = wL then (if (0 : Int) ≤ (e : Int) then ((redpenref15_words.f k (s.extract e s.size)).bind fun t330 => (if ws.length + t330.length < 8796093022208 then (redpenref15_Read.l1 k ss off next fr i s alone (e : Int) acc (ws ++ t330)) else (none))) else (none))
            else redpenref15_Read.l1 k ss off next fr i s alone (e : Int) acc ws := by
            intro k
            simp only [redpenref15_Read.j4, e6 (), ee ()]
            rw [if_pos (by omega), if_pos (by omega), if_pos (by omega)]
            rfl
          have fin : ∀ (o n al : Bool), (∀ k, redpenref15_Read.j4 (k + 1) ss off next fr i s alone (p : Int) (e : Int) acc ws = redpenref15_Read.l1 k ss o n fr i s al (e : Int) acc ws) → stepQ (⟨s.extract (p + 6) e, s.extract e s.size⟩ :: T) off next alone = stepQ T o n al → (s.extract (p + 6) e).toList ≠ wL → Ev (fun k => redpenref15_Read.j4 k ss off next fr i s alone (p : Int) (e : Int) acc ws) R := by
            intro o n al h1 h2 h3
            have h4 : wordsD (⟨s.extract (p + 6) e, s.extract e s.size⟩ :: T) ws = wordsD T ws := by
              show wordsD T (if (s.extract (p + 6) e).toList = wL then _ else _) = _
              rw [if_neg h3]
            rw [h2, h4, ← ht] at cont
            exact Ev.step h1 (ih e o n al ws (by omega) (by omega) (Nat.le_trans (Nat.add_le_add_left (Nat.mul_le_mul_right 4000 (show s.size - e ≤ s.size - p by omega)) _) hb) cont)
          by_cases h1 : (s.extract (p + 6) e).toList = ([111, 102, 102] : List UInt8)
          · exact fin true next true (fun k => (key k).trans (if_pos h1)) (if_pos h1) (by rw [h1]; decide)
          by_cases h2 : (s.extract (p + 6) e).toList = ([108, 105, 110, 101] : List UInt8)
          · exact fin off next true (fun k => (key k).trans ((if_neg h1).trans (if_pos h2))) ((if_neg h1).trans (if_pos h2)) (by rw [h2]; decide)
          by_cases h3 : (s.extract (p + 6) e).toList = ([111, 110] : List UInt8)
          · exact fin false next alone (fun k => (key k).trans ((if_neg h1).trans ((if_neg h2).trans (if_pos h3)))) ((if_neg h1).trans ((if_neg h2).trans (if_pos h3))) (by rw [h3]; decide)
          by_cases h4 : (s.extract (p + 6) e).toList = ([110, 101, 120, 116] : List UInt8)
          · exact fin off true alone (fun k => (key k).trans ((if_neg h1).trans ((if_neg h2).trans ((if_neg h3).trans (if_pos h4))))) ((if_neg h1).trans ((if_neg h2).trans ((if_neg h3).trans (if_pos h4)))) (by rw [h4]; decide)
          have hst : stepQ (⟨s.extract (p + 6) e, s.extract e s.size⟩ :: T) off next alone = stepQ T off next alone := (if_neg h1).trans ((if_neg h2).trans ((if_neg h3).trans (if_neg h4)))
          by_cases h5 : (s.extract (p + 6) e).toList = wL
          · obtain ⟨w1, w2⟩ := words_ev ((s.extract e s.size).size + 1) (s.extract e s.size) (by omega) (by omega)
            have h6 : wordsD (⟨s.extract (p + 6) e, s.extract e s.size⟩ :: T) ws = wordsD T (ws ++ wordsR ((s.extract e s.size).size + 1) (s.extract e s.size)) := by
              show wordsD T (if (s.extract (p + 6) e).toList = wL then _ else _) = _
              rw [if_pos h5]
            rw [hst, h6, ← ht] at cont
            have g0 : (0 : Int) ≤ (e : Int) := by omega
            refine Ev.step (fun k => (key k).trans ((if_neg h1).trans ((if_neg h2).trans ((if_neg h3).trans ((if_neg h4).trans ((if_pos h5).trans (if_pos g0))))))) (Ev.bind w1 ?_)
            generalize wordsR ((s.extract e s.size).size + 1) (s.extract e s.size) = W at *
            have g1 : ws.length + W.length < 8796093022208 := by omega
            simp only [if_pos g1]
            exact ih e off next alone (ws ++ W) (by omega) (by omega) (by rw [List.length_append]; omega) cont
          · exact fin off next alone (fun k => (key k).trans ((if_neg h1).trans ((if_neg h2).trans ((if_neg h3).trans ((if_neg h4).trans (if_neg h5)))))) hst h5
        refine Ev.step (fun k => ?_) (rr_l2 ss s fr i acc hs p off next alone ws c6 go (s.size - (p + 6)) (p + 6) (by omega) rfl)
        simp only [redpenref15_Read.l1, e6 ()]
        rw [if_pos (by omega), if_pos (by omega), if_pos (by omega)]
        exact if_pos cm
      · rw [if_neg cm] at cont
        refine Ev.step (fun k => ?_) (ih (p + 1) off next alone ws (by omega) (by omega) (Nat.le_trans (Nat.add_le_add_left (Nat.mul_le_mul_right 4000 (show s.size - (p + 1) ≤ s.size - p by omega)) _) hb) cont)
        simp only [redpenref15_Read.l1, e6 (), e1 ()]
        rw [if_pos (by omega), if_pos (by omega), if_pos (by omega)]
        exact if_neg cm
    · rw [if_neg c6] at cont
      refine Ev.step (fun k => ?_) cont
      simp only [redpenref15_Read.l1, e6 ()]
      rw [if_neg (by omega), if_pos ha']
      show _ = redpenref15_Read.l0 k ss off next _ _ (if alone = true then _ else _) ws
      split <;> rfl
end
section
variable (b : List Int) (hl : b.length ≤ 4000)
include hl
theorem rr_l0 : ∀ (d j : Nat) (off next : Bool) (acc : List S40) (ws : List ByteArray), (ls b).length - j = d → j ≤ (ls b).length → acc.length ≤ j → ws.length ≤ j * 16004000 →
    Ev (fun k => redpenref15_Read.l0 k ((ls b).map strOfNums) off next (Go.Proofs.YtkflgnhcfhmkdaaDoor.M.off (ls b) j : Int) (j : Int) acc ws) (acc ++ (offsQ AL ((ls b).drop j) (Go.Proofs.YtkflgnhcfhmkdaaDoor.M.off (ls b) j) off next).map pragma_Rules_Spans.mk, wordsLD ((ls b).drop j) ws) := by
  have hn := ls_count b
  have hm : (((ls b).map strOfNums).length : Int) = ((ls b).length : Int) := by rw [List.length_map]
  intro d
  induction d with
  | zero =>
    intro j off next acc ws hd hj ho hw1
    rw [List.drop_of_length_le (by omega)]
    unfold offsQ
    rw [List.map_nil, List.append_nil]
    refine Ev.step (f := fun _ => some (acc, ws)) (fun k => ?_) (Ev.now _)
    simp only [redpenref15_Read.l0]
    rw [if_neg (by omega)]
  | succ d ih =>
    intro j off next acc ws hd hj ho hw1
    have hlt : j < (ls b).length := by omega
    have ho1 := off_succ (ls b) j hlt
    have ho2 := off_le (ls b) (j + 1)
    rw [ls_flat] at ho2
    have hg : (ls b).getD j [] = (ls b)[j] := by rw [List.getD_eq_getElem?_getD, List.getElem?_eq_getElem hlt]; rfl
    have hstr := str_at (ls b) j hlt
    rw [hg] at ho1 hstr
    have hsz : (strOfNums (ls b)[j]).size = (ls b)[j].length := strOfNums_size _
    obtain ⟨a1, a2, a4⟩ := AL_ok (ls b)[j] (by omega)
    have hwd := wordsD_len (AL (ls b)[j]) ws a4
    have hmm : (AL (ls b)[j]).length * 4000 ≤ 16004000 := by omega
    have ew : ∀ _ : Unit, wrap64 ((j : Int) + 1) = ((j + 1 : Nat) : Int) := fun _ => hw _ _ (by omega) (by omega)
    have e2 : ∀ _ : Unit, wrap64 ((Go.Proofs.YtkflgnhcfhmkdaaDoor.M.off (ls b) j : Int) + ((strOfNums (ls b)[j]).size : Int)) = (Go.Proofs.YtkflgnhcfhmkdaaDoor.M.off (ls b) (j + 1) : Int) := fun _ => hw _ _ (by omega) (by omega)
    have hA : AL (ls b)[j] = asksP ((strOfNums (ls b)[j]).size + 1) (strOfNums (ls b)[j]) 0 := asks_zero _
    have hnext := ih (j + 1) (stepQ (AL (ls b)[j]) off false (off || next)).1 (stepQ (AL (ls b)[j]) off false (off || next)).2.1 (if (stepQ (AL (ls b)[j]) off false (off || next)).2.2 = true then acc ++ [⟨(Go.Proofs.YtkflgnhcfhmkdaaDoor.M.off (ls b) j : Int), ((strOfNums (ls b)[j]).size : Int)⟩] else acc) (wordsD (AL (ls b)[j]) ws) (by omega) (by omega) (by split <;> (try rw [List.length_append, List.length_singleton]) <;> omega) (by omega)
    have hR : (if (stepQ (AL (ls b)[j]) off false (off || next)).2.2 = true then acc ++ [(⟨(Go.Proofs.YtkflgnhcfhmkdaaDoor.M.off (ls b) j : Int), ((strOfNums (ls b)[j]).size : Int)⟩ : S40)] else acc) ++ (offsQ AL ((ls b).drop (j + 1)) (Go.Proofs.YtkflgnhcfhmkdaaDoor.M.off (ls b) (j + 1)) (stepQ (AL (ls b)[j]) off false (off || next)).1 (stepQ (AL (ls b)[j]) off false (off || next)).2.1).map pragma_Rules_Spans.mk = acc ++ (offsQ AL ((ls b)[j] :: (ls b).drop (j + 1)) (Go.Proofs.YtkflgnhcfhmkdaaDoor.M.off (ls b) j) off next).map pragma_Rules_Spans.mk := by
      rw [offsQ, ← ho1, List.map_append, hsz]
      by_cases hc : (stepQ (AL (ls b)[j]) off false (off || next)).2.2 = true
      · rw [if_pos hc, if_pos hc, List.append_assoc]; rfl
      · rw [if_neg hc, if_neg hc]; rfl
    rw [hR, ← ew (), ← e2 ()] at hnext
    rw [List.drop_eq_getElem_cons hlt]
    rw [hA] at hnext
    have h1 := rr_l1 ((ls b).map strOfNums) (strOfNums (ls b)[j]) (Go.Proofs.YtkflgnhcfhmkdaaDoor.M.off (ls b) j : Int) (j : Int) acc (by omega) (by omega) ((strOfNums (ls b)[j]).size + 1) 0 off false (off || next) ws (by omega) (Nat.zero_le _) (by omega) hnext
    rw [← hA] at h1
    refine Ev.step (f := fun k => redpenref15_Read.j1 k ((ls b).map strOfNums) off (Go.Proofs.YtkflgnhcfhmkdaaDoor.M.off (ls b) j : Int) (j : Int) (strOfNums (ls b)[j]) (off || next) acc ws) (fun k => ?_) (Ev.step (fun k => ?_) h1)
    · simp only [redpenref15_Read.l0]
      rw [if_pos (by omega), if_pos (by omega), hstr]
      cases off
      · rw [if_neg (by decide)]; rfl
      · rw [if_pos rfl]; rfl
    · rfl
theorem refread_any : Ev (fun k => redpenref15_Read.f k b) ((offsQ AL (ls b) 0 false false).map pragma_Rules_Spans.mk, wordsLD (ls b) []) := by
  have h0 := rr_l0 b hl _ 0 false false [] [] rfl (Nat.zero_le _) (Nat.zero_le _) (Nat.zero_le _)
  rw [List.nil_append, off_zero, List.drop_zero] at h0
  have h1 : Ev (fun k => redpenref01_Lines.f k b) ((ls b).map strOfNums) := ⟨b.length + 1, fun k hk => reflines_eq (by omega) (by omega)⟩
  exact Ev.bind h1 h0
end
theorem alone_ev (at_ : Int) (ws : List ByteArray) (L : List (Int × Int)) (hL : L.length ≤ 100000) : ∀ (d j : Nat), L.length - j = d → j ≤ L.length → Ev (fun k => redpenref15_Rules_Alone.l0 k at_ (j : Int) (L.map pragma_Rules_Spans.mk) ws) (pragma_Rules_Off.any at_ (L.drop j)) := by
  have hm : ((L.map pragma_Rules_Spans.mk).length : Int) = (L.length : Int) := by rw [List.length_map]
  intro d
  induction d with
  | zero =>
    intro j hd hj
    rw [List.drop_of_length_le (by omega)]
    refine Ev.step (f := fun _ => some false) (fun k => ?_) (Ev.now _)
    simp only [redpenref15_Rules_Alone.l0]
    rw [if_neg (by omega)]
  | succ d ih =>
    intro j hd hj
    have hlt : j < L.length := by omega
    have ew : ∀ _ : Unit, wrap64 ((j : Int) + 1) = ((j + 1 : Nat) : Int) := fun _ => hw _ _ (by omega) (by omega)
    have hr : rd_T40 (L.map pragma_Rules_Spans.mk) (j : Int) = pragma_Rules_Spans.mk L[j] := by
      unfold rd_T40
      rw [Int.toNat_natCast, List.getD_eq_getElem?_getD, List.getElem?_map, List.getElem?_eq_getElem hlt]
      rfl
    have nx := ih (j + 1) (by omega) (by omega)
    rw [List.drop_eq_getElem_cons hlt]
    have e : ∀ k, redpenref15_Rules_Alone.l0 (k + 1) at_ (j : Int) (L.map pragma_Rules_Spans.mk) ws = if at_ ≥ L[j].1 then (if at_ < wrap64 (L[j].1 + L[j].2) then some true else redpenref15_Rules_Alone.l0 k at_ ((j + 1 : Nat) : Int) (L.map pragma_Rules_Spans.mk) ws) else redpenref15_Rules_Alone.l0 k at_ ((j + 1 : Nat) : Int) (L.map pragma_Rules_Spans.mk) ws := by
      intro k
      simp only [redpenref15_Rules_Alone.l0, ew (), hr]
      rw [if_pos (by omega), if_pos (by omega)]
      rfl
    unfold pragma_Rules_Off.any
    by_cases c1 : at_ ≥ L[j].1
    · rw [if_pos c1]
      by_cases c2 : at_ < wrap64 (L[j].1 + L[j].2)
      · rw [if_pos c2]
        exact Ev.step (f := fun _ => some true) (fun k => (e k).trans ((if_pos c1).trans (if_pos c2))) (Ev.now _)
      · rw [if_neg c2]
        exact Ev.step (fun k => (e k).trans ((if_pos c1).trans (if_neg c2))) nx
    · rw [if_neg c1]
      exact Ev.step (fun k => (e k).trans (if_neg c1)) nx
end Go.Proofs.YtkflgnhcfhmkdaaDoor.Pure
end
section
/- The program's words of a line are the document's. -/
namespace Go.Proofs.YtkflgnhcfhmkdaaDoor.Pure
open Go.RowKit Go.Proofs.YtkflgnhcfhmkdaaDoor.PPragmaReads Go.Proofs.YtkflgnhcfhmkdaaDoorW.PrintWords Go.Proofs.YtkflgnhcfhmkdaaDoorW.PrintLast Go.Proofs.YtkflgnhcfhmkdaaDoor.X
open Go.Proofs.YtkflgnhcfhmkdaaDoor.M Go.Proofs.YtkflgnhcfhmkdaaDoor.H
set_option linter.unusedVariables false
set_option linter.unusedSimpArgs false
theorem stop_eq (x : Nat) : pragma_Rules_known.p x = !(letter (x : Int) || decide ((x : Int) = 39)) := by
  unfold pragma_Rules_known.p pragma_Rules_known_1.f
  rw [fletter_eq]
  cases h : letter (x : Int)
  · show ((if false = true then some false else some ((x : Int) != 39)).getD false) = _
    rw [if_neg (by decide)]
    by_cases h39 : (x : Int) = 39
    · rw [h39]; rfl
    · rw [decide_eq_false h39, Option.getD_some, bne_iff_ne.2 h39]; rfl
  · rfl
theorem idx_us (s : ByteArray) : ∀ (d k fuel : Nat), (us (bytesOf s)).length - k = d → k ≤ (us (bytesOf s)).length → s.size ≤ (pos (us (bytesOf s)) k).toNat + fuel →
    (cntF (rs (bytesOf s)) d k = (us (bytesOf s)).length → Lib.idxFuncFrom pragma_Rules_known.p true s fuel (pos (us (bytesOf s)) k).toNat = -1) ∧
    (cntF (rs (bytesOf s)) d k < (us (bytesOf s)).length → Lib.idxFuncFrom pragma_Rules_known.p true s fuel (pos (us (bytesOf s)) k).toNat = pos (us (bytesOf s)) (cntF (rs (bytesOf s)) d k)) := by
  have hl : (bytesOf s).length = s.size := bytesOf_length s
  intro d
  induction d with
  | zero =>
    intro k fuel hd hk hf
    obtain rfl : k = (us (bytesOf s)).length := by omega
    have := pos_all (bytesOf s)
    refine ⟨fun _ => Lib.idxFuncFrom_end _ _ _ _ _ (by omega), fun h => absurd h ?_⟩
    show ¬ (us (bytesOf s)).length < (us (bytesOf s)).length
    omega
  | succ d ih =>
    intro k fuel hd hk hf
    have hlt : k < (us (bytesOf s)).length := by omega
    have hsu := pos_succ (us (bytesOf s)) k hlt
    have hge := pos_nonneg (us_each (bytesOf s)) k
    have hle := pos_le (bytesOf s) (k + 1)
    have hus := us_drop (bytesOf s) k (by omega)
    have hgd : (us (bytesOf s)).getD k (0, 0) = (us (bytesOf s))[k] := by rw [List.getD_eq_getElem?_getD, List.getElem?_eq_getElem hlt]; rfl
    have hea := us_each (bytesOf s) _ (List.getElem_mem hlt)
    rw [hgd] at hsu
    have hne : (bytesOf s).drop (pos (us (bytesOf s)) k).toNat ≠ [] := by
      intro h
      have := congrArg List.length h
      rw [List.length_drop, List.length_nil] at this
      omega
    rw [us_cons hne, List.drop_eq_getElem_cons hlt] at hus
    have hnx := (List.cons.inj hus).1
    have hp : (pos (us (bytesOf s)) k).toNat < s.size := by omega
    have hrd : rd (rs (bytesOf s)) (k : Int) = (us (bytesOf s))[k].1 := by
      unfold rd rs
      rw [Int.toNat_natCast, List.getD_eq_getElem?_getD, List.getElem?_map, List.getElem?_eq_getElem hlt]
      rfl
    obtain ⟨fuel, rfl⟩ : ∃ m, fuel = m + 1 := ⟨fuel - 1, by omega⟩
    have hdn := dec_nx s (pos (us (bytesOf s)) k).toNat hp
    rw [hnx] at hdn
    have hcn : cntF (rs (bytesOf s)) (d + 1) k = if letter (rd (rs (bytesOf s)) (k : Int)) = true then cntF (rs (bytesOf s)) d (k + 1) else if rd (rs (bytesOf s)) (k : Int) = 39 then cntF (rs (bytesOf s)) d (k + 1) else k := rfl
    rw [hcn, hrd]
    have hidx : Lib.idxFuncFrom pragma_Rules_known.p true s (fuel + 1) (pos (us (bytesOf s)) k).toNat = if pragma_Rules_known.p (Utf8.decode s (pos (us (bytesOf s)) k).toNat).1 = true then ((pos (us (bytesOf s)) k).toNat : Int) else Lib.idxFuncFrom pragma_Rules_known.p true s fuel ((pos (us (bytesOf s)) k).toNat + (Utf8.decode s (pos (us (bytesOf s)) k).toNat).2) := by
      show (if (pos (us (bytesOf s)) k).toNat < s.size then _ else _) = _
      rw [if_pos hp]
    rw [hidx]
    have hpc : ((pos (us (bytesOf s)) k).toNat : Int) = pos (us (bytesOf s)) k := by omega
    rcases hdn with ⟨h0, hde⟩ | ⟨hm, hde⟩
    · rw [hde]
      have hst := stop_eq (us (bytesOf s))[k].1.toNat
      rw [show (((us (bytesOf s))[k].1.toNat : Nat) : Int) = (us (bytesOf s))[k].1 by omega] at hst
      rw [hst]
      have hnp : (pos (us (bytesOf s)) k).toNat + (us (bytesOf s))[k].2.toNat = (pos (us (bytesOf s)) (k + 1)).toNat := by omega
      have nx_ := ih (k + 1) fuel (by omega) (by omega) (by omega)
      rw [← hnp] at nx_
      cases cl : letter (us (bytesOf s))[k].1 with
      | true =>
        rw [if_pos rfl, Bool.true_or, if_neg (by decide)]
        exact nx_
      | false =>
        rw [if_neg (by decide), Bool.false_or]
        by_cases c39 : (us (bytesOf s))[k].1 = 39
        · rw [if_pos c39, decide_eq_true c39, if_neg (by decide)]
          exact nx_
        · rw [if_neg c39, decide_eq_false c39, if_pos (by decide)]
          exact ⟨fun h => absurd h (by omega), fun _ => hpc⟩
    · rw [hde]
      have hm1 : (us (bytesOf s))[k].1 = -1 := by rw [hm]
      rw [hm1, if_neg (by decide), if_neg (by decide), if_pos (by rw [stop_eq]; decide)]
      exact ⟨fun h => absurd h (by omega), fun _ => hpc⟩
theorem n_end (t : ByteArray) : pragma_Rules_known.n t = endU t := by
  have hl : (bytesOf t).length = t.size := bytesOf_length t
  have hc := cntF_le (rs (bytesOf t)) (us (bytesOf t)).length 0
  have hge := pos_nonneg (us_each (bytesOf t)) (cntF (rs (bytesOf t)) (us (bytesOf t)).length 0)
  have hall := pos_all (bytesOf t)
  obtain ⟨h1, h2⟩ := idx_us t (us (bytesOf t)).length 0 t.size (by omega) (Nat.zero_le _) (by omega)
  rw [pos_zero] at h1 h2
  have e : Lib.idxFunc pragma_Rules_known.p true t = Lib.idxFuncFrom pragma_Rules_known.p true t t.size (0 : Int).toNat := rfl
  unfold pragma_Rules_known.n endU
  rw [e]
  rcases Nat.lt_or_ge (cntF (rs (bytesOf t)) (us (bytesOf t)).length 0) (us (bytesOf t)).length with h | h
  · rw [h2 h, if_neg (by omega)]
  · have h3 : cntF (rs (bytesOf t)) (us (bytesOf t)).length 0 = (us (bytesOf t)).length := by omega
    rw [h1 h3, if_pos (by decide), h3]
    omega
theorem known_words : ∀ (f : Nat) (s : ByteArray) (ws : List ByteArray), knownF f s ws = ws ++ wordsR f s
  | 0, s, ws => (List.append_nil ws).symm
  | f + 1, s, ws => by
    unfold knownF wordsR
    rw [n_end]
    split
    · rw [known_words f, List.append_assoc]; rfl
    · rw [List.append_nil]
theorem wordsQ_D : ∀ (qs : List Ak) (ws : List ByteArray), wordsQ qs ws = wordsD qs ws
  | [], _ => rfl
  | a :: t, ws => by
    unfold wordsQ wordsD
    rw [known_words, wordsQ_D t]
theorem wordsL_LD : ∀ (L : List (List Int)) (ws : List ByteArray), wordsL L ws = wordsLD L ws
  | [], _ => rfl
  | l :: t, ws => by
    unfold wordsL wordsLD
    rw [wordsQ_D, wordsL_LD t]
end Go.Proofs.YtkflgnhcfhmkdaaDoor.Pure
end
section
/- A text of pieces: how long it is, and that it is bytes. -/
namespace Go.Proofs.YtkflgnhcfhmkdaaDoor.PPragmaReads
open Go.RowKit Go.Proofs.YtkflgnhcfhmkdaaDoorW.PrintWords Go.Proofs.YtkflgnhcfhmkdaaDoorW.PrintLast Go.Proofs.YtkflgnhcfhmkdaaDoorW.PrintMore
open Go.Proofs.YtkflgnhcfhmkdaaDoor.M
set_option linter.unusedVariables false
set_option linter.unusedSimpArgs false
theorem bits_from (ps : List ByteArray) (hp : ∀ p ∈ ps, p.size ≤ 40) (raw l : List Int) (hraw : BT raw) (hl : BT l) (hn : l.length ≤ 140737488351232) (hrn : raw.length < 100000000) : ∀ (d i : Nat), 61 - i = d → i ≤ l.length → i ≤ 60 → ∀ acc : List Int, BT acc → acc.length ≤ 40 * i →
    ∃ x, BT x ∧ x.length ≤ 2400 ∧ Ev (fun f => redpenlaw11_Bits.l0 f ps raw acc l (l.length : Int) (i : Int)) x := by
  intro d
  induction d with
  | zero => intro i hd hi h60; omega
  | succ d ih =>
    intro i hd hi h60 acc hB hA
    by_cases hlt : i < l.length
    · by_cases h6 : i = 60
      · refine ⟨acc, hB, by omega, ⟨1, fun k hk => ?_⟩⟩
        obtain ⟨k, rfl⟩ : ∃ m, k = m + 1 := ⟨k - 1, by omega⟩
        simp only [redpenlaw11_Bits.l0]
        rw [if_pos (by omega), if_pos (by omega), if_pos (by omega), if_pos (by omega)]
      · have ew : wrap64 ((i : Int) + 1) = ((i + 1 : Nat) : Int) := by rw [w64 (by omega) (by omega)]; omega
        have hx : 0 ≤ rd l (i : Int) ∧ rd l (i : Int) < 256 := by
          unfold rd
          rw [Int.toNat_natCast, List.getD_eq_getElem?_getD, List.getElem?_eq_getElem hlt]
          exact hl _ (List.getElem_mem hlt)
        have ex : wrap64 (rd l (i : Int)) = rd l (i : Int) := w64 (by omega) (by omega)
        by_cases hk : rd l (i : Int) < (ps.length : Int)
        · have hsz : (rdOf ByteArray.empty ps (rd l (i : Int))).size ≤ 40 := by
            unfold rdOf
            rw [List.getD_eq_getElem?_getD, List.getElem?_eq_getElem (by omega)]
            exact hp _ (List.getElem_mem _)
          obtain ⟨x, h1, h2, h3⟩ := ih (i + 1) (by omega) (by omega) (by omega) (acc ++ bytesOf (rdOf ByteArray.empty ps (rd l (i : Int)))) (hB.app (bytesOf_BT _)) (by rw [List.length_append, bytesOf_length]; omega)
          refine ⟨x, h1, h2, Ev.step (fun f => ?_) h3⟩
          simp only [redpenlaw11_Bits.l0]
          rw [if_pos (by omega), if_pos (by omega), if_pos (by omega), if_neg (by omega), ex, if_pos hk, if_pos hx.1, if_pos (by omega), ew]
        · by_cases hr : (raw.length : Int) > 0
          · have ht : Int.tmod (rd l (i : Int)) (raw.length : Int) = rd l (i : Int) % (raw.length : Int) := Int.tmod_eq_emod_of_nonneg hx.1
            have hm0 := Int.emod_nonneg (rd l (i : Int)) (show (raw.length : Int) ≠ 0 by omega)
            have hm1 := Int.emod_lt_of_pos (rd l (i : Int)) hr
            have hb0 : ∀ q : Int, 0 ≤ q → q < (raw.length : Int) → BT [rd raw q] := fun q q0 q1 z hz => by
              rw [List.mem_singleton.1 hz]
              unfold rd
              rw [List.getD_eq_getElem?_getD, List.getElem?_eq_getElem (by omega)]
              exact hraw _ (List.getElem_mem _)
            have hb := hb0 _ hm0 hm1
            obtain ⟨x, h1, h2, h3⟩ := ih (i + 1) (by omega) (by omega) (by omega) (acc ++ [rd raw (rd l (i : Int) % (raw.length : Int))]) (hB.app hb) (by rw [List.length_append, List.length_singleton]; omega)
            refine ⟨x, h1, h2, Ev.step (fun f => ?_) h3⟩
            simp only [redpenlaw11_Bits.l0]
            rw [if_pos (by omega), if_pos (by omega), if_pos (by omega), if_neg (by omega), ex, if_neg hk, if_pos hr, if_neg (by omega), ht, if_pos hm0, if_pos hm1, if_pos (by omega), ew]
          · obtain ⟨x, h1, h2, h3⟩ := ih (i + 1) (by omega) (by omega) (by omega) acc hB (by omega)
            refine ⟨x, h1, h2, Ev.step (fun f => ?_) h3⟩
            simp only [redpenlaw11_Bits.l0]
            rw [if_pos (by omega), if_pos (by omega), if_pos (by omega), if_neg (by omega), ex, if_neg hk, if_neg hr, ew]
    · refine ⟨acc, hB, by omega, ⟨1, fun k hk => ?_⟩⟩
      obtain ⟨k, rfl⟩ : ∃ m, k = m + 1 := ⟨k - 1, by omega⟩
      simp only [redpenlaw11_Bits.l0]
      rw [if_neg (by omega)]
theorem bits_eq (ps : List ByteArray) (hp : ∀ p ∈ ps, p.size ≤ 40) (raw l : List Int) (hraw : BT raw) (hl : BT l) (hn : l.length ≤ 140737488351232) (hrn : raw.length < 100000000) :
    ∃ x, BT x ∧ x.length ≤ 2400 ∧ Ev (fun f => redpenlaw11_Bits.f f ps l raw) x :=
  bits_from ps hp raw l hraw hl hn hrn 61 0 rfl (by omega) (by omega) [] (fun _ h => by cases h) (by simp)
end Go.Proofs.YtkflgnhcfhmkdaaDoor.PPragmaReads
end
