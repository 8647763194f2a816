/- The printed functions are the plain ones. -/
import Derived.Test.YtkflgnhcfhmkdaaDoorPPragmaWordsx
import Derived.Test.YtkflgnhcfhmkdaaDoorHM
import Derived.Lib.CutLaws
section
/- A text's lines as the index tells them. -/
namespace Go.Proofs.YtkflgnhcfhmkdaaDoor.Pure
open Go.RowKit Go.Proofs.YtkflgnhcfhmkdaaDoor.PPragmaWords Go.Proofs.YtkflgnhcfhmkdaaDoorW.PrintWords Go.Proofs.YtkflgnhcfhmkdaaDoorW.PrintLast
open Go.Proofs.YtkflgnhcfhmkdaaDoor.M Go.Proofs.YtkflgnhcfhmkdaaDoor.X
set_option linter.unusedVariables false
set_option linter.unusedSimpArgs false

theorem new_eq {b : List Int} (hl : b.length < 100000000000) : lines_New.f b = some [b] := by
  unfold lines_New.f
  rw [if_pos hl]
theorem nlines_eq {b : List Int} (hl : b.length < 100000000000) : lines_Index_Lines.f [b] = some ((ls b).length : Int) := by
  show (if b.length < 100000000000 then some (nlines b) else none) = _
  rw [if_pos hl, nlines_ls]
theorem span_in {b : List Int} (hl : b.length < 100000000000) (j : Nat) (hj : j < (ls b).length) : lines_Index_Span.f [b] ((j : Int) + 1) = some ((off (ls b) j : Int), (((ls b).getD j []).length : Int), 0) := by
  show (if b.length < 100000000000 then (if (j : Int) + 1 < 1 then some (0, 0, 2) else if nlines b < (j : Int) + 1 then some (0, 0, 2) else some ((spanOf b ((j : Int) + 1)).1, (spanOf b ((j : Int) + 1)).2, 0)) else none) = _
  have h2 := begins_next b j hj
  have h3 := off_succ (ls b) j hj
  rw [if_pos hl, if_neg (by omega), nlines_ls, if_neg (by omega)]
  unfold spanOf
  simp only
  rw [show ((j : Int) + 1).toNat - 1 = j by omega, show ((j : Int) + 1).toNat = j + 1 by omega, begins_lt b j hj, h2, h3]
  congr 3
  omega
end Go.Proofs.YtkflgnhcfhmkdaaDoor.Pure
end
section
/- pragma.asks and pragma.Read, as printed, in plain words; a text whose lines ask for no words. -/
namespace Go.Proofs.YtkflgnhcfhmkdaaDoor.Pure
open Go.RowKit Go.Proofs.YtkflgnhcfhmkdaaDoor.PPragmaWords Go.Proofs.YtkflgnhcfhmkdaaDoorW.PrintWords Go.Proofs.YtkflgnhcfhmkdaaDoorW.PrintLast Go.Proofs.YtkflgnhcfhmkdaaDoor.X
open Go.Proofs.YtkflgnhcfhmkdaaDoor.M Go.Proofs.YtkflgnhcfhmkdaaDoor.H
set_option linter.unusedVariables false
set_option linter.unusedSimpArgs false

abbrev Ak := S57
abbrev mk : ByteArray := ⟨#[115, 112, 101, 108, 108, 58]⟩
theorem hw (x : Int) (n : Nat) (h : x = (n : Int)) (hb : n < 9223372036854775808) : wrap64 x = (n : Int) := by rw [h]; exact w64 (by omega) (by omega)
/-- How many small letters, from a place on. -/
def leadF (s : ByteArray) : Nat → Nat → Nat
  | 0, i => i
  | d + 1, i => if 97 ≤ bt s (i : Int) then (if bt s (i : Int) ≤ 122 then leadF s d (i + 1) else i) else i
def leadB (s : ByteArray) : Nat := leadF s s.size 0
theorem leadF_le (s : ByteArray) : ∀ d i, i ≤ leadF s d i ∧ leadF s d i ≤ i + d
  | 0, i => ⟨Nat.le_refl _, Nat.le_refl _⟩
  | d + 1, i => by
    have ih := leadF_le s d (i + 1)
    unfold leadF
    split
    · split <;> omega
    · omega
theorem leadB_le (s : ByteArray) : leadB s ≤ s.size := by have := (leadF_le s s.size 0).2; unfold leadB; omega
/-- What a line asks. -/
def asksM : Nat → ByteArray → List Ak
  | 0, _ => []
  | f + 1, s => if (cutB s mk).2.2 = true then ⟨(cutB s mk).2.1.extract 0 (leadB (cutB s mk).2.1), (cutB s mk).2.1.extract (leadB (cutB s mk).2.1) (cutB s mk).2.1.size⟩ :: asksM f ((cutB s mk).2.1.extract (leadB (cutB s mk).2.1) (cutB s mk).2.1.size) else []
theorem asksM_len : ∀ (f : Nat) (s : ByteArray), (asksM f s).length ≤ f
  | 0, _ => Nat.le_refl _
  | f + 1, s => by
    unfold asksM
    split
    · have := asksM_len f ((cutB s mk).2.1.extract (leadB (cutB s mk).2.1) (cutB s mk).2.1.size)
      rw [List.length_cons]; omega
    · simp
theorem cut_small (s : ByteArray) (h : (cutB s mk).2.2 = true) : (cutB s mk).2.1.size + 6 ≤ s.size := by
  unfold cutB Lib.cut at h ⊢
  split at h
  · rename_i hi
    rw [if_pos hi]
    have hr := Lib.index_room s.data.toList mk.data.toList hi
    have e : s.data.toList.length = s.size := by rw [Array.length_toList]; rfl
    have e2 : mk.data.toList.length = 6 := rfl
    show (List.drop ((Lib.index s.data.toList mk.data.toList).toNat + mk.data.toList.length) s.data.toList).toArray.size + 6 ≤ _
    rw [List.size_toArray, List.length_drop]
    omega
  · cases h
section
variable {R : List Ak}
theorem asks_l1 (acc : List Ak) (x : ByteArray) (hx : x.size ≤ 1000000) (ha : acc.length ≤ 10000000)
    (cont : Ev (fun k => pragma_asks.l0 k (x.extract (leadB x) x.size) (acc ++ [(⟨x.extract 0 (leadB x), x.extract (leadB x) x.size⟩ : Ak)])) R) :
    ∀ (d i : Nat), i + d = x.size → leadF x d i = leadB x → Ev (fun k => pragma_asks.l1 k acc x (i : Int)) R := by
  have hl := leadB_le x
  intro d
  induction d with
  | zero =>
    intro i hi he
    have e : i = leadB x := he
    refine Ev.step (fun k => ?_) cont
    simp only [pragma_asks.l1]
    rw [if_neg (by omega), if_pos (by omega), if_pos (by omega), if_pos (by omega), Int.toNat_natCast, e]
  | succ d ih =>
    intro i hi he
    have hlt : i < x.size := by omega
    unfold leadF at he
    by_cases c1 : 97 ≤ bt x (i : Int)
    · rw [if_pos c1] at he
      by_cases c2 : bt x (i : Int) ≤ 122
      · rw [if_pos c2] at he
        refine Ev.step (fun k => ?_) (ih (i + 1) (by omega) he)
        simp only [pragma_asks.l1]
        rw [if_pos (by omega), if_pos (by omega), if_pos (by omega), if_pos c2, hw ((i : Int) + 1) (i + 1) (by omega) (by omega)]
      · rw [if_neg c2] at he
        refine Ev.step (fun k => ?_) cont
        simp only [pragma_asks.l1]
        rw [if_pos (by omega), if_pos (by omega), if_pos (by omega), if_neg c2, if_pos (by omega), if_pos (by omega), Int.toNat_natCast, he]
    · rw [if_neg c1] at he
      refine Ev.step (fun k => ?_) cont
      simp only [pragma_asks.l1]
      rw [if_pos (by omega), if_pos (by omega), if_neg (by omega), if_pos (by omega), if_pos (by omega), Int.toNat_natCast, he]
end
theorem asks_l0 : ∀ (f : Nat) (s : ByteArray) (acc : List Ak), s.size < f → s.size ≤ 1000000 → acc.length + s.size ≤ 5000000 → Ev (fun k => pragma_asks.l0 k s acc) (acc ++ asksM f s) := by
  intro f
  induction f with
  | zero => intro s acc h; omega
  | succ f ih =>
    intro s acc hf hs ha
    have hc : strings_Cut.f s mk = some (cutB s mk) := by
      unfold strings_Cut.f
      rw [if_pos (by omega)]
    unfold asksM
    by_cases h : (cutB s mk).2.2 = true
    · have hz := cut_small s h
      rw [if_pos h]
      have hxt := h
      obtain ⟨x, hxe⟩ : ∃ x, (cutB s mk).2.1 = x := ⟨_, rfl⟩
      rw [hxe] at hz ⊢
      have hx : (x.extract (leadB x) x.size).size ≤ x.size := by rw [ByteArray.size_extract]; omega
      have hn := ih (x.extract (leadB x) x.size) (acc ++ [(⟨x.extract 0 (leadB x), x.extract (leadB x) x.size⟩ : Ak)]) (by omega) (by omega) (by rw [List.length_append, List.length_singleton]; omega)
      rw [List.append_assoc] at hn
      have hn2 := asks_l1 acc x (by omega) (by omega) hn x.size 0 (by omega) rfl
      refine Ev.step (fun k => ?_) hn2
      simp only [pragma_asks.l0, hc, Option.bind_some]
      rw [if_pos hxt, hxe]
      rfl
    · rw [if_neg h, List.append_nil]
      refine Ev.step (f := fun _ => some acc) (fun k => ?_) (Ev.now _)
      simp only [pragma_asks.l0, hc, Option.bind_some]
      rw [if_neg h]
theorem asks_ev (s : ByteArray) (hs : s.size ≤ 1000000) : Ev (fun k => pragma_asks.f k s) (asksM (s.size + 1) s) := asks_l0 (s.size + 1) s [] (by omega) hs (by simp; omega)
/-! ### Read, where no line asks for words -/
def NoWords (qs : List Ak) : Prop := ∀ a ∈ qs, a.f0.toList ≠ ([119, 111, 114, 100, 115] : List UInt8)
def stepQ : List Ak → Bool → Bool → Bool → Bool × Bool × Bool
  | [], off, next, skip => (off, next, skip)
  | a :: t, off, next, skip =>
    if a.f0.toList = ([111, 102, 102] : List UInt8) then stepQ t true next true
    else if a.f0.toList = ([108, 105, 110, 101] : List UInt8) then stepQ t off next true
    else if a.f0.toList = ([111, 110] : List UInt8) then stepQ t false next skip
    else if a.f0.toList = ([110, 101, 120, 116] : List UInt8) then stepQ t off true skip
    else stepQ t off next skip
/-- The spans of the lines that are left alone. -/
def offsQ (A : List Int → List Ak) : List (List Int) → Nat → Bool → Bool → List (Int × Int)
  | [], _, _, _ => []
  | l :: t, p, off, next => (if (stepQ (A l) off false (off || next)).2.2 = true then [((p : Int), (l.length : Int))] else []) ++ offsQ A t (p + l.length) (stepQ (A l) off false (off || next)).1 (stepQ (A l) off false (off || next)).2.1
section
variable (b : List Int) (hl : b.length ≤ 1000000) (A : List Int → List Ak) (hA : ∀ l ∈ ls b, Ev (fun k => pragma_asks.f k (strOfNums l)) (A l) ∧ NoWords (A l) ∧ (A l).length < 1000000000000)
include hl hA
end
end Go.Proofs.YtkflgnhcfhmkdaaDoor.Pure
end
section
/- What a line asks, place by place. -/
namespace Go.Proofs.YtkflgnhcfhmkdaaDoor.Pure
open Go.RowKit Go.Proofs.YtkflgnhcfhmkdaaDoor.PPragmaWords Go.Proofs.YtkflgnhcfhmkdaaDoorW.PrintWords Go.Proofs.YtkflgnhcfhmkdaaDoorW.PrintLast Go.Proofs.YtkflgnhcfhmkdaaDoor.X
open Go.Proofs.YtkflgnhcfhmkdaaDoor.M Go.Proofs.YtkflgnhcfhmkdaaDoor.H
set_option linter.unusedVariables false
set_option linter.unusedSimpArgs false

abbrev mkL : List UInt8 := [115, 112, 101, 108, 108, 58]
def endP (s : ByteArray) (p : Nat) : Nat := leadF s (s.size - (p + 6)) (p + 6)
theorem endP_le (s : ByteArray) (p : Nat) (h : p + 6 ≤ s.size) : p + 6 ≤ endP s p ∧ endP s p ≤ s.size := by
  have := leadF_le s (s.size - (p + 6)) (p + 6)
  unfold endP
  omega
def asksP : Nat → ByteArray → Nat → List Ak
  | 0, _, _ => []
  | f + 1, s, p => if p + 6 ≤ s.size then (if (s.extract p (p + 6)).toList = mkL then ⟨s.extract (p + 6) (endP s p), s.extract (endP s p) s.size⟩ :: asksP f s (endP s p) else asksP f s (p + 1)) else []
theorem ext_ext (s : ByteArray) (p i j : Nat) (hp : p ≤ s.size) : (s.extract p s.size).extract i j = s.extract (p + i) (min (p + j) s.size) := by
  rw [ByteArray.extract_extract]
theorem bt_ext (s : ByteArray) (q i : Nat) (h : q + i < s.size) : bt (s.extract q s.size) (i : Int) = bt s ((q + i : Nat) : Int) := by
  unfold bt
  rw [dif_pos (by rw [Int.toNat_natCast, ByteArray.size_extract]; omega), dif_pos (by rw [Int.toNat_natCast]; exact h)]
  simp only [Int.toNat_natCast, ByteArray.getElem_extract]
theorem lead_ext (s : ByteArray) (q : Nat) : ∀ d i, q + i + d ≤ s.size → leadF s d (q + i) = q + leadF (s.extract q s.size) d i
  | 0, i, _ => rfl
  | d + 1, i, h => by
    have ih := lead_ext s q d (i + 1) (by omega)
    unfold leadF
    rw [bt_ext s q i (by omega), show q + i + 1 = q + (i + 1) by omega, ih]
    split
    · split <;> rfl
    · rfl
theorem cut_skip (b : UInt8) (l sep : List UInt8) (h : sep.isPrefixOf (b :: l) = false) : (Lib.cut (b :: l) sep).2 = (Lib.cut l sep).2 := by
  have hg := Lib.index_ge l sep
  have e : Lib.index (b :: l) sep = if Lib.index l sep == -1 then -1 else Lib.index l sep + 1 := by
    show (if sep.isPrefixOf (b :: l) then (0 : Int) else _) = _
    rw [h, if_neg (by decide)]
  unfold Lib.cut
  by_cases c : Lib.index l sep = -1
  · have e2 : Lib.index (b :: l) sep = -1 := by rw [e, c]; rfl
    rw [e2, c, if_neg (by decide), if_neg (by decide)]
  · have e2 : Lib.index (b :: l) sep = Lib.index l sep + 1 := by
      rw [e, if_neg (by rw [beq_iff_eq]; exact c)]
    have e3 : (Lib.index l sep + 1).toNat + sep.length = ((Lib.index l sep).toNat + sep.length) + 1 := by omega
    rw [e2, if_pos (by omega), if_pos (by omega), e3]
    rfl
theorem tail_data (s : ByteArray) (p : Nat) : (s.extract p s.size).data.toList = s.data.toList.drop p := by
  rw [Lib.extract_data, List.take_of_length_le]
  rw [List.length_drop, Array.length_toList]
  exact Nat.le_refl _
theorem asks_P (s : ByteArray) : ∀ (g p f : Nat), s.size - p < g → s.size - p < f → p ≤ s.size → asksM f (s.extract p s.size) = asksP g s p := by
  have hsz : s.data.toList.length = s.size := by rw [Array.length_toList]; rfl
  intro g
  induction g with
  | zero => intro p f h; omega
  | succ g ih =>
    intro p f hg hf hp
    obtain ⟨f, rfl⟩ : ∃ m, f = m + 1 := ⟨f - 1, by omega⟩
    have hu := tail_data s p
    have hus : (s.extract p s.size).size = s.size - p := by rw [ByteArray.size_extract]; omega
    unfold asksP
    by_cases c6 : p + 6 ≤ s.size
    · rw [if_pos c6]
      by_cases cm : (s.extract p (p + 6)).toList = mkL
      · rw [if_pos cm]
        have hpre : List.isPrefixOf mkL (s.data.toList.drop p) = true := by
          rw [Lib.extract_toList, show p + 6 - p = 6 by omega] at cm
          rw [List.isPrefixOf_iff_prefix, ← cm]
          exact List.take_prefix _ _
        have hi : Lib.indexB (s.extract p s.size) mk = ((0 : Nat) : Int) := by
          show Lib.index (s.extract p s.size).data.toList mk.data.toList = _
          rw [hu]
          exact Lib.index_first (i := 0) (Nat.zero_le _) (by unfold Lib.occAt; rw [List.drop_zero]; exact hpre) (fun j h => by omega)
        obtain ⟨_, h2, h3⟩ := Lib.cutB_hit (s.extract p s.size) mk 0 hi
        have h2' : (cutB (s.extract p s.size) mk).2.1 = s.extract (p + 6) s.size := by
          refine h2.trans ?_
          rw [ext_ext s p _ _ hp, hus]
          congr 1 <;> omega
        have h3' : (cutB (s.extract p s.size) mk).2.2 = true := h3
        unfold asksM
        rw [if_pos h3', h2']
        have hl := lead_ext s (p + 6) (s.size - (p + 6)) 0 (by omega)
        have hxs : (s.extract (p + 6) s.size).size = s.size - (p + 6) := by rw [ByteArray.size_extract]; omega
        have he := endP_le s p c6
        have hel : p + 6 + leadB (s.extract (p + 6) s.size) = endP s p := by
          unfold leadB endP
          rw [hxs, ← hl]
        have h4 : (s.extract (p + 6) s.size).extract 0 (leadB (s.extract (p + 6) s.size)) = s.extract (p + 6) (endP s p) := by
          rw [ext_ext s (p + 6) _ _ c6, hel]
          rw [Nat.min_eq_left he.2, Nat.add_zero]
        have h5 : (s.extract (p + 6) s.size).extract (leadB (s.extract (p + 6) s.size)) (s.extract (p + 6) s.size).size = s.extract (endP s p) s.size := by
          rw [ext_ext s (p + 6) _ _ c6, hel, hxs]
          congr 1 <;> omega
        rw [h4, h5, ih (endP s p) f (by omega) (by omega) he.2]
      · rw [if_neg cm]
        have hlt : p < s.data.toList.length := by omega
        have hd : s.data.toList.drop p = s.data.toList[p] :: s.data.toList.drop (p + 1) := List.drop_eq_getElem_cons hlt
        have hpre : List.isPrefixOf mkL (s.data.toList[p] :: s.data.toList.drop (p + 1)) = false := by
          rw [← hd, Bool.eq_false_iff]
          intro h
          rw [List.isPrefixOf_iff_prefix] at h
          apply cm
          rw [Lib.extract_toList, show p + 6 - p = 6 by omega]
          exact (List.prefix_iff_eq_take.1 h).symm
        have hc : (cutB (s.extract p s.size) mk).2 = (cutB (s.extract (p + 1) s.size) mk).2 := by
          unfold cutB
          rw [hu, tail_data s (p + 1), hd]
          have := cut_skip s.data.toList[p] (s.data.toList.drop (p + 1)) mk.data.toList hpre
          rw [this]
        rw [← ih (p + 1) (f + 1) (by omega) (by omega) (by omega)]
        unfold asksM
        rw [hc]
    · rw [if_neg c6]
      have hi : Lib.indexB (s.extract p s.size) mk = -1 := by
        rcases Lib.indexB_cases (s.extract p s.size) mk with h | ⟨i, h, hr⟩
        · exact h
        · have : mk.size = 6 := rfl
          omega
      have h3 : (cutB (s.extract p s.size) mk).2.2 = false := (Lib.cutB_miss (s.extract p s.size) mk hi).2.2
      unfold asksM
      rw [h3, if_neg (by decide)]
theorem asks_zero (s : ByteArray) : asksM (s.size + 1) s = asksP (s.size + 1) s 0 := by
  have h := asks_P s (s.size + 1) 0 (s.size + 1) (by omega) (by omega) (Nat.zero_le _)
  rw [ByteArray.extract_zero_size] at h
  exact h
theorem asksM_f1 : ∀ (f : Nat) (s : ByteArray), ∀ a ∈ asksM f s, a.f1.size ≤ s.size
  | 0, _, a, h => by cases h
  | f + 1, s, a, h => by
    unfold asksM at h
    split at h
    · rename_i hc
      have hz := cut_small s hc
      generalize (cutB s mk).2.1 = x at *
      rcases List.mem_cons.1 h with rfl | h
      · show (x.extract _ _).size ≤ _
        rw [ByteArray.size_extract]; omega
      · have := asksM_f1 f _ a h
        rw [ByteArray.size_extract] at this
        omega
    · cases h
end Go.Proofs.YtkflgnhcfhmkdaaDoor.Pure
end
section
/- The printed functions of utf are the plain ones: utf.Next, utf.Units. -/
namespace Go.Proofs.YtkflgnhcfhmkdaaDoor.PPragmaWords
open Go.RowKit Go.Proofs.YtkflgnhcfhmkdaaDoorW.PrintWords Go.Proofs.YtkflgnhcfhmkdaaDoorW.PrintLast Go.Proofs.YtkflgnhcfhmkdaaDoorW.PrintMore
open Go.Proofs.YtkflgnhcfhmkdaaDoor.M
set_option linter.unusedVariables false
set_option linter.unusedSimpArgs false

theorem first_a (m : Nat) {c : Int} (h0 : 0 ≤ c) (h : c < 128) : utf_first.f m c = some (c, 0, 0, true) := by
  unfold utf_first.f
  rw [if_pos h, w32 (x := c) (by omega) (by omega)]
theorem first_b (m : Nat) {c : Int} (h0 : 194 ≤ c) (h1 : c < 224) : utf_first.f (m + 1 + 1) c = some (c - 192, 1, 128, true) := by
  unfold utf_first.f
  rw [if_neg (by omega), if_pos h0]
  simp only [utf_first.j0]
  rw [if_pos (decide_eq_true h1), u8_and31 c (by omega) (by omega), w32 (x := c % 32) (by omega) (by omega)]
  congr 2; omega
theorem first_c (m : Nat) {c : Int} (h0 : 224 ≤ c) (h1 : c < 240) : utf_first.f (m + 1 + 1) c = some (c - 224, 2, 2048, true) := by
  unfold utf_first.f
  rw [if_neg (by omega), if_pos (by omega)]
  simp only [utf_first.j0, utf_first.j1]
  rw [if_neg (by rw [decide_eq_true_eq]; omega), if_pos h0, if_pos (decide_eq_true h1), u8_and15 c (by omega) (by omega), w32 (x := c % 16) (by omega) (by omega)]
  congr 2; omega
theorem first_d (m : Nat) {c : Int} (h0 : 240 ≤ c) (h1 : c < 245) : utf_first.f (m + 1 + 1) c = some (c - 240, 3, 65536, true) := by
  unfold utf_first.f
  rw [if_neg (by omega), if_pos (by omega)]
  simp only [utf_first.j0, utf_first.j1]
  rw [if_neg (by rw [decide_eq_true_eq]; omega), if_pos (by omega), if_neg (by rw [decide_eq_true_eq]; omega), if_pos h0, if_pos h1, u8_and7 c (by omega) (by omega), w32 (x := c % 8) (by omega) (by omega)]
  congr 2; omega
theorem first_e (m : Nat) {c : Int} (h0 : 128 ≤ c) (h : c < 194 ∨ 245 ≤ c) : utf_first.f (m + 1 + 1) c = some (0, 0, 0, false) := by
  unfold utf_first.f
  rw [if_neg (by omega)]
  by_cases h1 : c ≥ 194
  · rw [if_pos h1]
    simp only [utf_first.j0, utf_first.j1]
    rw [if_neg (by rw [decide_eq_true_eq]; omega), if_pos (by omega), if_neg (by rw [decide_eq_true_eq]; omega), if_pos (by omega), if_neg (by omega)]
  · rw [if_neg h1]
    simp only [utf_first.j0, utf_first.j1]
    rw [if_neg (by simp)]
    by_cases h2 : c ≥ 224
    · omega
    · rw [if_neg h2, if_neg (by simp), if_neg (by omega)]
theorem step_T (k : Nat) (r more least c : Int) (l : List Int) (n i : Int) (hi : 0 ≤ i) (hn : i < n) (hl : i < (l.length : Int)) (hc : rd l i = c) (h0 : 0 ≤ c) (h1 : c < 256) (hr0 : 0 ≤ r) (hr : r < 33554432) (hi' : i < 1000) :
    utf_Next.l0 (k + 1) r more least l n i = if isT c = true then utf_Next.l0 k (r * 64 + (c - 128)) more least l n (i + 1) else some (-1, 1) := by
  have e1 : Go.bits .and .u8 c 192 = c / 64 * 64 := by
    have : ∀ x : Fin 256, Go.bits .and .u8 ((x.val : Nat) : Int) 192 = ((x.val : Nat) : Int) / 64 * 64 := by decide +kernel
    have h := this ⟨c.toNat, by omega⟩
    simpa [Int.toNat_of_nonneg h0] using h
  simp only [utf_Next.l0]
  rw [if_pos hn, if_pos hi, if_pos hl, hc, e1]
  by_cases hT : isT c = true
  · have hT' := (isT_iff c).1 hT
    rw [if_pos (by omega), if_pos hT, u8_and63 c h0 h1, w32 (x := r * 64) (by omega) (by omega), w32 (x := c % 64) (by omega) (by omega), i32_or6 (r * 64) (c % 64) (by omega) (by omega) (by omega) (by omega) (by omega), w64 (x := i + 1) (by omega) (by omega)]
    congr 1; omega
  · have hT' : ¬ (128 ≤ c ∧ c < 192) := fun h => hT ((isT_iff c).2 h)
    rw [if_neg (by omega), if_neg hT]
theorem end_T (k : Nat) (r more least : Int) (l : List Int) (n : Int) (hr : least ≤ r) (hr1 : r ≤ 1114111) (hs : ¬ (55296 ≤ r ∧ r < 57344)) (hm0 : 0 ≤ more) (hm : more < 10) :
    utf_Next.l0 (k + 1) r more least l n n = some (r, 1 + more) := by
  simp only [utf_Next.l0]
  rw [if_neg (by omega), if_neg (by omega), if_neg (by omega), w64 (x := 1 + more) (by omega) (by omega)]
  by_cases h : r ≥ 55296
  · rw [if_pos h, if_neg (by omega)]
  · rw [if_neg h]
theorem end_F (k : Nat) (r more least : Int) (l : List Int) (n : Int) (h : r < least ∨ 1114111 < r ∨ (55296 ≤ r ∧ r < 57344)) :
    utf_Next.l0 (k + 1) r more least l n n = some (-1, 1) := by
  simp only [utf_Next.l0]
  rw [if_neg (by omega)]
  by_cases h1 : r < least
  · rw [if_pos h1]
  · rw [if_neg h1]
    by_cases h2 : r > 1114111
    · rw [if_pos h2]
    · rw [if_neg h2, if_pos (by omega), if_pos (by omega)]
theorem j0_short (k : Nat) (b : List Int) (r more least : Int) : utf_Next.j0 (k + 1) b r more least true = some (-1, 1) := by
  simp only [utf_Next.j0, ↓reduceIte]
theorem j0_long (k : Nat) (b : List Int) (r more least : Int) (hm0 : 0 ≤ more) (hn : more < (b.length : Int)) (hn' : more < 10) :
    utf_Next.j0 (k + 1) b r more least false = utf_Next.l0 k r more least ((b.take (more.toNat + 1)).drop 1) more 0 := by
  simp only [utf_Next.j0]
  have e : wrap64 (1 + more) = 1 + more := w64 (by omega) (by omega)
  have e3 : (1 + more).toNat = more.toNat + 1 := by omega
  have e2 : (((b.take (more.toNat + 1)).drop 1).length : Int) = more := by rw [List.length_drop, List.length_take]; omega
  rw [if_neg (by simp), e, if_pos (by omega), if_pos (by omega), e3]
  simp only [Option.bind_some]
  rw [e2]
theorem next_eq {k : Nat} (hk : 6 ≤ k) {b : List Int} (hB : BT b) : utf_Next.f k b = some (nx b) := by
  obtain ⟨m, rfl⟩ : ∃ m, k = m + 1 + 1 + 1 + 1 + 1 + 1 := ⟨k - 6, by omega⟩
  rcases b with _ | ⟨c, t⟩
  · rfl
  have hc := hB.head
  have hl : (((c :: t).length : Nat) : Int) = t.length + 1 := by simp
  unfold utf_Next.f
  rw [if_neg (by rw [hl]; omega), if_pos (by rw [hl]; omega), show rd (c :: t) 0 = c from rfl]
  by_cases h1 : c < 128
  · rw [first_a _ hc.1 h1]
    simp only [Option.bind_some, ↓reduceIte]
    rw [decide_eq_false (by rw [hl]; omega), j0_long (m + 1 + 1 + 1 + 1 + 1) (c :: t) c 0 0 (by omega) (by rw [hl]; omega) (by omega), end_T (m + 1 + 1 + 1 + 1) c 0 0 _ 0 hc.1 (by omega) (by omega) (by omega) (by omega)]
    simp [nx, h1]
  by_cases h2 : 194 ≤ c ∧ c < 224
  · rw [first_b (m + 1 + 1 + 1 + 1) h2.1 h2.2]
    simp only [Option.bind_some, ↓reduceIte]
    rcases t with _ | ⟨c1, t⟩
    · rw [decide_eq_true (by simp), j0_short]; simp [nx, h1, h2]
    · have b1 := hB.tail.head
      rw [decide_eq_false (by simp; omega), j0_long (m + 1 + 1 + 1 + 1 + 1) (c :: c1 :: t) (c - 192) 1 128 (by omega) (by simp; omega) (by omega)]
      rw [show ((c :: c1 :: t).take ((1 : Int).toNat + 1)).drop 1 = [c1] from rfl]
      rw [step_T (m + 1 + 1 + 1 + 1) (c - 192) 1 128 c1 [c1] 1 0 (by omega) (by omega) (by simp) rfl b1.1 b1.2 (by omega) (by omega) (by omega)]
      by_cases hT : isT c1 = true
      · have := (isT_iff c1).1 hT
        rw [if_pos hT, show (0 : Int) + 1 = 1 from rfl, end_T (m + 1 + 1 + 1) ((c - 192) * 64 + (c1 - 128)) 1 128 [c1] 1 (by omega) (by omega) (by omega) (by omega) (by omega)]
        simp [nx, h1, h2, hT, v2]
      · rw [if_neg hT]; simp [nx, h1, h2, hT]
  by_cases h3 : 224 ≤ c ∧ c < 240
  · rw [first_c (m + 1 + 1 + 1 + 1) h3.1 h3.2]
    simp only [Option.bind_some, ↓reduceIte]
    rcases t with _ | ⟨c1, _ | ⟨c2, t⟩⟩
    · rw [decide_eq_true (by simp), j0_short]; simp [nx, h1, h2, h3]
    · rw [decide_eq_true (by simp), j0_short]; simp [nx, h1, h2, h3]
    · have b1 := hB.tail.head
      have b2 := hB.tail.tail.head
      rw [decide_eq_false (by simp; omega), j0_long (m + 1 + 1 + 1 + 1 + 1) (c :: c1 :: c2 :: t) (c - 224) 2 2048 (by omega) (by simp; omega) (by omega)]
      rw [show ((c :: c1 :: c2 :: t).take ((2 : Int).toNat + 1)).drop 1 = [c1, c2] from rfl]
      rw [step_T (m + 1 + 1 + 1 + 1) (c - 224) 2 2048 c1 [c1, c2] 2 0 (by omega) (by omega) (by simp) rfl b1.1 b1.2 (by omega) (by omega) (by omega)]
      simp only [nx]
      rw [if_neg h1, if_neg h2, if_pos h3]
      by_cases hT : isT c1 = true
      · have t1 := (isT_iff c1).1 hT
        rw [if_pos hT, step_T (m + 1 + 1 + 1) ((c - 224) * 64 + (c1 - 128)) 2 2048 c2 [c1, c2] 2 (0 + 1) (by omega) (by omega) (by simp) rfl b2.1 b2.2 (by omega) (by omega) (by omega)]
        by_cases hT2 : isT c2 = true
        · have t2 := (isT_iff c2).1 hT2
          rw [if_pos hT2, show (0 : Int) + 1 + 1 = 2 from rfl]
          by_cases hv : 2048 ≤ v3 c c1 c2 ∧ ¬ (55296 ≤ v3 c c1 c2 ∧ v3 c c1 c2 < 57344)
          · rw [if_pos ⟨hT, hT2, hv.1, hv.2⟩]
            exact end_T (m + 1 + 1) (v3 c c1 c2) 2 2048 [c1, c2] 2 hv.1 (by unfold v3; omega) hv.2 (by omega) (by omega)
          · rw [if_neg (fun h => hv h.2.2)]
            exact end_F (m + 1 + 1) (v3 c c1 c2) 2 2048 [c1, c2] 2 (by omega)
        · rw [if_neg hT2, if_neg (fun h => hT2 h.2.1)]
      · rw [if_neg hT, if_neg (fun h => hT h.1)]
  by_cases h4 : 240 ≤ c ∧ c < 245
  · rw [first_d (m + 1 + 1 + 1 + 1) h4.1 h4.2]
    simp only [Option.bind_some, ↓reduceIte]
    rcases t with _ | ⟨c1, _ | ⟨c2, _ | ⟨c3, t⟩⟩⟩
    · rw [decide_eq_true (by simp), j0_short]; simp [nx, h1, h2, h3, h4]
    · rw [decide_eq_true (by simp), j0_short]; simp [nx, h1, h2, h3, h4]
    · rw [decide_eq_true (by simp), j0_short]; simp [nx, h1, h2, h3, h4]
    · have b1 := hB.tail.head
      have b2 := hB.tail.tail.head
      have b3 := hB.tail.tail.tail.head
      rw [decide_eq_false (by simp; omega), j0_long (m + 1 + 1 + 1 + 1 + 1) (c :: c1 :: c2 :: c3 :: t) (c - 240) 3 65536 (by omega) (by simp; omega) (by omega)]
      rw [show ((c :: c1 :: c2 :: c3 :: t).take ((3 : Int).toNat + 1)).drop 1 = [c1, c2, c3] from rfl]
      rw [step_T (m + 1 + 1 + 1 + 1) (c - 240) 3 65536 c1 [c1, c2, c3] 3 0 (by omega) (by omega) (by simp) rfl b1.1 b1.2 (by omega) (by omega) (by omega)]
      simp only [nx]
      rw [if_neg h1, if_neg h2, if_neg h3, if_pos h4]
      by_cases hT : isT c1 = true
      · have t1 := (isT_iff c1).1 hT
        rw [if_pos hT, step_T (m + 1 + 1 + 1) ((c - 240) * 64 + (c1 - 128)) 3 65536 c2 [c1, c2, c3] 3 (0 + 1) (by omega) (by omega) (by simp) rfl b2.1 b2.2 (by omega) (by omega) (by omega)]
        by_cases hT2 : isT c2 = true
        · have t2 := (isT_iff c2).1 hT2
          rw [if_pos hT2, step_T (m + 1 + 1) (((c - 240) * 64 + (c1 - 128)) * 64 + (c2 - 128)) 3 65536 c3 [c1, c2, c3] 3 (0 + 1 + 1) (by omega) (by omega) (by simp) rfl b3.1 b3.2 (by omega) (by omega) (by omega)]
          by_cases hT3 : isT c3 = true
          · have t3 := (isT_iff c3).1 hT3
            rw [if_pos hT3, show (0 : Int) + 1 + 1 + 1 = 3 from rfl]
            by_cases hv : 65536 ≤ v4 c c1 c2 c3 ∧ v4 c c1 c2 c3 ≤ 1114111
            · rw [if_pos ⟨hT, hT2, hT3, hv.1, hv.2⟩]
              exact end_T (m + 1) (v4 c c1 c2 c3) 3 65536 [c1, c2, c3] 3 hv.1 hv.2 (by omega) (by omega) (by omega)
            · rw [if_neg (fun h => hv h.2.2.2)]
              exact end_F (m + 1) (v4 c c1 c2 c3) 3 65536 [c1, c2, c3] 3 (by omega)
          · rw [if_neg hT3, if_neg (fun h => hT3 h.2.2.1)]
        · rw [if_neg hT2, if_neg (fun h => hT2 h.2.1)]
      · rw [if_neg hT, if_neg (fun h => hT h.1)]
  · rw [first_e (m + 1 + 1 + 1 + 1) (by omega) (by omega)]
    simp only [Option.bind_some]
    rw [if_neg (by simp), j0_short]
    simp [nx, h1, h2, h3, h4]

/-- Signs with their places. -/
def mkU : Int → List (Int × Int) → List S73
  | _, [] => []
  | at_, (r, n) :: l => ⟨r, ⟨at_, n⟩⟩ :: mkU (at_ + n) l
theorem mkU_len (a : Int) (l : List (Int × Int)) : (mkU a l).length = l.length := by
  induction l generalizing a with
  | nil => rfl
  | cons x l ih => simp [mkU, ih]
theorem mkU_get (a : Int) (l : List (Int × Int)) (i : Nat) (h : i < l.length) : (mkU a l).getD i z73 = ⟨(l.getD i (0, 0)).1, ⟨a + pos l i, (l.getD i (0, 0)).2⟩⟩ := by
  induction l generalizing a i with
  | nil => simp at h
  | cons x l ih =>
    cases i with
    | zero => simp [mkU, pos]
    | succ i =>
      have := ih (a + x.2) i (by simpa using h)
      simp only [mkU, List.getD_cons_succ, this, pos_cons]
      congr 2
      omega
theorem units_from {b : List Int} (hB : BT b) (hlen : b.length < 5864062014805) : ∀ (d k at_ : Nat) (acc : List S73), b.length - at_ = d → at_ ≤ b.length → d + 7 ≤ k → acc.length ≤ at_ →
    utf_Units.l0 k b acc at_ = some (acc ++ mkU at_ (us (b.drop at_))) := by
  intro d
  induction d using Nat.strongRecOn with
  | _ d ih =>
    intro k at_ acc hd ha hk hac
    obtain ⟨k, rfl⟩ : ∃ m, k = m + 1 := ⟨k - 1, by omega⟩
    simp only [utf_Units.l0]
    by_cases he : at_ < b.length
    · have hne : b.drop at_ ≠ [] := by
        intro h; have := congrArg List.length h; rw [List.length_drop] at this; simp at this; omega
      have hl := nx_len hne
      rw [List.length_drop] at hl
      rw [if_pos (by omega), if_pos (by omega), if_pos (by omega), Int.toNat_natCast, next_eq (by omega) (hB.drop _)]
      simp only [Option.bind_some]
      have e : wrap64 ((at_ : Int) + (nx (b.drop at_)).2) = ((at_ + (nx (b.drop at_)).2.toNat : Nat) : Int) := by
        rw [w64 (by omega) (by omega)]; omega
      rw [if_pos (by omega), e, ih (d - (nx (b.drop at_)).2.toNat) (by omega) k _ _ (by omega) (by omega) (by omega) (by rw [List.length_append]; simp; omega), us_cons hne, List.drop_drop, List.append_assoc]
      simp only [mkU, List.singleton_append]
      congr 4
      omega
    · rw [if_neg (by omega), show b.drop at_ = [] from List.drop_eq_nil_of_le (by omega)]
      simp [us_nil, mkU]
theorem units_eq {b : List Int} (hB : BT b) (hlen : b.length < 5864062014805) {k : Nat} (hk : b.length + 7 ≤ k) : utf_Units.f k b = some (mkU 0 (us b)) := by
  unfold utf_Units.f
  have := units_from hB hlen b.length k 0 [] (by omega) (by omega) (by omega) (by simp)
  simpa using this
end Go.Proofs.YtkflgnhcfhmkdaaDoor.PPragmaWords
end
section
/- The printed utf.Runes is the plain one. -/
namespace Go.Proofs.YtkflgnhcfhmkdaaDoor.PPragmaWords
open Go.RowKit Go.Proofs.YtkflgnhcfhmkdaaDoorW.PrintWords Go.Proofs.YtkflgnhcfhmkdaaDoorW.PrintLast Go.Proofs.YtkflgnhcfhmkdaaDoorW.PrintMore
open Go.Proofs.YtkflgnhcfhmkdaaDoor.M Go.Proofs.YtkflgnhcfhmkdaaDoor.X
set_option linter.unusedVariables false
set_option linter.unusedSimpArgs false

theorem mkU_rune (a : Int) (l : List (Int × Int)) (i : Nat) (h : i < l.length) : (rd_T73 (mkU a l) (i : Int)).f0 = (l.map (·.1)).getD i 0 := by
  unfold rd_T73
  rw [Int.toNat_natCast, mkU_get a l i h]
  rw [List.getD_eq_getElem?_getD, List.getD_eq_getElem?_getD, List.getElem?_map, List.getElem?_eq_getElem h]
  rfl
theorem runes_from (l : List (Int × Int)) (hl : l.length < 35184372088832) : ∀ (d k i : Nat), l.length - i = d → i ≤ l.length → d < k →
    utf_Runes.l0 k ((l.map (·.1)).take i) (mkU 0 l) (l.length : Int) (i : Int) = some (l.map (·.1)) := by
  intro d
  induction d with
  | zero =>
    intro k i hd hi hk
    obtain ⟨k, rfl⟩ : ∃ m, k = m + 1 := ⟨k - 1, by omega⟩
    simp only [utf_Runes.l0]
    rw [if_neg (by omega), List.take_of_length_le (by rw [List.length_map]; omega)]
  | succ d ih =>
    intro k i hd hi hk
    obtain ⟨k, rfl⟩ : ∃ m, k = m + 1 := ⟨k - 1, by omega⟩
    have hlt : i < l.length := by omega
    have ew : wrap64 ((i : Int) + 1) = ((i + 1 : Nat) : Int) := by rw [w64 (by omega) (by omega)]; omega
    simp only [utf_Runes.l0]
    rw [if_pos (by omega), if_pos (by omega), if_pos (by rw [mkU_len]; omega), if_pos (by rw [List.length_take, List.length_map]; omega), mkU_rune 0 l i hlt, ew]
    have := ih k (i + 1) (by omega) (by omega) (by omega)
    rw [List.take_succ_eq_append_getElem (by rw [List.length_map]; exact hlt)] at this
    rw [List.getD_eq_getElem?_getD, List.getElem?_eq_getElem (by rw [List.length_map]; exact hlt)]
    exact this
theorem runes_eq {k : Nat} (s : ByteArray) (hs : s.size < 5864062014805) (hk : s.size + 8 ≤ k) : utf_Runes.f k s = some (rs (bytesOf s)) := by
  unfold utf_Runes.f
  have hB := bytesOf_BT s
  have hl := bytesOf_length s
  have hul := us_len (bytesOf s)
  refine ob (conv_of_str s (by omega)) ?_
  refine ob (units_eq hB (by omega) (by omega)) ?_
  rw [mkU_len]
  exact runes_from (us (bytesOf s)) (by omega) _ _ 0 rfl (by omega) (by omega)
theorem runes_of {k : Nat} {b : List Int} (hB : BT b) (hb : b.length < 5864062014805) (hk : b.length + 8 ≤ k) : utf_Runes.f k (strOfNums b) = some (rs b) := by
  rw [runes_eq (strOfNums b) (by rw [strOfNums_size]; exact hb) (by rw [strOfNums_size]; exact hk), bytesOf_strOfNums hB]
end Go.Proofs.YtkflgnhcfhmkdaaDoor.PPragmaWords
end
section
/- The printed utf.Put and utf.Text are the plain ones. -/
namespace Go.Proofs.YtkflgnhcfhmkdaaDoor.PPragmaWords
open Go.RowKit Go.Proofs.YtkflgnhcfhmkdaaDoorW.PrintWords Go.Proofs.YtkflgnhcfhmkdaaDoorW.PrintLast Go.Proofs.YtkflgnhcfhmkdaaDoorW.PrintMore
open Go.Proofs.YtkflgnhcfhmkdaaDoor.M Go.Proofs.YtkflgnhcfhmkdaaDoor.X
set_option linter.unusedVariables false
set_option linter.unusedSimpArgs false

theorem and191 {x : Int} (h0 : 0 ≤ x) (h1 : x < 256) : Go.bits .and .u8 x 191 = x / 128 * 128 + x % 64 := by
  have : ∀ x : Fin 256, Go.bits .and .u8 ((x.val : Nat) : Int) 191 = ((x.val : Nat) : Int) / 128 * 128 + ((x.val : Nat) : Int) % 64 := by decide +kernel
  have h := this ⟨x.toNat, by omega⟩
  simpa [Int.toNat_of_nonneg h0] using h
theorem or128 {x : Int} (h0 : 0 ≤ x) (h1 : x < 256) : Go.bits .or .u8 128 x = 128 + x % 128 := by
  have : ∀ x : Fin 256, Go.bits .or .u8 128 ((x.val : Nat) : Int) = 128 + ((x.val : Nat) : Int) % 128 := by decide +kernel
  have h := this ⟨x.toNat, by omega⟩
  simpa [Int.toNat_of_nonneg h0] using h
/-- A byte that goes on. -/
theorem tail_byte {x : Int} : Go.bits .or .u8 128 (Go.bits .and .u8 (x % 256) 191) = 128 + x % 64 := by
  rw [and191 (by omega) (by omega), or128 (by omega) (by omega)]
  omega
theorem put_eq {k : Nat} (hk : 1 ≤ k) (b : List Int) (r : Int) (hb : b.length < 140737488355300) :
    utf_Put.f k b r = some (if okR r = true then (b ++ enc r, 0) else ([], 2)) := by
  obtain ⟨k, rfl⟩ : ∃ m, k = m + 1 := ⟨k - 1, by omega⟩
  unfold utf_Put.f
  refine ob rfl ?_
  rw [if_pos (by rw [List.length_nil]; omega)]
  refine ob rfl ?_
  rw [List.nil_append]
  have hbad : utf_Put.j0 (k + 1) r b true = some ([], 2) := by simp only [utf_Put.j0, ↓reduceIte]
  by_cases h0 : r < 0
  · rw [if_pos h0, hbad, if_neg (by rw [okR_iff]; omega)]
  rw [if_neg h0]
  by_cases h1 : r > 1114111
  · rw [if_pos h1, hbad, if_neg (by rw [okR_iff]; omega)]
  rw [if_neg h1]
  have hgood : ¬ (55296 ≤ r ∧ r < 57344) → utf_Put.j0 (k + 1) r b false = some (b ++ enc r, 0) := by
    intro hs
    simp only [utf_Put.j0]
    rw [if_neg (by simp)]
    unfold enc
    by_cases h2 : r < 128
    · rw [if_pos h2, if_pos (by omega), if_pos h2, show r % 256 = r by omega]
    rw [if_neg h2, if_neg h2]
    by_cases h3 : r < 2048
    · rw [if_pos h3, if_pos (by omega), if_pos h3]
      refine ob rfl ?_
      rw [if_pos (by rw [List.length_append]; simp; omega), tail_byte, show r / 64 % 256 = r / 64 by omega, u8_or192 (r / 64) (by omega) (by omega), List.append_assoc]
      rfl
    rw [if_neg h3, if_neg h3]
    by_cases h4 : r < 65536
    · rw [if_pos h4, if_pos h4]
      refine ob rfl ?_
      rw [if_pos (by simp; omega)]
      refine ob rfl ?_
      rw [if_pos (by rw [List.length_append]; simp; omega), tail_byte, tail_byte, show r / 4096 % 256 = r / 4096 by omega, u8_or224 (r / 4096) (by omega) (by omega), List.append_assoc]
      rfl
    · rw [if_neg h4, if_neg h4]
      refine ob rfl ?_
      rw [if_pos (by simp; omega)]
      refine ob rfl ?_
      rw [if_pos (by rw [List.length_append]; simp; omega), tail_byte, tail_byte, tail_byte, show r / 262144 % 256 = r / 262144 by omega, u8_or240 (r / 262144) (by omega) (by omega), List.append_assoc]
      rfl
  by_cases h2 : r ≥ 55296
  · rw [if_pos h2]
    by_cases h3 : r < 57344
    · rw [decide_eq_true h3, hbad, if_neg (by rw [okR_iff]; omega)]
    · rw [decide_eq_false h3, hgood (by omega), if_pos ((okR_iff r).2 (by omega))]
  · rw [if_neg h2, hgood (by omega), if_pos ((okR_iff r).2 (by omega))]
theorem text_from (l : List Int) (hl : l.length ≤ 1000000000000) : ∀ (d k i : Nat), l.length - i = d → i ≤ l.length → d + 2 ≤ k → ∀ b : List Int, b.length ≤ 4 * i →
    utf_Text.l0 k b l (l.length : Int) (i : Int) = some (strOfNums (b ++ encL (l.drop i))) := by
  intro d
  induction d with
  | zero =>
    intro k i hd hi hk b hb
    obtain ⟨k, rfl⟩ : ∃ m, k = m + 1 := ⟨k - 1, by omega⟩
    simp only [utf_Text.l0]
    rw [if_neg (by omega), List.drop_eq_nil_of_le (by omega)]
    simp [encL]
  | succ d ih =>
    intro k i hd hi hk b hb
    obtain ⟨k, rfl⟩ : ∃ m, k = m + 1 := ⟨k - 1, by omega⟩
    have hlt : i < l.length := by omega
    have ew : wrap64 ((i : Int) + 1) = ((i + 1 : Nat) : Int) := by rw [w64 (by omega) (by omega)]; omega
    have hrd : rd l (i : Int) = l[i] := by
      unfold rd
      rw [Int.toNat_natCast, List.getD_eq_getElem?_getD, List.getElem?_eq_getElem hlt]
      rfl
    simp only [utf_Text.l0]
    rw [if_pos (by omega), if_pos (by omega), if_pos (by omega)]
    refine ob (put_eq (by omega) b _ (by omega)) ?_
    rw [hrd, List.drop_eq_getElem_cons hlt, ew]
    have he := enc_len l[i]
    simp only [encL]
    by_cases h : okR l[i] = true
    · rw [if_pos h]
      dsimp only
      rw [if_pos rfl, ih k (i + 1) (by omega) (by omega) (by omega) (b ++ enc l[i]) (by rw [List.length_append]; omega), if_pos h, List.append_assoc]
    · rw [if_neg h]
      dsimp only
      rw [if_neg (by decide), ih k (i + 1) (by omega) (by omega) (by omega) b (by omega), if_neg h, List.nil_append]
theorem text_eq {k : Nat} {l : List Int} (hl : l.length ≤ 1000000000000) (hk : l.length + 2 ≤ k) : utf_Text.f k l = some (strOfNums (encL l)) := by
  unfold utf_Text.f
  have := text_from l hl l.length k 0 (by omega) (by omega) hk [] (by simp)
  simpa using this
end Go.Proofs.YtkflgnhcfhmkdaaDoor.PPragmaWords
end
section
/- The printed functions of fold great and small are the plain ones. -/
namespace Go.Proofs.YtkflgnhcfhmkdaaDoor.Pure
open Go.RowKit Go.Proofs.YtkflgnhcfhmkdaaDoor.PPragmaWords Go.Proofs.YtkflgnhcfhmkdaaDoorW.PrintWords Go.Proofs.YtkflgnhcfhmkdaaDoorW.PrintLast
open Go.Proofs.YtkflgnhcfhmkdaaDoor.M Go.Proofs.YtkflgnhcfhmkdaaDoor.X
set_option linter.unusedVariables false
set_option linter.unusedSimpArgs false

theorem fgreat_eq (r : Int) : fold_great.f r = some (great r) := by
  unfold fold_great.f
  cases h : great r
  · rw [great_not] at h
    (repeat' split) <;> first | rfl | omega | (rw [Option.some.injEq, bne_eq_false_iff_eq]; omega)
  · rw [great_iff] at h
    (repeat' split) <;> first | rfl | omega | (rw [Option.some.injEq, bne_iff_ne]; omega)
theorem fsmall_eq (r : Int) : fold_small.f r = some (small r) := by
  unfold fold_small.f
  cases h : small r
  · rw [small_not] at h
    (repeat' split) <;> first | rfl | omega | (rw [Option.some.injEq, bne_eq_false_iff_eq]; omega)
  · rw [small_iff] at h
    (repeat' split) <;> first | rfl | omega | (rw [Option.some.injEq, bne_iff_ne]; omega)
end Go.Proofs.YtkflgnhcfhmkdaaDoor.Pure
end
section
/- fold.Fold, as printed, over a text's runes. -/
namespace Go.Proofs.YtkflgnhcfhmkdaaDoor.Pure
open Go.RowKit Go.Proofs.YtkflgnhcfhmkdaaDoor.PPragmaWords Go.Proofs.YtkflgnhcfhmkdaaDoorW.PrintWords Go.Proofs.YtkflgnhcfhmkdaaDoorW.PrintLast
open Go.Proofs.YtkflgnhcfhmkdaaDoor.M Go.Proofs.YtkflgnhcfhmkdaaDoor.X
set_option linter.unusedVariables false
set_option linter.unusedSimpArgs false

theorem fdown_eq {r : Int} (h0 : -2147483648 ≤ r) (h1 : r < 2147483648) : fold_Down.f r = some (downR r) := by
  unfold fold_Down.f
  refine ob (fgreat_eq r) ?_
  unfold downR
  split
  · rename_i h
    rw [great_iff] at h
    rw [w32 (by omega) (by omega)]
  · rfl
theorem rs_range {b : List Int} (hB : BT b) : ∀ r ∈ rs b, -1 ≤ r ∧ r ≤ 1114111 := by
  intro r hr
  rcases rs_each b hB r hr with h | h
  · omega
  · rw [okR_iff] at h; omega
theorem fold_from (L : List Int) (hL : ∀ r ∈ L, -1 ≤ r ∧ r ≤ 1114111) (hl : L.length ≤ 1000000) : ∀ (d k i : Nat), L.length - i = d → i ≤ L.length → d + L.length + 3 ≤ k →
    fold_Fold.l0 k ((L.map downR).take i) L (L.length : Int) i = some (strOfNums (encL (L.map downR))) := by
  intro d
  induction d with
  | zero =>
    intro k i hd hi hk
    obtain ⟨k, rfl⟩ : ∃ m, k = m + 1 := ⟨k - 1, by omega⟩
    simp only [fold_Fold.l0]
    rw [if_neg (by omega), List.take_of_length_le (by rw [List.length_map]; omega)]
    exact ob (text_eq (by rw [List.length_map]; omega) (by rw [List.length_map]; omega)) rfl
  | succ d ih =>
    intro k i hd hi hk
    obtain ⟨k, rfl⟩ : ∃ m, k = m + 1 := ⟨k - 1, by omega⟩
    have hlt : i < L.length := by omega
    have ew : wrap64 ((i : Int) + 1) = ((i + 1 : Nat) : Int) := by rw [w64 (by omega) (by omega)]; omega
    have hr := hL _ (List.getElem_mem hlt)
    have b1 : -2147483648 ≤ L[i] := by omega
    have b2 : L[i] < 2147483648 := by omega
    have g1 : (i : Int) < (L.length : Int) := by omega
    have g2 : (0 : Int) ≤ (i : Int) := by omega
    have g3 : ((L.map downR).take i).length < 35184372088832 := by rw [List.length_take, List.length_map]; omega
    have hrd : rd L (i : Int) = L[i] := by
      unfold rd
      rw [Int.toNat_natCast, List.getD_eq_getElem?_getD, List.getElem?_eq_getElem hlt]
      rfl
    have hi2 := ih k (i + 1) (by omega) (by omega) (by omega)
    rw [List.take_succ_eq_append_getElem (by rw [List.length_map]; exact hlt), List.getElem_map] at hi2
    simp only [fold_Fold.l0]
    rw [if_pos g1, if_pos g2, if_pos g1, hrd, ew]
    refine ob (fdown_eq b1 b2) ?_
    rw [if_pos g3]
    exact hi2
theorem fold_of {k : Nat} {b : List Int} (hB : BT b) (hb : b.length ≤ 1000000) (hk : 2 * b.length + 8 ≤ k) : fold_Fold.f k (strOfNums b) = some (strOfNums (encL ((rs b).map downR))) := by
  have hr := rs_len b
  have hu := us_len b
  unfold fold_Fold.f
  refine ob (runes_of hB (by omega) (by omega)) ?_
  exact fold_from (rs b) (rs_range hB) (by omega) (rs b).length k 0 (by omega) (by omega) (by omega)
/-- A text, folded. -/
def foldB (s : ByteArray) : ByteArray := strOfNums (encL ((rs (bytesOf s)).map downR))
theorem fold_ev (s : ByteArray) (hs : s.size ≤ 1000000) : Ev (fun k => fold_Fold.f k s) (foldB s) := by
  have hl : (bytesOf s).length = s.size := bytesOf_length s
  refine ⟨2 * s.size + 8, fun k hk => ?_⟩
  have := fold_of (k := k) (bytesOf_BT s) (by omega) (by omega)
  rw [strOfNums_bytesOf] at this
  exact this
theorem foldB_size (s : ByteArray) : (foldB s).size ≤ 4 * s.size := by
  unfold foldB
  rw [strOfNums_size]
  have h1 := encL_len ((rs (bytesOf s)).map downR)
  have h2 := rs_len (bytesOf s)
  have h3 := us_len (bytesOf s)
  have hl : (bytesOf s).length = s.size := bytesOf_length s
  rw [List.length_map] at h1
  omega
end Go.Proofs.YtkflgnhcfhmkdaaDoor.Pure
end
section
/- fold.Letter, Great, Small, and the reference's, are the plain ones. -/
namespace Go.Proofs.YtkflgnhcfhmkdaaDoor.Pure
open Go.RowKit Go.Proofs.YtkflgnhcfhmkdaaDoor.PPragmaWords Go.Proofs.YtkflgnhcfhmkdaaDoorW.PrintWords Go.Proofs.YtkflgnhcfhmkdaaDoorW.PrintLast
open Go.Proofs.YtkflgnhcfhmkdaaDoor.M Go.Proofs.YtkflgnhcfhmkdaaDoor.X
set_option linter.unusedVariables false
set_option linter.unusedSimpArgs false

theorem fletter_eq (r : Int) : fold_Letter.f r = some (letter r) := by
  unfold fold_Letter.f
  refine ob (fgreat_eq r) ?_
  have hi := letter_iff r
  cases hg : great r
  · rw [if_neg (by decide)]
    refine ob (fsmall_eq r) ?_
    cases hs : small r
    · rw [if_neg (by decide)]
      rw [hg, hs] at hi
      simp only [Bool.false_eq_true, false_or] at hi
      cases hl : letter r
      · rw [hl] at hi
        simp only [Bool.false_eq_true, false_iff] at hi
        (repeat' split) <;> first | rfl | omega | (rw [Option.some.injEq, decide_eq_false_iff_not]; omega)
      · have h := hi.1 hl
        (repeat' split) <;> first | rfl | omega | (rw [Option.some.injEq, decide_eq_true_iff]; omega)
    · rw [if_pos rfl, hi.2 (.inr (.inl hs))]
  · rw [if_pos rfl, hi.2 (.inl hg)]
end Go.Proofs.YtkflgnhcfhmkdaaDoor.Pure
end
section
/- lists.Check and pragma's known, as printed, in plain words; pragma.Read of any text. -/
namespace Go.Proofs.YtkflgnhcfhmkdaaDoor.Pure
open Go.RowKit Go.Proofs.YtkflgnhcfhmkdaaDoor.PPragmaWords Go.Proofs.YtkflgnhcfhmkdaaDoorW.PrintWords Go.Proofs.YtkflgnhcfhmkdaaDoorW.PrintLast Go.Proofs.YtkflgnhcfhmkdaaDoor.X
open Go.Proofs.YtkflgnhcfhmkdaaDoor.M Go.Proofs.YtkflgnhcfhmkdaaDoor.H
set_option linter.unusedVariables false
set_option linter.unusedSimpArgs false

/-- May a rune stand at its place in a listed word? -/
def goodAt (l : List Int) (i : Nat) : Bool := letter (rd l (i : Int)) || (decide (rd l (i : Int) = 39) && (decide (0 < i) && (decide (i + 1 < l.length) && (letter (rd l ((i - 1 : Nat) : Int)) && letter (rd l ((i + 1 : Nat) : Int))))))
def chkF (l : List Int) : Nat → Nat → Int
  | 0, _ => 0
  | d + 1, i => if goodAt l i = true then chkF l d (i + 1) else 5
def checkM (s : ByteArray) : Int := if s.size > 64 then 3 else if (rs (bytesOf s)).length = 0 then 5 else chkF (rs (bytesOf s)) (rs (bytesOf s)).length 0
theorem check_l0 (l : List Int) (hl : l.length ≤ 1000000) : ∀ (d i : Nat), l.length - i = d → i ≤ l.length → Ev (fun k => lists_Check.l0 k l l (l.length : Int) (i : Int)) (chkF l d i) := by
  intro d
  induction d with
  | zero =>
    intro i hd hi
    refine Ev.step (f := fun _ => some 0) (fun k => ?_) (Ev.now _)
    simp only [lists_Check.l0]
    rw [if_neg (by omega)]
  | succ d ih =>
    intro i hd hi
    have ei : ∀ _ : Unit, wrap64 ((i : Int) + 1) = ((i + 1 : Nat) : Int) := fun _ => hw _ _ (by omega) (by omega)
    have el : ∀ _ : Unit, wrap64 ((l.length : Int) - 1) = ((l.length - 1 : Nat) : Int) := fun _ => hw _ _ (by omega) (by omega)
    have nx := ih (i + 1) (by omega) (by omega)
    have done5 : ∀ g : Nat → Option Int, (∀ k, lists_Check.l0 (k + 1) l l (l.length : Int) (i : Int) = some 5) → goodAt l i = false → Ev (fun k => lists_Check.l0 k l l (l.length : Int) (i : Int)) (chkF l (d + 1) i) := by
      intro _ h hb
      show Ev _ (if goodAt l i = true then chkF l d (i + 1) else 5)
      rw [hb, if_neg (by simp)]
      exact Ev.step (f := fun _ => some 5) h (Ev.now _)
    have go : (∀ k, lists_Check.l0 (k + 1) l l (l.length : Int) (i : Int) = lists_Check.l0 k l l (l.length : Int) ((i + 1 : Nat) : Int)) → goodAt l i = true → Ev (fun k => lists_Check.l0 k l l (l.length : Int) (i : Int)) (chkF l (d + 1) i) := by
      intro h hb
      show Ev _ (if goodAt l i = true then chkF l d (i + 1) else 5)
      rw [hb, if_pos rfl]
      exact Ev.step h nx
    by_cases c0 : 0 < i
    · have ep : ∀ _ : Unit, wrap64 ((i : Int) - 1) = ((i - 1 : Nat) : Int) := fun _ => hw _ _ (by omega) (by omega)
      by_cases c1 : i + 1 < l.length
      · cases cp : letter (rd l ((i - 1 : Nat) : Int)) with
        | true =>
          cases cl : letter (rd l (i : Int)) with
          | true =>
            refine go (fun k => ?_) (by unfold goodAt; rw [cl]; rfl)
            simp only [lists_Check.l0, ei (), el (), ep (), fletter_eq, Option.bind_some, cp, cl, Bool.false_eq_true, if_true, if_false]
            repeat (first | rw [if_pos (by omega)] | rw [if_neg (by omega)])
          | false =>
            by_cases c39 : rd l (i : Int) = 39
            · cases cn : letter (rd l ((i + 1 : Nat) : Int)) with
              | true =>
                refine go (fun k => ?_) (by unfold goodAt; rw [cl, cp, cn, decide_eq_true c39, decide_eq_true c0, decide_eq_true c1]; rfl)
                simp only [lists_Check.l0, ei (), el (), ep (), fletter_eq, Option.bind_some, cp, cl, cn, Bool.false_eq_true, if_true, if_false]
                repeat (first | rw [if_pos (by omega)] | rw [if_neg (by omega)] | rw [if_pos c39] | rw [if_neg c39])
              | false =>
                refine done5 (fun _ => none) (fun k => ?_) (by unfold goodAt; rw [cl, cp, cn]; simp)
                simp only [lists_Check.l0, ei (), el (), ep (), fletter_eq, Option.bind_some, cp, cl, cn, Bool.false_eq_true, if_true, if_false]
                repeat (first | rw [if_pos (by omega)] | rw [if_neg (by omega)] | rw [if_pos c39] | rw [if_neg c39])
            · refine done5 (fun _ => none) (fun k => ?_) (by unfold goodAt; rw [cl, decide_eq_false c39]; simp)
              simp only [lists_Check.l0, ei (), el (), ep (), fletter_eq, Option.bind_some, cp, cl, Bool.false_eq_true, if_true, if_false]
              repeat (first | rw [if_pos (by omega)] | rw [if_neg (by omega)] | rw [if_pos c39] | rw [if_neg c39])
        | false =>
          cases cl : letter (rd l (i : Int)) with
          | true =>
            refine go (fun k => ?_) (by unfold goodAt; rw [cl]; rfl)
            simp only [lists_Check.l0, ei (), el (), ep (), fletter_eq, Option.bind_some, cp, cl, Bool.false_eq_true, if_true, if_false]
            repeat (first | rw [if_pos (by omega)] | rw [if_neg (by omega)])
          | false =>
            refine done5 (fun _ => none) (fun k => ?_) (by unfold goodAt; rw [cl, cp]; simp)
            simp only [lists_Check.l0, ei (), el (), ep (), fletter_eq, Option.bind_some, cp, cl, Bool.false_eq_true, if_true, if_false]
            repeat (first | rw [if_pos (by omega)] | rw [if_neg (by omega)])
            all_goals (try (split <;> rfl))
      · cases cl : letter (rd l (i : Int)) with
        | true =>
          refine go (fun k => ?_) (by unfold goodAt; rw [cl]; rfl)
          simp only [lists_Check.l0, ei (), el (), fletter_eq, Option.bind_some, cl, Bool.false_eq_true, if_true, if_false]
          repeat (first | rw [if_pos (by omega)] | rw [if_neg (by omega)])
        | false =>
          refine done5 (fun _ => none) (fun k => ?_) (by unfold goodAt; rw [cl, decide_eq_false c1]; simp)
          simp only [lists_Check.l0, ei (), el (), fletter_eq, Option.bind_some, cl, Bool.false_eq_true, if_true, if_false]
          repeat (first | rw [if_pos (by omega)] | rw [if_neg (by omega)])
          all_goals (try (split <;> rfl))
    · cases cl : letter (rd l (i : Int)) with
      | true =>
        refine go (fun k => ?_) (by unfold goodAt; rw [cl]; rfl)
        simp only [lists_Check.l0, ei (), fletter_eq, Option.bind_some, cl, Bool.false_eq_true, if_true, if_false]
        repeat (first | rw [if_pos (by omega)] | rw [if_neg (by omega)])
      | false =>
        refine done5 (fun _ => none) (fun k => ?_) (by unfold goodAt; rw [cl, decide_eq_false c0]; simp)
        simp only [lists_Check.l0, ei (), fletter_eq, Option.bind_some, cl, Bool.false_eq_true, if_true, if_false]
        repeat (first | rw [if_pos (by omega)] | rw [if_neg (by omega)])
        all_goals (try (split <;> rfl))
theorem check_ev (s : ByteArray) (hs : s.size ≤ 1000000) : Ev (fun k => lists_Check.f k s) (checkM s) := by
  have hl : (bytesOf s).length = s.size := bytesOf_length s
  have h1 := rs_len (bytesOf s)
  have h2 := us_len (bytesOf s)
  unfold checkM
  by_cases c : s.size > 64
  · rw [if_pos c]
    refine Ev.congr (f := fun _ => some 3) (fun k => ?_) (Ev.now _)
    unfold lists_Check.f
    rw [if_pos (by omega)]
  · rw [if_neg c]
    have hr : Ev (fun k => utf_Runes.f k s) (rs (bytesOf s)) := ⟨s.size + 8, fun k hk => runes_eq s (by omega) hk⟩
    refine Ev.congr (f := fun k => (utf_Runes.f k s).bind fun t => if (t.length : Int) = 0 then some 5 else lists_Check.l0 k t t (t.length : Int) 0) (fun k => ?_) (Ev.bind hr ?_)
    · unfold lists_Check.f
      rw [if_neg (by omega)]
    · by_cases c0 : (rs (bytesOf s)).length = 0
      · rw [if_pos c0]
        simp only [if_pos (show ((rs (bytesOf s)).length : Int) = 0 by omega)]
        exact Ev.now _
      · rw [if_neg c0]
        simp only [if_neg (show ¬ ((rs (bytesOf s)).length : Int) = 0 by omega)]
        exact check_l0 (rs (bytesOf s)) (by omega) _ 0 (by omega) (Nat.zero_le _)
theorem check_empty {s : ByteArray} (h : s.size = 0) : checkM s = 5 := by
  have hl : (bytesOf s).length = s.size := bytesOf_length s
  have h1 := rs_len (bytesOf s)
  have h2 := us_len (bytesOf s)
  unfold checkM
  rw [if_neg (by omega), if_pos (by omega)]
/-! ### known -/
theorem kn_le (t : ByteArray) : pragma_Rules_known.n t ≤ t.size := by
  unfold pragma_Rules_known.n
  have hr := Lib.idxFuncFrom_range pragma_Rules_known.p true t t.size 0
  split
  · exact Nat.le_refl _
  · rename_i h
    rcases hr with hr | hr
    · exact absurd (show Lib.idxFunc pragma_Rules_known.p true t < 0 by show Lib.idxFuncFrom _ _ _ _ _ < 0; omega) h
    · have : Lib.idxFunc pragma_Rules_known.p true t < t.size := hr.2
      omega
def knownF : Nat → ByteArray → List ByteArray → List ByteArray
  | 0, _, ws => ws
  | f + 1, s, ws => if checkM ((trimB s).extract 0 (pragma_Rules_known.n (trimB s))) = 0 then knownF f ((trimB s).extract (pragma_Rules_known.n (trimB s)) (trimB s).size) (ws ++ [foldB ((trimB s).extract 0 (pragma_Rules_known.n (trimB s)))]) else ws
theorem known_ev : ∀ (f : Nat) (s : ByteArray) (ws : List ByteArray), s.size < f → s.size ≤ 1000000 → ws.length + s.size ≤ 100000000000 → Ev (fun k => pragma_Rules_known.f k s ws) (knownF f s ws) ∧ (knownF f s ws).length ≤ ws.length + s.size := by
  intro f
  induction f with
  | zero => intro s ws h; omega
  | succ f ih =>
    intro s ws hf hs hw_
    have hz := trimB_size s
    have hn := kn_le (trimB s)
    have e : ∀ k, pragma_Rules_known.f (k + 1) s ws = if pragma_Rules_known.n (trimB s) ≤ (trimB s).size then (lists_Check.f k ((trimB s).extract 0 (pragma_Rules_known.n (trimB s)))).bind fun c =>
      if c = 0 then (fold_Fold.f k ((trimB s).extract 0 (pragma_Rules_known.n (trimB s)))).bind fun u => if ws.length < 1000000000000 then (if u.size ≤ 140737488351232 then pragma_Rules_known.f k ((trimB s).extract (pragma_Rules_known.n (trimB s)) (trimB s).size) (ws ++ [u]) else none) else none
      else some ws else none := fun k => rfl
    unfold knownF
    generalize pragma_Rules_known.n (trimB s) = n at *
    generalize trimB s = t at *
    have hx : (t.extract 0 n).size = n := by rw [ByteArray.size_extract]; omega
    have hy : (t.extract n t.size).size = t.size - n := by rw [ByteArray.size_extract]; omega
    have hc := check_ev (t.extract 0 n) (by omega)
    have hfo := fold_ev (t.extract 0 n) (by omega)
    have hfs := foldB_size (t.extract 0 n)
    by_cases c : checkM (t.extract 0 n) = 0
    · have hn1 : 1 ≤ n := by
        rcases Nat.eq_zero_or_pos n with h | h
        · rw [check_empty (by omega)] at c; cases c
        · exact h
      obtain ⟨i1, i2⟩ := ih (t.extract n t.size) (ws ++ [foldB (t.extract 0 n)]) (by omega) (by omega) (by rw [List.length_append, List.length_singleton]; omega)
      rw [if_pos c]
      rw [List.length_append, List.length_singleton] at i2
      refine ⟨?_, by omega⟩
      refine Ev.step (fun k => (e k).trans (if_pos hn)) (Ev.bind hc ?_)
      rw [c]
      simp only [if_true]
      refine Ev.bind hfo ?_
      have g1 : ws.length < 1000000000000 := by omega
      have g2 : (foldB (t.extract 0 n)).size ≤ 140737488351232 := by omega
      simp only [if_pos g1, if_pos g2]
      exact i1
    · rw [if_neg c]
      refine ⟨?_, by omega⟩
      refine Ev.step (fun k => (e k).trans (if_pos hn)) (Ev.bind hc ?_)
      simp only [if_neg c]
      exact Ev.now _
end Go.Proofs.YtkflgnhcfhmkdaaDoor.Pure
end
section
/- pragma.Read of any text that is not long, as printed (without the document's answer). -/
namespace Go.Proofs.YtkflgnhcfhmkdaaDoor.Pure
open Go.RowKit Go.Proofs.YtkflgnhcfhmkdaaDoor.PPragmaWords Go.Proofs.YtkflgnhcfhmkdaaDoorW.PrintWords Go.Proofs.YtkflgnhcfhmkdaaDoorW.PrintLast Go.Proofs.YtkflgnhcfhmkdaaDoor.X
open Go.Proofs.YtkflgnhcfhmkdaaDoor.M Go.Proofs.YtkflgnhcfhmkdaaDoor.H
set_option linter.unusedVariables false
set_option linter.unusedSimpArgs false

abbrev wL : List UInt8 := [119, 111, 114, 100, 115]
def wordsQ : List Ak → List ByteArray → List ByteArray
  | [], ws => ws
  | a :: t, ws => wordsQ t (if a.f0.toList = wL then knownF (a.f1.size + 1) a.f1 ws else ws)
theorem l1_any (Z : Nat) (hZ : Z ≤ 4000) : ∀ (qs : List Ak) (off next skip : Bool) (ws : List ByteArray), (∀ a ∈ qs, a.f1.size ≤ Z) → ws.length + qs.length * Z ≤ 90000000000 → Ev (fun k => pragma_Read.l1 k qs off next skip ws) ((stepQ qs off next skip).1, (stepQ qs off next skip).2.1, (stepQ qs off next skip).2.2, wordsQ qs ws) ∧ (wordsQ qs ws).length ≤ ws.length + qs.length * Z
  | [], off, next, skip, ws, _, _ => ⟨⟨0, fun k _ => rfl⟩, Nat.le_add_right _ _⟩
  | a :: t, off, next, skip, ws, h, hb => by
    have ht : ∀ x ∈ t, x.f1.size ≤ Z := fun x hx => h x (by simp [hx])
    have ha := h a (by simp)
    rw [List.length_cons, Nat.succ_mul] at hb ⊢
    have e : ∀ k, pragma_Read.l1 k (a :: t) off next skip ws = if a.f0.toList = ([111, 102, 102] : List UInt8) then pragma_Read.l1 k t true next true ws
      else if a.f0.toList = ([108, 105, 110, 101] : List UInt8) then pragma_Read.l1 k t off next true ws
      else if a.f0.toList = ([111, 110] : List UInt8) then pragma_Read.l1 k t false next skip ws
      else if a.f0.toList = ([110, 101, 120, 116] : List UInt8) then pragma_Read.l1 k t off true skip ws
      else if a.f0.toList = wL then (pragma_Rules_known.f k a.f1 ws).bind fun ws2 => pragma_Read.l1 k t off next skip ws2
      else pragma_Read.l1 k t off next skip ws := fun k => rfl
    have plain : ∀ (o n s : Bool), (∀ k, pragma_Read.l1 k (a :: t) off next skip ws = pragma_Read.l1 k t o n s ws) → a.f0.toList ≠ wL → Ev (fun k => pragma_Read.l1 k (a :: t) off next skip ws) ((stepQ t o n s).1, (stepQ t o n s).2.1, (stepQ t o n s).2.2, wordsQ (a :: t) ws) ∧ (wordsQ (a :: t) ws).length ≤ ws.length + (t.length * Z + Z) := by
      intro o n s he hne
      have hw' : wordsQ (a :: t) ws = wordsQ t ws := by
        show wordsQ t (if a.f0.toList = wL then _ else _) = _
        rw [if_neg hne]
      obtain ⟨i1, i2⟩ := l1_any Z hZ t o n s ws ht (by omega)
      rw [hw']
      exact ⟨Ev.congr he i1, by omega⟩
    unfold stepQ
    by_cases h1 : a.f0.toList = ([111, 102, 102] : List UInt8)
    · rw [if_pos h1]
      exact plain _ _ _ (fun k => (e k).trans (if_pos h1)) (by rw [h1]; decide)
    rw [if_neg h1]
    by_cases h2 : a.f0.toList = ([108, 105, 110, 101] : List UInt8)
    · rw [if_pos h2]
      exact plain _ _ _ (fun k => (e k).trans ((if_neg h1).trans (if_pos h2))) (by rw [h2]; decide)
    rw [if_neg h2]
    by_cases h3 : a.f0.toList = ([111, 110] : List UInt8)
    · rw [if_pos h3]
      exact plain _ _ _ (fun k => (e k).trans ((if_neg h1).trans ((if_neg h2).trans (if_pos h3)))) (by rw [h3]; decide)
    rw [if_neg h3]
    by_cases h4 : a.f0.toList = ([110, 101, 120, 116] : List UInt8)
    · rw [if_pos h4]
      exact plain _ _ _ (fun k => (e k).trans ((if_neg h1).trans ((if_neg h2).trans ((if_neg h3).trans (if_pos h4))))) (by rw [h4]; decide)
    rw [if_neg h4]
    by_cases h5 : a.f0.toList = wL
    · have hw' : wordsQ (a :: t) ws = wordsQ t (knownF (a.f1.size + 1) a.f1 ws) := by
        show wordsQ t (if a.f0.toList = wL then _ else _) = _
        rw [if_pos h5]
      obtain ⟨k1, k2⟩ := known_ev (a.f1.size + 1) a.f1 ws (by omega) (by omega) (by omega)
      obtain ⟨i1, i2⟩ := l1_any Z hZ t off next skip (knownF (a.f1.size + 1) a.f1 ws) ht (by omega)
      rw [hw']
      exact ⟨Ev.congr (fun k => (e k).trans ((if_neg h1).trans ((if_neg h2).trans ((if_neg h3).trans ((if_neg h4).trans (if_pos h5)))))) (Ev.bind k1 i1), by omega⟩
    · exact plain _ _ _ (fun k => (e k).trans ((if_neg h1).trans ((if_neg h2).trans ((if_neg h3).trans ((if_neg h4).trans (if_neg h5)))))) h5
def AL (l : List Int) : List Ak := asksM ((strOfNums l).size + 1) (strOfNums l)
def wordsL : List (List Int) → List ByteArray → List ByteArray
  | [], ws => ws
  | l :: t, ws => wordsL t (wordsQ (AL l) ws)
theorem AL_ok (l : List Int) (h : l.length ≤ 4000) : Ev (fun k => pragma_asks.f k (strOfNums l)) (AL l) ∧ (AL l).length ≤ 4001 ∧ ∀ a ∈ AL l, a.f1.size ≤ 4000 := by
  have hs : (strOfNums l).size = l.length := strOfNums_size l
  refine ⟨asks_ev _ (by omega), Nat.le_trans (asksM_len _ _) (by omega), fun a ha => Nat.le_trans (asksM_f1 _ _ a ha) (by omega)⟩
section
variable (b : List Int) (hl : b.length ≤ 4000)
include hl
theorem any_l0 : ∀ (d j : Nat) (off next : Bool) (offs : List (Int × Int)) (ws : List ByteArray), (ls b).length - j = d → j ≤ (ls b).length → offs.length ≤ j → ws.length ≤ j * 16004000 →
    Ev (fun k => pragma_Read.l0 k b [b] d j off next offs ws) [⟨offs ++ offsQ AL ((ls b).drop j) (Go.Proofs.YtkflgnhcfhmkdaaDoor.M.off (ls b) j) off next, wordsL ((ls b).drop j) ws⟩] := by
  have hn := ls_count b
  intro d
  induction d with
  | zero =>
    intro j off next offs ws hd hj ho hw1
    rw [List.drop_of_length_le (by omega)]
    unfold offsQ
    rw [List.append_nil]
    exact ⟨0, fun k _ => rfl⟩
  | succ d ih =>
    intro j off next offs ws hd hj ho hw1
    have hlt : j < (ls b).length := by omega
    have hs := span_in (b := b) (by omega) j hlt
    have ho1 := off_succ (ls b) j hlt
    have ho2 := off_le (ls b) (j + 1)
    rw [ls_flat] at ho2
    have hc := cut_line (ls b) j hlt
    rw [ls_flat] at hc
    have hg : (ls b).getD j [] = (ls b)[j] := by rw [List.getD_eq_getElem?_getD, List.getElem?_eq_getElem hlt]; rfl
    rw [hg] at hs ho1 hc
    obtain ⟨a1, a2, a4⟩ := AL_ok (ls b)[j] (by omega)
    have a3 : (AL (ls b)[j]).length < 1000000000000 := by omega
    have hm : (AL (ls b)[j]).length * 4000 ≤ 16004000 := by omega
    obtain ⟨l1, l2⟩ := l1_any 4000 (Nat.le_refl _) (AL (ls b)[j]) off false (off || next) ws a4 (by omega)
    have e2 : ∀ _ : Unit, wrap64 ((Go.Proofs.YtkflgnhcfhmkdaaDoor.M.off (ls b) j : Int) + ((ls b)[j].length : Int)) = (Go.Proofs.YtkflgnhcfhmkdaaDoor.M.off (ls b) (j + 1) : Int) := fun _ => hw _ _ (by omega) (by omega)
    have g1 : (0 : Int) ≤ (Go.Proofs.YtkflgnhcfhmkdaaDoor.M.off (ls b) j : Int) := by omega
    have g2 : (Go.Proofs.YtkflgnhcfhmkdaaDoor.M.off (ls b) j : Int) ≤ (Go.Proofs.YtkflgnhcfhmkdaaDoor.M.off (ls b) (j + 1) : Int) := by omega
    have g3 : (Go.Proofs.YtkflgnhcfhmkdaaDoor.M.off (ls b) (j + 1) : Int) ≤ (b.length : Int) := by omega
    have g4 : offs.length < 1000000000000 := by omega
    rw [List.drop_eq_getElem_cons hlt]
    unfold offsQ wordsL
    generalize hq : stepQ (AL (ls b)[j]) off false (off || next) = q at *
    generalize wordsQ (AL (ls b)[j]) ws = ws2 at *
    have hnext := ih (j + 1) q.1 q.2.1 (offs ++ if q.2.2 = true then [((Go.Proofs.YtkflgnhcfhmkdaaDoor.M.off (ls b) j : Int), ((ls b)[j].length : Int))] else []) ws2 (by omega) (by omega) (by rw [List.length_append]; split <;> simp <;> omega) (by omega)
    rw [List.append_assoc, ho1] at hnext
    refine Ev.congr (f := fun k => (pragma_asks.f k (strOfNums (ls b)[j])).bind fun qs => if qs.length < 1000000000000 then (pragma_Read.l1 k qs off false (off || next) ws).bind fun q => if offs.length < 1000000000000 then pragma_Read.l0 k b [b] d (j + 1) q.1 q.2.1 (if q.2.2.1 = true then offs ++ [((Go.Proofs.YtkflgnhcfhmkdaaDoor.M.off (ls b) j : Int), ((ls b)[j].length : Int))] else offs) q.2.2.2 else none else none) (fun k => ?_) (Ev.bind a1 ?_)
    · have hs' : lines_Index_Span.f [b] ((j + 1 : Nat) : Int) = some ((Go.Proofs.YtkflgnhcfhmkdaaDoor.M.off (ls b) j : Int), ((ls b)[j].length : Int), 0) := by rw [show ((j + 1 : Nat) : Int) = (j : Int) + 1 by omega]; exact hs
      have hp : (b.take (wrap64 ((Go.Proofs.YtkflgnhcfhmkdaaDoor.M.off (ls b) j : Int) + ((ls b)[j].length : Int))).toNat).drop ((Go.Proofs.YtkflgnhcfhmkdaaDoor.M.off (ls b) j : Int)).toNat = (ls b)[j] := by rw [e2 (), Int.toNat_natCast, Int.toNat_natCast, hc]
      have h2 : (Go.Proofs.YtkflgnhcfhmkdaaDoor.M.off (ls b) j : Int) ≤ wrap64 ((Go.Proofs.YtkflgnhcfhmkdaaDoor.M.off (ls b) j : Int) + ((ls b)[j].length : Int)) := by rw [e2 ()]; exact g2
      have h3 : wrap64 ((Go.Proofs.YtkflgnhcfhmkdaaDoor.M.off (ls b) j : Int) + ((ls b)[j].length : Int)) ≤ (b.length : Int) := by rw [e2 ()]; exact g3
      have e : pragma_Read.l0 k b [b] (d + 1) j off next offs ws = (lines_Index_Span.f [b] ((j + 1 : Nat) : Int)).bind fun sp => if 0 ≤ sp.1 then (if sp.1 ≤ wrap64 (sp.1 + sp.2.1) then (if wrap64 (sp.1 + sp.2.1) ≤ (b.length : Int) then
        (pragma_asks.f k (strOfNums ((b.take (wrap64 (sp.1 + sp.2.1)).toNat).drop sp.1.toNat))).bind fun qs => if qs.length < 1000000000000 then (pragma_Read.l1 k qs off false (off || next) ws).bind fun q =>
          if offs.length < 1000000000000 then pragma_Read.l0 k b [b] d (j + 1) q.1 q.2.1 (if q.2.2.1 = true then offs ++ [(sp.1, sp.2.1)] else offs) q.2.2.2 else none else none else none) else none) else none := rfl
      refine e.trans (ob hs' ((if_pos g1).trans ((if_pos h2).trans ((if_pos h3).trans ?_))))
      show (pragma_asks.f k (strOfNums ((b.take (wrap64 ((Go.Proofs.YtkflgnhcfhmkdaaDoor.M.off (ls b) j : Int) + ((ls b)[j].length : Int))).toNat).drop ((Go.Proofs.YtkflgnhcfhmkdaaDoor.M.off (ls b) j : Int)).toNat))).bind _ = _
      rw [hp]
    · simp only [if_pos a3]
      refine Ev.bind l1 ?_
      refine Ev.congr (fun k => (if_pos g4).trans ?_) hnext
      show pragma_Read.l0 k b [b] d (j + 1) q.1 q.2.1 (if q.2.2 = true then _ else _) ws2 = _
      congr 1
      split <;> simp
theorem read_any : Ev (fun k => pragma_Read.f k b) [⟨offsQ AL (ls b) 0 false false, wordsL (ls b) []⟩] := by
  have hn := ls_count b
  have h0 := any_l0 b hl _ 0 false false [] [] rfl (Nat.zero_le _) (Nat.zero_le _) (Nat.zero_le _)
  rw [List.nil_append, off_zero, List.drop_zero] at h0
  have g : ((ls b).length : Int) < 1000000000000 := by omega
  have g2 : b.length < 100000000000 := by omega
  refine Ev.congr (fun k => ?_) h0
  have e : pragma_Read.f k b = (lines_New.f b).bind fun ix => (lines_Index_Lines.f ix).bind fun n => if n < 1000000000000 then pragma_Read.l0 k b ix n.toNat 0 false false [] [] else none := rfl
  exact e.trans (ob (new_eq g2) (ob (nlines_eq g2) (if_pos g)))
end
end Go.Proofs.YtkflgnhcfhmkdaaDoor.Pure
end
section
/- Words of small letters: what is asked behind 'spell:words', and how they are read one behind the other. -/
namespace Go.Proofs.YtkflgnhcfhmkdaaDoor.Pure
open Go.RowKit Go.Proofs.YtkflgnhcfhmkdaaDoor.PPragmaWords Go.Proofs.YtkflgnhcfhmkdaaDoorW.PrintWords Go.Proofs.YtkflgnhcfhmkdaaDoorW.PrintLast Go.Proofs.YtkflgnhcfhmkdaaDoor.X
open Go.Proofs.YtkflgnhcfhmkdaaDoor.M Go.Proofs.YtkflgnhcfhmkdaaDoor.H
set_option linter.unusedVariables false
set_option linter.unusedSimpArgs false

theorem stop_eq (x : Nat) : pragma_Rules_known.p x = !(letter (x : Int) || decide ((x : Int) = 39)) := by
  unfold pragma_Rules_known.p pragma_Rules_known_1.f
  rw [fletter_eq]
  cases h : letter (x : Int)
  · show ((if false = true then some false else some ((x : Int) != 39)).getD false) = _
    rw [if_neg (by decide)]
    by_cases h39 : (x : Int) = 39
    · rw [h39]; rfl
    · rw [decide_eq_false h39, Option.getD_some, bne_iff_ne.2 h39]; rfl
  · rfl
/-- Signs of one byte. -/
def Asc (l : List Int) : Prop := ∀ x ∈ l, 0 ≤ x ∧ x < 128
theorem Asc.BT {l : List Int} (h : Asc l) : BT l := fun x hx => by have := h x hx; omega
theorem Asc.ok {l : List Int} (h : Asc l) : ∀ x ∈ l, okR x = true := fun x hx => by have := h x hx; rw [okR_iff]; omega
theorem Asc.encL : ∀ {l : List Int}, Asc l → encL l = l
  | [], _ => rfl
  | c :: l, h => by
    have hc := h c List.mem_cons_self
    have hl : Asc l := fun x hx => h x (List.mem_cons_of_mem _ hx)
    show (if okR c = true then enc c else []) ++ M.encL l = c :: l
    rw [if_pos (Asc.ok h c List.mem_cons_self), hl.encL]
    unfold enc
    rw [if_pos hc.2]
    rfl
theorem nx_asc {c : Int} {l : List Int} (h : c < 128) : nx (c :: l) = (c, 1) := by rw [nx_c, if_pos h]
theorem Asc.rs : ∀ {l : List Int}, Asc l → rs l = l
  | [], _ => rfl
  | c :: l, h => by
    have hc := h c List.mem_cons_self
    have hl : Asc l := fun x hx => h x (List.mem_cons_of_mem _ hx)
    rw [rs_cons (by simp), nx_asc hc.2]
    show c :: M.rs l = c :: l
    rw [hl.rs]
theorem Asc.app {a b : List Int} (h : Asc a) (k : Asc b) : Asc (a ++ b) := fun x hx => (List.mem_append.1 hx).elim (h x) (k x)
/-- A word as the law makes it. -/
def Wd (u : List Int) : Prop := ∃ v, u = 113 :: v ∧ v.length ≤ 5 ∧ ∀ x ∈ v, 97 ≤ x ∧ x ≤ 101
theorem Wd.mem {u : List Int} (h : Wd u) : ∀ x ∈ u, 97 ≤ x ∧ x ≤ 122 := by
  obtain ⟨v, rfl, _, hv⟩ := h
  intro x hx
  rcases List.mem_cons.1 hx with rfl | hx
  · decide
  · have := hv x hx; omega
theorem Wd.asc {u : List Int} (h : Wd u) : Asc u := fun x hx => by have := h.mem x hx; omega
theorem Wd.len {u : List Int} (h : Wd u) : 1 ≤ u.length ∧ u.length ≤ 6 := by
  obtain ⟨v, rfl, hv, _⟩ := h
  rw [List.length_cons]; omega
theorem small_of {x : Int} (h : 97 ≤ x ∧ x ≤ 122) : small x = true := (small_iff x).2 (.inl h)
theorem letter_of {x : Int} (h : 97 ≤ x ∧ x ≤ 122) : letter x = true := (letter_iff x).2 (.inr (.inl (small_of h)))
theorem rd_mem (u : List Int) (i : Nat) (h : i < u.length) : rd u (i : Int) ∈ u := by
  unfold rd
  rw [Int.toNat_natCast, List.getD_eq_getElem?_getD, List.getElem?_eq_getElem h]
  exact List.getElem_mem h
theorem chk_zero (u : List Int) (h : ∀ x ∈ u, letter x = true) : ∀ d i, i + d ≤ u.length → chkF u d i = 0
  | 0, _, _ => rfl
  | d + 1, i, hi => by
    unfold chkF
    have hg : goodAt u i = true := by
      unfold goodAt
      rw [h _ (rd_mem u i (by omega)), Bool.true_or]
    rw [if_pos hg]
    exact chk_zero u h d (i + 1) (by omega)
theorem Wd.check {u : List Int} (h : Wd u) : checkM (strOfNums u) = 0 := by
  have hl := h.len
  unfold checkM
  rw [strOfNums_size, if_neg (by omega), bytesOf_strOfNums h.asc.BT, h.asc.rs, if_neg (by omega)]
  exact chk_zero u (fun x hx => letter_of (h.mem x hx)) _ _ (by omega)
theorem fold_asc {u w : List Int} (ha : Asc u) (hd : u.map downR = w) (hw : Asc w) : foldB (strOfNums u) = strOfNums w := by
  unfold foldB
  rw [bytesOf_strOfNums ha.BT, ha.rs, hd, hw.encL]
theorem map_down {u : List Int} (h : ∀ x ∈ u, 97 ≤ x ∧ x ≤ 122) : u.map downR = u := by
  conv => rhs; rw [← List.map_id u]
  exact List.map_congr_left (fun x hx => down_small (small_of (h x hx)))
theorem Wd.fold {u : List Int} (h : Wd u) : foldB (strOfNums u) = strOfNums u := fold_asc h.asc (map_down h.mem) h.asc
theorem Wd.foldQ {u : List Int} (h : Wd u) : foldB (qB (strOfNums u)) = strOfNums u := by
  have hb := bytesOf_strOfNums h.asc.BT
  unfold qB
  rw [hb]
  obtain ⟨v, rfl, hv, hm⟩ := h
  have hv2 : ∀ x ∈ v, 97 ≤ x ∧ x ≤ 122 := fun x hx => by have := hm x hx; omega
  refine fold_asc ?_ ?_ ?_
  · intro x hx
    rcases List.mem_cons.1 hx with rfl | hx
    · decide
    · have := hm x hx; omega
  · show downR 81 :: List.map downR v = 113 :: v
    rw [map_down hv2]
    rfl
  · intro x hx
    rcases List.mem_cons.1 hx with rfl | hx
    · decide
    · have := hm x hx; omega
/-! ### where a word ends -/
theorem idx_word (s : ByteArray) (c : Int) (R : List Int) (hc0 : 0 ≤ c) (hc : c < 128) (hl : letter c = false) (h39 : c ≠ 39) : ∀ (u : List Int) (p fuel : Nat), (bytesOf s).drop p = u ++ c :: R → (∀ x ∈ u, 97 ≤ x ∧ x ≤ 122) → u.length < fuel →
    Lib.idxFuncFrom pragma_Rules_known.p true s fuel p = ((p + u.length : Nat) : Int) := by
  have hlen : (bytesOf s).length = s.size := bytesOf_length s
  intro u
  induction u with
  | nil =>
    intro p fuel hd _ hf
    obtain ⟨fuel, rfl⟩ : ∃ m, fuel = m + 1 := ⟨fuel - 1, by simp at hf; omega⟩
    have hp : p < s.size := by
      have := congrArg List.length hd
      rw [List.length_drop, List.length_append, List.length_cons] at this
      omega
    have hidx : Lib.idxFuncFrom pragma_Rules_known.p true s (fuel + 1) p = if pragma_Rules_known.p (Utf8.decode s p).1 = true then (p : Int) else Lib.idxFuncFrom pragma_Rules_known.p true s fuel (p + (Utf8.decode s p).2) := by
      show (if p < s.size then _ else _) = _
      rw [if_pos hp]
    have hdn := dec_nx s p hp
    rw [hd, List.nil_append, nx_asc hc] at hdn
    rcases hdn with ⟨_, hde⟩ | ⟨hm, _⟩
    · rw [hidx, hde, if_pos]
      · rfl
      · rw [stop_eq, Int.toNat_of_nonneg hc0, hl, decide_eq_false h39]
        rfl
    · have := congrArg Prod.fst hm
      have : c = -1 := this
      omega
  | cons x u ih =>
    intro p fuel hd hu hf
    obtain ⟨fuel, rfl⟩ : ∃ m, fuel = m + 1 := ⟨fuel - 1, by simp at hf; omega⟩
    have hx := hu x (by simp)
    have hp : p < s.size := by
      have := congrArg List.length hd
      rw [List.length_drop, List.length_append, List.length_cons] at this
      omega
    have hidx : Lib.idxFuncFrom pragma_Rules_known.p true s (fuel + 1) p = if pragma_Rules_known.p (Utf8.decode s p).1 = true then (p : Int) else Lib.idxFuncFrom pragma_Rules_known.p true s fuel (p + (Utf8.decode s p).2) := by
      show (if p < s.size then _ else _) = _
      rw [if_pos hp]
    have hdn := dec_nx s p hp
    rw [hd, List.cons_append, nx_asc (by omega)] at hdn
    rcases hdn with ⟨_, hde⟩ | ⟨hm, _⟩
    · have hd2 : (bytesOf s).drop (p + 1) = u ++ c :: R := by
        have := congrArg (List.drop 1) hd
        rw [List.drop_drop] at this
        exact this
      have hps : pragma_Rules_known.p x.toNat = false := by
        rw [stop_eq, Int.toNat_of_nonneg (by omega), letter_of hx]
        rfl
      have := ih (p + 1) fuel hd2 (fun y hy => hu y (by simp [hy])) (by simp at hf; omega)
      rw [hidx, hde, if_neg (by rw [hps]; decide)]
      show Lib.idxFuncFrom _ true s fuel (p + (1 : Int).toNat) = _
      rw [show (1 : Int).toNat = 1 from rfl, this, List.length_cons]
      congr 1
      omega
    · have := congrArg Prod.fst hm
      have : x = -1 := this
      omega
theorem n_word (u : List Int) (c : Int) (R : List Int) (hB : BT (u ++ c :: R)) (hu : ∀ x ∈ u, 97 ≤ x ∧ x ≤ 122) (hc : c < 128) (hl : letter c = false) (h39 : c ≠ 39) : pragma_Rules_known.n (strOfNums (u ++ c :: R)) = u.length := by
  have hc0 := (hB c (by simp)).1
  have h := idx_word (strOfNums (u ++ c :: R)) c R hc0 hc hl h39 u 0 (strOfNums (u ++ c :: R)).size (by rw [bytesOf_strOfNums hB]; rfl) hu (by rw [strOfNums_size, List.length_append, List.length_cons]; omega)
  have e : Lib.idxFunc pragma_Rules_known.p true (strOfNums (u ++ c :: R)) = Lib.idxFuncFrom pragma_Rules_known.p true (strOfNums (u ++ c :: R)) (strOfNums (u ++ c :: R)).size 0 := rfl
  unfold pragma_Rules_known.n
  rw [e, h, if_neg (by omega)]
  omega
/-! ### cuts of texts told as lists -/
theorem data_str (l : List Int) : (strOfNums l).data.toList = l.map fun n => UInt8.ofNat n.toNat := strOfNums_data l
theorem ext_take (l : List Int) (n : Nat) : (strOfNums l).extract 0 n = strOfNums (l.take n) := by
  apply ba_ext
  rw [Lib.extract_toList, toList_eq_data, data_str, data_str, List.drop_zero, Nat.sub_zero, List.map_take]
theorem ext_drop (l : List Int) (n : Nat) : (strOfNums l).extract n (strOfNums l).size = strOfNums (l.drop n) := by
  apply ba_ext
  rw [Lib.extract_toList, toList_eq_data, data_str, data_str, List.map_drop, strOfNums_size, List.take_of_length_le (by rw [List.length_drop, List.length_map]; omega)]
def blankB (c : Int) : Bool := decide (c = 32) || decide (c = 9) || decide (c = 44)
theorem blank_has {c : Int} (h0 : 0 ≤ c) (h : c < 128) : ([32, 9, 44] : List UInt8).contains (UInt8.ofNat c.toNat) = blankB c := by
  obtain ⟨n, rfl⟩ : ∃ n : Nat, c = (n : Int) := ⟨c.toNat, by omega⟩
  have hn : n < 128 := by omega
  have : ∀ n : Nat, n < 128 → ([32, 9, 44] : List UInt8).contains (UInt8.ofNat ((n : Int)).toNat) = blankB (n : Int) := by decide +kernel
  exact this n hn
theorem trim_sep : ∀ (a : List Int) (x : Int) (R : List Int), (∀ y ∈ a, 0 ≤ y ∧ y < 128 ∧ blankB y = true) → 0 ≤ x → x < 128 → blankB x = false → trimB (strOfNums (a ++ x :: R)) = strOfNums (x :: R)
  | [], x, R, _, h0, h1, h2 => by
    apply ba_ext
    rw [toList_eq_data, toList_eq_data]
    show (Lib.trimLeftS (strOfNums (x :: R)).data.toList [32, 9, 44]).toArray.toList = _
    rw [data_str, List.map_cons]
    unfold Lib.trimLeftS
    rw [List.dropWhile_cons, if_neg (by rw [blank_has h0 h1, h2]; decide)]
  | y :: a, x, R, h, h0, h1, h2 => by
    have ih := trim_sep a x R (fun z hz => h z (by simp [hz])) h0 h1 h2
    obtain ⟨k0, k1, k2⟩ := h y (by simp)
    rw [← ih]
    apply ba_ext
    rw [toList_eq_data, toList_eq_data]
    show (Lib.trimLeftS (strOfNums (y :: (a ++ x :: R))).data.toList [32, 9, 44]).toArray.toList = (Lib.trimLeftS (strOfNums (a ++ x :: R)).data.toList [32, 9, 44]).toArray.toList
    rw [data_str, data_str, List.map_cons]
    unfold Lib.trimLeftS
    rw [List.dropWhile_cons, if_pos (by rw [blank_has k0 k1, k2])]
/-! ### the text of the law -/
def sepL (i : Nat) : List Int := if i % 4 = 0 then [32] else if i % 4 = 1 then [44] else if i % 4 = 2 then [44, 32] else [9]
theorem sep_ok (i : Nat) : ∀ y ∈ sepL i, 0 ≤ y ∧ y < 128 ∧ blankB y = true := by
  unfold sepL
  split
  · decide
  split
  · decide
  split
  · decide
  · decide
theorem sep_head (i : Nat) : ∃ y t, sepL i = y :: t ∧ (y = 32 ∨ y = 44 ∨ y = 9) := by
  unfold sepL
  split
  · exact ⟨_, _, rfl, by decide⟩
  split
  · exact ⟨_, _, rfl, by decide⟩
  split
  · exact ⟨_, _, rfl, by decide⟩
  · exact ⟨_, _, rfl, by decide⟩
theorem sep_len (i : Nat) : (sepL i).length ≤ 2 := by
  unfold sepL
  split
  · decide
  split
  · decide
  split
  · decide
  · decide
/-- The text from a word on; what is listed; bad: the place of the word ahead of which '=' stands. -/
def tx (bad : Int) : Nat → List (List Int) → List Int
  | _, [] => []
  | i, u :: t => (if (i : Int) = bad then [32, 61, 39] else []) ++ (sepL i ++ u) ++ tx bad (i + 1) t
def kw (bad : Int) : Nat → List (List Int) → List (List Int)
  | _, [] => []
  | i, u :: t => if (i : Int) = bad then [] else u :: kw bad (i + 1) t
theorem tx_cons (bad : Int) (i : Nat) (u : List Int) (t : List (List Int)) : tx bad i (u :: t) = (if (i : Int) = bad then [32, 61, 39] else []) ++ (sepL i ++ u) ++ tx bad (i + 1) t := rfl
theorem kw_cons (bad : Int) (i : Nat) (u : List Int) (t : List (List Int)) : kw bad i (u :: t) = if (i : Int) = bad then [] else u :: kw bad (i + 1) t := rfl
theorem tx_asc (bad : Int) : ∀ (l : List (List Int)) (i : Nat), (∀ u ∈ l, Wd u) → Asc (tx bad i l)
  | [], _, _ => fun x hx => by cases hx
  | u :: t, i, h => by
    refine Asc.app (Asc.app ?_ (Asc.app (fun y hy => ⟨(sep_ok i y hy).1, (sep_ok i y hy).2.1⟩) (h u (by simp)).asc)) (tx_asc bad t (i + 1) (fun z hz => h z (by simp [hz])))
    split
    · intro x hx; revert x; decide
    · intro x hx; cases hx
theorem tx_len (bad : Int) : ∀ (l : List (List Int)) (i : Nat), (∀ u ∈ l, Wd u) → (tx bad i l).length ≤ 11 * l.length
  | [], _, _ => Nat.zero_le _
  | u :: t, i, h => by
    have ih := tx_len bad t (i + 1) (fun z hz => h z (by simp [hz]))
    have h1 := (h u (by simp)).len
    have h2 := sep_len i
    unfold tx
    rw [List.length_append, List.length_append, List.length_append, List.length_cons]
    split
    · rw [show ([32, 61, 39] : List Int).length = 3 from rfl]; omega
    · rw [List.length_nil]; omega
theorem tx_mem (bad : Int) : ∀ (l : List (List Int)) (i : Nat), (∀ u ∈ l, Wd u) → ∀ x ∈ tx bad i l, x = 32 ∨ x = 61 ∨ x = 39 ∨ x = 44 ∨ x = 9 ∨ (97 ≤ x ∧ x ≤ 122)
  | [], _, _, x, hx => by cases hx
  | u :: t, i, h, x, hx => by
    unfold tx at hx
    rcases List.mem_append.1 hx with hx | hx
    · rcases List.mem_append.1 hx with hx | hx
      · split at hx
        · simp only [List.mem_cons, List.not_mem_nil, or_false] at hx
          omega
        · cases hx
      · rcases List.mem_append.1 hx with hx | hx
        · have := (sep_ok i x hx).2.2
          unfold blankB at this
          simp only [Bool.or_eq_true, decide_eq_true_eq] at this
          omega
        · have := (h u (by simp)).mem x hx
          omega
    · exact tx_mem bad t (i + 1) (fun z hz => h z (by simp [hz])) x hx
theorem tx_ge (bad : Int) : ∀ (l : List (List Int)) (i : Nat), (∀ u ∈ l, Wd u) → l.length ≤ (tx bad i l).length
  | [], _, _ => Nat.zero_le _
  | u :: t, i, h => by
    have ih := tx_ge bad t (i + 1) (fun z hz => h z (by simp [hz]))
    have h1 := (h u (by simp)).len
    unfold tx
    rw [List.length_append, List.length_append, List.length_append, List.length_cons]
    omega
/-- What stands behind a word: no letter, no apostrophe, no colon. -/
theorem tx_head (bad : Int) (l : List (List Int)) (i : Nat) : ∃ c R, tx bad i l ++ [10] = c :: R ∧ (c = 10 ∨ c = 32 ∨ c = 44 ∨ c = 9) := by
  cases l with
  | nil => exact ⟨10, [], rfl, .inl rfl⟩
  | cons u t =>
    unfold tx
    split
    · exact ⟨32, _, rfl, .inr (.inl rfl)⟩
    · obtain ⟨y, z, e, h⟩ := sep_head i
      rw [e]
      exact ⟨y, _, rfl, .inr h⟩
theorem stops {c : Int} (h : c = 10 ∨ c = 32 ∨ c = 44 ∨ c = 9) : 0 ≤ c ∧ c < 128 ∧ letter c = false ∧ c ≠ 39 := by
  rcases h with rfl | rfl | rfl | rfl <;> decide
theorem known_stop (f : Nat) (s : ByteArray) (ws : List ByteArray) (h : pragma_Rules_known.n (trimB s) = 0) : knownF f s ws = ws := by
  cases f with
  | zero => rfl
  | succ f =>
    unfold knownF
    rw [h, if_neg]
    rw [check_empty (by rw [ByteArray.size_extract]; omega)]
    decide
theorem known_tx (bad : Int) : ∀ (l : List (List Int)) (i f : Nat) (acc : List ByteArray), (∀ u ∈ l, Wd u) → l.length < f → knownF f (strOfNums (tx bad i l ++ [10])) acc = acc ++ (kw bad i l).map strOfNums
  | [], i, f, acc, _, _ => by
    rw [known_stop]
    · exact (List.append_nil _).symm
    · show pragma_Rules_known.n (trimB (strOfNums [10])) = 0
      decide +kernel
  | u :: t, i, f, acc, h, hf => by
    have hu := h u (by simp)
    have ht : ∀ z ∈ t, Wd z := fun z hz => h z (by simp [hz])
    have hA : Asc (tx bad i (u :: t) ++ [10]) := Asc.app (tx_asc bad _ i h) (by intro x hx; revert x; decide)
    by_cases hb : (i : Int) = bad
    · have e : tx bad i (u :: t) ++ [10] = [32] ++ 61 :: ([39] ++ (sepL i ++ u) ++ tx bad (i + 1) t ++ [10]) := by
        rw [tx_cons, if_pos hb]
        simp
      have ek : kw bad i (u :: t) = [] := by rw [kw_cons, if_pos hb]
      rw [ek, known_stop]
      · exact (List.append_nil _).symm
      · rw [e] at hA ⊢
        rw [trim_sep [32] 61 _ (by decide) (by decide) (by decide) (by decide)]
        have hA2 : Asc ([] ++ 61 :: ([39] ++ (sepL i ++ u) ++ tx bad (i + 1) t ++ [10])) := fun x hx => hA x (by rw [List.nil_append] at hx; exact List.mem_append_right _ hx)
        exact n_word [] 61 _ hA2.BT (fun x hx => by cases hx) (by decide) (by decide) (by decide)
    · have ek : kw bad i (u :: t) = u :: kw bad (i + 1) t := by rw [kw_cons, if_neg hb]
      have e : tx bad i (u :: t) ++ [10] = sepL i ++ (u ++ (tx bad (i + 1) t ++ [10])) := by
        rw [tx_cons, if_neg hb]
        simp
      obtain ⟨f, rfl⟩ : ∃ g, f = g + 1 := ⟨f - 1, by simp at hf; omega⟩
      have ih := known_tx bad t (i + 1) f (acc ++ [strOfNums u]) ht (by simp at hf; omega)
      obtain ⟨c, R, ec, hc⟩ := tx_head bad t (i + 1)
      obtain ⟨s0, s1, s2, s3⟩ := stops hc
      obtain ⟨v, ev, _, _⟩ := id hu
      have etr : trimB (strOfNums (tx bad i (u :: t) ++ [10])) = strOfNums (u ++ (tx bad (i + 1) t ++ [10])) := by
        rw [e, ev]
        exact trim_sep (sepL i) 113 _ (sep_ok i) (by decide) (by decide) (by decide)
      have hA2 : Asc (u ++ c :: R) := by
        rw [e, ec] at hA
        exact fun x hx => hA x (List.mem_append_right _ hx)
      have hn : pragma_Rules_known.n (strOfNums (u ++ (tx bad (i + 1) t ++ [10]))) = u.length := by
        rw [ec]
        exact n_word u c R hA2.BT hu.mem s1 s2 s3
      unfold knownF
      rw [etr, hn, ext_take, ext_drop, List.take_left, List.drop_left, hu.check, if_pos rfl, hu.fold, ih, ek, List.map_cons, List.append_assoc]
      rfl
end Go.Proofs.YtkflgnhcfhmkdaaDoor.Pure
end
