/- PragmaReads: any bytes; a text of pieces: which lines are left alone, which words are known. The tables of Go's library lie as their texts lay them. -/
import Derived.Test.YtkflgnhcfhmkdaaDoorBAll
namespace Go.Proofs.YtkflgnhcfhmkdaaDoor.Pure
open Go.RowKit Go.Proofs.YtkflgnhcfhmkdaaDoor.PPragmaReads Go.Proofs.YtkflgnhcfhmkdaaDoorW.PrintWords Go.Proofs.YtkflgnhcfhmkdaaDoorW.PrintLast
open Go.Proofs.YtkflgnhcfhmkdaaDoor.M Go.Proofs.YtkflgnhcfhmkdaaDoor.X Go.Proofs.YtkflgnhcfhmkdaaDoor.H
set_option linter.unusedVariables false
set_option linter.unusedSimpArgs false
theorem prag_awake : Ev (fun k => redpenlaw17_Awake.f k) true := Ev.of redpenlaw17_Awake.mono (k := 60) (by decide +kernel)
theorem knows_ours (offs : List (Int × Int)) (ws : List ByteArray) (w : ByteArray) (hw : w.size ≤ 300) : Ev (fun k => pragma_Rules_Knows.f k [⟨offs, ws⟩] w) (hasW ws (foldB w)) := by
  have hf := fold_ev w (by omega)
  have hs := foldB_size w
  refine Ev.bind (f := fun k s => if s.size ≤ 140737488351232 then some (hasW ws s) else none) hf ?_
  exact ⟨0, fun k _ => if_pos (by omega)⟩
theorem knows_l0 (s : ByteArray) (sp : List S40) (ws : List ByteArray) (hl : ws.length ≤ 1000000000000) : ∀ (d i : Nat), ws.length - i = d → i ≤ ws.length → Ev (fun k => redpenref15_Rules_Knows.l0 k s (i : Int) sp ws) (hasW (ws.drop i) s) := by
  intro d
  induction d with
  | zero =>
    intro i hd hi
    rw [List.drop_of_length_le (by omega)]
    refine Ev.step (f := fun _ => some false) (fun k => ?_) (Ev.now _)
    simp only [redpenref15_Rules_Knows.l0]
    rw [if_neg (by omega)]
  | succ d ih =>
    intro i hd hi
    have hlt : i < ws.length := by omega
    have ew : ∀ _ : Unit, wrap64 ((i : Int) + 1) = ((i + 1 : Nat) : Int) := fun _ => hw _ _ (by omega) (by omega)
    have hr : rdOf ByteArray.empty ws (i : Int) = ws[i] := by
      unfold rdOf
      rw [Int.toNat_natCast, List.getD_eq_getElem?_getD, List.getElem?_eq_getElem hlt]; rfl
    rw [List.drop_eq_getElem_cons hlt]
    have hh : hasW (ws[i] :: ws.drop (i + 1)) s = (ws[i].toList == s.toList || hasW (ws.drop (i + 1)) s) := rfl
    rw [hh]
    by_cases c : ws[i].toList = s.toList
    · rw [beq_iff_eq.2 c, Bool.true_or]
      refine Ev.step (f := fun _ => some true) (fun k => ?_) (Ev.now _)
      simp only [redpenref15_Rules_Knows.l0, hr]
      rw [if_pos (by omega), if_pos (by omega), if_pos c]
    · rw [beq_eq_false_iff_ne.2 c, Bool.false_or]
      refine Ev.step (fun k => ?_) (ih (i + 1) (by omega) (by omega))
      simp only [redpenref15_Rules_Knows.l0, hr, ew ()]
      rw [if_pos (by omega), if_pos (by omega), if_neg c]
theorem knows_ref (sp : List S40) (ws : List ByteArray) (hl : ws.length ≤ 1000000000000) (w : ByteArray) (hw : w.size ≤ 300) : Ev (fun k => redpenref15_Rules_Knows.f k sp ws w) (hasW ws (foldB w)) := by
  have h := knows_l0 (foldB w) sp ws hl _ 0 rfl (Nat.zero_le _)
  rw [List.drop_zero] at h
  exact Ev.bind (rfold_ev w (by omega)) h
theorem wordsLD_len : ∀ (L : List (List Int)) (ws : List ByteArray), (∀ l ∈ L, l.length ≤ 4000) → (wordsLD L ws).length ≤ ws.length + L.length * 16004000
  | [], ws, _ => Nat.le_add_right _ _
  | l :: t, ws, h => by
    obtain ⟨_, a2, a4⟩ := AL_ok l (h l (by simp))
    have h1 := wordsD_len (AL l) ws a4
    have ih := wordsLD_len t (wordsD (AL l) ws) (fun x hx => h x (by simp [hx]))
    have hm : (AL l).length * 4000 ≤ 16004000 := by omega
    rw [List.length_cons, Nat.succ_mul]
    unfold wordsLD
    omega
theorem ls_each_le (X : List Int) (l : List Int) (hl : l ∈ ls X) : l.length ≤ X.length := by
  obtain ⟨j, hj, rfl⟩ := List.mem_iff_getElem.1 hl
  have h1 := off_succ (ls X) j hj
  have h2 := off_le (ls X) (j + 1)
  have hg : (ls X).getD j [] = (ls X)[j] := by rw [List.getD_eq_getElem?_getD, List.getElem?_eq_getElem hj]; rfl
  rw [ls_flat] at h2
  rw [hg] at h1
  omega
theorem offsQ_len (A : List Int → List Ak) : ∀ (L : List (List Int)) (p : Nat) (off next : Bool), (offsQ A L p off next).length ≤ L.length
  | [], _, _, _ => Nat.le_refl _
  | l :: t, p, off, next => by
    have ih := offsQ_len A t (p + l.length) (stepQ (A l) off false (off || next)).1 (stepQ (A l) off false (off || next)).2.1
    unfold offsQ
    rw [List.length_append, List.length_cons]
    split
    · rw [List.length_singleton]; omega
    · rw [List.length_nil]; omega
abbrev ten (w : ByteArray) : List ByteArray := [w, (⟨#[119, 111, 114, 100]⟩ : ByteArray), (⟨#[84, 69, 72]⟩ : ByteArray), (⟨#[100, 111, 110, 39, 116]⟩ : ByteArray), (⟨#[97]⟩ : ByteArray), (⟨#[98]⟩ : ByteArray), (⟨#[97, 98, 99]⟩ : ByteArray), (⟨#[68, 69, 70]⟩ : ByteArray), (⟨#[120]⟩ : ByteArray), (⟨#[]⟩ : ByteArray)]
theorem ten_size (w : ByteArray) (hw : w.size ≤ 300) : ∀ x ∈ ten w, x.size ≤ 300 := by
  intro x hx
  simp only [ten, List.mem_cons, List.not_mem_nil, or_false] at hx
  rcases hx with rfl | rfl | rfl | rfl | rfl | rfl | rfl | rfl | rfl | rfl
  · exact hw
  all_goals (show (_ : ByteArray).size ≤ 300; decide)
theorem bne_same (b : Bool) : (b != b) = false := by cases b <;> rfl
section
variable (a2 : ByteArray) (ha : a2.size ≤ 300) (offs : List (Int × Int)) (ws : List ByteArray) (ho : offs.length ≤ 100000) (hws : ws.length ≤ 1000000000000)
include ha hws
theorem rd_l5 : ∀ (d i : Nat), 10 - i = d → i ≤ 10 → Ev (fun k => redpenlaw17_PragmaReads.l5 k [⟨offs, ws⟩] (ten a2) (10 : Int) (i : Int) (offs.map pragma_Rules_Spans.mk) ws) true := by
  intro d
  induction d with
  | zero =>
    intro i hd hi
    refine Ev.step (f := fun _ => some true) (fun k => ?_) (Ev.now _)
    simp only [redpenlaw17_PragmaReads.l5]
    rw [if_neg (by omega)]
  | succ d ih =>
    intro i hd hi
    have hlt : i < (ten a2).length := by show i < 10; omega
    have ew : ∀ _ : Unit, wrap64 ((i : Int) + 1) = ((i + 1 : Nat) : Int) := fun _ => hw _ _ (by omega) (by omega)
    have hr : rdOf ByteArray.empty (ten a2) (i : Int) = (ten a2)[i] := by
      unfold rdOf
      rw [Int.toNat_natCast, List.getD_eq_getElem?_getD, List.getElem?_eq_getElem hlt]; rfl
    have hz := ten_size a2 ha _ (List.getElem_mem hlt)
    have h1 := knows_ours offs ws (ten a2)[i] hz
    have h2 := knows_ref (offs.map pragma_Rules_Spans.mk) ws hws (ten a2)[i] hz
    generalize (ten a2)[i] = w at *
    have hl : ((ten a2).length : Int) = 10 := rfl
    refine Ev.step (f := fun k => (pragma_Rules_Knows.f k [⟨offs, ws⟩] w).bind fun t406 => ((redpenref15_Rules_Knows.f k (offs.map pragma_Rules_Spans.mk) ws w).bind fun t407 => (if (t406 != t407) = true then (some false) else (redpenlaw17_PragmaReads.l5 k [⟨offs, ws⟩] (ten a2) (10 : Int) ((i + 1 : Nat) : Int) (offs.map pragma_Rules_Spans.mk) ws)))) (fun k => ?_) (Ev.bind h1 (Ev.bind h2 ?_))
    · simp only [redpenlaw17_PragmaReads.l5, ew (), hr]
      rw [if_pos (by omega), if_pos (by omega), if_pos (by omega)]
    · rw [bne_same]
      simp only [Bool.false_eq_true, if_false]
      exact ih (i + 1) (by omega) (by omega)
include ho
theorem rd_l4 (X : List Int) (hX : X.length ≤ 100000) : ∀ (d i : Nat), X.length + 2 - i = d → i ≤ X.length + 2 → Ev (fun k => redpenlaw17_PragmaReads.l4 k a2 X [⟨offs, ws⟩] ((i : Int) - 1) (offs.map pragma_Rules_Spans.mk) ws) true := by
  intro d
  induction d with
  | zero =>
    intro i hd hi
    have h := rd_l5 a2 ha offs ws hws _ 0 rfl (Nat.zero_le _)
    refine Ev.step (fun k => ?_) h
    simp only [redpenlaw17_PragmaReads.l4]
    rw [if_neg (by omega)]
    rfl
  | succ d ih =>
    intro i hd hi
    have ew : ∀ _ : Unit, wrap64 ((i : Int) - 1 + 1) = ((i + 1 : Nat) : Int) - 1 := fun _ => by rw [w64 (by omega) (by omega)]; omega
    have g1 : pragma_Rules_Off.f [⟨offs, ws⟩] ((i : Int) - 1) = some (pragma_Rules_Off.any ((i : Int) - 1) offs) := if_pos (show offs.length < 1000000000000 by omega)
    have hA := alone_ev ((i : Int) - 1) ws offs ho offs.length 0 rfl (Nat.zero_le _)
    rw [List.drop_zero] at hA
    refine Ev.step (f := fun k => (redpenref15_Rules_Alone.f k (offs.map pragma_Rules_Spans.mk) ws ((i : Int) - 1)).bind fun t401 => (if (pragma_Rules_Off.any ((i : Int) - 1) offs != t401) = true then (some false) else (redpenlaw17_PragmaReads.l4 k a2 X [⟨offs, ws⟩] (((i + 1 : Nat) : Int) - 1) (offs.map pragma_Rules_Spans.mk) ws))) (fun k => ?_) (Ev.bind hA ?_)
    · simp only [redpenlaw17_PragmaReads.l4, ew ()]
      rw [if_pos (by omega)]
      exact ob g1 rfl
    · rw [bne_same]
      simp only [Bool.false_eq_true, if_false]
      exact ih (i + 1) (by omega) (by omega)
theorem rd_l3 (X : List Int) (hX : X.length ≤ 100000) : ∀ (d i : Nat), offs.length - i = d → i ≤ offs.length → Ev (fun k => redpenlaw17_PragmaReads.l3 k a2 X [⟨offs, ws⟩] (offs.map pragma_Rules_Spans.mk) (offs.length : Int) (i : Int) (offs.map pragma_Rules_Spans.mk) ws) true := by
  have hm : ((offs.map pragma_Rules_Spans.mk).length : Int) = (offs.length : Int) := by rw [List.length_map]
  intro d
  induction d with
  | zero =>
    intro i hd hi
    refine Ev.step (fun k => ?_) (rd_l4 a2 ha offs ws ho hws X hX _ 0 rfl (Nat.zero_le _))
    simp only [redpenlaw17_PragmaReads.l3]
    rw [if_neg (by omega)]
    rfl
  | succ d ih =>
    intro i hd hi
    have ew : ∀ _ : Unit, wrap64 ((i : Int) + 1) = ((i + 1 : Nat) : Int) := fun _ => hw _ _ (by omega) (by omega)
    refine Ev.step (fun k => ?_) (ih (i + 1) (by omega) (by omega))
    simp only [redpenlaw17_PragmaReads.l3, ew ()]
    rw [if_pos (by omega), if_pos (by omega), if_pos (by omega), if_pos (by omega), beq_self_eq_true, beq_self_eq_true]
    rfl
end
theorem second_ev (a2 : ByteArray) (ha : a2.size ≤ 300) (X : List Int) (hX : X.length ≤ 4000) : Ev (fun k => (pragma_Read.f k X).bind fun t385 => ((redpenref15_Read.f k X).bind fun bt388 => ((pragma_Rules_Spans.f t385).bind fun t395 => (if (t395.length : Int) = (bt388.1.length : Int) then (redpenlaw17_PragmaReads.l3 k a2 X t385 t395 (t395.length : Int) 0 bt388.1 bt388.2) else (some false))))) true := by
  have hn := ls_count X
  have hr := read_any X hX
  have hd := refread_any X hX
  have ho := offsQ_len AL (ls X) 0 false false
  have hwl := wordsLD_len (ls X) [] (fun l hl => Nat.le_trans (ls_each_le X l hl) hX)
  rw [wordsL_LD] at hr
  rw [List.length_nil] at hwl
  generalize wordsLD (ls X) [] = ws at *
  generalize offsQ AL (ls X) 0 false false = offs at *
  have g1 : pragma_Rules_Spans.f [⟨offs, ws⟩] = some (offs.map pragma_Rules_Spans.mk) := if_pos (show offs.length < 1000000000000 by omega)
  have h3 := rd_l3 a2 ha offs ws (by omega) (by omega) X (by omega) _ 0 rfl (Nat.zero_le _)
  refine Ev.bind hr (Ev.bind hd (Ev.congr (fun k => ob g1 ((if_pos rfl).trans ?_)) h3))
  rw [List.length_map]
  rfl
section
variable (a2 : ByteArray) (ha : a2.size ≤ 300) (offs : List (Int × Int)) (ws : List ByteArray) (ho : offs.length ≤ 100000) (hws : ws.length ≤ 1000000000000) (Y : List Int) (hY : Y.length ≤ 4000)
include ha hws hY
theorem rd_l2 : ∀ (d i : Nat), 10 - i = d → i ≤ 10 → Ev (fun k => redpenlaw17_PragmaReads.l2 k a2 [⟨offs, ws⟩] Y (ten a2) (10 : Int) (i : Int) (offs.map pragma_Rules_Spans.mk) ws) true := by
  intro d
  induction d with
  | zero =>
    intro i hd hi
    refine Ev.step (fun k => ?_) (second_ev a2 ha Y hY)
    simp only [redpenlaw17_PragmaReads.l2]
    rw [if_neg (by omega)]
  | succ d ih =>
    intro i hd hi
    have hlt : i < (ten a2).length := by show i < 10; omega
    have ew : ∀ _ : Unit, wrap64 ((i : Int) + 1) = ((i + 1 : Nat) : Int) := fun _ => hw _ _ (by omega) (by omega)
    have hr : rdOf ByteArray.empty (ten a2) (i : Int) = (ten a2)[i] := by
      unfold rdOf
      rw [Int.toNat_natCast, List.getD_eq_getElem?_getD, List.getElem?_eq_getElem hlt]; rfl
    have hz := ten_size a2 ha _ (List.getElem_mem hlt)
    have h1 := knows_ours offs ws (ten a2)[i] hz
    have h2 := knows_ref (offs.map pragma_Rules_Spans.mk) ws hws (ten a2)[i] hz
    generalize (ten a2)[i] = w at *
    have hl : ((ten a2).length : Int) = 10 := rfl
    refine Ev.step (f := fun k => (pragma_Rules_Knows.f k [⟨offs, ws⟩] w).bind fun t406 => ((redpenref15_Rules_Knows.f k (offs.map pragma_Rules_Spans.mk) ws w).bind fun t407 => (if (t406 != t407) = true then (some false) else (redpenlaw17_PragmaReads.l2 k a2 [⟨offs, ws⟩] Y (ten a2) (10 : Int) ((i + 1 : Nat) : Int) (offs.map pragma_Rules_Spans.mk) ws)))) (fun k => ?_) (Ev.bind h1 (Ev.bind h2 ?_))
    · simp only [redpenlaw17_PragmaReads.l2, ew (), hr]
      rw [if_pos (by omega), if_pos (by omega), if_pos (by omega)]
    · rw [bne_same]
      simp only [Bool.false_eq_true, if_false]
      exact ih (i + 1) (by omega) (by omega)
include ho
theorem rd_l1 (X : List Int) (hX : X.length ≤ 100000) : ∀ (d i : Nat), X.length + 2 - i = d → i ≤ X.length + 2 → Ev (fun k => redpenlaw17_PragmaReads.l1 k a2 X [⟨offs, ws⟩] ((i : Int) - 1) Y (offs.map pragma_Rules_Spans.mk) ws) true := by
  intro d
  induction d with
  | zero =>
    intro i hd hi
    have h := rd_l2 a2 ha offs ws hws Y hY _ 0 rfl (Nat.zero_le _)
    refine Ev.step (fun k => ?_) h
    simp only [redpenlaw17_PragmaReads.l1]
    rw [if_neg (by omega)]
    rfl
  | succ d ih =>
    intro i hd hi
    have ew : ∀ _ : Unit, wrap64 ((i : Int) - 1 + 1) = ((i + 1 : Nat) : Int) - 1 := fun _ => by rw [w64 (by omega) (by omega)]; omega
    have g1 : pragma_Rules_Off.f [⟨offs, ws⟩] ((i : Int) - 1) = some (pragma_Rules_Off.any ((i : Int) - 1) offs) := if_pos (show offs.length < 1000000000000 by omega)
    have hA := alone_ev ((i : Int) - 1) ws offs ho offs.length 0 rfl (Nat.zero_le _)
    rw [List.drop_zero] at hA
    refine Ev.step (f := fun k => (redpenref15_Rules_Alone.f k (offs.map pragma_Rules_Spans.mk) ws ((i : Int) - 1)).bind fun t401 => (if (pragma_Rules_Off.any ((i : Int) - 1) offs != t401) = true then (some false) else (redpenlaw17_PragmaReads.l1 k a2 X [⟨offs, ws⟩] (((i + 1 : Nat) : Int) - 1) Y (offs.map pragma_Rules_Spans.mk) ws))) (fun k => ?_) (Ev.bind hA ?_)
    · simp only [redpenlaw17_PragmaReads.l1, ew ()]
      rw [if_pos (by omega)]
      exact ob g1 rfl
    · rw [bne_same]
      simp only [Bool.false_eq_true, if_false]
      exact ih (i + 1) (by omega) (by omega)
theorem rd_l0 (X : List Int) (hX : X.length ≤ 100000) : ∀ (d i : Nat), offs.length - i = d → i ≤ offs.length → Ev (fun k => redpenlaw17_PragmaReads.l0 k a2 X [⟨offs, ws⟩] (offs.map pragma_Rules_Spans.mk) Y (offs.length : Int) (i : Int) (offs.map pragma_Rules_Spans.mk) ws) true := by
  have hm : ((offs.map pragma_Rules_Spans.mk).length : Int) = (offs.length : Int) := by rw [List.length_map]
  intro d
  induction d with
  | zero =>
    intro i hd hi
    refine Ev.step (fun k => ?_) (rd_l1 a2 ha offs ws ho hws Y hY X hX _ 0 rfl (Nat.zero_le _))
    simp only [redpenlaw17_PragmaReads.l0]
    rw [if_neg (by omega)]
    rfl
  | succ d ih =>
    intro i hd hi
    have ew : ∀ _ : Unit, wrap64 ((i : Int) + 1) = ((i + 1 : Nat) : Int) := fun _ => hw _ _ (by omega) (by omega)
    refine Ev.step (fun k => ?_) (ih (i + 1) (by omega) (by omega))
    simp only [redpenlaw17_PragmaReads.l0, ew ()]
    rw [if_pos (by omega), if_pos (by omega), if_pos (by omega), if_pos (by omega), beq_self_eq_true, beq_self_eq_true]
    rfl
end
theorem PragmaReads (l0 l1 : List Int) (a2 : ByteArray) (h0 : l0.length * 1 ≤ 140737488351232) (h1 : ∀ x ∈ l0, (fun n => (Lit.int .u8 n).wf = true) x) (h2 : l1.length * 1 ≤ 140737488351232) (h3 : ∀ x ∈ l1, (fun n => (Lit.int .u8 n).wf = true) x) (h4 : a2.size ≤ 140737488351232) : ∃ k, redpenlaw17_PragmaReads.f k l0 l1 a2 = some true := by
  have hB0 : BT l0 := by
    intro x hx
    have := h1 x hx
    simp [Lit.wf, IntKind.min, IntKind.max, IntKind.signed, IntKind.bits] at this
    omega
  have hB1 : BT l1 := by
    intro x hx
    have := h3 x hx
    simp [Lit.wf, IntKind.min, IntKind.max, IntKind.signed, IntKind.bits] at this
    omega
  refine Ev.rounds (Ev.bind prag_awake ?_)
  simp only [if_true]
  by_cases c1 : (l0.length : Int) > 1000
  · simp only [if_pos c1]
    refine Ev.step (f := fun _ => some true) (fun k => ?_) (Ev.now _)
    simp only [redpenlaw17_PragmaReads.j0]
    rw [if_pos trivial]
  · simp only [if_neg c1]
    by_cases c2 : (a2.size : Int) > 300
    · rw [decide_eq_true c2]
      refine Ev.step (f := fun _ => some true) (fun k => ?_) (Ev.now _)
      simp only [redpenlaw17_PragmaReads.j0]
      rw [if_pos trivial]
    · rw [decide_eq_false c2]
      obtain ⟨ps, hps, hpp⟩ : ∃ ps, redpenlaw17_pieces.f = some ps ∧ ∀ p ∈ ps, p.size ≤ 40 := ⟨_, rfl, by decide +kernel⟩
      obtain ⟨Y, _, hY, hbits⟩ := bits_eq ps hpp l0 l1 hB0 hB1 (by omega) (by omega)
      have hn := ls_count l0
      have hr := read_any l0 (by omega)
      have hd := refread_any l0 (by omega)
      have ho := offsQ_len AL (ls l0) 0 false false
      have hwl := wordsLD_len (ls l0) [] (fun l hl => Nat.le_trans (ls_each_le l0 l hl) (by omega))
      rw [wordsL_LD] at hr
      rw [List.length_nil] at hwl
      generalize wordsLD (ls l0) [] = ws at *
      generalize offsQ AL (ls l0) 0 false false = offs at *
      have g1 : pragma_Rules_Spans.f [⟨offs, ws⟩] = some (offs.map pragma_Rules_Spans.mk) := if_pos (show offs.length < 1000000000000 by omega)
      have h5 := rd_l0 a2 (by omega) offs ws (by omega) (by omega) Y (by omega) l0 (by omega) _ 0 rfl (Nat.zero_le _)
      refine Ev.step (f := fun k => (redpenlaw11_Bits.f k ps l1 l0).bind fun t359 => ((pragma_Read.f k l0).bind fun t362 => ((redpenref15_Read.f k l0).bind fun bt365 => ((pragma_Rules_Spans.f t362).bind fun t372 => (if (t372.length : Int) = (bt365.1.length : Int) then (redpenlaw17_PragmaReads.l0 k a2 l0 t362 t372 t359 (t372.length : Int) 0 bt365.1 bt365.2) else (some false)))))) (fun k => ?_) (Ev.bind hbits (Ev.bind hr (Ev.bind hd (Ev.congr (fun k => ob g1 ((if_pos rfl).trans ?_)) h5))))
      · simp only [redpenlaw17_PragmaReads.j0]
        rw [if_neg (by simp)]
        exact ob hps rfl
      · rw [List.length_map]
        rfl
end Go.Proofs.YtkflgnhcfhmkdaaDoor.Pure
