/- The printed functions of decode are the plain ones: digits, Escape, one, Units. -/
import Derived.Test.YtekalnhackjldaaDoorBUtfDecodeBack
import Derived.Test.YtekalnhackjldaaDoorMDec
namespace Go.Proofs.YtekalnhackjldaaDoor.Pure
open Go.RowKit Go.Proofs.YtekalnhackjldaaDoor.PDecodeBack Go.Proofs.YtekalnhackjldaaDoorW.PrintWords Go.Proofs.YtekalnhackjldaaDoorW.PrintLast
open Go.Proofs.YtekalnhackjldaaDoor.M Go.Proofs.YtekalnhackjldaaDoor.X Go.Proofs.YtekalnhackjldaaDoor.H
set_option linter.unusedVariables false
set_option linter.unusedSimpArgs false

theorem rd_byte {b : List Int} (hB : BT b) {i : Nat} (hi : i < b.length) : 0 ≤ rd b (i : Int) ∧ rd b (i : Int) < 256 := by
  unfold rd
  rw [Int.toNat_natCast, List.getD_eq_getElem?_getD, List.getElem?_eq_getElem hi]
  exact hB _ (List.getElem_mem hi)
def digR (o : Option Int) : Int × Bool := match o with
  | none => (0, false)
  | some v => (v, true)
theorem valid_eq (v : Int) : decode_valid.f v = some (okV v) := by
  unfold decode_valid.f
  by_cases h1 : v > 0
  · rw [if_pos h1]
    by_cases h2 : v ≤ 1114111
    · rw [if_pos h2]
      by_cases h3 : v ≥ 55296
      · rw [if_pos h3]
        by_cases h4 : v < 57344
        · rw [decide_eq_true h4]; congr 1; symm; rw [Bool.not_true, Bool.eq_false_iff, Ne, okV_iff]; omega
        · rw [decide_eq_false h4]; congr 1; symm; rw [Bool.not_false, okV_iff]; omega
      · rw [if_neg h3]; congr 1; symm; rw [Bool.not_false, okV_iff]; omega
    · rw [if_neg h2]; congr 1; symm; rw [Bool.eq_false_iff, Ne, okV_iff]; omega
  · rw [if_neg h1]; congr 1; symm; rw [Bool.eq_false_iff, Ne, okV_iff]; omega
theorem digits_from (l : List Int) (hB : BT l) (hl : l.length ≤ 8) : ∀ (d i : Nat) (acc : Int), l.length - i = d → i ≤ l.length → 0 ≤ acc → acc.toNat < 16 ^ i → Ev (fun f => decode_digits.l0 f acc l (l.length : Int) (i : Int)) (digR (hexM acc (l.drop i))) := by
  intro d
  induction d with
  | zero =>
    intro i acc hd hi h0 h1
    refine Ev.step (f := fun _ => some (acc, true)) (fun f => ?_) (by rw [List.drop_eq_nil_of_le (by omega)]; exact Ev.now _)
    simp only [decode_digits.l0]
    rw [if_neg (by omega)]
  | succ d ih =>
    intro i acc hd hi h0 h1
    have hlt : i < l.length := by omega
    have hp : 16 ^ i ≤ 16 ^ 8 := Nat.pow_le_pow_right (by omega) (by omega)
    have hacc : acc < 1152921504606846976 := by have : 16 ^ 8 = 4294967296 := by decide
                                                omega
    have hc := rd_byte hB hlt
    have hdrop : l.drop i = rd l (i : Int) :: l.drop (i + 1) := by
      rw [List.drop_eq_getElem_cons hlt]
      unfold rd
      rw [Int.toNat_natCast, List.getD_eq_getElem?_getD, List.getElem?_eq_getElem hlt]
      rfl
    rw [hdrop]
    have ew : wrap64 ((i : Int) + 1) = ((i + 1 : Nat) : Int) := by rw [w64 (by omega) (by omega)]; omega
    have next : ∀ v : Int, 0 ≤ v → v < 16 → Ev (fun f => decode_digits.l0 f (Go.bits .or .u64 (IntKind.u64.wrap (acc * 16)) v) l (l.length : Int) (wrap64 ((i : Int) + 1))) (digR (hexM (acc * 16 + v) (l.drop (i + 1)))) := by
      intro v v0 v1
      rw [or4 acc v h0 hacc v0 v1, ew]
      refine ih (i + 1) _ (by omega) (by omega) (by omega) ?_
      rw [Nat.pow_succ]
      omega
    obtain ⟨c, hcc⟩ : ∃ c, rd l (i : Int) = c := ⟨_, rfl⟩
    rw [hcc] at hc ⊢
    have e0 : ∀ f, decode_digits.l0 (f + 1) acc l (l.length : Int) (i : Int) = decode_digits.j1 f acc c l (l.length : Int) (i : Int) (decide (48 ≤ c ∧ c ≤ 57)) := by
      intro f
      simp only [decode_digits.l0]
      rw [if_pos (by omega), if_pos (by omega), if_pos (by omega), hcc]
      by_cases h : c ≥ 48
      · rw [if_pos h]; congr 1; rw [decide_eq_decide]; omega
      · rw [if_neg h]; congr 1; symm; rw [decide_eq_false_iff_not]; omega
    refine Ev.step e0 ?_
    by_cases ha : 48 ≤ c ∧ c ≤ 57
    · have hx : hexD c = some (c - 48) := by unfold hexD; rw [if_pos ha]
      rw [decide_eq_true ha, show hexM acc (c :: l.drop (i + 1)) = hexM (acc * 16 + (c - 48)) (l.drop (i + 1)) by simp only [hexM, hx, Option.bind_some]]
      refine Ev.step (fun f => ?_) (next (c - 48) (by omega) (by omega))
      simp only [decode_digits.j1, if_true]
      rw [show (c - 48) % 256 = c - 48 by omega]
    · rw [decide_eq_false ha]
      have e1 : ∀ f, decode_digits.j1 (f + 1) acc c l (l.length : Int) (i : Int) false = decode_digits.j2 f acc c l (l.length : Int) (i : Int) (decide (97 ≤ c ∧ c ≤ 102)) := by
        intro f
        simp only [decode_digits.j1]
        rw [if_neg (by simp)]
        by_cases h : c ≥ 97
        · rw [if_pos h]; congr 1; rw [decide_eq_decide]; omega
        · rw [if_neg h]; congr 1; symm; rw [decide_eq_false_iff_not]; omega
      refine Ev.step e1 ?_
      by_cases hb : 97 ≤ c ∧ c ≤ 102
      · have hx : hexD c = some (c - 87) := by unfold hexD; rw [if_neg ha, if_pos hb]
        rw [decide_eq_true hb, show hexM acc (c :: l.drop (i + 1)) = hexM (acc * 16 + (c - 87)) (l.drop (i + 1)) by simp only [hexM, hx, Option.bind_some]]
        refine Ev.step (fun f => ?_) (next (c - 87) (by omega) (by omega))
        simp only [decode_digits.j2, if_true]
        rw [show ((c - 97) % 256 + 10) % 256 = c - 87 by omega]
      · rw [decide_eq_false hb]
        by_cases hd' : 65 ≤ c ∧ c ≤ 70
        · have hx : hexD c = some (c - 55) := by unfold hexD; rw [if_neg ha, if_neg hb, if_pos hd']
          rw [show hexM acc (c :: l.drop (i + 1)) = hexM (acc * 16 + (c - 55)) (l.drop (i + 1)) by simp only [hexM, hx, Option.bind_some]]
          refine Ev.step (fun f => ?_) (next (c - 55) (by omega) (by omega))
          simp only [decode_digits.j2]
          rw [if_neg (by simp), if_pos (by omega), if_pos (by omega), show ((c - 65) % 256 + 10) % 256 = c - 55 by omega]
        · have hx : hexD c = none := by unfold hexD; rw [if_neg ha, if_neg hb, if_neg hd']
          rw [show hexM acc (c :: l.drop (i + 1)) = none by simp only [hexM, hx, Option.bind_none]]
          refine Ev.step (f := fun _ => some (0, false)) (fun f => ?_) (Ev.now _)
          simp only [decode_digits.j2]
          rw [if_neg (by simp)]
          by_cases h : c ≥ 65
          · rw [if_pos h, if_neg (by omega)]
          · rw [if_neg h]
theorem digits_eq (l : List Int) (hB : BT l) (w : Nat) (hw : w ≤ 8) : Ev (fun f => decode_digits.f f l (w : Int)) (if l.length < w then (0, false) else digR (hexM 0 (l.take w))) := by
  by_cases h : l.length < w
  · rw [if_pos h]
    refine Ev.congr (f := fun _ => some (0, false)) (fun f => ?_) (Ev.now _)
    unfold decode_digits.f
    rw [if_pos (by omega)]
  · rw [if_neg h]
    have hl : (l.take w).length = w := by rw [List.length_take]; omega
    have := digits_from (l.take w) (hB.take w) (by omega) _ 0 0 rfl (by omega) (by omega) (by decide)
    rw [List.drop_zero] at this
    refine Ev.congr (fun f => ?_) this
    unfold decode_digits.f
    rw [if_neg (by omega), if_pos (by omega), if_pos (by omega), Int.toNat_natCast]
    rfl
theorem esc_digits (b : List Int) (hB : BT b) (h2 : 2 ≤ b.length) (w : Nat) (hw : w ≤ 8) (v : Int) (hv : v = (w : Int)) : Ev (fun f => decode_Escape.j2 f b v) (escH w b) := by
  subst hv
  have hd := digits_eq (b.drop 2) (hB.drop 2) w hw
  rw [List.length_drop] at hd
  refine Ev.step (f := fun f => (decode_digits.f f (b.drop 2) (w : Int)).bind fun bt111 => (if bt111.2 = true then ((decode_valid.f bt111.1).bind fun t113 => (if t113 = true then (some (wrap32 (bt111.1), wrap64 (2 + (w : Int)), true)) else (some (0, 0, false)))) else (some (0, 0, false)))) (fun f => ?_) (Ev.bind hd ?_)
  · simp only [decode_Escape.j2]
    rw [if_pos (by omega)]
  · by_cases h : b.length - 2 < w
    · rw [if_pos h, show escH w b = entNo by unfold escH; rw [if_pos (by omega)]]
      exact Ev.now _
    · rw [if_neg h]
      unfold escH
      rw [if_neg (show ¬ b.length < 2 + w by omega)]
      cases hx : hexM 0 ((b.drop 2).take w) with
      | none => exact Ev.now _
      | some x =>
        show Ev (fun f => (decode_valid.f x).bind fun t113 => (if t113 = true then (some (wrap32 x, wrap64 (2 + (w : Int)), true)) else (some (0, 0, false)))) (if okV x = true then (x, 2 + (w : Int), true) else entNo)
        simp only [valid_eq, Option.bind_some]
        by_cases hk : okV x = true
        · rw [if_pos hk]
          have := (okV_iff x).1 hk
          simp only [if_pos hk]
          rw [w32 (by omega) (by omega), w64 (by omega) (by omega)]
          exact Ev.now _
        · rw [if_neg hk]
          simp only [if_neg hk]
          exact Ev.now _
theorem escape_eq (f0 : Int) (b : List Int) (hB : BT b) : Ev (fun f => decode_Escape.f f f0 b) (escM f0 b) := by
  have hno : Ev (fun f => decode_Escape.j0 f f0 b true) entNo := by
    refine Ev.step (f := fun _ => some (0, 0, false)) (fun f => ?_) (Ev.now _)
    simp only [decode_Escape.j0, if_true]
  by_cases h2 : b.length < 2
  · rw [show escM f0 b = entNo by unfold escM; rw [if_pos (.inl h2)]]
    refine Ev.congr (fun f => ?_) hno
    unfold decode_Escape.f
    rw [if_pos (by omega)]
  by_cases h92 : rd b 0 = 92
  rotate_left
  · rw [show escM f0 b = entNo by unfold escM; rw [if_pos (.inr (.inl h92))]]
    refine Ev.congr (fun f => ?_) hno
    unfold decode_Escape.f
    rw [if_neg (by omega), if_pos (by omega), if_neg h92]
  by_cases h128 : 128 ≤ rd b 1
  · rw [show escM f0 b = entNo by unfold escM; rw [if_pos (.inr (.inr h128))]]
    refine Ev.congr (fun f => ?_) hno
    unfold decode_Escape.f
    rw [if_neg (by omega), if_pos (by omega), if_pos h92, if_pos (by omega), decide_eq_true (show rd b 1 ≥ 128 from h128)]
  have hc : 0 ≤ rd b 1 ∧ rd b 1 < 256 := rd_byte hB (i := 1) (by omega)
  have hw : wrap32 (rd b 1) = rd b 1 := w32 (by omega) (by omega)
  refine Ev.congr (f := fun f => decode_Escape.j0 f f0 b false) (fun f => ?_) ?_
  · unfold decode_Escape.f
    rw [if_neg (by omega), if_pos (by omega), if_pos h92, if_pos (by omega), decide_eq_false (show ¬ rd b 1 ≥ 128 by omega)]
  unfold escM
  rw [if_neg (by rintro (h | h | h); exact h2 h; exact h h92; exact h128 h)]
  have g8 := esc_digits b hB (by omega) 8 (by omega)
  have g4 := esc_digits b hB (by omega) 4 (by omega)
  have g2 := esc_digits b hB (by omega) 2 (by omega)
  obtain ⟨c, hcc⟩ : ∃ c, rd b 1 = c := ⟨_, rfl⟩
  rw [hcc] at hc hw
  simp only [hcc]
  have j1f : ∀ y : Bool, Ev (fun f => decode_Escape.j1 f f0 b 0 c y) (if y = true then entNo else if f0 = 7 then (c, 2, true) else if c = 110 then (10, 2, true) else if c = 114 then (13, 2, true) else if c = 116 then (9, 2, true)
      else if c = 85 then escH 8 b else if c = 117 then escH 4 b else if c = 120 then escH 2 b else (c, 2, true)) := by
    intro y
    by_cases hy : y = true
    · subst hy
      rw [if_pos rfl]
      refine Ev.step (f := fun _ => some (0, 0, false)) (fun f => ?_) (Ev.now _)
      simp only [decode_Escape.j1, if_true]
    rw [if_neg hy]
    by_cases h7 : f0 = 7
    · rw [if_pos h7]
      refine Ev.step (f := fun _ => some (c, 2, true)) (fun f => ?_) (Ev.now _)
      simp only [decode_Escape.j1]
      rw [if_neg hy, if_pos h7, hw]
    rw [if_neg h7]
    have head : ∀ f, decode_Escape.j1 (f + 1) f0 b 0 c y = (if c = 110 then (some (10, 2, true)) else (if c = 114 then (some (13, 2, true)) else (if c = 116 then (some (9, 2, true)) else (if c = 85 then (decode_Escape.j2 f b (wrap64 ((wrap64 ((wrap64 ((0 : Int) + 4)) + 2)) + 2))) else (if c = 117 then (decode_Escape.j2 f b (wrap64 ((wrap64 ((0 : Int) + 2)) + 2))) else (if c = 120 then (decode_Escape.j2 f b (wrap64 ((0 : Int) + 2))) else (some (c, 2, true)))))))) := by
      intro f
      simp only [decode_Escape.j1]
      rw [if_neg hy, if_neg h7, if_pos (by omega), hcc, hw]
    refine Ev.step head ?_
    by_cases c1 : c = 110
    · simp only [if_pos c1]; exact Ev.now _
    simp only [if_neg c1]
    by_cases c2 : c = 114
    · simp only [if_pos c2]; exact Ev.now _
    simp only [if_neg c2]
    by_cases c3 : c = 116
    · simp only [if_pos c3]; exact Ev.now _
    simp only [if_neg c3]
    by_cases c4 : c = 85
    · simp only [if_pos c4]; exact g8 _ (by unfold wrap64; omega)
    simp only [if_neg c4]
    by_cases c5 : c = 117
    · simp only [if_pos c5]; exact g4 _ (by unfold wrap64; omega)
    simp only [if_neg c5]
    by_cases c6 : c = 120
    · simp only [if_pos c6]; exact g2 _ (by unfold wrap64; omega)
    simp only [if_neg c6]; exact Ev.now _
  have j0f : ∀ f, decode_Escape.j0 (f + 1) f0 b false = decode_Escape.j1 f f0 b 0 c (decide (f0 = 7) && !(decide (c = 34 ∨ c = 92 ∨ c = 36 ∨ c = 96))) := by
    intro f
    simp only [decode_Escape.j0]
    rw [if_neg (by simp), if_pos (by omega), hcc]
    by_cases h7 : f0 = 7
    · rw [if_pos h7, decide_eq_true h7, Bool.true_and]
      by_cases c1 : c = 34
      · rw [if_pos c1, decide_eq_true (.inl c1)]; rfl
      rw [if_neg c1]
      by_cases c2 : c = 92
      · rw [if_pos c2, decide_eq_true (.inr (.inl c2))]; rfl
      rw [if_neg c2]
      by_cases c3 : c = 36
      · rw [if_pos c3, decide_eq_true (.inr (.inr (.inl c3)))]; rfl
      rw [if_neg c3]
      by_cases c4 : c = 96
      · rw [decide_eq_true (.inr (.inr (.inr c4))), c4]; rfl
      · rw [decide_eq_false (by omega), bne_iff_ne.2 c4]; rfl
    · rw [if_neg h7, decide_eq_false h7]; rfl
  refine Ev.step j0f ?_
  have := j1f (decide (f0 = 7) && !(decide (c = 34 ∨ c = 92 ∨ c = 36 ∨ c = 96)))
  by_cases h7 : f0 = 7
  · by_cases hq : c = 34 ∨ c = 92 ∨ c = 36 ∨ c = 96
    · rw [decide_eq_true hq, decide_eq_true h7] at this ⊢
      rw [if_pos h7, if_pos hq]
      rw [if_neg (by decide), if_pos h7] at this
      exact this
    · rw [decide_eq_false hq, decide_eq_true h7] at this ⊢
      rw [if_pos h7, if_neg hq]
      rw [if_pos (by decide)] at this
      exact this
  · rw [decide_eq_false h7] at this ⊢
    rw [if_neg h7]
    rw [if_neg (by simp), if_neg h7] at this
    exact this
theorem punct_eq (c : Int) : decode_punct.f c = some (punM c) := by
  unfold decode_punct.f punM
  by_cases h1 : c > 32
  · by_cases h2 : c < 127
    · by_cases h3 : c ≥ 48
      · by_cases h4 : c ≤ 57
        · simp [h1, h2, h3, h4, show (32 : Int) < c from h1, show (48 : Int) ≤ c from h3]
        · by_cases h5 : c ≥ 97
          · by_cases h6 : c ≤ 122
            · simp [h1, h2, h3, h4, h5, h6]
            · simp [h1, h2, h3, h4, h5, h6, show c ≥ 65 by omega, show ¬ c ≤ 90 by omega]
          · by_cases h7 : c ≥ 65
            · by_cases h8 : c ≤ 90 <;> simp [h1, h2, h3, h4, h5, h7, h8]
            · simp [h1, h2, h3, h4, h5, h7]
      · simp [h1, h2, h3, show ¬ c ≥ 97 by omega, show ¬ c ≥ 65 by omega]
    · simp [h1, h2]
  · simp [h1]
theorem next_ev {b : List Int} (hB : BT b) : Ev (fun f => utf_Next.f f b) (nx b) := ⟨6, fun k hk => next_eq hk hB⟩
theorem one_eq (f0 lab : Int) (b : List Int) (hB : BT b) (hb : b ≠ []) : Ev (fun f => decode_one.f f f0 lab b) (oneM f0 lab b) := by
  have hl : 0 < b.length := List.length_pos_iff.2 hb
  have hnx : Ev (fun f => (utf_Next.f f b).bind fun bt => some (bt.1, bt.2)) (nx b) := Ev.bind (next_ev hB) (Ev.now _)
  -- the last cases
  have j3 : ∀ y : Bool, Ev (fun f => decode_one.j3 f f0 b y) (if y = true then (if (escM f0 b).2.2 = true then ((escM f0 b).1, (escM f0 b).2.1) else nx b) else nx b) := by
    intro y
    cases y
    · rw [if_neg (by simp)]
      refine Ev.step (fun f => ?_) hnx
      simp only [decode_one.j3]
      rw [if_neg (by simp)]
    · rw [if_pos rfl]
      refine Ev.step (f := fun f => (decode_Escape.f f f0 b).bind fun bt138 => (if bt138.2.2 = true then (some (bt138.1, bt138.2.1)) else ((utf_Next.f f b).bind fun bt141 => (some (bt141.1, bt141.2))))) (fun f => ?_) (Ev.bind (escape_eq f0 b hB) ?_)
      · simp only [decode_one.j3, if_true]
      · by_cases h : (escM f0 b).2.2 = true
        · simp only [if_pos h]; exact Ev.now _
        · simp only [if_neg h]; exact hnx
  have j2 : ∀ y : Bool, Ev (fun f => decode_one.j2 f f0 lab b y) (if y = true then (39, 2) else if lab = 5 ∧ rd b 0 = 92 ∧ 4 ≤ f0 ∧ f0 ≤ 7 then (if (escM f0 b).2.2 = true then ((escM f0 b).1, (escM f0 b).2.1) else nx b) else nx b) := by
    intro y
    cases y
    · rw [if_neg (by simp)]
      have e : ∀ f, decode_one.j2 (f + 1) f0 lab b false = decode_one.j3 f f0 b (decide (lab = 5 ∧ rd b 0 = 92 ∧ 4 ≤ f0 ∧ f0 ≤ 7)) := by
        intro f
        simp only [decode_one.j2]
        rw [if_neg (by simp)]
        by_cases h5 : lab = 5
        · rw [if_pos h5, if_pos (by omega)]
          by_cases h9 : rd b 0 = 92
          · rw [if_pos h9]
            by_cases h4 : f0 ≥ 4
            · rw [if_pos h4]; congr 1; rw [decide_eq_decide]; exact ⟨fun h => ⟨h5, h9, h4, h⟩, fun h => h.2.2.2⟩
            · rw [if_neg h4]; congr 1; symm; rw [decide_eq_false_iff_not]; exact fun h => h4 h.2.2.1
          · rw [if_neg h9]; congr 1; symm; rw [decide_eq_false_iff_not]; exact fun h => h9 h.2.1
        · rw [if_neg h5]; congr 1; symm; rw [decide_eq_false_iff_not]; exact fun h => h5 h.1
      refine Ev.step e ?_
      have := j3 (decide (lab = 5 ∧ rd b 0 = 92 ∧ 4 ≤ f0 ∧ f0 ≤ 7))
      by_cases hq : lab = 5 ∧ rd b 0 = 92 ∧ 4 ≤ f0 ∧ f0 ≤ 7
      · rw [decide_eq_true hq] at this ⊢
        rw [if_pos rfl] at this
        rw [if_pos hq]
        exact this
      · rw [decide_eq_false hq] at this ⊢
        rw [if_neg (by simp)] at this
        rw [if_neg hq]
        exact this
    · rw [if_pos rfl]
      refine Ev.step (f := fun _ => some (39, 2)) (fun f => ?_) (Ev.now _)
      simp only [decode_one.j2, if_true]
  have tail3 : Ev (fun f => decode_one.j1 f f0 lab b false) (if lab = 5 ∧ f0 = 8 ∧ 1 < b.length ∧ rd b 0 = 39 ∧ rd b 1 = 39 then (39, 2) else if lab = 5 ∧ rd b 0 = 92 ∧ 4 ≤ f0 ∧ f0 ≤ 7 then (if (escM f0 b).2.2 = true then ((escM f0 b).1, (escM f0 b).2.1) else nx b) else nx b) := by
    have e : ∀ f, decode_one.j1 (f + 1) f0 lab b false = decode_one.j2 f f0 lab b (decide (lab = 5 ∧ f0 = 8 ∧ 1 < b.length ∧ rd b 0 = 39 ∧ rd b 1 = 39)) := by
      intro f
      simp only [decode_one.j1]
      rw [if_neg (by simp)]
      by_cases h5 : lab = 5
      · rw [if_pos h5]
        by_cases h8 : f0 = 8
        · rw [if_pos h8]
          by_cases h1 : (b.length : Int) > 1
          · rw [if_pos h1, if_pos (by omega)]
            by_cases h9 : rd b 0 = 39
            · rw [if_pos h9, if_pos (by omega)]
              congr 1
              rw [Bool.eq_iff_iff, beq_iff_eq, decide_eq_true_eq]
              exact ⟨fun h => ⟨h5, h8, by omega, h9, h⟩, fun h => h.2.2.2.2⟩
            · rw [if_neg h9]; congr 1; symm; rw [decide_eq_false_iff_not]; exact fun h => h9 h.2.2.2.1
          · rw [if_neg h1]; congr 1; symm; rw [decide_eq_false_iff_not]; exact fun h => h1 (by omega)
        · rw [if_neg h8]; congr 1; symm; rw [decide_eq_false_iff_not]; exact fun h => h8 h.2.1
      · rw [if_neg h5]; congr 1; symm; rw [decide_eq_false_iff_not]; exact fun h => h5 h.1
    refine Ev.step e ?_
    have := j2 (decide (lab = 5 ∧ f0 = 8 ∧ 1 < b.length ∧ rd b 0 = 39 ∧ rd b 1 = 39))
    by_cases hq : lab = 5 ∧ f0 = 8 ∧ 1 < b.length ∧ rd b 0 = 39 ∧ rd b 1 = 39
    · rw [decide_eq_true hq] at this ⊢
      rw [if_pos rfl] at this
      rw [if_pos hq]
      exact this
    · rw [decide_eq_false hq] at this ⊢
      rw [if_neg (by simp)] at this
      rw [if_neg hq]
      exact this
  have j1t : 1 < b.length → Ev (fun f => decode_one.j1 f f0 lab b true) (rd b 1, 2) := by
    intro h1
    have hc : 0 ≤ rd b 1 ∧ rd b 1 < 256 := rd_byte hB (i := 1) (by omega)
    refine Ev.step (f := fun _ => some (rd b 1, 2)) (fun f => ?_) (Ev.now _)
    simp only [decode_one.j1, if_true]
    rw [if_pos (by omega), w32 (by omega) (by omega)]
  have j0 : ∀ y z : Bool, z = decide (lab = 1 ∧ (f0 = 1 ∨ f0 = 2) ∧ rd b 0 = 38) → y = (lab == 1) → Ev (fun f => decode_one.j0 f f0 lab b y z) (oneM f0 lab b) := by
    intro y z hz hy
    by_cases hq : lab = 1 ∧ (f0 = 1 ∨ f0 = 2) ∧ rd b 0 = 38
    · rw [decide_eq_true hq] at hz
      subst hz
      have e : ∀ f, decode_one.j0 (f + 1) f0 lab b y true = (decode_Entity.f b).bind fun bt126 => (if bt126.2.2 = true then (some (bt126.1, bt126.2.1)) else ((utf_Next.f f b).bind fun bt129 => (some (bt129.1, bt129.2)))) := by
        intro f
        simp only [decode_one.j0, if_true]
      refine Ev.step e ?_
      unfold oneM
      rw [if_pos hq]
      have e2 : decode_Entity.f b = some (entF b) := rfl
      simp only [e2, Option.bind_some]
      by_cases h : (entF b).2.2 = true
      · simp only [if_pos h]; exact Ev.now _
      · simp only [if_neg h]; exact hnx
    · rw [decide_eq_false hq] at hz
      subst hz
      unfold oneM
      rw [if_neg hq]
      by_cases hp : lab = 1 ∧ f0 = 2 ∧ rd b 0 = 92 ∧ 1 < b.length
      · have e : ∀ f, decode_one.j0 (f + 1) f0 lab b y false = decode_one.j1 f f0 lab b (punM (rd b 1)) := by
          intro f
          simp only [decode_one.j0]
          rw [if_neg (by simp), if_pos (by rw [hy, beq_iff_eq]; exact hp.1), if_pos hp.2.1, if_pos (by omega), if_pos hp.2.2.1, if_pos (by omega), if_pos (by omega), punct_eq]
          rfl
        refine Ev.step e ?_
        by_cases hpm : punM (rd b 1) = true
        · rw [if_pos ⟨hp.1, hp.2.1, hp.2.2.1, hp.2.2.2, hpm⟩, hpm]
          exact j1t hp.2.2.2
        · rw [if_neg (fun h => hpm h.2.2.2.2)]
          rw [Bool.not_eq_true] at hpm
          rw [hpm]
          exact tail3
      · rw [if_neg (fun h => hp ⟨h.1, h.2.1, h.2.2.1, h.2.2.2.1⟩)]
        have e : ∀ f, decode_one.j0 (f + 1) f0 lab b y false = decode_one.j1 f f0 lab b false := by
          intro f
          simp only [decode_one.j0]
          rw [if_neg (by simp)]
          by_cases h1 : lab = 1
          · rw [if_pos (by rw [hy, beq_iff_eq]; exact h1)]
            by_cases h2 : f0 = 2
            · rw [if_pos h2, if_pos (by omega)]
              by_cases h9 : rd b 0 = 92
              · rw [if_pos h9, if_neg (fun h => hp ⟨h1, h2, h9, by omega⟩)]
              · rw [if_neg h9]
            · rw [if_neg h2]
          · rw [if_neg (by rw [hy, beq_iff_eq]; exact h1)]
        exact Ev.step e tail3
  have e : ∀ f, decode_one.f f f0 lab b = decode_one.j0 f f0 lab b (lab == 1) (decide (lab = 1 ∧ (f0 = 1 ∨ f0 = 2) ∧ rd b 0 = 38)) := by
    intro f
    unfold decode_one.f
    have hbe : (rd b 0 == 38) = decide (rd b 0 = 38) := by rw [Bool.eq_iff_iff, beq_iff_eq, decide_eq_true_eq]
    by_cases h1 : lab = 1
    · rw [if_pos h1]
      by_cases h2 : f0 = 1
      · rw [if_pos h2, if_pos (by omega), hbe]; congr 1; rw [decide_eq_decide]; exact ⟨fun h => ⟨h1, .inl h2, h⟩, fun h => h.2.2⟩
      · rw [if_neg h2]
        by_cases h3 : f0 = 2
        · rw [if_pos h3, if_pos (by omega), hbe]; congr 1; rw [decide_eq_decide]; exact ⟨fun h => ⟨h1, .inr h3, h⟩, fun h => h.2.2⟩
        · rw [if_neg h3]; congr 1; symm; rw [decide_eq_false_iff_not]; exact fun h => h.2.1.elim h2 h3
    · rw [if_neg h1]; congr 1; symm; rw [decide_eq_false_iff_not]; exact fun h => h1 h.1
  exact Ev.congr e (j0 _ _ rfl rfl)
/-- The signs of a part. -/
theorem units_loop (f0 lab at0 n0 : Int) (x : List Int) (hB : BT x) (hx : x.length < 1000000) (e : Nat) (he : e ≤ x.length) : ∀ (d p : Nat) (acc : List S45), e - p = d → p ≤ e → acc.length ≤ p →
    Ev (fun f => decode_Units.l0 f f0 x (p : Int) acc (e : Int) lab at0 n0) (acc ++ mkU (p : Int) (uM f0 lab d ((x.take e).drop p)), 0) := by
  intro d
  induction d using Nat.strongRecOn with
  | _ d ih =>
    intro p acc hd hp hac
    by_cases hlt : p < e
    · obtain ⟨b, hb⟩ : ∃ b, (x.take e).drop p = b := ⟨_, rfl⟩
      have hbl : b.length = e - p := by rw [← hb, List.length_drop, List.length_take]; omega
      have hbn : b ≠ [] := by intro h; rw [h] at hbl; simp at hbl; omega
      have hbB : BT b := by rw [← hb]; exact (hB.take _).drop _
      have hw := oneM_width f0 lab b hbn
      obtain ⟨w, hwv⟩ : ∃ w : Nat, (oneM f0 lab b).2 = (w : Int) := ⟨(oneM f0 lab b).2.toNat, by omega⟩
      rw [hwv, hbl] at hw
      refine Ev.step (f := fun f => (decode_one.f f f0 lab b).bind fun bt150 => (if acc.length < 5864062014805 then (decode_Units.l0 f f0 x (wrap64 ((p : Int) + bt150.2)) (acc ++ [(⟨bt150.1, (⟨(p : Int), bt150.2⟩ : S40)⟩ : S45)]) (e : Int) lab at0 n0) else none)) (fun f => ?_) (Ev.bind (one_eq f0 lab b hbB hbn) ?_)
      · simp only [decode_Units.l0]
        rw [if_pos (by omega), if_pos (by omega), if_pos (by omega), if_pos (by omega), Int.toNat_natCast, Int.toNat_natCast, hb]
      · have hi := ih (d - w) (by omega) (p + w) (acc ++ [(⟨(oneM f0 lab b).1, (⟨(p : Int), (w : Int)⟩ : S40)⟩ : S45)]) (by omega) (by omega) (by rw [List.length_append, List.length_singleton]; omega)
        rw [hwv, w64 (by omega) (by omega), show (p : Int) + (w : Int) = ((p + w : Nat) : Int) by omega]
        refine Ev.congr (fun f => if_pos (by omega)) ?_
        have hdd : (x.take e).drop (p + w) = b.drop w := by rw [← hb, List.drop_drop]
        rw [hdd, List.append_assoc] at hi
        have hu : uM f0 lab d b = oneM f0 lab b :: uM f0 lab (d - w) (b.drop w) := by
          obtain ⟨d', rfl⟩ : ∃ d', d = d' + 1 := ⟨d - 1, by omega⟩
          show (if b = [] then [] else oneM f0 lab b :: uM f0 lab d' (b.drop (oneM f0 lab b).2.toNat)) = _
          rw [if_neg hbn, hwv, Int.toNat_natCast, uM_stable f0 lab d' (d' + 1 - w) (b.drop w) (by rw [List.length_drop]; omega) (by rw [List.length_drop]; omega)]
        rw [hb, hu]
        have : oneM f0 lab b = ((oneM f0 lab b).1, (w : Int)) := by rw [← hwv]
        rw [this]
        simp only [mkU, List.singleton_append] at hi ⊢
        rw [show ((p : Int) + (w : Int)) = ((p + w : Nat) : Int) by omega]
        exact hi
    · have hpe : p = e := by omega
      refine Ev.step (f := fun _ => some (acc, 0)) (fun f => ?_) (by
        rw [show (x.take e).drop p = [] from List.drop_eq_nil_of_le (by rw [List.length_take]; omega), uM_nil]
        show Ev _ (acc ++ mkU (p : Int) [], 0)
        rw [show mkU (p : Int) [] = [] from rfl, List.append_nil]
        exact Ev.now _)
      simp only [decode_Units.l0]
      rw [if_neg (by omega)]
theorem units_ok (f0 lab : Int) (x : List Int) (hB : BT x) (hx : x.length < 1000000) (p n : Nat) (hp : p + n ≤ x.length) : Ev (fun f => decode_Units.f f f0 x lab (p : Int) (n : Int)) (mkU (p : Int) (uM f0 lab n ((x.take (p + n)).drop p)), 0) := by
  have h := units_loop f0 lab (p : Int) (n : Int) x hB hx (p + n) hp n p [] (by omega) (by omega) (by simp)
  rw [List.nil_append] at h
  refine Ev.congr (f := fun f => decode_Units.j0 f f0 x (p : Int) (n : Int) false lab (p : Int) (n : Int)) (fun f => ?_) (Ev.step (fun f => ?_) h)
  · unfold decode_Units.f
    rw [if_neg (by omega), if_neg (by omega), if_neg (by omega), w64 (by omega) (by omega), decide_eq_false (by omega)]
  · simp only [decode_Units.j0]
    rw [if_neg (by simp), w64 (by omega) (by omega), show (p : Int) + (n : Int) = ((p + n : Nat) : Int) by omega]
end Go.Proofs.YtekalnhackjldaaDoor.Pure
