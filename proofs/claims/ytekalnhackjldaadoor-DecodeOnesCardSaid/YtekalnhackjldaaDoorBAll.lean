/- The printed functions are the plain ones. -/
import Derived.Test.YtekalnhackjldaaDoorPDecodeOnesx
import Derived.Test.YtekalnhackjldaaDoorHM
section
/- The printed functions of utf are the plain ones: utf.Next, utf.Units. -/
namespace Go.Proofs.YtekalnhackjldaaDoor.PDecodeOnes
open Go.RowKit Go.Proofs.YtekalnhackjldaaDoorW.PrintWords Go.Proofs.YtekalnhackjldaaDoorW.PrintLast Go.Proofs.YtekalnhackjldaaDoorW.PrintMore
open Go.Proofs.YtekalnhackjldaaDoor.M
set_option linter.unusedVariables false
set_option linter.unusedSimpArgs false

theorem BT_of_wf {l : List Int} (h : ∀ x ∈ l, (Lit.int .u8 x).wf = true) : BT l := by
  intro x hx
  have := h x hx
  simp [Lit.wf, IntKind.min, IntKind.max, IntKind.signed, IntKind.bits] at this
  omega
end Go.Proofs.YtekalnhackjldaaDoor.PDecodeOnes
end
section
/- The printed functions of decode are the plain ones: digits, Escape, one, Units. -/
namespace Go.Proofs.YtekalnhackjldaaDoor.Pure
open Go.RowKit Go.Proofs.YtekalnhackjldaaDoor.PDecodeOnes Go.Proofs.YtekalnhackjldaaDoorW.PrintWords Go.Proofs.YtekalnhackjldaaDoorW.PrintLast
open Go.Proofs.YtekalnhackjldaaDoor.M Go.Proofs.YtekalnhackjldaaDoor.X Go.Proofs.YtekalnhackjldaaDoor.H
set_option linter.unusedVariables false
set_option linter.unusedSimpArgs false

theorem rd_byte {b : List Int} (hB : BT b) {i : Nat} (hi : i < b.length) : 0 ≤ rd b (i : Int) ∧ rd b (i : Int) < 256 := by
  unfold rd
  rw [Int.toNat_natCast, List.getD_eq_getElem?_getD, List.getElem?_eq_getElem hi]
  exact hB _ (List.getElem_mem hi)
def digR (o : Option Int) : Int × Bool := match o with
  | none => (0, false)
  | some v => (v, true)
theorem valid_eq (v : Int) : decode_valid.f v = some (okV v) := by
  unfold decode_valid.f
  by_cases h1 : v > 0
  · rw [if_pos h1]
    by_cases h2 : v ≤ 1114111
    · rw [if_pos h2]
      by_cases h3 : v ≥ 55296
      · rw [if_pos h3]
        by_cases h4 : v < 57344
        · rw [decide_eq_true h4]; congr 1; symm; rw [Bool.not_true, Bool.eq_false_iff, Ne, okV_iff]; omega
        · rw [decide_eq_false h4]; congr 1; symm; rw [Bool.not_false, okV_iff]; omega
      · rw [if_neg h3]; congr 1; symm; rw [Bool.not_false, okV_iff]; omega
    · rw [if_neg h2]; congr 1; symm; rw [Bool.eq_false_iff, Ne, okV_iff]; omega
  · rw [if_neg h1]; congr 1; symm; rw [Bool.eq_false_iff, Ne, okV_iff]; omega
theorem digits_from (l : List Int) (hB : BT l) (hl : l.length ≤ 8) : ∀ (d i : Nat) (acc : Int), l.length - i = d → i ≤ l.length → 0 ≤ acc → acc.toNat < 16 ^ i → Ev (fun f => decode_digits.l0 f acc l (l.length : Int) (i : Int)) (digR (hexM acc (l.drop i))) := by
  intro d
  induction d with
  | zero =>
    intro i acc hd hi h0 h1
    refine Ev.step (f := fun _ => some (acc, true)) (fun f => ?_) (by rw [List.drop_eq_nil_of_le (by omega)]; exact Ev.now _)
    simp only [decode_digits.l0]
    rw [if_neg (by omega)]
  | succ d ih =>
    intro i acc hd hi h0 h1
    have hlt : i < l.length := by omega
    have hp : 16 ^ i ≤ 16 ^ 8 := Nat.pow_le_pow_right (by omega) (by omega)
    have hacc : acc < 1152921504606846976 := by have : 16 ^ 8 = 4294967296 := by decide
                                                omega
    have hc := rd_byte hB hlt
    have hdrop : l.drop i = rd l (i : Int) :: l.drop (i + 1) := by
      rw [List.drop_eq_getElem_cons hlt]
      unfold rd
      rw [Int.toNat_natCast, List.getD_eq_getElem?_getD, List.getElem?_eq_getElem hlt]
      rfl
    rw [hdrop]
    have ew : wrap64 ((i : Int) + 1) = ((i + 1 : Nat) : Int) := by rw [w64 (by omega) (by omega)]; omega
    have next : ∀ v : Int, 0 ≤ v → v < 16 → Ev (fun f => decode_digits.l0 f (Go.bits .or .u64 (IntKind.u64.wrap (acc * 16)) v) l (l.length : Int) (wrap64 ((i : Int) + 1))) (digR (hexM (acc * 16 + v) (l.drop (i + 1)))) := by
      intro v v0 v1
      rw [or4 acc v h0 hacc v0 v1, ew]
      refine ih (i + 1) _ (by omega) (by omega) (by omega) ?_
      rw [Nat.pow_succ]
      omega
    obtain ⟨c, hcc⟩ : ∃ c, rd l (i : Int) = c := ⟨_, rfl⟩
    rw [hcc] at hc ⊢
    have e0 : ∀ f, decode_digits.l0 (f + 1) acc l (l.length : Int) (i : Int) = decode_digits.j1 f acc c l (l.length : Int) (i : Int) (decide (48 ≤ c ∧ c ≤ 57)) := by
      intro f
      simp only [decode_digits.l0]
      rw [if_pos (by omega), if_pos (by omega), if_pos (by omega), hcc]
      by_cases h : c ≥ 48
      · rw [if_pos h]; congr 1; rw [decide_eq_decide]; omega
      · rw [if_neg h]; congr 1; symm; rw [decide_eq_false_iff_not]; omega
    refine Ev.step e0 ?_
    by_cases ha : 48 ≤ c ∧ c ≤ 57
    · have hx : hexD c = some (c - 48) := by unfold hexD; rw [if_pos ha]
      rw [decide_eq_true ha, show hexM acc (c :: l.drop (i + 1)) = hexM (acc * 16 + (c - 48)) (l.drop (i + 1)) by simp only [hexM, hx, Option.bind_some]]
      refine Ev.step (fun f => ?_) (next (c - 48) (by omega) (by omega))
      simp only [decode_digits.j1, if_true]
      rw [show (c - 48) % 256 = c - 48 by omega]
    · rw [decide_eq_false ha]
      have e1 : ∀ f, decode_digits.j1 (f + 1) acc c l (l.length : Int) (i : Int) false = decode_digits.j2 f acc c l (l.length : Int) (i : Int) (decide (97 ≤ c ∧ c ≤ 102)) := by
        intro f
        simp only [decode_digits.j1]
        rw [if_neg (by simp)]
        by_cases h : c ≥ 97
        · rw [if_pos h]; congr 1; rw [decide_eq_decide]; omega
        · rw [if_neg h]; congr 1; symm; rw [decide_eq_false_iff_not]; omega
      refine Ev.step e1 ?_
      by_cases hb : 97 ≤ c ∧ c ≤ 102
      · have hx : hexD c = some (c - 87) := by unfold hexD; rw [if_neg ha, if_pos hb]
        rw [decide_eq_true hb, show hexM acc (c :: l.drop (i + 1)) = hexM (acc * 16 + (c - 87)) (l.drop (i + 1)) by simp only [hexM, hx, Option.bind_some]]
        refine Ev.step (fun f => ?_) (next (c - 87) (by omega) (by omega))
        simp only [decode_digits.j2, if_true]
        rw [show ((c - 97) % 256 + 10) % 256 = c - 87 by omega]
      · rw [decide_eq_false hb]
        by_cases hd' : 65 ≤ c ∧ c ≤ 70
        · have hx : hexD c = some (c - 55) := by unfold hexD; rw [if_neg ha, if_neg hb, if_pos hd']
          rw [show hexM acc (c :: l.drop (i + 1)) = hexM (acc * 16 + (c - 55)) (l.drop (i + 1)) by simp only [hexM, hx, Option.bind_some]]
          refine Ev.step (fun f => ?_) (next (c - 55) (by omega) (by omega))
          simp only [decode_digits.j2]
          rw [if_neg (by simp), if_pos (by omega), if_pos (by omega), show ((c - 65) % 256 + 10) % 256 = c - 55 by omega]
        · have hx : hexD c = none := by unfold hexD; rw [if_neg ha, if_neg hb, if_neg hd']
          rw [show hexM acc (c :: l.drop (i + 1)) = none by simp only [hexM, hx, Option.bind_none]]
          refine Ev.step (f := fun _ => some (0, false)) (fun f => ?_) (Ev.now _)
          simp only [decode_digits.j2]
          rw [if_neg (by simp)]
          by_cases h : c ≥ 65
          · rw [if_pos h, if_neg (by omega)]
          · rw [if_neg h]
theorem digits_eq (l : List Int) (hB : BT l) (w : Nat) (hw : w ≤ 8) : Ev (fun f => decode_digits.f f l (w : Int)) (if l.length < w then (0, false) else digR (hexM 0 (l.take w))) := by
  by_cases h : l.length < w
  · rw [if_pos h]
    refine Ev.congr (f := fun _ => some (0, false)) (fun f => ?_) (Ev.now _)
    unfold decode_digits.f
    rw [if_pos (by omega)]
  · rw [if_neg h]
    have hl : (l.take w).length = w := by rw [List.length_take]; omega
    have := digits_from (l.take w) (hB.take w) (by omega) _ 0 0 rfl (by omega) (by omega) (by decide)
    rw [List.drop_zero] at this
    refine Ev.congr (fun f => ?_) this
    unfold decode_digits.f
    rw [if_neg (by omega), if_pos (by omega), if_pos (by omega), Int.toNat_natCast]
    rfl
theorem esc_digits (b : List Int) (hB : BT b) (h2 : 2 ≤ b.length) (w : Nat) (hw : w ≤ 8) (v : Int) (hv : v = (w : Int)) : Ev (fun f => decode_Escape.j2 f b v) (escH w b) := by
  subst hv
  have hd := digits_eq (b.drop 2) (hB.drop 2) w hw
  rw [List.length_drop] at hd
  refine Ev.step (f := fun f => (decode_digits.f f (b.drop 2) (w : Int)).bind fun bt111 => (if bt111.2 = true then ((decode_valid.f bt111.1).bind fun t113 => (if t113 = true then (some (wrap32 (bt111.1), wrap64 (2 + (w : Int)), true)) else (some (0, 0, false)))) else (some (0, 0, false)))) (fun f => ?_) (Ev.bind hd ?_)
  · simp only [decode_Escape.j2]
    rw [if_pos (by omega)]
  · by_cases h : b.length - 2 < w
    · rw [if_pos h, show escH w b = entNo by unfold escH; rw [if_pos (by omega)]]
      exact Ev.now _
    · rw [if_neg h]
      unfold escH
      rw [if_neg (show ¬ b.length < 2 + w by omega)]
      cases hx : hexM 0 ((b.drop 2).take w) with
      | none => exact Ev.now _
      | some x =>
        show Ev (fun f => (decode_valid.f x).bind fun t113 => (if t113 = true then (some (wrap32 x, wrap64 (2 + (w : Int)), true)) else (some (0, 0, false)))) (if okV x = true then (x, 2 + (w : Int), true) else entNo)
        simp only [valid_eq, Option.bind_some]
        by_cases hk : okV x = true
        · rw [if_pos hk]
          have := (okV_iff x).1 hk
          simp only [if_pos hk]
          rw [w32 (by omega) (by omega), w64 (by omega) (by omega)]
          exact Ev.now _
        · rw [if_neg hk]
          simp only [if_neg hk]
          exact Ev.now _
theorem escape_eq (f0 : Int) (b : List Int) (hB : BT b) : Ev (fun f => decode_Escape.f f f0 b) (escM f0 b) := by
  have hno : Ev (fun f => decode_Escape.j0 f f0 b true) entNo := by
    refine Ev.step (f := fun _ => some (0, 0, false)) (fun f => ?_) (Ev.now _)
    simp only [decode_Escape.j0, if_true]
  by_cases h2 : b.length < 2
  · rw [show escM f0 b = entNo by unfold escM; rw [if_pos (.inl h2)]]
    refine Ev.congr (fun f => ?_) hno
    unfold decode_Escape.f
    rw [if_pos (by omega)]
  by_cases h92 : rd b 0 = 92
  rotate_left
  · rw [show escM f0 b = entNo by unfold escM; rw [if_pos (.inr (.inl h92))]]
    refine Ev.congr (fun f => ?_) hno
    unfold decode_Escape.f
    rw [if_neg (by omega), if_pos (by omega), if_neg h92]
  by_cases h128 : 128 ≤ rd b 1
  · rw [show escM f0 b = entNo by unfold escM; rw [if_pos (.inr (.inr h128))]]
    refine Ev.congr (fun f => ?_) hno
    unfold decode_Escape.f
    rw [if_neg (by omega), if_pos (by omega), if_pos h92, if_pos (by omega), decide_eq_true (show rd b 1 ≥ 128 from h128)]
  have hc : 0 ≤ rd b 1 ∧ rd b 1 < 256 := rd_byte hB (i := 1) (by omega)
  have hw : wrap32 (rd b 1) = rd b 1 := w32 (by omega) (by omega)
  refine Ev.congr (f := fun f => decode_Escape.j0 f f0 b false) (fun f => ?_) ?_
  · unfold decode_Escape.f
    rw [if_neg (by omega), if_pos (by omega), if_pos h92, if_pos (by omega), decide_eq_false (show ¬ rd b 1 ≥ 128 by omega)]
  unfold escM
  rw [if_neg (by rintro (h | h | h); exact h2 h; exact h h92; exact h128 h)]
  have g8 := esc_digits b hB (by omega) 8 (by omega)
  have g4 := esc_digits b hB (by omega) 4 (by omega)
  have g2 := esc_digits b hB (by omega) 2 (by omega)
  obtain ⟨c, hcc⟩ : ∃ c, rd b 1 = c := ⟨_, rfl⟩
  rw [hcc] at hc hw
  simp only [hcc]
  have j1f : ∀ y : Bool, Ev (fun f => decode_Escape.j1 f f0 b 0 c y) (if y = true then entNo else if f0 = 7 then (c, 2, true) else if c = 110 then (10, 2, true) else if c = 114 then (13, 2, true) else if c = 116 then (9, 2, true)
      else if c = 85 then escH 8 b else if c = 117 then escH 4 b else if c = 120 then escH 2 b else (c, 2, true)) := by
    intro y
    by_cases hy : y = true
    · subst hy
      rw [if_pos rfl]
      refine Ev.step (f := fun _ => some (0, 0, false)) (fun f => ?_) (Ev.now _)
      simp only [decode_Escape.j1, if_true]
    rw [if_neg hy]
    by_cases h7 : f0 = 7
    · rw [if_pos h7]
      refine Ev.step (f := fun _ => some (c, 2, true)) (fun f => ?_) (Ev.now _)
      simp only [decode_Escape.j1]
      rw [if_neg hy, if_pos h7, hw]
    rw [if_neg h7]
    have head : ∀ f, decode_Escape.j1 (f + 1) f0 b 0 c y = (if c = 110 then (some (10, 2, true)) else (if c = 114 then (some (13, 2, true)) else (if c = 116 then (some (9, 2, true)) else (if c = 85 then (decode_Escape.j2 f b (wrap64 ((wrap64 ((wrap64 ((0 : Int) + 4)) + 2)) + 2))) else (if c = 117 then (decode_Escape.j2 f b (wrap64 ((wrap64 ((0 : Int) + 2)) + 2))) else (if c = 120 then (decode_Escape.j2 f b (wrap64 ((0 : Int) + 2))) else (some (c, 2, true)))))))) := by
      intro f
      simp only [decode_Escape.j1]
      rw [if_neg hy, if_neg h7, if_pos (by omega), hcc, hw]
    refine Ev.step head ?_
    by_cases c1 : c = 110
    · simp only [if_pos c1]; exact Ev.now _
    simp only [if_neg c1]
    by_cases c2 : c = 114
    · simp only [if_pos c2]; exact Ev.now _
    simp only [if_neg c2]
    by_cases c3 : c = 116
    · simp only [if_pos c3]; exact Ev.now _
    simp only [if_neg c3]
    by_cases c4 : c = 85
    · simp only [if_pos c4]; exact g8 _ (by unfold wrap64; omega)
    simp only [if_neg c4]
    by_cases c5 : c = 117
    · simp only [if_pos c5]; exact g4 _ (by unfold wrap64; omega)
    simp only [if_neg c5]
    by_cases c6 : c = 120
    · simp only [if_pos c6]; exact g2 _ (by unfold wrap64; omega)
    simp only [if_neg c6]; exact Ev.now _
  have j0f : ∀ f, decode_Escape.j0 (f + 1) f0 b false = decode_Escape.j1 f f0 b 0 c (decide (f0 = 7) && !(decide (c = 34 ∨ c = 92 ∨ c = 36 ∨ c = 96))) := by
    intro f
    simp only [decode_Escape.j0]
    rw [if_neg (by simp), if_pos (by omega), hcc]
    by_cases h7 : f0 = 7
    · rw [if_pos h7, decide_eq_true h7, Bool.true_and]
      by_cases c1 : c = 34
      · rw [if_pos c1, decide_eq_true (.inl c1)]; rfl
      rw [if_neg c1]
      by_cases c2 : c = 92
      · rw [if_pos c2, decide_eq_true (.inr (.inl c2))]; rfl
      rw [if_neg c2]
      by_cases c3 : c = 36
      · rw [if_pos c3, decide_eq_true (.inr (.inr (.inl c3)))]; rfl
      rw [if_neg c3]
      by_cases c4 : c = 96
      · rw [decide_eq_true (.inr (.inr (.inr c4))), c4]; rfl
      · rw [decide_eq_false (by omega), bne_iff_ne.2 c4]; rfl
    · rw [if_neg h7, decide_eq_false h7]; rfl
  refine Ev.step j0f ?_
  have := j1f (decide (f0 = 7) && !(decide (c = 34 ∨ c = 92 ∨ c = 36 ∨ c = 96)))
  by_cases h7 : f0 = 7
  · by_cases hq : c = 34 ∨ c = 92 ∨ c = 36 ∨ c = 96
    · rw [decide_eq_true hq, decide_eq_true h7] at this ⊢
      rw [if_pos h7, if_pos hq]
      rw [if_neg (by decide), if_pos h7] at this
      exact this
    · rw [decide_eq_false hq, decide_eq_true h7] at this ⊢
      rw [if_pos h7, if_neg hq]
      rw [if_pos (by decide)] at this
      exact this
  · rw [decide_eq_false h7] at this ⊢
    rw [if_neg h7]
    rw [if_neg (by simp), if_neg h7] at this
    exact this
end Go.Proofs.YtekalnhackjldaaDoor.Pure
end
section
/- The document's Entity, Escape are the plain ones. -/
namespace Go.Proofs.YtekalnhackjldaaDoor.Pure
open Go.RowKit Go.Proofs.YtekalnhackjldaaDoor.PDecodeOnes Go.Proofs.YtekalnhackjldaaDoorW.PrintWords Go.Proofs.YtekalnhackjldaaDoorW.PrintLast
open Go.Proofs.YtekalnhackjldaaDoor.M Go.Proofs.YtekalnhackjldaaDoor.X Go.Proofs.YtekalnhackjldaaDoor.H
set_option linter.unusedVariables false
set_option linter.unusedSimpArgs false

theorem rvalid_eq (v : Int) : redpenref15_valid.f v = some (rvalid v) := by
  unfold redpenref15_valid.f rvalid
  by_cases h1 : v ≥ 1
  · rw [if_pos h1, decide_eq_true (show 1 ≤ v from h1)]
    by_cases h2 : v ≤ 1114111
    · rw [if_pos h2, decide_eq_true h2]
      by_cases h3 : v < 55296
      · rw [if_pos h3, decide_eq_true h3]; rfl
      · rw [if_neg h3, decide_eq_false h3]; rfl
    · rw [if_neg h2, decide_eq_false h2]; rfl
  · rw [if_neg h1, decide_eq_false (show ¬ 1 ≤ v from h1)]; rfl
theorem number_from (s : ByteArray) (hs : s.size < 1000000) (b : Int) (hb : b = 10 ∨ b = 16) : ∀ (d i : Nat) (n : Int), s.size - i = d → i ≤ s.size → 0 ≤ n → n ≤ 20000000 → Ev (fun f => redpenref15_number.l0 f s b n (i : Int)) ((sat b n ((bytesOf s).drop i)).getD (-1)) := by
  intro d
  have hlen : (bytesOf s).length = s.size := bytesOf_length s
  induction d with
  | zero =>
    intro i n hd hi h0 h1
    refine Ev.step (f := fun _ => some n) (fun f => ?_) (by rw [List.drop_eq_nil_of_le (by omega)]; exact Ev.now _)
    simp only [redpenref15_number.l0]
    rw [if_neg (by omega)]
  | succ d ih =>
    intro i n hd hi h0 h1
    have hlt : i < s.size := by omega
    have hdrop : (bytesOf s).drop i = bt s (i : Int) :: (bytesOf s).drop (i + 1) := by
      rw [List.drop_eq_getElem_cons (by omega), bt_bytesOf s i hlt]
      unfold rd
      rw [Int.toNat_natCast, List.getD_eq_getElem?_getD, List.getElem?_eq_getElem (by omega)]
      rfl
    have hc : 0 ≤ bt s (i : Int) ∧ bt s (i : Int) < 256 := by have := bt_range s (i : Int); omega
    rw [hdrop]
    obtain ⟨c, hcc⟩ : ∃ c, bt s (i : Int) = c := ⟨_, rfl⟩
    rw [hcc] at hc ⊢
    have ew : wrap64 ((i : Int) + 1) = ((i + 1 : Nat) : Int) := by rw [w64 (by omega) (by omega)]; omega
    -- the last steps: a digit's worth, or none
    have j4f : ∀ v : Int, Ev (fun f => redpenref15_number.j4 f s b n (i : Int) v true) (-1) := by
      intro v
      refine Ev.step (f := fun _ => some (-1)) (fun f => ?_) (Ev.now _)
      simp only [redpenref15_number.j4, if_true]
    have j3neg : ∀ v : Int, v < 0 ∨ b ≤ v → Ev (fun f => redpenref15_number.j3 f s b n (i : Int) v) (-1) := by
      intro v hv
      refine Ev.step (fun f => ?_) (j4f v)
      simp only [redpenref15_number.j3]
      by_cases h : v < 0
      · rw [if_pos h]
      · rw [if_neg h, decide_eq_true (show v ≥ b by omega)]
    have j3ok : ∀ v : Int, 0 ≤ v → v < b → Ev (fun f => redpenref15_number.j3 f s b n (i : Int) v) ((sat b (if n ≤ 1114111 then n * b + v else n) ((bytesOf s).drop (i + 1))).getD (-1)) := by
      intro v h2 h3
      have hst : ∀ f, redpenref15_number.j3 (f + 1) s b n (i : Int) v = redpenref15_number.j4 f s b n (i : Int) v false := by
        intro f
        simp only [redpenref15_number.j3]
        rw [if_neg (by omega), decide_eq_false (by omega)]
      refine Ev.step hst ?_
      by_cases hn : n ≤ 1114111
      · rw [if_pos hn]
        have hnb : 0 ≤ n * b + v ∧ n * b + v ≤ 20000000 := by rcases hb with rfl | rfl <;> omega
        have e1 : wrap64 (n * b) = n * b := by rcases hb with rfl | rfl <;> exact w64 (by omega) (by omega)
        refine Ev.step (fun f => ?_) (ih (i + 1) (n * b + v) (by omega) (by omega) hnb.1 hnb.2)
        simp only [redpenref15_number.j4]
        rw [if_neg (by simp), if_pos hn, e1, w64 (x := n * b + v) (by omega) (by omega), ew]
      · rw [if_neg hn]
        refine Ev.step (fun f => ?_) (ih (i + 1) n (by omega) (by omega) h0 h1)
        simp only [redpenref15_number.j4]
        rw [if_neg (by simp), if_neg hn, ew]
    -- which digit
    have e0 : ∀ f, redpenref15_number.l0 (f + 1) s b n (i : Int) = redpenref15_number.j1 f s b n (i : Int) (-1) (decide (48 ≤ c ∧ c ≤ 57)) := by
      intro f
      simp only [redpenref15_number.l0]
      rw [if_pos (by omega), if_pos (by omega), hcc]
      by_cases h : c ≥ 48
      · rw [if_pos h]; congr 1; rw [decide_eq_decide]; omega
      · rw [if_neg h]; congr 1; symm; rw [decide_eq_false_iff_not]; omega
    refine Ev.step e0 ?_
    unfold sat
    by_cases ha : 48 ≤ c ∧ c ≤ 57
    · have hx : refdig b c = some (c - 48) := by unfold refdig; rw [if_pos ha, if_pos (by omega)]
      rw [decide_eq_true ha, hx]
      simp only [Option.bind_some]
      refine Ev.step (fun f => ?_) (j3ok (c - 48) (by omega) (by omega))
      simp only [redpenref15_number.j1, if_true]
      rw [if_pos (by omega), if_pos (by omega), hcc, show (c - 48) % 256 = c - 48 by omega]
    · rw [decide_eq_false ha]
      have e1 : ∀ f, redpenref15_number.j1 (f + 1) s b n (i : Int) (-1) false = redpenref15_number.j2 f s b n (i : Int) (-1) (decide (97 ≤ c ∧ c ≤ 102)) := by
        intro f
        simp only [redpenref15_number.j1]
        rw [if_neg (by simp), if_pos (by omega), if_pos (by omega), hcc]
        by_cases h : c ≥ 97
        · rw [if_pos h]; congr 1; rw [decide_eq_decide]; omega
        · rw [if_neg h]; congr 1; symm; rw [decide_eq_false_iff_not]; omega
      refine Ev.step e1 ?_
      by_cases hbq : 97 ≤ c ∧ c ≤ 102
      · rw [decide_eq_true hbq]
        have e2 : ∀ f, redpenref15_number.j2 (f + 1) s b n (i : Int) (-1) true = redpenref15_number.j3 f s b n (i : Int) (c - 87) := by
          intro f
          simp only [redpenref15_number.j2, if_true]
          rw [if_pos (by omega), if_pos (by omega), hcc, show (c - 97) % 256 + 10 = c - 87 by omega]
        refine Ev.step e2 ?_
        by_cases hlt2 : c - 87 < b
        · have hx : refdig b c = some (c - 87) := by unfold refdig; rw [if_neg ha, if_pos hbq, if_pos hlt2]
          rw [hx]
          exact j3ok (c - 87) (by omega) hlt2
        · have hx : refdig b c = none := by unfold refdig; rw [if_neg ha, if_pos hbq, if_neg hlt2]
          rw [hx]
          exact j3neg _ (.inr (by omega))
      · rw [decide_eq_false hbq]
        by_cases hd' : 65 ≤ c ∧ c ≤ 70
        · have e2 : ∀ f, redpenref15_number.j2 (f + 1) s b n (i : Int) (-1) false = redpenref15_number.j3 f s b n (i : Int) (c - 55) := by
            intro f
            simp only [redpenref15_number.j2]
            rw [if_neg (by simp), if_pos (by omega), if_pos (by omega), hcc, if_pos (by omega), if_pos (by omega), show (c - 65) % 256 + 10 = c - 55 by omega]
          refine Ev.step e2 ?_
          by_cases hlt2 : c - 55 < b
          · have hx : refdig b c = some (c - 55) := by unfold refdig; rw [if_neg ha, if_neg hbq, if_pos hd', if_pos hlt2]
            rw [hx]
            exact j3ok (c - 55) (by omega) hlt2
          · have hx : refdig b c = none := by unfold refdig; rw [if_neg ha, if_neg hbq, if_pos hd', if_neg hlt2]
            rw [hx]
            exact j3neg _ (.inr (by omega))
        · have hx : refdig b c = none := by unfold refdig; rw [if_neg ha, if_neg hbq, if_neg hd']
          rw [hx]
          refine Ev.step (fun f => ?_) (j3neg (-1) (.inl (by omega)))
          simp only [redpenref15_number.j2]
          rw [if_neg (by simp), if_pos (by omega), if_pos (by omega), hcc]
          by_cases h : c ≥ 65
          · rw [if_pos h, if_neg (by omega)]
          · rw [if_neg h]
theorem number_eq (s : ByteArray) (hs : s.size < 1000000) (b : Int) (hb : b = 10 ∨ b = 16) : Ev (fun f => redpenref15_number.f f s b) (rnum b (bytesOf s)) := by
  have hlen : (bytesOf s).length = s.size := bytesOf_length s
  unfold rnum
  by_cases h : s.size = 0
  · rw [if_pos (List.length_eq_zero_iff.1 (by omega))]
    refine Ev.congr (f := fun _ => some (-1)) (fun f => ?_) (Ev.now _)
    unfold redpenref15_number.f
    rw [if_pos (by omega)]
  · have hbn : ¬ bytesOf s = [] := by
      intro h
      rw [h, List.length_nil] at hlen
      omega
    rw [if_neg hbn]
    have := number_from s hs b hb _ 0 0 rfl (by omega) (by omega) (by omega)
    rw [List.drop_zero] at this
    refine Ev.congr (fun f => ?_) this
    unfold redpenref15_number.f
    rw [if_neg (by omega)]
    rfl
/-- A number, asked whether it is a sign. -/
theorem number_sign (s : ByteArray) (hs : s.size < 1000000) (b : Int) (hb : b = 10 ∨ b = 16) (n m : Int) (hm : m = n) : Ev (fun f => (redpenref15_number.f f s b).bind fun t => (redpenref15_valid.f t).bind fun v => if v = true then some (wrap32 t, m, true) else some (0, 0, false)) (rsign b (bytesOf s) n) := by
  subst hm
  refine Ev.bind (number_eq s hs b hb) ?_
  simp only [rvalid_eq, Option.bind_some, rvalid_okV]
  unfold rsign
  by_cases hk : okV (rnum b (bytesOf s)) = true
  · have := (okV_iff _).1 hk
    simp only [if_pos hk]
    rw [w32 (by omega) (by omega)]
    exact Ev.now _
  · simp only [if_neg hk]
    exact Ev.now _
theorem resc_digits (b : List Int) (hB : BT b) (hl : b.length < 1000000) (h2 : 2 ≤ b.length) (w : Nat) (hw : 0 < w) (hw8 : w ≤ 8) (v : Int) (hv : v = (w : Int)) : Ev (fun f => redpenref15_Escape.j1 f b v) (escH w b) := by
  subst hv
  have ew : wrap64 (2 + (w : Int)) = 2 + (w : Int) := w64 (by omega) (by omega)
  by_cases h : b.length < 2 + w
  · rw [show escH w b = entNo by unfold escH; rw [if_pos h]]
    refine Ev.step (f := fun _ => some (0, 0, false)) (fun f => ?_) (Ev.now _)
    simp only [redpenref15_Escape.j1]
    rw [ew, if_pos (by omega)]
  · have hdt : (b.take (2 + w)).drop 2 = (b.drop 2).take w := by rw [List.drop_take]; congr 1; omega
    have hBT : BT ((b.drop 2).take w) := (hB.drop 2).take w
    have hn := number_sign (strOfNums ((b.drop 2).take w)) (by rw [strOfNums_size, List.length_take, List.length_drop]; omega) 16 (.inr rfl) (2 + (w : Int)) (2 + (w : Int)) rfl
    rw [bytesOf_strOfNums hBT, rsign_hex w hw b (by omega)] at hn
    refine Ev.step (fun f => ?_) hn
    simp only [redpenref15_Escape.j1]
    rw [ew, if_neg (by omega), if_pos (by omega), if_pos (by omega), show (2 + (w : Int)).toNat = 2 + w by omega, hdt]
theorem refescape_eq (f0 : Int) (b : List Int) (hB : BT b) (hl : b.length < 1000000) : Ev (fun f => redpenref15_Escape.f f f0 b) (escM f0 b) := by
  have hno : Ev (fun f => redpenref15_Escape.j0 f f0 b true) entNo := by
    refine Ev.step (f := fun _ => some (0, 0, false)) (fun f => ?_) (Ev.now _)
    simp only [redpenref15_Escape.j0, if_true]
  by_cases h2 : b.length < 2
  · rw [show escM f0 b = entNo by unfold escM; rw [if_pos (.inl h2)]]
    refine Ev.congr (fun f => ?_) hno
    unfold redpenref15_Escape.f
    rw [if_pos (by omega)]
  by_cases h92 : rd b 0 = 92
  rotate_left
  · rw [show escM f0 b = entNo by unfold escM; rw [if_pos (.inr (.inl h92))]]
    refine Ev.congr (fun f => ?_) hno
    unfold redpenref15_Escape.f
    rw [if_neg (by omega), if_pos (by omega), if_neg h92]
  by_cases h128 : 128 ≤ rd b 1
  · rw [show escM f0 b = entNo by unfold escM; rw [if_pos (.inr (.inr h128))]]
    refine Ev.congr (fun f => ?_) hno
    unfold redpenref15_Escape.f
    rw [if_neg (by omega), if_pos (by omega), if_pos h92, if_pos (by omega), decide_eq_true (show rd b 1 > 127 by omega)]
  have hc : 0 ≤ rd b 1 ∧ rd b 1 < 256 := rd_byte hB (i := 1) (by omega)
  have hw : wrap32 (rd b 1) = rd b 1 := w32 (by omega) (by omega)
  have g8 := resc_digits b hB hl (by omega) 8 (by omega) (by omega) 8 rfl
  have g4 := resc_digits b hB hl (by omega) 4 (by omega) (by omega) 4 rfl
  have g2 := resc_digits b hB hl (by omega) 2 (by omega) (by omega) 2 rfl
  refine Ev.congr (f := fun f => redpenref15_Escape.j0 f f0 b false) (fun f => ?_) ?_
  · unfold redpenref15_Escape.f
    rw [if_neg (by omega), if_pos (by omega), if_pos h92, if_pos (by omega), decide_eq_false (show ¬ rd b 1 > 127 by omega)]
  unfold escM
  rw [if_neg (by rintro (h | h | h); exact h2 h; exact h h92; exact h128 h)]
  obtain ⟨c, hcc⟩ : ∃ c, rd b 1 = c := ⟨_, rfl⟩
  rw [hcc] at hc hw
  simp only [hcc]
  have head : ∀ f, redpenref15_Escape.j0 (f + 1) f0 b false = (if f0 = 7 then (if c = 34 then (some (c, 2, true)) else (if c = 92 then (some (c, 2, true)) else (if c = 36 then (some (c, 2, true)) else (if c = 96 then (some (c, 2, true)) else (some (0, 0, false)))))) else (if c = 110 then (some (10, 2, true)) else (if c = 114 then (some (13, 2, true)) else (if c = 116 then (some (9, 2, true)) else (if c = 120 then (redpenref15_Escape.j1 f b 2) else (if c = 117 then (redpenref15_Escape.j1 f b 4) else (if c = 85 then (redpenref15_Escape.j1 f b 8) else (some (c, 2, true))))))))) := by
    intro f
    simp only [redpenref15_Escape.j0]
    rw [if_neg (by simp), if_pos (by omega), hcc, hw]
  refine Ev.step head ?_
  by_cases h7 : f0 = 7
  · simp only [if_pos h7]
    by_cases c1 : c = 34
    · simp only [if_pos c1]; rw [if_pos (.inl c1)]; exact Ev.now _
    simp only [if_neg c1]
    by_cases c2 : c = 92
    · simp only [if_pos c2]; rw [if_pos (.inr (.inl c2))]; exact Ev.now _
    simp only [if_neg c2]
    by_cases c3 : c = 36
    · simp only [if_pos c3]; rw [if_pos (.inr (.inr (.inl c3)))]; exact Ev.now _
    simp only [if_neg c3]
    by_cases c4 : c = 96
    · simp only [if_pos c4]; rw [if_pos (.inr (.inr (.inr c4)))]; exact Ev.now _
    · simp only [if_neg c4]; rw [if_neg (by omega)]; exact Ev.now _
  · simp only [if_neg h7]
    by_cases c1 : c = 110
    · simp only [if_pos c1]; exact Ev.now _
    simp only [if_neg c1]
    by_cases c2 : c = 114
    · simp only [if_pos c2]; exact Ev.now _
    simp only [if_neg c2]
    by_cases c3 : c = 116
    · simp only [if_pos c3]; exact Ev.now _
    simp only [if_neg c3]
    by_cases c4 : c = 120
    · simp only [if_pos c4]; rw [if_neg (by omega), if_neg (by omega)]; exact g2
    simp only [if_neg c4]
    by_cases c5 : c = 117
    · simp only [if_pos c5]; rw [if_neg (by omega)]; exact g4
    simp only [if_neg c5]
    by_cases c6 : c = 85
    · simp only [if_pos c6]; exact g8
    simp only [if_neg c6]; exact Ev.now _
/-- The document's end of a name: the first semicolon from a place on, up to the twelfth byte. -/
theorem ent_ref (f1 : Nat → ByteArray → Int → Option (Int × Int × Bool)) (s : ByteArray) (hs : s.size < 1000000) (n m : Int) (hm : m = n) : Ev (fun f => (if s.toList = ([97, 109, 112] : List UInt8) then (some (38, m, true)) else (if s.toList = ([97, 112, 111, 115] : List UInt8) then (some (39, m, true)) else (if s.toList = ([103, 116] : List UInt8) then (some (62, m, true)) else (if s.toList = ([108, 116] : List UInt8) then (some (60, m, true)) else (if s.toList = ([110, 98, 115, 112] : List UInt8) then (some (160, m, true)) else (if s.toList = ([113, 117, 111, 116] : List UInt8) then (some (34, m, true)) else (if bt s 0 = 35 ∧ 1 < s.size then (if bt s 1 = 120 ∨ bt s 1 = 88 then (redpenref15_number.f f (s.extract 2 s.size) 16).bind fun t => (redpenref15_valid.f t).bind fun v => if v = true then some (wrap32 t, m, true) else some (0, 0, false)
    else (redpenref15_number.f f (s.extract 1 s.size) 10).bind fun t => (redpenref15_valid.f t).bind fun v => if v = true then some (wrap32 t, m, true) else some (0, 0, false)) else some (0, 0, false))))))))) (entB s n) := by
  subst hm
  have ne35 : ∀ (x : UInt8) (t : List UInt8), s.toList = x :: t → x.toNat ≠ 35 → bt s 0 ≠ 35 := by
    intro x t h hx
    unfold bt
    rw [ByteArray.toList_eq] at h
    have hsz : 0 < s.size := by
      have := congrArg List.length h
      rw [Array.length_toList, List.length_cons] at this
      have := s.size_data
      omega
    rw [dif_pos (show (0 : Int).toNat < s.size from hsz)]
    have h0 : s.data.toList[0]'(by rw [h]; simp) = x := by simp [h]
    have : s[(0 : Int).toNat]'(by exact hsz) = x := h0
    rw [this]
    omega
  have nm : ∀ (L : List UInt8) (r : Int), (L == s.toList) = decide (s.toList = L) := by
    intro L r
    rw [Bool.eq_iff_iff, beq_iff_eq, decide_eq_true_eq]
    exact ⟨fun h => h.symm, fun h => h.symm⟩
  have names : entNames s m = if s.toList = ([97, 109, 112] : List UInt8) then (38, m, true) else if s.toList = ([97, 112, 111, 115] : List UInt8) then (39, m, true) else if s.toList = ([103, 116] : List UInt8) then (62, m, true) else if s.toList = ([108, 116] : List UInt8) then (60, m, true) else if s.toList = ([110, 98, 115, 112] : List UInt8) then (160, m, true) else if s.toList = ([113, 117, 111, 116] : List UInt8) then (34, m, true) else entNo := by
    unfold entNames namesL
    simp only [entNamesL, nm _ 0, decide_eq_true_eq]
  have one : ∀ (L : List UInt8) (x : UInt8) (t : List UInt8) (r : Int), L = x :: t → x.toNat ≠ 35 → s.toList = L → entNames s m = (r, m, true) → Ev (fun _ => some (r, m, true)) (entB s m) := by
    intro L x t r hL hx h he
    have : entB s m = (r, m, true) := by unfold entB; rw [if_neg (ne35 x t (h.trans hL) hx), he]
    rw [this]
    exact Ev.now _
  by_cases a1 : s.toList = ([97, 109, 112] : List UInt8)
  · simp only [if_pos a1]
    exact one _ _ _ 38 rfl (by decide) a1 (by rw [names, if_pos a1])
  simp only [if_neg a1]
  by_cases a2 : s.toList = ([97, 112, 111, 115] : List UInt8)
  · simp only [if_pos a2]
    exact one _ _ _ 39 rfl (by decide) a2 (by rw [names, if_neg a1, if_pos a2])
  simp only [if_neg a2]
  by_cases a3 : s.toList = ([103, 116] : List UInt8)
  · simp only [if_pos a3]
    exact one _ _ _ 62 rfl (by decide) a3 (by rw [names, if_neg a1, if_neg a2, if_pos a3])
  simp only [if_neg a3]
  by_cases a4 : s.toList = ([108, 116] : List UInt8)
  · simp only [if_pos a4]
    exact one _ _ _ 60 rfl (by decide) a4 (by rw [names, if_neg a1, if_neg a2, if_neg a3, if_pos a4])
  simp only [if_neg a4]
  by_cases a5 : s.toList = ([110, 98, 115, 112] : List UInt8)
  · simp only [if_pos a5]
    exact one _ _ _ 160 rfl (by decide) a5 (by rw [names, if_neg a1, if_neg a2, if_neg a3, if_neg a4, if_pos a5])
  simp only [if_neg a5]
  by_cases a6 : s.toList = ([113, 117, 111, 116] : List UInt8)
  · simp only [if_pos a6]
    exact one _ _ _ 34 rfl (by decide) a6 (by rw [names, if_neg a1, if_neg a2, if_neg a3, if_neg a4, if_neg a5, if_pos a6])
  simp only [if_neg a6]
  have hnone : entNames s m = entNo := by rw [names, if_neg a1, if_neg a2, if_neg a3, if_neg a4, if_neg a5, if_neg a6]
  by_cases h35 : bt s 0 = 35
  rotate_left
  · simp only [if_neg (show ¬ (bt s 0 = 35 ∧ 1 < s.size) from fun h => h35 h.1)]
    rw [show entB s m = entNo by unfold entB; rw [if_neg h35, hnone]]
    exact Ev.now _
  have hx1 : (s.extract 1 s.size).size = s.size - 1 := by rw [ByteArray.size_extract]; omega
  by_cases h1 : 1 < s.size
  rotate_left
  · simp only [if_neg (show ¬ (bt s 0 = 35 ∧ 1 < s.size) from fun h => h1 h.2)]
    rw [show entB s m = entNo by unfold entB entNum entDig; rw [if_pos h35, if_pos (by omega), if_pos (by omega)]]
    exact Ev.now _
  simp only [if_pos (show bt s 0 = 35 ∧ 1 < s.size from ⟨h35, h1⟩)]
  have hb1 : bt s 1 = bt (s.extract 1 s.size) 0 := by
    unfold bt
    rw [dif_pos (show (1 : Int).toNat < s.size from h1), dif_pos (show (0 : Int).toNat < (s.extract 1 s.size).size by rw [hx1]; show 0 < s.size - 1; omega)]
    have : (s.extract 1 s.size)[(0 : Int).toNat]'(by rw [hx1]; show 0 < s.size - 1; omega) = s[(1 : Int).toNat]'(by exact h1) := by
      simp [ByteArray.getElem_extract]
    rw [this]
  have hx2 : s.extract 2 s.size = (s.extract 1 s.size).extract 1 (s.extract 1 s.size).size := by
    rw [hx1, ByteArray.extract_extract]
    congr 1
    omega
  by_cases hx : bt s 1 = 120 ∨ bt s 1 = 88
  · simp only [if_pos hx]
    have hn := number_sign (s.extract 2 s.size) (by rw [ByteArray.size_extract]; omega) 16 (.inr rfl) m m rfl
    rw [show (16 : Int) = ((16 : Nat) : Int) from rfl, rsign_dig 16 (.inr rfl), hx2] at hn
    have : entB s m = entDig 16 ((s.extract 1 s.size).extract 1 (s.extract 1 s.size).size) m := by
      unfold entB entNum
      rw [if_pos h35, if_neg (by omega), ← hb1]
      rcases hx with h | h
      · rw [if_pos h]
      · rw [if_neg (by omega), if_pos h]
    rw [this, hx2]
    exact hn
  · simp only [if_neg hx]
    have hn := number_sign (s.extract 1 s.size) (by rw [ByteArray.size_extract]; omega) 10 (.inl rfl) m m rfl
    rw [show (10 : Int) = ((10 : Nat) : Int) from rfl, rsign_dig 10 (.inl rfl)] at hn
    have : entB s m = entDig 10 (s.extract 1 s.size) m := by
      unfold entB entNum
      rw [if_pos h35, if_neg (by omega), ← hb1, if_neg (fun h => hx (.inl h)), if_neg (fun h => hx (.inr h))]
    rw [this]
    exact hn
end Go.Proofs.YtekalnhackjldaaDoor.Pure
end
section
/- The document's Entity is the plain one. -/
namespace Go.Proofs.YtekalnhackjldaaDoor.Pure
open Go.RowKit Go.Proofs.YtekalnhackjldaaDoor.PDecodeOnes Go.Proofs.YtekalnhackjldaaDoorW.PrintWords Go.Proofs.YtekalnhackjldaaDoorW.PrintLast
open Go.Proofs.YtekalnhackjldaaDoor.M Go.Proofs.YtekalnhackjldaaDoor.X Go.Proofs.YtekalnhackjldaaDoor.H
set_option linter.unusedVariables false
set_option linter.unusedSimpArgs false

/-- The search for a name's end goes on. -/
theorem endN_go (l : List Int) : ∀ (i : Nat), i ≤ 12 → i ≤ l.length → (∀ t : Nat, t < i → rd l (t : Int) ≠ 59) → endN l 12 0 = endN l (12 - i) i := by
  intro i
  induction i with
  | zero => intro _ _ _; rfl
  | succ i ih =>
    intro h12 hl hno
    rw [ih (by omega) (by omega) (fun t ht => hno t (by omega))]
    rw [show 12 - i = (12 - (i + 1)) + 1 by omega]
    show (if i < l.length then (if rd l (i : Int) = 59 then i else endN l (12 - (i + 1)) (i + 1)) else i) = _
    rw [if_pos (by omega), if_neg (hno i (by omega))]
theorem refent_no (l : List Int) (f0 : Nat → Nat) : Ev (fun f => redpenref15_Entity.j0 f l true) entNo := by
  refine Ev.step (f := fun _ => some (0, 0, false)) (fun f => ?_) (Ev.now _)
  simp only [redpenref15_Entity.j0, if_true]
theorem refent_from (l : List Int) (hB : BT l) (hl : l.length < 1000000) (h38 : rd l 0 = 38) : ∀ (d i : Nat), 13 - i = d → 1 ≤ i → i ≤ 13 → i ≤ l.length → (∀ t : Nat, t < i → rd l (t : Int) ≠ 59) → Ev (fun f => redpenref15_Entity.l0 f l (i : Int)) (entF l) := by
  intro d
  induction d with
  | zero =>
    intro i hd h1 h13 hil hno
    have hi : i = 13 := by omega
    subst hi
    have he : endN l 12 0 = 12 := by
      rw [endN_go l 12 (by omega) (by omega) (fun t ht => hno t (by omega))]
      rfl
    have hf : entF l = entNo := by unfold entF; rw [he, if_pos (.inr (.inr (.inl (hno 12 (by omega)))))]
    rw [hf]
    have e0 : ∀ f, redpenref15_Entity.l0 (f + 1) l ((13 : Nat) : Int) = redpenref15_Entity.j2 f l ((13 : Nat) : Int) false := by
      intro f
      simp only [redpenref15_Entity.l0]
      by_cases h : ((13 : Nat) : Int) < (l.length : Int)
      · rw [if_pos h, decide_eq_false (by omega)]
      · rw [if_neg h]
    refine Ev.step e0 (Ev.step (f := fun _ => some (0, 0, false)) (fun f => ?_) (Ev.now _))
    simp only [redpenref15_Entity.j2]
    rw [if_neg (by simp)]
  | succ d ih =>
    intro i hd h1 h13 hil hno
    by_cases hlt : i < l.length
    rotate_left
    · -- the end
      have he : endN l 12 0 = i := by
        rw [endN_go l i (by omega) (by omega) hno]
        cases h : 12 - i with
        | zero => rfl
        | succ m => unfold endN; rw [if_neg hlt]
      have hf : entF l = entNo := by unfold entF; rw [he, if_pos (.inr (.inl (by omega)))]
      rw [hf]
      have e0 : ∀ f, redpenref15_Entity.l0 (f + 1) l (i : Int) = redpenref15_Entity.j2 f l (i : Int) false := by
        intro f
        simp only [redpenref15_Entity.l0]
        rw [if_neg (by omega)]
      refine Ev.step e0 (Ev.step (f := fun _ => some (0, 0, false)) (fun f => ?_) (Ev.now _))
      simp only [redpenref15_Entity.j2]
      rw [if_neg (by simp)]
    have e0 : ∀ f, redpenref15_Entity.l0 (f + 1) l (i : Int) = redpenref15_Entity.j2 f l (i : Int) true := by
      intro f
      simp only [redpenref15_Entity.l0]
      rw [if_pos (by omega), decide_eq_true (by omega)]
    refine Ev.step e0 ?_
    by_cases h59 : rd l (i : Int) = 59
    rotate_left
    · refine Ev.step (fun f => ?_) (ih (i + 1) (by omega) (by omega) (by omega) (by omega) (fun t ht => by
        by_cases h : t = i
        · subst h; exact h59
        · exact hno t (by omega)))
      simp only [redpenref15_Entity.j2, if_true]
      rw [if_pos (by omega), if_pos (by omega), if_neg h59, w64 (by omega) (by omega)]
      rfl
    -- found
    have he : endN l 12 0 = i := by
      rw [endN_go l i (by omega) (by omega) hno]
      cases h : 12 - i with
      | zero => rfl
      | succ m => unfold endN; rw [if_pos hlt, if_pos h59]
    have hy : ((l.take (i : Int).toNat).drop 1) = (l.take i).drop 1 := by rw [Int.toNat_natCast]
    have em : wrap64 ((i : Int) + 1) = (i : Int) + 1 := w64 (by omega) (by omega)
    obtain ⟨y, hyy⟩ : ∃ y, (l.take i).drop 1 = y := ⟨_, rfl⟩
    have hyl : y.length = i - 1 := by rw [← hyy, List.length_drop, List.length_take]; omega
    have hs : (strOfNums y).size < 1000000 := by rw [strOfNums_size]; omega
    have hent := ent_ref (fun _ _ _ => none) (strOfNums y) hs ((i : Int) + 1) ((i : Int) + 1) rfl
    have hf : entF l = if i < 2 then entNo else entB (strOfNums y) ((i : Int) + 1) := by
      unfold entF
      rw [he, hyy]
      by_cases h2 : i < 2
      · rw [if_pos (.inl h2), if_pos h2]
      · rw [if_neg (by rintro (h | h | h | h); exact h2 h; omega; exact h h59; exact h h38), if_neg h2]
    have hf2 : entF l = entB (strOfNums y) ((i : Int) + 1) := by
      rw [hf]
      by_cases h2 : i < 2
      · rw [if_pos h2]
        have hy0 : y = [] := List.length_eq_zero_iff.1 (by omega)
        subst hy0
        unfold entB
        rw [if_neg (show ¬ bt (strOfNums []) 0 = 35 by decide)]
        unfold entNames namesL
        have hnil : (strOfNums []).toList = [] := by rw [toList_eq_data, strOfNums_data]; rfl
        simp only [entNamesL, hnil]
        rfl
      · rw [if_neg h2]
    rw [hf2]
    obtain ⟨s, hss⟩ : ∃ s, strOfNums y = s := ⟨_, rfl⟩
    rw [hss] at hent hs ⊢
    -- the last steps
    have j3no : Ev (fun f => redpenref15_Entity.j3 f (i : Int) s (-1) false) entNo := by
      refine Ev.step (f := fun _ => some (0, 0, false)) (fun f => ?_) (Ev.now _)
      simp only [redpenref15_Entity.j3]
      rw [if_neg (by simp)]
      exact ob (rvalid_eq (-1)) rfl
    obtain ⟨K, hK⟩ := hent
    obtain ⟨K2, hK2⟩ := j3no
    refine ⟨K + K2 + 4, fun k hk => ?_⟩
    obtain ⟨k, rfl⟩ : ∃ m, k = m + 3 := ⟨k - 3, by omega⟩
    rw [← hK k (by omega)]
    have hK' := hK k (by omega)
    simp only [redpenref15_Entity.j2, if_true]
    rw [if_pos (by omega), if_pos (by omega), if_pos h59, if_pos (by omega), if_pos (by omega), hy, hyy]
    simp only [Option.bind_some, hss, em]
    by_cases a1 : s.toList = ([97, 109, 112] : List UInt8)
    · rw [if_pos a1, if_pos a1]
    rw [if_neg a1, if_neg a1]
    by_cases a2 : s.toList = ([97, 112, 111, 115] : List UInt8)
    · rw [if_pos a2, if_pos a2]
    rw [if_neg a2, if_neg a2]
    by_cases a3 : s.toList = ([103, 116] : List UInt8)
    · rw [if_pos a3, if_pos a3]
    rw [if_neg a3, if_neg a3]
    by_cases a4 : s.toList = ([108, 116] : List UInt8)
    · rw [if_pos a4, if_pos a4]
    rw [if_neg a4, if_neg a4]
    by_cases a5 : s.toList = ([110, 98, 115, 112] : List UInt8)
    · rw [if_pos a5, if_pos a5]
    rw [if_neg a5, if_neg a5]
    by_cases a6 : s.toList = ([113, 117, 111, 116] : List UInt8)
    · rw [if_pos a6, if_pos a6]
    rw [if_neg a6, if_neg a6]
    by_cases h1 : (s.size : Int) > 1
    rotate_left
    · rw [if_neg h1, if_neg (fun h => h1 (by omega))]
      exact hK2 (k + 2) (by omega)
    rw [if_pos h1, if_pos (by omega)]
    by_cases h35 : bt s 0 = 35
    rotate_left
    · rw [if_neg (fun h => h35 h.1), show (bt s 0 == 35) = false from beq_eq_false_iff_ne.2 h35]
      exact hK2 (k + 2) (by omega)
    rw [if_pos ⟨h35, by omega⟩, show (bt s 0 == 35) = true from beq_iff_eq.2 h35]
    have j4t : redpenref15_Entity.j4 (k + 1) (i : Int) s true = (redpenref15_number.f k (s.extract 2 s.size) 16).bind fun t => (redpenref15_valid.f t).bind fun v => if v = true then some (wrap32 t, (i : Int) + 1, true) else some (0, 0, false) := by
      simp only [redpenref15_Entity.j4, if_true]
      rw [if_pos (by omega), em]
    have j4f : redpenref15_Entity.j4 (k + 1) (i : Int) s false = (redpenref15_number.f k (s.extract 1 s.size) 10).bind fun t => (redpenref15_valid.f t).bind fun v => if v = true then some (wrap32 t, (i : Int) + 1, true) else some (0, 0, false) := by
      simp only [redpenref15_Entity.j4]
      rw [if_neg (by simp), if_pos (by omega), em]
    simp only [redpenref15_Entity.j3, if_true]
    rw [if_pos (by omega)]
    by_cases hx : bt s 1 = 120
    · rw [if_pos hx, if_pos (.inl hx), j4t]
    · rw [if_neg hx]
      by_cases hX : bt s 1 = 88
      · rw [if_pos (.inr hX), show (bt s 1 == 88) = true from beq_iff_eq.2 hX, j4t]
      · rw [if_neg (fun h => h.elim hx hX), show (bt s 1 == 88) = false from beq_eq_false_iff_ne.2 hX, j4f]
theorem refentity_eq (l : List Int) (hB : BT l) (hl : l.length < 1000000) : Ev (fun f => redpenref15_Entity.f f l) (entF l) := by
  by_cases h0 : l.length = 0
  · have : entF l = entNo := by
      have : l = [] := List.length_eq_zero_iff.1 h0
      subst this
      rfl
    rw [this]
    refine Ev.congr (fun f => ?_) (refent_no l id)
    unfold redpenref15_Entity.f
    rw [if_pos (by omega)]
  by_cases h38 : rd l 0 = 38
  · have := refent_from l hB hl h38 _ 1 rfl (by omega) (by omega) (by omega) (fun t ht => by
      have : t = 0 := by omega
      subst this
      rw [show ((0 : Nat) : Int) = 0 from rfl, h38]
      omega)
    refine Ev.congr (f := fun f => redpenref15_Entity.j0 f l false) (fun f => ?_) (Ev.step (fun f => ?_) this)
    · unfold redpenref15_Entity.f
      rw [if_neg (by omega), if_pos (by omega), show (rd l 0 != 38) = false from bne_eq_false_iff_eq.2 h38]
    · simp only [redpenref15_Entity.j0]
      rw [if_neg (by simp)]
      rfl
  · have : entF l = entNo := by unfold entF; rw [if_pos (.inr (.inr (.inr h38)))]
    rw [this]
    refine Ev.congr (fun f => ?_) (refent_no l id)
    unfold redpenref15_Entity.f
    rw [if_neg (by omega), if_pos (by omega), show (rd l 0 != 38) = true from bne_iff_ne.2 h38]
end Go.Proofs.YtekalnhackjldaaDoor.Pure
end
section
/- A text of pieces: how long it is, and that it is bytes. -/
namespace Go.Proofs.YtekalnhackjldaaDoor.PDecodeOnes
open Go.RowKit Go.Proofs.YtekalnhackjldaaDoorW.PrintWords Go.Proofs.YtekalnhackjldaaDoorW.PrintLast Go.Proofs.YtekalnhackjldaaDoorW.PrintMore
open Go.Proofs.YtekalnhackjldaaDoor.M
set_option linter.unusedVariables false
set_option linter.unusedSimpArgs false

theorem bits_from (ps : List ByteArray) (hp : ∀ p ∈ ps, p.size ≤ 100) (raw l : List Int) (hraw : BT raw) (hl : BT l) (hn : l.length ≤ 140737488351232) (hrn : raw.length < 100000000) : ∀ (d i : Nat), 61 - i = d → i ≤ l.length → i ≤ 60 → ∀ acc : List Int, BT acc → acc.length ≤ 100 * i →
    ∃ x, BT x ∧ x.length ≤ 6000 ∧ Ev (fun f => redpenlaw11_Bits.l0 f ps raw acc l (l.length : Int) (i : Int)) x := by
  intro d
  induction d with
  | zero => intro i hd hi h60; omega
  | succ d ih =>
    intro i hd hi h60 acc hB hA
    by_cases hlt : i < l.length
    · by_cases h6 : i = 60
      · refine ⟨acc, hB, by omega, ⟨1, fun k hk => ?_⟩⟩
        obtain ⟨k, rfl⟩ : ∃ m, k = m + 1 := ⟨k - 1, by omega⟩
        simp only [redpenlaw11_Bits.l0]
        rw [if_pos (by omega), if_pos (by omega), if_pos (by omega), if_pos (by omega)]
      · have ew : wrap64 ((i : Int) + 1) = ((i + 1 : Nat) : Int) := by rw [w64 (by omega) (by omega)]; omega
        have hx : 0 ≤ rd l (i : Int) ∧ rd l (i : Int) < 256 := by
          unfold rd
          rw [Int.toNat_natCast, List.getD_eq_getElem?_getD, List.getElem?_eq_getElem hlt]
          exact hl _ (List.getElem_mem hlt)
        have ex : wrap64 (rd l (i : Int)) = rd l (i : Int) := w64 (by omega) (by omega)
        by_cases hk : rd l (i : Int) < (ps.length : Int)
        · have hsz : (rdOf ByteArray.empty ps (rd l (i : Int))).size ≤ 100 := by
            unfold rdOf
            rw [List.getD_eq_getElem?_getD, List.getElem?_eq_getElem (by omega)]
            exact hp _ (List.getElem_mem _)
          obtain ⟨x, h1, h2, h3⟩ := ih (i + 1) (by omega) (by omega) (by omega) (acc ++ bytesOf (rdOf ByteArray.empty ps (rd l (i : Int)))) (hB.app (bytesOf_BT _)) (by rw [List.length_append, bytesOf_length]; omega)
          refine ⟨x, h1, h2, Ev.step (fun f => ?_) h3⟩
          simp only [redpenlaw11_Bits.l0]
          rw [if_pos (by omega), if_pos (by omega), if_pos (by omega), if_neg (by omega), ex, if_pos hk, if_pos hx.1, if_pos (by omega), ew]
        · by_cases hr : (raw.length : Int) > 0
          · have ht : Int.tmod (rd l (i : Int)) (raw.length : Int) = rd l (i : Int) % (raw.length : Int) := Int.tmod_eq_emod_of_nonneg hx.1
            have hm0 := Int.emod_nonneg (rd l (i : Int)) (show (raw.length : Int) ≠ 0 by omega)
            have hm1 := Int.emod_lt_of_pos (rd l (i : Int)) hr
            have hb0 : ∀ q : Int, 0 ≤ q → q < (raw.length : Int) → BT [rd raw q] := fun q q0 q1 z hz => by
              rw [List.mem_singleton.1 hz]
              unfold rd
              rw [List.getD_eq_getElem?_getD, List.getElem?_eq_getElem (by omega)]
              exact hraw _ (List.getElem_mem _)
            have hb := hb0 _ hm0 hm1
            obtain ⟨x, h1, h2, h3⟩ := ih (i + 1) (by omega) (by omega) (by omega) (acc ++ [rd raw (rd l (i : Int) % (raw.length : Int))]) (hB.app hb) (by rw [List.length_append, List.length_singleton]; omega)
            refine ⟨x, h1, h2, Ev.step (fun f => ?_) h3⟩
            simp only [redpenlaw11_Bits.l0]
            rw [if_pos (by omega), if_pos (by omega), if_pos (by omega), if_neg (by omega), ex, if_neg hk, if_pos hr, if_neg (by omega), ht, if_pos hm0, if_pos hm1, if_pos (by omega), ew]
          · obtain ⟨x, h1, h2, h3⟩ := ih (i + 1) (by omega) (by omega) (by omega) acc hB (by omega)
            refine ⟨x, h1, h2, Ev.step (fun f => ?_) h3⟩
            simp only [redpenlaw11_Bits.l0]
            rw [if_pos (by omega), if_pos (by omega), if_pos (by omega), if_neg (by omega), ex, if_neg hk, if_neg hr, ew]
    · refine ⟨acc, hB, by omega, ⟨1, fun k hk => ?_⟩⟩
      obtain ⟨k, rfl⟩ : ∃ m, k = m + 1 := ⟨k - 1, by omega⟩
      simp only [redpenlaw11_Bits.l0]
      rw [if_neg (by omega)]
theorem bits_eq (ps : List ByteArray) (hp : ∀ p ∈ ps, p.size ≤ 100) (raw l : List Int) (hraw : BT raw) (hl : BT l) (hn : l.length ≤ 140737488351232) (hrn : raw.length < 100000000) :
    ∃ x, BT x ∧ x.length ≤ 6000 ∧ Ev (fun f => redpenlaw11_Bits.f f ps l raw) x :=
  bits_from ps hp raw l hraw hl hn hrn 61 0 rfl (by omega) (by omega) [] (fun _ h => by cases h) (by simp)
end Go.Proofs.YtekalnhackjldaaDoor.PDecodeOnes
end
