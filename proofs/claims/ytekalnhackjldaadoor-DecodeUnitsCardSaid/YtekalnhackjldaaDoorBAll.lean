/- The printed functions are the plain ones. -/
import Derived.Test.YtekalnhackjldaaDoorPDecodeUnitsx
import Derived.Test.YtekalnhackjldaaDoorHM
section
/- The printed functions of utf are the plain ones: utf.Next, utf.Units. -/
namespace Go.Proofs.YtekalnhackjldaaDoor.PDecodeUnits
open Go.RowKit Go.Proofs.YtekalnhackjldaaDoorW.PrintWords Go.Proofs.YtekalnhackjldaaDoorW.PrintLast Go.Proofs.YtekalnhackjldaaDoorW.PrintMore
open Go.Proofs.YtekalnhackjldaaDoor.M
set_option linter.unusedVariables false
set_option linter.unusedSimpArgs false

theorem first_a (m : Nat) {c : Int} (h0 : 0 ≤ c) (h : c < 128) : utf_first.f m c = some (c, 0, 0, true) := by
  unfold utf_first.f
  rw [if_pos h, w32 (x := c) (by omega) (by omega)]
theorem first_b (m : Nat) {c : Int} (h0 : 194 ≤ c) (h1 : c < 224) : utf_first.f (m + 1 + 1) c = some (c - 192, 1, 128, true) := by
  unfold utf_first.f
  rw [if_neg (by omega), if_pos h0]
  simp only [utf_first.j0]
  rw [if_pos (decide_eq_true h1), u8_and31 c (by omega) (by omega), w32 (x := c % 32) (by omega) (by omega)]
  congr 2; omega
theorem first_c (m : Nat) {c : Int} (h0 : 224 ≤ c) (h1 : c < 240) : utf_first.f (m + 1 + 1) c = some (c - 224, 2, 2048, true) := by
  unfold utf_first.f
  rw [if_neg (by omega), if_pos (by omega)]
  simp only [utf_first.j0, utf_first.j1]
  rw [if_neg (by rw [decide_eq_true_eq]; omega), if_pos h0, if_pos (decide_eq_true h1), u8_and15 c (by omega) (by omega), w32 (x := c % 16) (by omega) (by omega)]
  congr 2; omega
theorem first_d (m : Nat) {c : Int} (h0 : 240 ≤ c) (h1 : c < 245) : utf_first.f (m + 1 + 1) c = some (c - 240, 3, 65536, true) := by
  unfold utf_first.f
  rw [if_neg (by omega), if_pos (by omega)]
  simp only [utf_first.j0, utf_first.j1]
  rw [if_neg (by rw [decide_eq_true_eq]; omega), if_pos (by omega), if_neg (by rw [decide_eq_true_eq]; omega), if_pos h0, if_pos h1, u8_and7 c (by omega) (by omega), w32 (x := c % 8) (by omega) (by omega)]
  congr 2; omega
theorem first_e (m : Nat) {c : Int} (h0 : 128 ≤ c) (h : c < 194 ∨ 245 ≤ c) : utf_first.f (m + 1 + 1) c = some (0, 0, 0, false) := by
  unfold utf_first.f
  rw [if_neg (by omega)]
  by_cases h1 : c ≥ 194
  · rw [if_pos h1]
    simp only [utf_first.j0, utf_first.j1]
    rw [if_neg (by rw [decide_eq_true_eq]; omega), if_pos (by omega), if_neg (by rw [decide_eq_true_eq]; omega), if_pos (by omega), if_neg (by omega)]
  · rw [if_neg h1]
    simp only [utf_first.j0, utf_first.j1]
    rw [if_neg (by simp)]
    by_cases h2 : c ≥ 224
    · omega
    · rw [if_neg h2, if_neg (by simp), if_neg (by omega)]
theorem step_T (k : Nat) (r more least c : Int) (l : List Int) (n i : Int) (hi : 0 ≤ i) (hn : i < n) (hl : i < (l.length : Int)) (hc : rd l i = c) (h0 : 0 ≤ c) (h1 : c < 256) (hr0 : 0 ≤ r) (hr : r < 33554432) (hi' : i < 1000) :
    utf_Next.l0 (k + 1) r more least l n i = if isT c = true then utf_Next.l0 k (r * 64 + (c - 128)) more least l n (i + 1) else some (-1, 1) := by
  have e1 : Go.bits .and .u8 c 192 = c / 64 * 64 := by
    have : ∀ x : Fin 256, Go.bits .and .u8 ((x.val : Nat) : Int) 192 = ((x.val : Nat) : Int) / 64 * 64 := by decide +kernel
    have h := this ⟨c.toNat, by omega⟩
    simpa [Int.toNat_of_nonneg h0] using h
  simp only [utf_Next.l0]
  rw [if_pos hn, if_pos hi, if_pos hl, hc, e1]
  by_cases hT : isT c = true
  · have hT' := (isT_iff c).1 hT
    rw [if_pos (by omega), if_pos hT, u8_and63 c h0 h1, w32 (x := r * 64) (by omega) (by omega), w32 (x := c % 64) (by omega) (by omega), i32_or6 (r * 64) (c % 64) (by omega) (by omega) (by omega) (by omega) (by omega), w64 (x := i + 1) (by omega) (by omega)]
    congr 1; omega
  · have hT' : ¬ (128 ≤ c ∧ c < 192) := fun h => hT ((isT_iff c).2 h)
    rw [if_neg (by omega), if_neg hT]
theorem end_T (k : Nat) (r more least : Int) (l : List Int) (n : Int) (hr : least ≤ r) (hr1 : r ≤ 1114111) (hs : ¬ (55296 ≤ r ∧ r < 57344)) (hm0 : 0 ≤ more) (hm : more < 10) :
    utf_Next.l0 (k + 1) r more least l n n = some (r, 1 + more) := by
  simp only [utf_Next.l0]
  rw [if_neg (by omega), if_neg (by omega), if_neg (by omega), w64 (x := 1 + more) (by omega) (by omega)]
  by_cases h : r ≥ 55296
  · rw [if_pos h, if_neg (by omega)]
  · rw [if_neg h]
theorem end_F (k : Nat) (r more least : Int) (l : List Int) (n : Int) (h : r < least ∨ 1114111 < r ∨ (55296 ≤ r ∧ r < 57344)) :
    utf_Next.l0 (k + 1) r more least l n n = some (-1, 1) := by
  simp only [utf_Next.l0]
  rw [if_neg (by omega)]
  by_cases h1 : r < least
  · rw [if_pos h1]
  · rw [if_neg h1]
    by_cases h2 : r > 1114111
    · rw [if_pos h2]
    · rw [if_neg h2, if_pos (by omega), if_pos (by omega)]
theorem j0_short (k : Nat) (b : List Int) (r more least : Int) : utf_Next.j0 (k + 1) b r more least true = some (-1, 1) := by
  simp only [utf_Next.j0, ↓reduceIte]
theorem j0_long (k : Nat) (b : List Int) (r more least : Int) (hm0 : 0 ≤ more) (hn : more < (b.length : Int)) (hn' : more < 10) :
    utf_Next.j0 (k + 1) b r more least false = utf_Next.l0 k r more least ((b.take (more.toNat + 1)).drop 1) more 0 := by
  simp only [utf_Next.j0]
  have e : wrap64 (1 + more) = 1 + more := w64 (by omega) (by omega)
  have e3 : (1 + more).toNat = more.toNat + 1 := by omega
  have e2 : (((b.take (more.toNat + 1)).drop 1).length : Int) = more := by rw [List.length_drop, List.length_take]; omega
  rw [if_neg (by simp), e, if_pos (by omega), if_pos (by omega), e3]
  simp only [Option.bind_some]
  rw [e2]
theorem next_eq {k : Nat} (hk : 6 ≤ k) {b : List Int} (hB : BT b) : utf_Next.f k b = some (nx b) := by
  obtain ⟨m, rfl⟩ : ∃ m, k = m + 1 + 1 + 1 + 1 + 1 + 1 := ⟨k - 6, by omega⟩
  rcases b with _ | ⟨c, t⟩
  · rfl
  have hc := hB.head
  have hl : (((c :: t).length : Nat) : Int) = t.length + 1 := by simp
  unfold utf_Next.f
  rw [if_neg (by rw [hl]; omega), if_pos (by rw [hl]; omega), show rd (c :: t) 0 = c from rfl]
  by_cases h1 : c < 128
  · rw [first_a _ hc.1 h1]
    simp only [Option.bind_some, ↓reduceIte]
    rw [decide_eq_false (by rw [hl]; omega), j0_long (m + 1 + 1 + 1 + 1 + 1) (c :: t) c 0 0 (by omega) (by rw [hl]; omega) (by omega), end_T (m + 1 + 1 + 1 + 1) c 0 0 _ 0 hc.1 (by omega) (by omega) (by omega) (by omega)]
    simp [nx, h1]
  by_cases h2 : 194 ≤ c ∧ c < 224
  · rw [first_b (m + 1 + 1 + 1 + 1) h2.1 h2.2]
    simp only [Option.bind_some, ↓reduceIte]
    rcases t with _ | ⟨c1, t⟩
    · rw [decide_eq_true (by simp), j0_short]; simp [nx, h1, h2]
    · have b1 := hB.tail.head
      rw [decide_eq_false (by simp; omega), j0_long (m + 1 + 1 + 1 + 1 + 1) (c :: c1 :: t) (c - 192) 1 128 (by omega) (by simp; omega) (by omega)]
      rw [show ((c :: c1 :: t).take ((1 : Int).toNat + 1)).drop 1 = [c1] from rfl]
      rw [step_T (m + 1 + 1 + 1 + 1) (c - 192) 1 128 c1 [c1] 1 0 (by omega) (by omega) (by simp) rfl b1.1 b1.2 (by omega) (by omega) (by omega)]
      by_cases hT : isT c1 = true
      · have := (isT_iff c1).1 hT
        rw [if_pos hT, show (0 : Int) + 1 = 1 from rfl, end_T (m + 1 + 1 + 1) ((c - 192) * 64 + (c1 - 128)) 1 128 [c1] 1 (by omega) (by omega) (by omega) (by omega) (by omega)]
        simp [nx, h1, h2, hT, v2]
      · rw [if_neg hT]; simp [nx, h1, h2, hT]
  by_cases h3 : 224 ≤ c ∧ c < 240
  · rw [first_c (m + 1 + 1 + 1 + 1) h3.1 h3.2]
    simp only [Option.bind_some, ↓reduceIte]
    rcases t with _ | ⟨c1, _ | ⟨c2, t⟩⟩
    · rw [decide_eq_true (by simp), j0_short]; simp [nx, h1, h2, h3]
    · rw [decide_eq_true (by simp), j0_short]; simp [nx, h1, h2, h3]
    · have b1 := hB.tail.head
      have b2 := hB.tail.tail.head
      rw [decide_eq_false (by simp; omega), j0_long (m + 1 + 1 + 1 + 1 + 1) (c :: c1 :: c2 :: t) (c - 224) 2 2048 (by omega) (by simp; omega) (by omega)]
      rw [show ((c :: c1 :: c2 :: t).take ((2 : Int).toNat + 1)).drop 1 = [c1, c2] from rfl]
      rw [step_T (m + 1 + 1 + 1 + 1) (c - 224) 2 2048 c1 [c1, c2] 2 0 (by omega) (by omega) (by simp) rfl b1.1 b1.2 (by omega) (by omega) (by omega)]
      simp only [nx]
      rw [if_neg h1, if_neg h2, if_pos h3]
      by_cases hT : isT c1 = true
      · have t1 := (isT_iff c1).1 hT
        rw [if_pos hT, step_T (m + 1 + 1 + 1) ((c - 224) * 64 + (c1 - 128)) 2 2048 c2 [c1, c2] 2 (0 + 1) (by omega) (by omega) (by simp) rfl b2.1 b2.2 (by omega) (by omega) (by omega)]
        by_cases hT2 : isT c2 = true
        · have t2 := (isT_iff c2).1 hT2
          rw [if_pos hT2, show (0 : Int) + 1 + 1 = 2 from rfl]
          by_cases hv : 2048 ≤ v3 c c1 c2 ∧ ¬ (55296 ≤ v3 c c1 c2 ∧ v3 c c1 c2 < 57344)
          · rw [if_pos ⟨hT, hT2, hv.1, hv.2⟩]
            exact end_T (m + 1 + 1) (v3 c c1 c2) 2 2048 [c1, c2] 2 hv.1 (by unfold v3; omega) hv.2 (by omega) (by omega)
          · rw [if_neg (fun h => hv h.2.2)]
            exact end_F (m + 1 + 1) (v3 c c1 c2) 2 2048 [c1, c2] 2 (by omega)
        · rw [if_neg hT2, if_neg (fun h => hT2 h.2.1)]
      · rw [if_neg hT, if_neg (fun h => hT h.1)]
  by_cases h4 : 240 ≤ c ∧ c < 245
  · rw [first_d (m + 1 + 1 + 1 + 1) h4.1 h4.2]
    simp only [Option.bind_some, ↓reduceIte]
    rcases t with _ | ⟨c1, _ | ⟨c2, _ | ⟨c3, t⟩⟩⟩
    · rw [decide_eq_true (by simp), j0_short]; simp [nx, h1, h2, h3, h4]
    · rw [decide_eq_true (by simp), j0_short]; simp [nx, h1, h2, h3, h4]
    · rw [decide_eq_true (by simp), j0_short]; simp [nx, h1, h2, h3, h4]
    · have b1 := hB.tail.head
      have b2 := hB.tail.tail.head
      have b3 := hB.tail.tail.tail.head
      rw [decide_eq_false (by simp; omega), j0_long (m + 1 + 1 + 1 + 1 + 1) (c :: c1 :: c2 :: c3 :: t) (c - 240) 3 65536 (by omega) (by simp; omega) (by omega)]
      rw [show ((c :: c1 :: c2 :: c3 :: t).take ((3 : Int).toNat + 1)).drop 1 = [c1, c2, c3] from rfl]
      rw [step_T (m + 1 + 1 + 1 + 1) (c - 240) 3 65536 c1 [c1, c2, c3] 3 0 (by omega) (by omega) (by simp) rfl b1.1 b1.2 (by omega) (by omega) (by omega)]
      simp only [nx]
      rw [if_neg h1, if_neg h2, if_neg h3, if_pos h4]
      by_cases hT : isT c1 = true
      · have t1 := (isT_iff c1).1 hT
        rw [if_pos hT, step_T (m + 1 + 1 + 1) ((c - 240) * 64 + (c1 - 128)) 3 65536 c2 [c1, c2, c3] 3 (0 + 1) (by omega) (by omega) (by simp) rfl b2.1 b2.2 (by omega) (by omega) (by omega)]
        by_cases hT2 : isT c2 = true
        · have t2 := (isT_iff c2).1 hT2
          rw [if_pos hT2, step_T (m + 1 + 1) (((c - 240) * 64 + (c1 - 128)) * 64 + (c2 - 128)) 3 65536 c3 [c1, c2, c3] 3 (0 + 1 + 1) (by omega) (by omega) (by simp) rfl b3.1 b3.2 (by omega) (by omega) (by omega)]
          by_cases hT3 : isT c3 = true
          · have t3 := (isT_iff c3).1 hT3
            rw [if_pos hT3, show (0 : Int) + 1 + 1 + 1 = 3 from rfl]
            by_cases hv : 65536 ≤ v4 c c1 c2 c3 ∧ v4 c c1 c2 c3 ≤ 1114111
            · rw [if_pos ⟨hT, hT2, hT3, hv.1, hv.2⟩]
              exact end_T (m + 1) (v4 c c1 c2 c3) 3 65536 [c1, c2, c3] 3 hv.1 hv.2 (by omega) (by omega) (by omega)
            · rw [if_neg (fun h => hv h.2.2.2)]
              exact end_F (m + 1) (v4 c c1 c2 c3) 3 65536 [c1, c2, c3] 3 (by omega)
          · rw [if_neg hT3, if_neg (fun h => hT3 h.2.2.1)]
        · rw [if_neg hT2, if_neg (fun h => hT2 h.2.1)]
      · rw [if_neg hT, if_neg (fun h => hT h.1)]
  · rw [first_e (m + 1 + 1 + 1 + 1) (by omega) (by omega)]
    simp only [Option.bind_some]
    rw [if_neg (by simp), j0_short]
    simp [nx, h1, h2, h3, h4]

/-- Signs with their places. -/
def mkU : Int → List (Int × Int) → List S45
  | _, [] => []
  | at_, (r, n) :: l => ⟨r, ⟨at_, n⟩⟩ :: mkU (at_ + n) l
theorem mkU_len (a : Int) (l : List (Int × Int)) : (mkU a l).length = l.length := by
  induction l generalizing a with
  | nil => rfl
  | cons x l ih => simp [mkU, ih]
theorem BT_of_wf {l : List Int} (h : ∀ x ∈ l, (Lit.int .u8 x).wf = true) : BT l := by
  intro x hx
  have := h x hx
  simp [Lit.wf, IntKind.min, IntKind.max, IntKind.signed, IntKind.bits] at this
  omega
end Go.Proofs.YtekalnhackjldaaDoor.PDecodeUnits
end
section
/- The printed functions of decode are the plain ones: digits, Escape, one, Units. -/
namespace Go.Proofs.YtekalnhackjldaaDoor.Pure
open Go.RowKit Go.Proofs.YtekalnhackjldaaDoor.PDecodeUnits Go.Proofs.YtekalnhackjldaaDoorW.PrintWords Go.Proofs.YtekalnhackjldaaDoorW.PrintLast
open Go.Proofs.YtekalnhackjldaaDoor.M Go.Proofs.YtekalnhackjldaaDoor.X Go.Proofs.YtekalnhackjldaaDoor.H
set_option linter.unusedVariables false
set_option linter.unusedSimpArgs false

theorem rd_byte {b : List Int} (hB : BT b) {i : Nat} (hi : i < b.length) : 0 ≤ rd b (i : Int) ∧ rd b (i : Int) < 256 := by
  unfold rd
  rw [Int.toNat_natCast, List.getD_eq_getElem?_getD, List.getElem?_eq_getElem hi]
  exact hB _ (List.getElem_mem hi)
def digR (o : Option Int) : Int × Bool := match o with
  | none => (0, false)
  | some v => (v, true)
theorem valid_eq (v : Int) : decode_valid.f v = some (okV v) := by
  unfold decode_valid.f
  by_cases h1 : v > 0
  · rw [if_pos h1]
    by_cases h2 : v ≤ 1114111
    · rw [if_pos h2]
      by_cases h3 : v ≥ 55296
      · rw [if_pos h3]
        by_cases h4 : v < 57344
        · rw [decide_eq_true h4]; congr 1; symm; rw [Bool.not_true, Bool.eq_false_iff, Ne, okV_iff]; omega
        · rw [decide_eq_false h4]; congr 1; symm; rw [Bool.not_false, okV_iff]; omega
      · rw [if_neg h3]; congr 1; symm; rw [Bool.not_false, okV_iff]; omega
    · rw [if_neg h2]; congr 1; symm; rw [Bool.eq_false_iff, Ne, okV_iff]; omega
  · rw [if_neg h1]; congr 1; symm; rw [Bool.eq_false_iff, Ne, okV_iff]; omega
theorem digits_from (l : List Int) (hB : BT l) (hl : l.length ≤ 8) : ∀ (d i : Nat) (acc : Int), l.length - i = d → i ≤ l.length → 0 ≤ acc → acc.toNat < 16 ^ i → Ev (fun f => decode_digits.l0 f acc l (l.length : Int) (i : Int)) (digR (hexM acc (l.drop i))) := by
  intro d
  induction d with
  | zero =>
    intro i acc hd hi h0 h1
    refine Ev.step (f := fun _ => some (acc, true)) (fun f => ?_) (by rw [List.drop_eq_nil_of_le (by omega)]; exact Ev.now _)
    simp only [decode_digits.l0]
    rw [if_neg (by omega)]
  | succ d ih =>
    intro i acc hd hi h0 h1
    have hlt : i < l.length := by omega
    have hp : 16 ^ i ≤ 16 ^ 8 := Nat.pow_le_pow_right (by omega) (by omega)
    have hacc : acc < 1152921504606846976 := by have : 16 ^ 8 = 4294967296 := by decide
                                                omega
    have hc := rd_byte hB hlt
    have hdrop : l.drop i = rd l (i : Int) :: l.drop (i + 1) := by
      rw [List.drop_eq_getElem_cons hlt]
      unfold rd
      rw [Int.toNat_natCast, List.getD_eq_getElem?_getD, List.getElem?_eq_getElem hlt]
      rfl
    rw [hdrop]
    have ew : wrap64 ((i : Int) + 1) = ((i + 1 : Nat) : Int) := by rw [w64 (by omega) (by omega)]; omega
    have next : ∀ v : Int, 0 ≤ v → v < 16 → Ev (fun f => decode_digits.l0 f (Go.bits .or .u64 (IntKind.u64.wrap (acc * 16)) v) l (l.length : Int) (wrap64 ((i : Int) + 1))) (digR (hexM (acc * 16 + v) (l.drop (i + 1)))) := by
      intro v v0 v1
      rw [or4 acc v h0 hacc v0 v1, ew]
      refine ih (i + 1) _ (by omega) (by omega) (by omega) ?_
      rw [Nat.pow_succ]
      omega
    obtain ⟨c, hcc⟩ : ∃ c, rd l (i : Int) = c := ⟨_, rfl⟩
    rw [hcc] at hc ⊢
    have e0 : ∀ f, decode_digits.l0 (f + 1) acc l (l.length : Int) (i : Int) = decode_digits.j1 f acc c l (l.length : Int) (i : Int) (decide (48 ≤ c ∧ c ≤ 57)) := by
      intro f
      simp only [decode_digits.l0]
      rw [if_pos (by omega), if_pos (by omega), if_pos (by omega), hcc]
      by_cases h : c ≥ 48
      · rw [if_pos h]; congr 1; rw [decide_eq_decide]; omega
      · rw [if_neg h]; congr 1; symm; rw [decide_eq_false_iff_not]; omega
    refine Ev.step e0 ?_
    by_cases ha : 48 ≤ c ∧ c ≤ 57
    · have hx : hexD c = some (c - 48) := by unfold hexD; rw [if_pos ha]
      rw [decide_eq_true ha, show hexM acc (c :: l.drop (i + 1)) = hexM (acc * 16 + (c - 48)) (l.drop (i + 1)) by simp only [hexM, hx, Option.bind_some]]
      refine Ev.step (fun f => ?_) (next (c - 48) (by omega) (by omega))
      simp only [decode_digits.j1, if_true]
      rw [show (c - 48) % 256 = c - 48 by omega]
    · rw [decide_eq_false ha]
      have e1 : ∀ f, decode_digits.j1 (f + 1) acc c l (l.length : Int) (i : Int) false = decode_digits.j2 f acc c l (l.length : Int) (i : Int) (decide (97 ≤ c ∧ c ≤ 102)) := by
        intro f
        simp only [decode_digits.j1]
        rw [if_neg (by simp)]
        by_cases h : c ≥ 97
        · rw [if_pos h]; congr 1; rw [decide_eq_decide]; omega
        · rw [if_neg h]; congr 1; symm; rw [decide_eq_false_iff_not]; omega
      refine Ev.step e1 ?_
      by_cases hb : 97 ≤ c ∧ c ≤ 102
      · have hx : hexD c = some (c - 87) := by unfold hexD; rw [if_neg ha, if_pos hb]
        rw [decide_eq_true hb, show hexM acc (c :: l.drop (i + 1)) = hexM (acc * 16 + (c - 87)) (l.drop (i + 1)) by simp only [hexM, hx, Option.bind_some]]
        refine Ev.step (fun f => ?_) (next (c - 87) (by omega) (by omega))
        simp only [decode_digits.j2, if_true]
        rw [show ((c - 97) % 256 + 10) % 256 = c - 87 by omega]
      · rw [decide_eq_false hb]
        by_cases hd' : 65 ≤ c ∧ c ≤ 70
        · have hx : hexD c = some (c - 55) := by unfold hexD; rw [if_neg ha, if_neg hb, if_pos hd']
          rw [show hexM acc (c :: l.drop (i + 1)) = hexM (acc * 16 + (c - 55)) (l.drop (i + 1)) by simp only [hexM, hx, Option.bind_some]]
          refine Ev.step (fun f => ?_) (next (c - 55) (by omega) (by omega))
          simp only [decode_digits.j2]
          rw [if_neg (by simp), if_pos (by omega), if_pos (by omega), show ((c - 65) % 256 + 10) % 256 = c - 55 by omega]
        · have hx : hexD c = none := by unfold hexD; rw [if_neg ha, if_neg hb, if_neg hd']
          rw [show hexM acc (c :: l.drop (i + 1)) = none by simp only [hexM, hx, Option.bind_none]]
          refine Ev.step (f := fun _ => some (0, false)) (fun f => ?_) (Ev.now _)
          simp only [decode_digits.j2]
          rw [if_neg (by simp)]
          by_cases h : c ≥ 65
          · rw [if_pos h, if_neg (by omega)]
          · rw [if_neg h]
theorem digits_eq (l : List Int) (hB : BT l) (w : Nat) (hw : w ≤ 8) : Ev (fun f => decode_digits.f f l (w : Int)) (if l.length < w then (0, false) else digR (hexM 0 (l.take w))) := by
  by_cases h : l.length < w
  · rw [if_pos h]
    refine Ev.congr (f := fun _ => some (0, false)) (fun f => ?_) (Ev.now _)
    unfold decode_digits.f
    rw [if_pos (by omega)]
  · rw [if_neg h]
    have hl : (l.take w).length = w := by rw [List.length_take]; omega
    have := digits_from (l.take w) (hB.take w) (by omega) _ 0 0 rfl (by omega) (by omega) (by decide)
    rw [List.drop_zero] at this
    refine Ev.congr (fun f => ?_) this
    unfold decode_digits.f
    rw [if_neg (by omega), if_pos (by omega), if_pos (by omega), Int.toNat_natCast]
    rfl
theorem esc_digits (b : List Int) (hB : BT b) (h2 : 2 ≤ b.length) (w : Nat) (hw : w ≤ 8) (v : Int) (hv : v = (w : Int)) : Ev (fun f => decode_Escape.j2 f b v) (escH w b) := by
  subst hv
  have hd := digits_eq (b.drop 2) (hB.drop 2) w hw
  rw [List.length_drop] at hd
  refine Ev.step (f := fun f => (decode_digits.f f (b.drop 2) (w : Int)).bind fun bt111 => (if bt111.2 = true then ((decode_valid.f bt111.1).bind fun t113 => (if t113 = true then (some (wrap32 (bt111.1), wrap64 (2 + (w : Int)), true)) else (some (0, 0, false)))) else (some (0, 0, false)))) (fun f => ?_) (Ev.bind hd ?_)
  · simp only [decode_Escape.j2]
    rw [if_pos (by omega)]
  · by_cases h : b.length - 2 < w
    · rw [if_pos h, show escH w b = entNo by unfold escH; rw [if_pos (by omega)]]
      exact Ev.now _
    · rw [if_neg h]
      unfold escH
      rw [if_neg (show ¬ b.length < 2 + w by omega)]
      cases hx : hexM 0 ((b.drop 2).take w) with
      | none => exact Ev.now _
      | some x =>
        show Ev (fun f => (decode_valid.f x).bind fun t113 => (if t113 = true then (some (wrap32 x, wrap64 (2 + (w : Int)), true)) else (some (0, 0, false)))) (if okV x = true then (x, 2 + (w : Int), true) else entNo)
        simp only [valid_eq, Option.bind_some]
        by_cases hk : okV x = true
        · rw [if_pos hk]
          have := (okV_iff x).1 hk
          simp only [if_pos hk]
          rw [w32 (by omega) (by omega), w64 (by omega) (by omega)]
          exact Ev.now _
        · rw [if_neg hk]
          simp only [if_neg hk]
          exact Ev.now _
theorem escape_eq (f0 : Int) (b : List Int) (hB : BT b) : Ev (fun f => decode_Escape.f f f0 b) (escM f0 b) := by
  have hno : Ev (fun f => decode_Escape.j0 f f0 b true) entNo := by
    refine Ev.step (f := fun _ => some (0, 0, false)) (fun f => ?_) (Ev.now _)
    simp only [decode_Escape.j0, if_true]
  by_cases h2 : b.length < 2
  · rw [show escM f0 b = entNo by unfold escM; rw [if_pos (.inl h2)]]
    refine Ev.congr (fun f => ?_) hno
    unfold decode_Escape.f
    rw [if_pos (by omega)]
  by_cases h92 : rd b 0 = 92
  rotate_left
  · rw [show escM f0 b = entNo by unfold escM; rw [if_pos (.inr (.inl h92))]]
    refine Ev.congr (fun f => ?_) hno
    unfold decode_Escape.f
    rw [if_neg (by omega), if_pos (by omega), if_neg h92]
  by_cases h128 : 128 ≤ rd b 1
  · rw [show escM f0 b = entNo by unfold escM; rw [if_pos (.inr (.inr h128))]]
    refine Ev.congr (fun f => ?_) hno
    unfold decode_Escape.f
    rw [if_neg (by omega), if_pos (by omega), if_pos h92, if_pos (by omega), decide_eq_true (show rd b 1 ≥ 128 from h128)]
  have hc : 0 ≤ rd b 1 ∧ rd b 1 < 256 := rd_byte hB (i := 1) (by omega)
  have hw : wrap32 (rd b 1) = rd b 1 := w32 (by omega) (by omega)
  refine Ev.congr (f := fun f => decode_Escape.j0 f f0 b false) (fun f => ?_) ?_
  · unfold decode_Escape.f
    rw [if_neg (by omega), if_pos (by omega), if_pos h92, if_pos (by omega), decide_eq_false (show ¬ rd b 1 ≥ 128 by omega)]
  unfold escM
  rw [if_neg (by rintro (h | h | h); exact h2 h; exact h h92; exact h128 h)]
  have g8 := esc_digits b hB (by omega) 8 (by omega)
  have g4 := esc_digits b hB (by omega) 4 (by omega)
  have g2 := esc_digits b hB (by omega) 2 (by omega)
  obtain ⟨c, hcc⟩ : ∃ c, rd b 1 = c := ⟨_, rfl⟩
  rw [hcc] at hc hw
  simp only [hcc]
  have j1f : ∀ y : Bool, Ev (fun f => decode_Escape.j1 f f0 b 0 c y) (if y = true then entNo else if f0 = 7 then (c, 2, true) else if c = 110 then (10, 2, true) else if c = 114 then (13, 2, true) else if c = 116 then (9, 2, true)
      else if c = 85 then escH 8 b else if c = 117 then escH 4 b else if c = 120 then escH 2 b else (c, 2, true)) := by
    intro y
    by_cases hy : y = true
    · subst hy
      rw [if_pos rfl]
      refine Ev.step (f := fun _ => some (0, 0, false)) (fun f => ?_) (Ev.now _)
      simp only [decode_Escape.j1, if_true]
    rw [if_neg hy]
    by_cases h7 : f0 = 7
    · rw [if_pos h7]
      refine Ev.step (f := fun _ => some (c, 2, true)) (fun f => ?_) (Ev.now _)
      simp only [decode_Escape.j1]
      rw [if_neg hy, if_pos h7, hw]
    rw [if_neg h7]
    have head : ∀ f, decode_Escape.j1 (f + 1) f0 b 0 c y = (if c = 110 then (some (10, 2, true)) else (if c = 114 then (some (13, 2, true)) else (if c = 116 then (some (9, 2, true)) else (if c = 85 then (decode_Escape.j2 f b (wrap64 ((wrap64 ((wrap64 ((0 : Int) + 4)) + 2)) + 2))) else (if c = 117 then (decode_Escape.j2 f b (wrap64 ((wrap64 ((0 : Int) + 2)) + 2))) else (if c = 120 then (decode_Escape.j2 f b (wrap64 ((0 : Int) + 2))) else (some (c, 2, true)))))))) := by
      intro f
      simp only [decode_Escape.j1]
      rw [if_neg hy, if_neg h7, if_pos (by omega), hcc, hw]
    refine Ev.step head ?_
    by_cases c1 : c = 110
    · simp only [if_pos c1]; exact Ev.now _
    simp only [if_neg c1]
    by_cases c2 : c = 114
    · simp only [if_pos c2]; exact Ev.now _
    simp only [if_neg c2]
    by_cases c3 : c = 116
    · simp only [if_pos c3]; exact Ev.now _
    simp only [if_neg c3]
    by_cases c4 : c = 85
    · simp only [if_pos c4]; exact g8 _ (by unfold wrap64; omega)
    simp only [if_neg c4]
    by_cases c5 : c = 117
    · simp only [if_pos c5]; exact g4 _ (by unfold wrap64; omega)
    simp only [if_neg c5]
    by_cases c6 : c = 120
    · simp only [if_pos c6]; exact g2 _ (by unfold wrap64; omega)
    simp only [if_neg c6]; exact Ev.now _
  have j0f : ∀ f, decode_Escape.j0 (f + 1) f0 b false = decode_Escape.j1 f f0 b 0 c (decide (f0 = 7) && !(decide (c = 34 ∨ c = 92 ∨ c = 36 ∨ c = 96))) := by
    intro f
    simp only [decode_Escape.j0]
    rw [if_neg (by simp), if_pos (by omega), hcc]
    by_cases h7 : f0 = 7
    · rw [if_pos h7, decide_eq_true h7, Bool.true_and]
      by_cases c1 : c = 34
      · rw [if_pos c1, decide_eq_true (.inl c1)]; rfl
      rw [if_neg c1]
      by_cases c2 : c = 92
      · rw [if_pos c2, decide_eq_true (.inr (.inl c2))]; rfl
      rw [if_neg c2]
      by_cases c3 : c = 36
      · rw [if_pos c3, decide_eq_true (.inr (.inr (.inl c3)))]; rfl
      rw [if_neg c3]
      by_cases c4 : c = 96
      · rw [decide_eq_true (.inr (.inr (.inr c4))), c4]; rfl
      · rw [decide_eq_false (by omega), bne_iff_ne.2 c4]; rfl
    · rw [if_neg h7, decide_eq_false h7]; rfl
  refine Ev.step j0f ?_
  have := j1f (decide (f0 = 7) && !(decide (c = 34 ∨ c = 92 ∨ c = 36 ∨ c = 96)))
  by_cases h7 : f0 = 7
  · by_cases hq : c = 34 ∨ c = 92 ∨ c = 36 ∨ c = 96
    · rw [decide_eq_true hq, decide_eq_true h7] at this ⊢
      rw [if_pos h7, if_pos hq]
      rw [if_neg (by decide), if_pos h7] at this
      exact this
    · rw [decide_eq_false hq, decide_eq_true h7] at this ⊢
      rw [if_pos h7, if_neg hq]
      rw [if_pos (by decide)] at this
      exact this
  · rw [decide_eq_false h7] at this ⊢
    rw [if_neg h7]
    rw [if_neg (by simp), if_neg h7] at this
    exact this
theorem punct_eq (c : Int) : decode_punct.f c = some (punM c) := by
  unfold decode_punct.f punM
  by_cases h1 : c > 32
  · by_cases h2 : c < 127
    · by_cases h3 : c ≥ 48
      · by_cases h4 : c ≤ 57
        · simp [h1, h2, h3, h4, show (32 : Int) < c from h1, show (48 : Int) ≤ c from h3]
        · by_cases h5 : c ≥ 97
          · by_cases h6 : c ≤ 122
            · simp [h1, h2, h3, h4, h5, h6]
            · simp [h1, h2, h3, h4, h5, h6, show c ≥ 65 by omega, show ¬ c ≤ 90 by omega]
          · by_cases h7 : c ≥ 65
            · by_cases h8 : c ≤ 90 <;> simp [h1, h2, h3, h4, h5, h7, h8]
            · simp [h1, h2, h3, h4, h5, h7]
      · simp [h1, h2, h3, show ¬ c ≥ 97 by omega, show ¬ c ≥ 65 by omega]
    · simp [h1, h2]
  · simp [h1]
theorem next_ev {b : List Int} (hB : BT b) : Ev (fun f => utf_Next.f f b) (nx b) := ⟨6, fun k hk => next_eq hk hB⟩
theorem one_eq (f0 lab : Int) (b : List Int) (hB : BT b) (hb : b ≠ []) : Ev (fun f => decode_one.f f f0 lab b) (oneM f0 lab b) := by
  have hl : 0 < b.length := List.length_pos_iff.2 hb
  have hnx : Ev (fun f => (utf_Next.f f b).bind fun bt => some (bt.1, bt.2)) (nx b) := Ev.bind (next_ev hB) (Ev.now _)
  -- the last cases
  have j3 : ∀ y : Bool, Ev (fun f => decode_one.j3 f f0 b y) (if y = true then (if (escM f0 b).2.2 = true then ((escM f0 b).1, (escM f0 b).2.1) else nx b) else nx b) := by
    intro y
    cases y
    · rw [if_neg (by simp)]
      refine Ev.step (fun f => ?_) hnx
      simp only [decode_one.j3]
      rw [if_neg (by simp)]
    · rw [if_pos rfl]
      refine Ev.step (f := fun f => (decode_Escape.f f f0 b).bind fun bt138 => (if bt138.2.2 = true then (some (bt138.1, bt138.2.1)) else ((utf_Next.f f b).bind fun bt141 => (some (bt141.1, bt141.2))))) (fun f => ?_) (Ev.bind (escape_eq f0 b hB) ?_)
      · simp only [decode_one.j3, if_true]
      · by_cases h : (escM f0 b).2.2 = true
        · simp only [if_pos h]; exact Ev.now _
        · simp only [if_neg h]; exact hnx
  have j2 : ∀ y : Bool, Ev (fun f => decode_one.j2 f f0 lab b y) (if y = true then (39, 2) else if lab = 5 ∧ rd b 0 = 92 ∧ 4 ≤ f0 ∧ f0 ≤ 7 then (if (escM f0 b).2.2 = true then ((escM f0 b).1, (escM f0 b).2.1) else nx b) else nx b) := by
    intro y
    cases y
    · rw [if_neg (by simp)]
      have e : ∀ f, decode_one.j2 (f + 1) f0 lab b false = decode_one.j3 f f0 b (decide (lab = 5 ∧ rd b 0 = 92 ∧ 4 ≤ f0 ∧ f0 ≤ 7)) := by
        intro f
        simp only [decode_one.j2]
        rw [if_neg (by simp)]
        by_cases h5 : lab = 5
        · rw [if_pos h5, if_pos (by omega)]
          by_cases h9 : rd b 0 = 92
          · rw [if_pos h9]
            by_cases h4 : f0 ≥ 4
            · rw [if_pos h4]; congr 1; rw [decide_eq_decide]; exact ⟨fun h => ⟨h5, h9, h4, h⟩, fun h => h.2.2.2⟩
            · rw [if_neg h4]; congr 1; symm; rw [decide_eq_false_iff_not]; exact fun h => h4 h.2.2.1
          · rw [if_neg h9]; congr 1; symm; rw [decide_eq_false_iff_not]; exact fun h => h9 h.2.1
        · rw [if_neg h5]; congr 1; symm; rw [decide_eq_false_iff_not]; exact fun h => h5 h.1
      refine Ev.step e ?_
      have := j3 (decide (lab = 5 ∧ rd b 0 = 92 ∧ 4 ≤ f0 ∧ f0 ≤ 7))
      by_cases hq : lab = 5 ∧ rd b 0 = 92 ∧ 4 ≤ f0 ∧ f0 ≤ 7
      · rw [decide_eq_true hq] at this ⊢
        rw [if_pos rfl] at this
        rw [if_pos hq]
        exact this
      · rw [decide_eq_false hq] at this ⊢
        rw [if_neg (by simp)] at this
        rw [if_neg hq]
        exact this
    · rw [if_pos rfl]
      refine Ev.step (f := fun _ => some (39, 2)) (fun f => ?_) (Ev.now _)
      simp only [decode_one.j2, if_true]
  have tail3 : Ev (fun f => decode_one.j1 f f0 lab b false) (if lab = 5 ∧ f0 = 8 ∧ 1 < b.length ∧ rd b 0 = 39 ∧ rd b 1 = 39 then (39, 2) else if lab = 5 ∧ rd b 0 = 92 ∧ 4 ≤ f0 ∧ f0 ≤ 7 then (if (escM f0 b).2.2 = true then ((escM f0 b).1, (escM f0 b).2.1) else nx b) else nx b) := by
    have e : ∀ f, decode_one.j1 (f + 1) f0 lab b false = decode_one.j2 f f0 lab b (decide (lab = 5 ∧ f0 = 8 ∧ 1 < b.length ∧ rd b 0 = 39 ∧ rd b 1 = 39)) := by
      intro f
      simp only [decode_one.j1]
      rw [if_neg (by simp)]
      by_cases h5 : lab = 5
      · rw [if_pos h5]
        by_cases h8 : f0 = 8
        · rw [if_pos h8]
          by_cases h1 : (b.length : Int) > 1
          · rw [if_pos h1, if_pos (by omega)]
            by_cases h9 : rd b 0 = 39
            · rw [if_pos h9, if_pos (by omega)]
              congr 1
              rw [Bool.eq_iff_iff, beq_iff_eq, decide_eq_true_eq]
              exact ⟨fun h => ⟨h5, h8, by omega, h9, h⟩, fun h => h.2.2.2.2⟩
            · rw [if_neg h9]; congr 1; symm; rw [decide_eq_false_iff_not]; exact fun h => h9 h.2.2.2.1
          · rw [if_neg h1]; congr 1; symm; rw [decide_eq_false_iff_not]; exact fun h => h1 (by omega)
        · rw [if_neg h8]; congr 1; symm; rw [decide_eq_false_iff_not]; exact fun h => h8 h.2.1
      · rw [if_neg h5]; congr 1; symm; rw [decide_eq_false_iff_not]; exact fun h => h5 h.1
    refine Ev.step e ?_
    have := j2 (decide (lab = 5 ∧ f0 = 8 ∧ 1 < b.length ∧ rd b 0 = 39 ∧ rd b 1 = 39))
    by_cases hq : lab = 5 ∧ f0 = 8 ∧ 1 < b.length ∧ rd b 0 = 39 ∧ rd b 1 = 39
    · rw [decide_eq_true hq] at this ⊢
      rw [if_pos rfl] at this
      rw [if_pos hq]
      exact this
    · rw [decide_eq_false hq] at this ⊢
      rw [if_neg (by simp)] at this
      rw [if_neg hq]
      exact this
  have j1t : 1 < b.length → Ev (fun f => decode_one.j1 f f0 lab b true) (rd b 1, 2) := by
    intro h1
    have hc : 0 ≤ rd b 1 ∧ rd b 1 < 256 := rd_byte hB (i := 1) (by omega)
    refine Ev.step (f := fun _ => some (rd b 1, 2)) (fun f => ?_) (Ev.now _)
    simp only [decode_one.j1, if_true]
    rw [if_pos (by omega), w32 (by omega) (by omega)]
  have j0 : ∀ y z : Bool, z = decide (lab = 1 ∧ (f0 = 1 ∨ f0 = 2) ∧ rd b 0 = 38) → y = (lab == 1) → Ev (fun f => decode_one.j0 f f0 lab b y z) (oneM f0 lab b) := by
    intro y z hz hy
    by_cases hq : lab = 1 ∧ (f0 = 1 ∨ f0 = 2) ∧ rd b 0 = 38
    · rw [decide_eq_true hq] at hz
      subst hz
      have e : ∀ f, decode_one.j0 (f + 1) f0 lab b y true = (decode_Entity.f b).bind fun bt126 => (if bt126.2.2 = true then (some (bt126.1, bt126.2.1)) else ((utf_Next.f f b).bind fun bt129 => (some (bt129.1, bt129.2)))) := by
        intro f
        simp only [decode_one.j0, if_true]
      refine Ev.step e ?_
      unfold oneM
      rw [if_pos hq]
      have e2 : decode_Entity.f b = some (entF b) := rfl
      simp only [e2, Option.bind_some]
      by_cases h : (entF b).2.2 = true
      · simp only [if_pos h]; exact Ev.now _
      · simp only [if_neg h]; exact hnx
    · rw [decide_eq_false hq] at hz
      subst hz
      unfold oneM
      rw [if_neg hq]
      by_cases hp : lab = 1 ∧ f0 = 2 ∧ rd b 0 = 92 ∧ 1 < b.length
      · have e : ∀ f, decode_one.j0 (f + 1) f0 lab b y false = decode_one.j1 f f0 lab b (punM (rd b 1)) := by
          intro f
          simp only [decode_one.j0]
          rw [if_neg (by simp), if_pos (by rw [hy, beq_iff_eq]; exact hp.1), if_pos hp.2.1, if_pos (by omega), if_pos hp.2.2.1, if_pos (by omega), if_pos (by omega), punct_eq]
          rfl
        refine Ev.step e ?_
        by_cases hpm : punM (rd b 1) = true
        · rw [if_pos ⟨hp.1, hp.2.1, hp.2.2.1, hp.2.2.2, hpm⟩, hpm]
          exact j1t hp.2.2.2
        · rw [if_neg (fun h => hpm h.2.2.2.2)]
          rw [Bool.not_eq_true] at hpm
          rw [hpm]
          exact tail3
      · rw [if_neg (fun h => hp ⟨h.1, h.2.1, h.2.2.1, h.2.2.2.1⟩)]
        have e : ∀ f, decode_one.j0 (f + 1) f0 lab b y false = decode_one.j1 f f0 lab b false := by
          intro f
          simp only [decode_one.j0]
          rw [if_neg (by simp)]
          by_cases h1 : lab = 1
          · rw [if_pos (by rw [hy, beq_iff_eq]; exact h1)]
            by_cases h2 : f0 = 2
            · rw [if_pos h2, if_pos (by omega)]
              by_cases h9 : rd b 0 = 92
              · rw [if_pos h9, if_neg (fun h => hp ⟨h1, h2, h9, by omega⟩)]
              · rw [if_neg h9]
            · rw [if_neg h2]
          · rw [if_neg (by rw [hy, beq_iff_eq]; exact h1)]
        exact Ev.step e tail3
  have e : ∀ f, decode_one.f f f0 lab b = decode_one.j0 f f0 lab b (lab == 1) (decide (lab = 1 ∧ (f0 = 1 ∨ f0 = 2) ∧ rd b 0 = 38)) := by
    intro f
    unfold decode_one.f
    have hbe : (rd b 0 == 38) = decide (rd b 0 = 38) := by rw [Bool.eq_iff_iff, beq_iff_eq, decide_eq_true_eq]
    by_cases h1 : lab = 1
    · rw [if_pos h1]
      by_cases h2 : f0 = 1
      · rw [if_pos h2, if_pos (by omega), hbe]; congr 1; rw [decide_eq_decide]; exact ⟨fun h => ⟨h1, .inl h2, h⟩, fun h => h.2.2⟩
      · rw [if_neg h2]
        by_cases h3 : f0 = 2
        · rw [if_pos h3, if_pos (by omega), hbe]; congr 1; rw [decide_eq_decide]; exact ⟨fun h => ⟨h1, .inr h3, h⟩, fun h => h.2.2⟩
        · rw [if_neg h3]; congr 1; symm; rw [decide_eq_false_iff_not]; exact fun h => h.2.1.elim h2 h3
    · rw [if_neg h1]; congr 1; symm; rw [decide_eq_false_iff_not]; exact fun h => h1 h.1
  exact Ev.congr e (j0 _ _ rfl rfl)
/-- The signs of a part. -/
theorem units_loop (f0 lab at0 n0 : Int) (x : List Int) (hB : BT x) (hx : x.length < 1000000) (e : Nat) (he : e ≤ x.length) : ∀ (d p : Nat) (acc : List S45), e - p = d → p ≤ e → acc.length ≤ p →
    Ev (fun f => decode_Units.l0 f f0 x (p : Int) acc (e : Int) lab at0 n0) (acc ++ mkU (p : Int) (uM f0 lab d ((x.take e).drop p)), 0) := by
  intro d
  induction d using Nat.strongRecOn with
  | _ d ih =>
    intro p acc hd hp hac
    by_cases hlt : p < e
    · obtain ⟨b, hb⟩ : ∃ b, (x.take e).drop p = b := ⟨_, rfl⟩
      have hbl : b.length = e - p := by rw [← hb, List.length_drop, List.length_take]; omega
      have hbn : b ≠ [] := by intro h; rw [h] at hbl; simp at hbl; omega
      have hbB : BT b := by rw [← hb]; exact (hB.take _).drop _
      have hw := oneM_width f0 lab b hbn
      obtain ⟨w, hwv⟩ : ∃ w : Nat, (oneM f0 lab b).2 = (w : Int) := ⟨(oneM f0 lab b).2.toNat, by omega⟩
      rw [hwv, hbl] at hw
      refine Ev.step (f := fun f => (decode_one.f f f0 lab b).bind fun bt150 => (if acc.length < 5864062014805 then (decode_Units.l0 f f0 x (wrap64 ((p : Int) + bt150.2)) (acc ++ [(⟨bt150.1, (⟨(p : Int), bt150.2⟩ : S40)⟩ : S45)]) (e : Int) lab at0 n0) else none)) (fun f => ?_) (Ev.bind (one_eq f0 lab b hbB hbn) ?_)
      · simp only [decode_Units.l0]
        rw [if_pos (by omega), if_pos (by omega), if_pos (by omega), if_pos (by omega), Int.toNat_natCast, Int.toNat_natCast, hb]
      · have hi := ih (d - w) (by omega) (p + w) (acc ++ [(⟨(oneM f0 lab b).1, (⟨(p : Int), (w : Int)⟩ : S40)⟩ : S45)]) (by omega) (by omega) (by rw [List.length_append, List.length_singleton]; omega)
        rw [hwv, w64 (by omega) (by omega), show (p : Int) + (w : Int) = ((p + w : Nat) : Int) by omega]
        refine Ev.congr (fun f => if_pos (by omega)) ?_
        have hdd : (x.take e).drop (p + w) = b.drop w := by rw [← hb, List.drop_drop]
        rw [hdd, List.append_assoc] at hi
        have hu : uM f0 lab d b = oneM f0 lab b :: uM f0 lab (d - w) (b.drop w) := by
          obtain ⟨d', rfl⟩ : ∃ d', d = d' + 1 := ⟨d - 1, by omega⟩
          show (if b = [] then [] else oneM f0 lab b :: uM f0 lab d' (b.drop (oneM f0 lab b).2.toNat)) = _
          rw [if_neg hbn, hwv, Int.toNat_natCast, uM_stable f0 lab d' (d' + 1 - w) (b.drop w) (by rw [List.length_drop]; omega) (by rw [List.length_drop]; omega)]
        rw [hb, hu]
        have : oneM f0 lab b = ((oneM f0 lab b).1, (w : Int)) := by rw [← hwv]
        rw [this]
        simp only [mkU, List.singleton_append] at hi ⊢
        rw [show ((p : Int) + (w : Int)) = ((p + w : Nat) : Int) by omega]
        exact hi
    · have hpe : p = e := by omega
      refine Ev.step (f := fun _ => some (acc, 0)) (fun f => ?_) (by
        rw [show (x.take e).drop p = [] from List.drop_eq_nil_of_le (by rw [List.length_take]; omega), uM_nil]
        show Ev _ (acc ++ mkU (p : Int) [], 0)
        rw [show mkU (p : Int) [] = [] from rfl, List.append_nil]
        exact Ev.now _)
      simp only [decode_Units.l0]
      rw [if_neg (by omega)]
theorem units_ok (f0 lab : Int) (x : List Int) (hB : BT x) (hx : x.length < 1000000) (p n : Nat) (hp : p + n ≤ x.length) : Ev (fun f => decode_Units.f f f0 x lab (p : Int) (n : Int)) (mkU (p : Int) (uM f0 lab n ((x.take (p + n)).drop p)), 0) := by
  have h := units_loop f0 lab (p : Int) (n : Int) x hB hx (p + n) hp n p [] (by omega) (by omega) (by simp)
  rw [List.nil_append] at h
  refine Ev.congr (f := fun f => decode_Units.j0 f f0 x (p : Int) (n : Int) false lab (p : Int) (n : Int)) (fun f => ?_) (Ev.step (fun f => ?_) h)
  · unfold decode_Units.f
    rw [if_neg (by omega), if_neg (by omega), if_neg (by omega), w64 (by omega) (by omega), decide_eq_false (by omega)]
  · simp only [decode_Units.j0]
    rw [if_neg (by simp), w64 (by omega) (by omega), show (p : Int) + (n : Int) = ((p + n : Nat) : Int) by omega]
end Go.Proofs.YtekalnhackjldaaDoor.Pure
end
section
/- The document's Entity, Escape are the plain ones. -/
namespace Go.Proofs.YtekalnhackjldaaDoor.Pure
open Go.RowKit Go.Proofs.YtekalnhackjldaaDoor.PDecodeUnits Go.Proofs.YtekalnhackjldaaDoorW.PrintWords Go.Proofs.YtekalnhackjldaaDoorW.PrintLast
open Go.Proofs.YtekalnhackjldaaDoor.M Go.Proofs.YtekalnhackjldaaDoor.X Go.Proofs.YtekalnhackjldaaDoor.H
set_option linter.unusedVariables false
set_option linter.unusedSimpArgs false

theorem rvalid_eq (v : Int) : redpenref15_valid.f v = some (rvalid v) := by
  unfold redpenref15_valid.f rvalid
  by_cases h1 : v ≥ 1
  · rw [if_pos h1, decide_eq_true (show 1 ≤ v from h1)]
    by_cases h2 : v ≤ 1114111
    · rw [if_pos h2, decide_eq_true h2]
      by_cases h3 : v < 55296
      · rw [if_pos h3, decide_eq_true h3]; rfl
      · rw [if_neg h3, decide_eq_false h3]; rfl
    · rw [if_neg h2, decide_eq_false h2]; rfl
  · rw [if_neg h1, decide_eq_false (show ¬ 1 ≤ v from h1)]; rfl
theorem number_from (s : ByteArray) (hs : s.size < 1000000) (b : Int) (hb : b = 10 ∨ b = 16) : ∀ (d i : Nat) (n : Int), s.size - i = d → i ≤ s.size → 0 ≤ n → n ≤ 20000000 → Ev (fun f => redpenref15_number.l0 f s b n (i : Int)) ((sat b n ((bytesOf s).drop i)).getD (-1)) := by
  intro d
  have hlen : (bytesOf s).length = s.size := bytesOf_length s
  induction d with
  | zero =>
    intro i n hd hi h0 h1
    refine Ev.step (f := fun _ => some n) (fun f => ?_) (by rw [List.drop_eq_nil_of_le (by omega)]; exact Ev.now _)
    simp only [redpenref15_number.l0]
    rw [if_neg (by omega)]
  | succ d ih =>
    intro i n hd hi h0 h1
    have hlt : i < s.size := by omega
    have hdrop : (bytesOf s).drop i = bt s (i : Int) :: (bytesOf s).drop (i + 1) := by
      rw [List.drop_eq_getElem_cons (by omega), bt_bytesOf s i hlt]
      unfold rd
      rw [Int.toNat_natCast, List.getD_eq_getElem?_getD, List.getElem?_eq_getElem (by omega)]
      rfl
    have hc : 0 ≤ bt s (i : Int) ∧ bt s (i : Int) < 256 := by have := bt_range s (i : Int); omega
    rw [hdrop]
    obtain ⟨c, hcc⟩ : ∃ c, bt s (i : Int) = c := ⟨_, rfl⟩
    rw [hcc] at hc ⊢
    have ew : wrap64 ((i : Int) + 1) = ((i + 1 : Nat) : Int) := by rw [w64 (by omega) (by omega)]; omega
    -- the last steps: a digit's worth, or none
    have j4f : ∀ v : Int, Ev (fun f => redpenref15_number.j4 f s b n (i : Int) v true) (-1) := by
      intro v
      refine Ev.step (f := fun _ => some (-1)) (fun f => ?_) (Ev.now _)
      simp only [redpenref15_number.j4, if_true]
    have j3neg : ∀ v : Int, v < 0 ∨ b ≤ v → Ev (fun f => redpenref15_number.j3 f s b n (i : Int) v) (-1) := by
      intro v hv
      refine Ev.step (fun f => ?_) (j4f v)
      simp only [redpenref15_number.j3]
      by_cases h : v < 0
      · rw [if_pos h]
      · rw [if_neg h, decide_eq_true (show v ≥ b by omega)]
    have j3ok : ∀ v : Int, 0 ≤ v → v < b → Ev (fun f => redpenref15_number.j3 f s b n (i : Int) v) ((sat b (if n ≤ 1114111 then n * b + v else n) ((bytesOf s).drop (i + 1))).getD (-1)) := by
      intro v h2 h3
      have hst : ∀ f, redpenref15_number.j3 (f + 1) s b n (i : Int) v = redpenref15_number.j4 f s b n (i : Int) v false := by
        intro f
        simp only [redpenref15_number.j3]
        rw [if_neg (by omega), decide_eq_false (by omega)]
      refine Ev.step hst ?_
      by_cases hn : n ≤ 1114111
      · rw [if_pos hn]
        have hnb : 0 ≤ n * b + v ∧ n * b + v ≤ 20000000 := by rcases hb with rfl | rfl <;> omega
        have e1 : wrap64 (n * b) = n * b := by rcases hb with rfl | rfl <;> exact w64 (by omega) (by omega)
        refine Ev.step (fun f => ?_) (ih (i + 1) (n * b + v) (by omega) (by omega) hnb.1 hnb.2)
        simp only [redpenref15_number.j4]
        rw [if_neg (by simp), if_pos hn, e1, w64 (x := n * b + v) (by omega) (by omega), ew]
      · rw [if_neg hn]
        refine Ev.step (fun f => ?_) (ih (i + 1) n (by omega) (by omega) h0 h1)
        simp only [redpenref15_number.j4]
        rw [if_neg (by simp), if_neg hn, ew]
    -- which digit
    have e0 : ∀ f, redpenref15_number.l0 (f + 1) s b n (i : Int) = redpenref15_number.j1 f s b n (i : Int) (-1) (decide (48 ≤ c ∧ c ≤ 57)) := by
      intro f
      simp only [redpenref15_number.l0]
      rw [if_pos (by omega), if_pos (by omega), hcc]
      by_cases h : c ≥ 48
      · rw [if_pos h]; congr 1; rw [decide_eq_decide]; omega
      · rw [if_neg h]; congr 1; symm; rw [decide_eq_false_iff_not]; omega
    refine Ev.step e0 ?_
    unfold sat
    by_cases ha : 48 ≤ c ∧ c ≤ 57
    · have hx : refdig b c = some (c - 48) := by unfold refdig; rw [if_pos ha, if_pos (by omega)]
      rw [decide_eq_true ha, hx]
      simp only [Option.bind_some]
      refine Ev.step (fun f => ?_) (j3ok (c - 48) (by omega) (by omega))
      simp only [redpenref15_number.j1, if_true]
      rw [if_pos (by omega), if_pos (by omega), hcc, show (c - 48) % 256 = c - 48 by omega]
    · rw [decide_eq_false ha]
      have e1 : ∀ f, redpenref15_number.j1 (f + 1) s b n (i : Int) (-1) false = redpenref15_number.j2 f s b n (i : Int) (-1) (decide (97 ≤ c ∧ c ≤ 102)) := by
        intro f
        simp only [redpenref15_number.j1]
        rw [if_neg (by simp), if_pos (by omega), if_pos (by omega), hcc]
        by_cases h : c ≥ 97
        · rw [if_pos h]; congr 1; rw [decide_eq_decide]; omega
        · rw [if_neg h]; congr 1; symm; rw [decide_eq_false_iff_not]; omega
      refine Ev.step e1 ?_
      by_cases hbq : 97 ≤ c ∧ c ≤ 102
      · rw [decide_eq_true hbq]
        have e2 : ∀ f, redpenref15_number.j2 (f + 1) s b n (i : Int) (-1) true = redpenref15_number.j3 f s b n (i : Int) (c - 87) := by
          intro f
          simp only [redpenref15_number.j2, if_true]
          rw [if_pos (by omega), if_pos (by omega), hcc, show (c - 97) % 256 + 10 = c - 87 by omega]
        refine Ev.step e2 ?_
        by_cases hlt2 : c - 87 < b
        · have hx : refdig b c = some (c - 87) := by unfold refdig; rw [if_neg ha, if_pos hbq, if_pos hlt2]
          rw [hx]
          exact j3ok (c - 87) (by omega) hlt2
        · have hx : refdig b c = none := by unfold refdig; rw [if_neg ha, if_pos hbq, if_neg hlt2]
          rw [hx]
          exact j3neg _ (.inr (by omega))
      · rw [decide_eq_false hbq]
        by_cases hd' : 65 ≤ c ∧ c ≤ 70
        · have e2 : ∀ f, redpenref15_number.j2 (f + 1) s b n (i : Int) (-1) false = redpenref15_number.j3 f s b n (i : Int) (c - 55) := by
            intro f
            simp only [redpenref15_number.j2]
            rw [if_neg (by simp), if_pos (by omega), if_pos (by omega), hcc, if_pos (by omega), if_pos (by omega), show (c - 65) % 256 + 10 = c - 55 by omega]
          refine Ev.step e2 ?_
          by_cases hlt2 : c - 55 < b
          · have hx : refdig b c = some (c - 55) := by unfold refdig; rw [if_neg ha, if_neg hbq, if_pos hd', if_pos hlt2]
            rw [hx]
            exact j3ok (c - 55) (by omega) hlt2
          · have hx : refdig b c = none := by unfold refdig; rw [if_neg ha, if_neg hbq, if_pos hd', if_neg hlt2]
            rw [hx]
            exact j3neg _ (.inr (by omega))
        · have hx : refdig b c = none := by unfold refdig; rw [if_neg ha, if_neg hbq, if_neg hd']
          rw [hx]
          refine Ev.step (fun f => ?_) (j3neg (-1) (.inl (by omega)))
          simp only [redpenref15_number.j2]
          rw [if_neg (by simp), if_pos (by omega), if_pos (by omega), hcc]
          by_cases h : c ≥ 65
          · rw [if_pos h, if_neg (by omega)]
          · rw [if_neg h]
theorem number_eq (s : ByteArray) (hs : s.size < 1000000) (b : Int) (hb : b = 10 ∨ b = 16) : Ev (fun f => redpenref15_number.f f s b) (rnum b (bytesOf s)) := by
  have hlen : (bytesOf s).length = s.size := bytesOf_length s
  unfold rnum
  by_cases h : s.size = 0
  · rw [if_pos (List.length_eq_zero_iff.1 (by omega))]
    refine Ev.congr (f := fun _ => some (-1)) (fun f => ?_) (Ev.now _)
    unfold redpenref15_number.f
    rw [if_pos (by omega)]
  · have hbn : ¬ bytesOf s = [] := by
      intro h
      rw [h, List.length_nil] at hlen
      omega
    rw [if_neg hbn]
    have := number_from s hs b hb _ 0 0 rfl (by omega) (by omega) (by omega)
    rw [List.drop_zero] at this
    refine Ev.congr (fun f => ?_) this
    unfold redpenref15_number.f
    rw [if_neg (by omega)]
    rfl
/-- A number, asked whether it is a sign. -/
theorem number_sign (s : ByteArray) (hs : s.size < 1000000) (b : Int) (hb : b = 10 ∨ b = 16) (n m : Int) (hm : m = n) : Ev (fun f => (redpenref15_number.f f s b).bind fun t => (redpenref15_valid.f t).bind fun v => if v = true then some (wrap32 t, m, true) else some (0, 0, false)) (rsign b (bytesOf s) n) := by
  subst hm
  refine Ev.bind (number_eq s hs b hb) ?_
  simp only [rvalid_eq, Option.bind_some, rvalid_okV]
  unfold rsign
  by_cases hk : okV (rnum b (bytesOf s)) = true
  · have := (okV_iff _).1 hk
    simp only [if_pos hk]
    rw [w32 (by omega) (by omega)]
    exact Ev.now _
  · simp only [if_neg hk]
    exact Ev.now _
theorem resc_digits (b : List Int) (hB : BT b) (hl : b.length < 1000000) (h2 : 2 ≤ b.length) (w : Nat) (hw : 0 < w) (hw8 : w ≤ 8) (v : Int) (hv : v = (w : Int)) : Ev (fun f => redpenref15_Escape.j1 f b v) (escH w b) := by
  subst hv
  have ew : wrap64 (2 + (w : Int)) = 2 + (w : Int) := w64 (by omega) (by omega)
  by_cases h : b.length < 2 + w
  · rw [show escH w b = entNo by unfold escH; rw [if_pos h]]
    refine Ev.step (f := fun _ => some (0, 0, false)) (fun f => ?_) (Ev.now _)
    simp only [redpenref15_Escape.j1]
    rw [ew, if_pos (by omega)]
  · have hdt : (b.take (2 + w)).drop 2 = (b.drop 2).take w := by rw [List.drop_take]; congr 1; omega
    have hBT : BT ((b.drop 2).take w) := (hB.drop 2).take w
    have hn := number_sign (strOfNums ((b.drop 2).take w)) (by rw [strOfNums_size, List.length_take, List.length_drop]; omega) 16 (.inr rfl) (2 + (w : Int)) (2 + (w : Int)) rfl
    rw [bytesOf_strOfNums hBT, rsign_hex w hw b (by omega)] at hn
    refine Ev.step (fun f => ?_) hn
    simp only [redpenref15_Escape.j1]
    rw [ew, if_neg (by omega), if_pos (by omega), if_pos (by omega), show (2 + (w : Int)).toNat = 2 + w by omega, hdt]
theorem refescape_eq (f0 : Int) (b : List Int) (hB : BT b) (hl : b.length < 1000000) : Ev (fun f => redpenref15_Escape.f f f0 b) (escM f0 b) := by
  have hno : Ev (fun f => redpenref15_Escape.j0 f f0 b true) entNo := by
    refine Ev.step (f := fun _ => some (0, 0, false)) (fun f => ?_) (Ev.now _)
    simp only [redpenref15_Escape.j0, if_true]
  by_cases h2 : b.length < 2
  · rw [show escM f0 b = entNo by unfold escM; rw [if_pos (.inl h2)]]
    refine Ev.congr (fun f => ?_) hno
    unfold redpenref15_Escape.f
    rw [if_pos (by omega)]
  by_cases h92 : rd b 0 = 92
  rotate_left
  · rw [show escM f0 b = entNo by unfold escM; rw [if_pos (.inr (.inl h92))]]
    refine Ev.congr (fun f => ?_) hno
    unfold redpenref15_Escape.f
    rw [if_neg (by omega), if_pos (by omega), if_neg h92]
  by_cases h128 : 128 ≤ rd b 1
  · rw [show escM f0 b = entNo by unfold escM; rw [if_pos (.inr (.inr h128))]]
    refine Ev.congr (fun f => ?_) hno
    unfold redpenref15_Escape.f
    rw [if_neg (by omega), if_pos (by omega), if_pos h92, if_pos (by omega), decide_eq_true (show rd b 1 > 127 by omega)]
  have hc : 0 ≤ rd b 1 ∧ rd b 1 < 256 := rd_byte hB (i := 1) (by omega)
  have hw : wrap32 (rd b 1) = rd b 1 := w32 (by omega) (by omega)
  have g8 := resc_digits b hB hl (by omega) 8 (by omega) (by omega) 8 rfl
  have g4 := resc_digits b hB hl (by omega) 4 (by omega) (by omega) 4 rfl
  have g2 := resc_digits b hB hl (by omega) 2 (by omega) (by omega) 2 rfl
  refine Ev.congr (f := fun f => redpenref15_Escape.j0 f f0 b false) (fun f => ?_) ?_
  · unfold redpenref15_Escape.f
    rw [if_neg (by omega), if_pos (by omega), if_pos h92, if_pos (by omega), decide_eq_false (show ¬ rd b 1 > 127 by omega)]
  unfold escM
  rw [if_neg (by rintro (h | h | h); exact h2 h; exact h h92; exact h128 h)]
  obtain ⟨c, hcc⟩ : ∃ c, rd b 1 = c := ⟨_, rfl⟩
  rw [hcc] at hc hw
  simp only [hcc]
  have head : ∀ f, redpenref15_Escape.j0 (f + 1) f0 b false = (if f0 = 7 then (if c = 34 then (some (c, 2, true)) else (if c = 92 then (some (c, 2, true)) else (if c = 36 then (some (c, 2, true)) else (if c = 96 then (some (c, 2, true)) else (some (0, 0, false)))))) else (if c = 110 then (some (10, 2, true)) else (if c = 114 then (some (13, 2, true)) else (if c = 116 then (some (9, 2, true)) else (if c = 120 then (redpenref15_Escape.j1 f b 2) else (if c = 117 then (redpenref15_Escape.j1 f b 4) else (if c = 85 then (redpenref15_Escape.j1 f b 8) else (some (c, 2, true))))))))) := by
    intro f
    simp only [redpenref15_Escape.j0]
    rw [if_neg (by simp), if_pos (by omega), hcc, hw]
  refine Ev.step head ?_
  by_cases h7 : f0 = 7
  · simp only [if_pos h7]
    by_cases c1 : c = 34
    · simp only [if_pos c1]; rw [if_pos (.inl c1)]; exact Ev.now _
    simp only [if_neg c1]
    by_cases c2 : c = 92
    · simp only [if_pos c2]; rw [if_pos (.inr (.inl c2))]; exact Ev.now _
    simp only [if_neg c2]
    by_cases c3 : c = 36
    · simp only [if_pos c3]; rw [if_pos (.inr (.inr (.inl c3)))]; exact Ev.now _
    simp only [if_neg c3]
    by_cases c4 : c = 96
    · simp only [if_pos c4]; rw [if_pos (.inr (.inr (.inr c4)))]; exact Ev.now _
    · simp only [if_neg c4]; rw [if_neg (by omega)]; exact Ev.now _
  · simp only [if_neg h7]
    by_cases c1 : c = 110
    · simp only [if_pos c1]; exact Ev.now _
    simp only [if_neg c1]
    by_cases c2 : c = 114
    · simp only [if_pos c2]; exact Ev.now _
    simp only [if_neg c2]
    by_cases c3 : c = 116
    · simp only [if_pos c3]; exact Ev.now _
    simp only [if_neg c3]
    by_cases c4 : c = 120
    · simp only [if_pos c4]; rw [if_neg (by omega), if_neg (by omega)]; exact g2
    simp only [if_neg c4]
    by_cases c5 : c = 117
    · simp only [if_pos c5]; rw [if_neg (by omega)]; exact g4
    simp only [if_neg c5]
    by_cases c6 : c = 85
    · simp only [if_pos c6]; exact g8
    simp only [if_neg c6]; exact Ev.now _
/-- The document's end of a name: the first semicolon from a place on, up to the twelfth byte. -/
theorem ent_ref (f1 : Nat → ByteArray → Int → Option (Int × Int × Bool)) (s : ByteArray) (hs : s.size < 1000000) (n m : Int) (hm : m = n) : Ev (fun f => (if s.toList = ([97, 109, 112] : List UInt8) then (some (38, m, true)) else (if s.toList = ([97, 112, 111, 115] : List UInt8) then (some (39, m, true)) else (if s.toList = ([103, 116] : List UInt8) then (some (62, m, true)) else (if s.toList = ([108, 116] : List UInt8) then (some (60, m, true)) else (if s.toList = ([110, 98, 115, 112] : List UInt8) then (some (160, m, true)) else (if s.toList = ([113, 117, 111, 116] : List UInt8) then (some (34, m, true)) else (if bt s 0 = 35 ∧ 1 < s.size then (if bt s 1 = 120 ∨ bt s 1 = 88 then (redpenref15_number.f f (s.extract 2 s.size) 16).bind fun t => (redpenref15_valid.f t).bind fun v => if v = true then some (wrap32 t, m, true) else some (0, 0, false)
    else (redpenref15_number.f f (s.extract 1 s.size) 10).bind fun t => (redpenref15_valid.f t).bind fun v => if v = true then some (wrap32 t, m, true) else some (0, 0, false)) else some (0, 0, false))))))))) (entB s n) := by
  subst hm
  have ne35 : ∀ (x : UInt8) (t : List UInt8), s.toList = x :: t → x.toNat ≠ 35 → bt s 0 ≠ 35 := by
    intro x t h hx
    unfold bt
    rw [ByteArray.toList_eq] at h
    have hsz : 0 < s.size := by
      have := congrArg List.length h
      rw [Array.length_toList, List.length_cons] at this
      have := s.size_data
      omega
    rw [dif_pos (show (0 : Int).toNat < s.size from hsz)]
    have h0 : s.data.toList[0]'(by rw [h]; simp) = x := by simp [h]
    have : s[(0 : Int).toNat]'(by exact hsz) = x := h0
    rw [this]
    omega
  have nm : ∀ (L : List UInt8) (r : Int), (L == s.toList) = decide (s.toList = L) := by
    intro L r
    rw [Bool.eq_iff_iff, beq_iff_eq, decide_eq_true_eq]
    exact ⟨fun h => h.symm, fun h => h.symm⟩
  have names : entNames s m = if s.toList = ([97, 109, 112] : List UInt8) then (38, m, true) else if s.toList = ([97, 112, 111, 115] : List UInt8) then (39, m, true) else if s.toList = ([103, 116] : List UInt8) then (62, m, true) else if s.toList = ([108, 116] : List UInt8) then (60, m, true) else if s.toList = ([110, 98, 115, 112] : List UInt8) then (160, m, true) else if s.toList = ([113, 117, 111, 116] : List UInt8) then (34, m, true) else entNo := by
    unfold entNames namesL
    simp only [entNamesL, nm _ 0, decide_eq_true_eq]
  have one : ∀ (L : List UInt8) (x : UInt8) (t : List UInt8) (r : Int), L = x :: t → x.toNat ≠ 35 → s.toList = L → entNames s m = (r, m, true) → Ev (fun _ => some (r, m, true)) (entB s m) := by
    intro L x t r hL hx h he
    have : entB s m = (r, m, true) := by unfold entB; rw [if_neg (ne35 x t (h.trans hL) hx), he]
    rw [this]
    exact Ev.now _
  by_cases a1 : s.toList = ([97, 109, 112] : List UInt8)
  · simp only [if_pos a1]
    exact one _ _ _ 38 rfl (by decide) a1 (by rw [names, if_pos a1])
  simp only [if_neg a1]
  by_cases a2 : s.toList = ([97, 112, 111, 115] : List UInt8)
  · simp only [if_pos a2]
    exact one _ _ _ 39 rfl (by decide) a2 (by rw [names, if_neg a1, if_pos a2])
  simp only [if_neg a2]
  by_cases a3 : s.toList = ([103, 116] : List UInt8)
  · simp only [if_pos a3]
    exact one _ _ _ 62 rfl (by decide) a3 (by rw [names, if_neg a1, if_neg a2, if_pos a3])
  simp only [if_neg a3]
  by_cases a4 : s.toList = ([108, 116] : List UInt8)
  · simp only [if_pos a4]
    exact one _ _ _ 60 rfl (by decide) a4 (by rw [names, if_neg a1, if_neg a2, if_neg a3, if_pos a4])
  simp only [if_neg a4]
  by_cases a5 : s.toList = ([110, 98, 115, 112] : List UInt8)
  · simp only [if_pos a5]
    exact one _ _ _ 160 rfl (by decide) a5 (by rw [names, if_neg a1, if_neg a2, if_neg a3, if_neg a4, if_pos a5])
  simp only [if_neg a5]
  by_cases a6 : s.toList = ([113, 117, 111, 116] : List UInt8)
  · simp only [if_pos a6]
    exact one _ _ _ 34 rfl (by decide) a6 (by rw [names, if_neg a1, if_neg a2, if_neg a3, if_neg a4, if_neg a5, if_pos a6])
  simp only [if_neg a6]
  have hnone : entNames s m = entNo := by rw [names, if_neg a1, if_neg a2, if_neg a3, if_neg a4, if_neg a5, if_neg a6]
  by_cases h35 : bt s 0 = 35
  rotate_left
  · simp only [if_neg (show ¬ (bt s 0 = 35 ∧ 1 < s.size) from fun h => h35 h.1)]
    rw [show entB s m = entNo by unfold entB; rw [if_neg h35, hnone]]
    exact Ev.now _
  have hx1 : (s.extract 1 s.size).size = s.size - 1 := by rw [ByteArray.size_extract]; omega
  by_cases h1 : 1 < s.size
  rotate_left
  · simp only [if_neg (show ¬ (bt s 0 = 35 ∧ 1 < s.size) from fun h => h1 h.2)]
    rw [show entB s m = entNo by unfold entB entNum entDig; rw [if_pos h35, if_pos (by omega), if_pos (by omega)]]
    exact Ev.now _
  simp only [if_pos (show bt s 0 = 35 ∧ 1 < s.size from ⟨h35, h1⟩)]
  have hb1 : bt s 1 = bt (s.extract 1 s.size) 0 := by
    unfold bt
    rw [dif_pos (show (1 : Int).toNat < s.size from h1), dif_pos (show (0 : Int).toNat < (s.extract 1 s.size).size by rw [hx1]; show 0 < s.size - 1; omega)]
    have : (s.extract 1 s.size)[(0 : Int).toNat]'(by rw [hx1]; show 0 < s.size - 1; omega) = s[(1 : Int).toNat]'(by exact h1) := by
      simp [ByteArray.getElem_extract]
    rw [this]
  have hx2 : s.extract 2 s.size = (s.extract 1 s.size).extract 1 (s.extract 1 s.size).size := by
    rw [hx1, ByteArray.extract_extract]
    congr 1
    omega
  by_cases hx : bt s 1 = 120 ∨ bt s 1 = 88
  · simp only [if_pos hx]
    have hn := number_sign (s.extract 2 s.size) (by rw [ByteArray.size_extract]; omega) 16 (.inr rfl) m m rfl
    rw [show (16 : Int) = ((16 : Nat) : Int) from rfl, rsign_dig 16 (.inr rfl), hx2] at hn
    have : entB s m = entDig 16 ((s.extract 1 s.size).extract 1 (s.extract 1 s.size).size) m := by
      unfold entB entNum
      rw [if_pos h35, if_neg (by omega), ← hb1]
      rcases hx with h | h
      · rw [if_pos h]
      · rw [if_neg (by omega), if_pos h]
    rw [this, hx2]
    exact hn
  · simp only [if_neg hx]
    have hn := number_sign (s.extract 1 s.size) (by rw [ByteArray.size_extract]; omega) 10 (.inl rfl) m m rfl
    rw [show (10 : Int) = ((10 : Nat) : Int) from rfl, rsign_dig 10 (.inl rfl)] at hn
    have : entB s m = entDig 10 (s.extract 1 s.size) m := by
      unfold entB entNum
      rw [if_pos h35, if_neg (by omega), ← hb1, if_neg (fun h => hx (.inl h)), if_neg (fun h => hx (.inr h))]
    rw [this]
    exact hn
end Go.Proofs.YtekalnhackjldaaDoor.Pure
end
section
/- The document's Entity is the plain one. -/
namespace Go.Proofs.YtekalnhackjldaaDoor.Pure
open Go.RowKit Go.Proofs.YtekalnhackjldaaDoor.PDecodeUnits Go.Proofs.YtekalnhackjldaaDoorW.PrintWords Go.Proofs.YtekalnhackjldaaDoorW.PrintLast
open Go.Proofs.YtekalnhackjldaaDoor.M Go.Proofs.YtekalnhackjldaaDoor.X Go.Proofs.YtekalnhackjldaaDoor.H
set_option linter.unusedVariables false
set_option linter.unusedSimpArgs false

/-- The search for a name's end goes on. -/
theorem endN_go (l : List Int) : ∀ (i : Nat), i ≤ 12 → i ≤ l.length → (∀ t : Nat, t < i → rd l (t : Int) ≠ 59) → endN l 12 0 = endN l (12 - i) i := by
  intro i
  induction i with
  | zero => intro _ _ _; rfl
  | succ i ih =>
    intro h12 hl hno
    rw [ih (by omega) (by omega) (fun t ht => hno t (by omega))]
    rw [show 12 - i = (12 - (i + 1)) + 1 by omega]
    show (if i < l.length then (if rd l (i : Int) = 59 then i else endN l (12 - (i + 1)) (i + 1)) else i) = _
    rw [if_pos (by omega), if_neg (hno i (by omega))]
theorem refent_no (l : List Int) (f0 : Nat → Nat) : Ev (fun f => redpenref15_Entity.j0 f l true) entNo := by
  refine Ev.step (f := fun _ => some (0, 0, false)) (fun f => ?_) (Ev.now _)
  simp only [redpenref15_Entity.j0, if_true]
theorem refent_from (l : List Int) (hB : BT l) (hl : l.length < 1000000) (h38 : rd l 0 = 38) : ∀ (d i : Nat), 13 - i = d → 1 ≤ i → i ≤ 13 → i ≤ l.length → (∀ t : Nat, t < i → rd l (t : Int) ≠ 59) → Ev (fun f => redpenref15_Entity.l0 f l (i : Int)) (entF l) := by
  intro d
  induction d with
  | zero =>
    intro i hd h1 h13 hil hno
    have hi : i = 13 := by omega
    subst hi
    have he : endN l 12 0 = 12 := by
      rw [endN_go l 12 (by omega) (by omega) (fun t ht => hno t (by omega))]
      rfl
    have hf : entF l = entNo := by unfold entF; rw [he, if_pos (.inr (.inr (.inl (hno 12 (by omega)))))]
    rw [hf]
    have e0 : ∀ f, redpenref15_Entity.l0 (f + 1) l ((13 : Nat) : Int) = redpenref15_Entity.j2 f l ((13 : Nat) : Int) false := by
      intro f
      simp only [redpenref15_Entity.l0]
      by_cases h : ((13 : Nat) : Int) < (l.length : Int)
      · rw [if_pos h, decide_eq_false (by omega)]
      · rw [if_neg h]
    refine Ev.step e0 (Ev.step (f := fun _ => some (0, 0, false)) (fun f => ?_) (Ev.now _))
    simp only [redpenref15_Entity.j2]
    rw [if_neg (by simp)]
  | succ d ih =>
    intro i hd h1 h13 hil hno
    by_cases hlt : i < l.length
    rotate_left
    · -- the end
      have he : endN l 12 0 = i := by
        rw [endN_go l i (by omega) (by omega) hno]
        cases h : 12 - i with
        | zero => rfl
        | succ m => unfold endN; rw [if_neg hlt]
      have hf : entF l = entNo := by unfold entF; rw [he, if_pos (.inr (.inl (by omega)))]
      rw [hf]
      have e0 : ∀ f, redpenref15_Entity.l0 (f + 1) l (i : Int) = redpenref15_Entity.j2 f l (i : Int) false := by
        intro f
        simp only [redpenref15_Entity.l0]
        rw [if_neg (by omega)]
      refine Ev.step e0 (Ev.step (f := fun _ => some (0, 0, false)) (fun f => ?_) (Ev.now _))
      simp only [redpenref15_Entity.j2]
      rw [if_neg (by simp)]
    have e0 : ∀ f, redpenref15_Entity.l0 (f + 1) l (i : Int) = redpenref15_Entity.j2 f l (i : Int) true := by
      intro f
      simp only [redpenref15_Entity.l0]
      rw [if_pos (by omega), decide_eq_true (by omega)]
    refine Ev.step e0 ?_
    by_cases h59 : rd l (i : Int) = 59
    rotate_left
    · refine Ev.step (fun f => ?_) (ih (i + 1) (by omega) (by omega) (by omega) (by omega) (fun t ht => by
        by_cases h : t = i
        · subst h; exact h59
        · exact hno t (by omega)))
      simp only [redpenref15_Entity.j2, if_true]
      rw [if_pos (by omega), if_pos (by omega), if_neg h59, w64 (by omega) (by omega)]
      rfl
    -- found
    have he : endN l 12 0 = i := by
      rw [endN_go l i (by omega) (by omega) hno]
      cases h : 12 - i with
      | zero => rfl
      | succ m => unfold endN; rw [if_pos hlt, if_pos h59]
    have hy : ((l.take (i : Int).toNat).drop 1) = (l.take i).drop 1 := by rw [Int.toNat_natCast]
    have em : wrap64 ((i : Int) + 1) = (i : Int) + 1 := w64 (by omega) (by omega)
    obtain ⟨y, hyy⟩ : ∃ y, (l.take i).drop 1 = y := ⟨_, rfl⟩
    have hyl : y.length = i - 1 := by rw [← hyy, List.length_drop, List.length_take]; omega
    have hs : (strOfNums y).size < 1000000 := by rw [strOfNums_size]; omega
    have hent := ent_ref (fun _ _ _ => none) (strOfNums y) hs ((i : Int) + 1) ((i : Int) + 1) rfl
    have hf : entF l = if i < 2 then entNo else entB (strOfNums y) ((i : Int) + 1) := by
      unfold entF
      rw [he, hyy]
      by_cases h2 : i < 2
      · rw [if_pos (.inl h2), if_pos h2]
      · rw [if_neg (by rintro (h | h | h | h); exact h2 h; omega; exact h h59; exact h h38), if_neg h2]
    have hf2 : entF l = entB (strOfNums y) ((i : Int) + 1) := by
      rw [hf]
      by_cases h2 : i < 2
      · rw [if_pos h2]
        have hy0 : y = [] := List.length_eq_zero_iff.1 (by omega)
        subst hy0
        unfold entB
        rw [if_neg (show ¬ bt (strOfNums []) 0 = 35 by decide)]
        unfold entNames namesL
        have hnil : (strOfNums []).toList = [] := by rw [toList_eq_data, strOfNums_data]; rfl
        simp only [entNamesL, hnil]
        rfl
      · rw [if_neg h2]
    rw [hf2]
    obtain ⟨s, hss⟩ : ∃ s, strOfNums y = s := ⟨_, rfl⟩
    rw [hss] at hent hs ⊢
    -- the last steps
    have j3no : Ev (fun f => redpenref15_Entity.j3 f (i : Int) s (-1) false) entNo := by
      refine Ev.step (f := fun _ => some (0, 0, false)) (fun f => ?_) (Ev.now _)
      simp only [redpenref15_Entity.j3]
      rw [if_neg (by simp)]
      exact ob (rvalid_eq (-1)) rfl
    obtain ⟨K, hK⟩ := hent
    obtain ⟨K2, hK2⟩ := j3no
    refine ⟨K + K2 + 4, fun k hk => ?_⟩
    obtain ⟨k, rfl⟩ : ∃ m, k = m + 3 := ⟨k - 3, by omega⟩
    rw [← hK k (by omega)]
    have hK' := hK k (by omega)
    simp only [redpenref15_Entity.j2, if_true]
    rw [if_pos (by omega), if_pos (by omega), if_pos h59, if_pos (by omega), if_pos (by omega), hy, hyy]
    simp only [Option.bind_some, hss, em]
    by_cases a1 : s.toList = ([97, 109, 112] : List UInt8)
    · rw [if_pos a1, if_pos a1]
    rw [if_neg a1, if_neg a1]
    by_cases a2 : s.toList = ([97, 112, 111, 115] : List UInt8)
    · rw [if_pos a2, if_pos a2]
    rw [if_neg a2, if_neg a2]
    by_cases a3 : s.toList = ([103, 116] : List UInt8)
    · rw [if_pos a3, if_pos a3]
    rw [if_neg a3, if_neg a3]
    by_cases a4 : s.toList = ([108, 116] : List UInt8)
    · rw [if_pos a4, if_pos a4]
    rw [if_neg a4, if_neg a4]
    by_cases a5 : s.toList = ([110, 98, 115, 112] : List UInt8)
    · rw [if_pos a5, if_pos a5]
    rw [if_neg a5, if_neg a5]
    by_cases a6 : s.toList = ([113, 117, 111, 116] : List UInt8)
    · rw [if_pos a6, if_pos a6]
    rw [if_neg a6, if_neg a6]
    by_cases h1 : (s.size : Int) > 1
    rotate_left
    · rw [if_neg h1, if_neg (fun h => h1 (by omega))]
      exact hK2 (k + 2) (by omega)
    rw [if_pos h1, if_pos (by omega)]
    by_cases h35 : bt s 0 = 35
    rotate_left
    · rw [if_neg (fun h => h35 h.1), show (bt s 0 == 35) = false from beq_eq_false_iff_ne.2 h35]
      exact hK2 (k + 2) (by omega)
    rw [if_pos ⟨h35, by omega⟩, show (bt s 0 == 35) = true from beq_iff_eq.2 h35]
    have j4t : redpenref15_Entity.j4 (k + 1) (i : Int) s true = (redpenref15_number.f k (s.extract 2 s.size) 16).bind fun t => (redpenref15_valid.f t).bind fun v => if v = true then some (wrap32 t, (i : Int) + 1, true) else some (0, 0, false) := by
      simp only [redpenref15_Entity.j4, if_true]
      rw [if_pos (by omega), em]
    have j4f : redpenref15_Entity.j4 (k + 1) (i : Int) s false = (redpenref15_number.f k (s.extract 1 s.size) 10).bind fun t => (redpenref15_valid.f t).bind fun v => if v = true then some (wrap32 t, (i : Int) + 1, true) else some (0, 0, false) := by
      simp only [redpenref15_Entity.j4]
      rw [if_neg (by simp), if_pos (by omega), em]
    simp only [redpenref15_Entity.j3, if_true]
    rw [if_pos (by omega)]
    by_cases hx : bt s 1 = 120
    · rw [if_pos hx, if_pos (.inl hx), j4t]
    · rw [if_neg hx]
      by_cases hX : bt s 1 = 88
      · rw [if_pos (.inr hX), show (bt s 1 == 88) = true from beq_iff_eq.2 hX, j4t]
      · rw [if_neg (fun h => h.elim hx hX), show (bt s 1 == 88) = false from beq_eq_false_iff_ne.2 hX, j4f]
theorem refentity_eq (l : List Int) (hB : BT l) (hl : l.length < 1000000) : Ev (fun f => redpenref15_Entity.f f l) (entF l) := by
  by_cases h0 : l.length = 0
  · have : entF l = entNo := by
      have : l = [] := List.length_eq_zero_iff.1 h0
      subst this
      rfl
    rw [this]
    refine Ev.congr (fun f => ?_) (refent_no l id)
    unfold redpenref15_Entity.f
    rw [if_pos (by omega)]
  by_cases h38 : rd l 0 = 38
  · have := refent_from l hB hl h38 _ 1 rfl (by omega) (by omega) (by omega) (fun t ht => by
      have : t = 0 := by omega
      subst this
      rw [show ((0 : Nat) : Int) = 0 from rfl, h38]
      omega)
    refine Ev.congr (f := fun f => redpenref15_Entity.j0 f l false) (fun f => ?_) (Ev.step (fun f => ?_) this)
    · unfold redpenref15_Entity.f
      rw [if_neg (by omega), if_pos (by omega), show (rd l 0 != 38) = false from bne_eq_false_iff_eq.2 h38]
    · simp only [redpenref15_Entity.j0]
      rw [if_neg (by simp)]
      rfl
  · have : entF l = entNo := by unfold entF; rw [if_pos (.inr (.inr (.inr h38)))]
    rw [this]
    refine Ev.congr (fun f => ?_) (refent_no l id)
    unfold redpenref15_Entity.f
    rw [if_neg (by omega), if_pos (by omega), show (rd l 0 != 38) = true from bne_iff_ne.2 h38]
end Go.Proofs.YtekalnhackjldaaDoor.Pure
end
section
/- The reference's Next is the plain one. -/
namespace Go.Proofs.YtekalnhackjldaaDoor.PDecodeUnits
open Go.RowKit Go.Proofs.YtekalnhackjldaaDoorW.PrintWords Go.Proofs.YtekalnhackjldaaDoorW.PrintLast Go.Proofs.YtekalnhackjldaaDoorW.PrintMore
open Go.Proofs.YtekalnhackjldaaDoor.M Go.Proofs.YtekalnhackjldaaDoor.X
set_option linter.unusedVariables false
set_option linter.unusedSimpArgs false

theorem rtail_yes (b : List Int) (i c : Int) (hi : 0 ≤ i) (hl : i < (b.length : Int)) (hc : rd b i = c) : redpenref01_tail.f b i = some (isT c) := by
  unfold redpenref01_tail.f
  rw [if_pos hl, if_pos hi, hc]
  unfold isT
  by_cases h : c ≥ 128
  · rw [if_pos h, decide_eq_true (p := 128 ≤ c) h, Bool.true_and]
  · rw [if_neg h, decide_eq_false (p := 128 ≤ c) h, Bool.false_and]
theorem rtail_no (b : List Int) (i : Int) (hl : (b.length : Int) ≤ i) : redpenref01_tail.f b i = some false := by
  unfold redpenref01_tail.f
  rw [if_neg (by omega)]
theorem rj4_no (k : Nat) (b : List Int) (c : Int) : redpenref01_Next.j4 (k + 1) b c false = some (-1, 1) := by
  simp only [redpenref01_Next.j4]; rw [if_neg (by simp)]
theorem rj3_out (k : Nat) (b : List Int) (c : Int) (h : c < 240 ∨ 248 ≤ c) : redpenref01_Next.j3 (k + 1 + 1) b c = some (-1, 1) := by
  simp only [redpenref01_Next.j3]
  by_cases h1 : c ≥ 240
  · rw [if_pos h1, if_neg (by omega), rj4_no]
  · rw [if_neg h1, rj4_no]
theorem rj2_no (k : Nat) (b : List Int) (c : Int) : redpenref01_Next.j2 (k + 1) b c false = redpenref01_Next.j3 k b c := by
  simp only [redpenref01_Next.j2]; rw [if_neg (by simp)]
theorem rj1_out (k : Nat) (b : List Int) (c : Int) (h : c < 224 ∨ 240 ≤ c) : redpenref01_Next.j1 (k + 1 + 1) b c = redpenref01_Next.j3 k b c := by
  simp only [redpenref01_Next.j1]
  by_cases h1 : c ≥ 224
  · rw [if_pos h1, if_neg (by omega), rj2_no]
  · rw [if_neg h1, rj2_no]
theorem rj0_no (k : Nat) (b : List Int) (c : Int) : redpenref01_Next.j0 (k + 1) b c false = redpenref01_Next.j1 k b c := by
  simp only [redpenref01_Next.j0]; rw [if_neg (by simp)]
theorem refnext_eq {k : Nat} (hk : 6 ≤ k) {b : List Int} (hB : BT b) : redpenref01_Next.f k b = some (nx b) := by
  obtain ⟨m, rfl⟩ : ∃ m, k = m + 1 + 1 + 1 + 1 + 1 + 1 := ⟨k - 6, by omega⟩
  rcases b with _ | ⟨c, t⟩
  · rfl
  have hc := hB.head
  have hl : (((c :: t).length : Nat) : Int) = t.length + 1 := by simp
  unfold redpenref01_Next.f
  rw [if_neg (by rw [hl]; omega), if_pos (by rw [hl]; omega), show rd (c :: t) 0 = c from rfl, w32 (x := c) (by omega) (by omega)]
  by_cases h1 : c < 128
  · rw [if_pos h1]; simp [nx, h1]
  rw [if_neg h1]
  by_cases h2 : 194 ≤ c ∧ c < 224
  · rw [if_pos (by omega), if_pos (by omega)]
    rcases t with _ | ⟨c1, t⟩
    · refine ob (rtail_no _ 1 (by simp)) ?_
      rw [rj0_no, rj1_out _ _ _ (by omega), rj3_out _ _ _ (by omega)]; simp [nx, h1, h2]
    · have b1 := hB.tail.head
      refine ob (rtail_yes _ 1 c1 (by omega) (by simp; omega) rfl) ?_
      by_cases hT : isT c1 = true
      · have t1 := (isT_iff c1).1 hT
        rw [hT]
        simp only [redpenref01_Next.j0, ↓reduceIte]
        rw [if_pos (by simp; omega), show rd (c :: c1 :: t) 1 = c1 from rfl, w32 (x := c - 192) (by omega) (by omega), w32 (x := (c - 192) * 64) (by omega) (by omega), w32 (x := c1) (by omega) (by omega), w32 (x := (c - 192) * 64 + c1) (by omega) (by omega), w32 (x := (c - 192) * 64 + c1 - 128) (by omega) (by omega), if_pos (by omega)]
        simp only [nx]
        rw [if_neg h1, if_pos h2, if_pos hT]
        unfold v2
        congr 2; omega
      · rw [show isT c1 = false by simpa using hT, rj0_no, rj1_out _ _ _ (by omega), rj3_out _ _ _ (by omega)]; simp [nx, h1, h2, hT]
  by_cases h2' : 192 ≤ c ∧ c < 194
  · rw [if_pos (by omega), if_pos (by omega)]
    have hn : nx (c :: t) = (-1, 1) := by
      simp only [nx]; rw [if_neg h1, if_neg h2, if_neg (by omega), if_neg (by omega)]
    rw [hn]
    rcases t with _ | ⟨c1, t⟩
    · refine ob (rtail_no _ 1 (by simp)) ?_
      rw [rj0_no, rj1_out _ _ _ (by omega), rj3_out _ _ _ (by omega)]
    · have b1 := hB.tail.head
      refine ob (rtail_yes _ 1 c1 (by omega) (by simp; omega) rfl) ?_
      by_cases hT : isT c1 = true
      · have t1 := (isT_iff c1).1 hT
        rw [hT]
        simp only [redpenref01_Next.j0, ↓reduceIte]
        rw [if_pos (by simp; omega), show rd (c :: c1 :: t) 1 = c1 from rfl, w32 (x := c - 192) (by omega) (by omega), w32 (x := (c - 192) * 64) (by omega) (by omega), w32 (x := c1) (by omega) (by omega), w32 (x := (c - 192) * 64 + c1) (by omega) (by omega), w32 (x := (c - 192) * 64 + c1 - 128) (by omega) (by omega), if_neg (by omega), rj1_out _ _ _ (by omega), rj3_out _ _ _ (by omega)]
      · rw [show isT c1 = false by simpa using hT, rj0_no, rj1_out _ _ _ (by omega), rj3_out _ _ _ (by omega)]
  have hj0 : (if c ≥ 192 then (if c < 224 then ((redpenref01_tail.f (c :: t) 1).bind fun t133 => (redpenref01_Next.j0 (m + 1 + 1 + 1 + 1 + 1 + 1) (c :: t) c t133)) else (redpenref01_Next.j0 (m + 1 + 1 + 1 + 1 + 1 + 1) (c :: t) c false)) else (redpenref01_Next.j0 (m + 1 + 1 + 1 + 1 + 1 + 1) (c :: t) c false)) = redpenref01_Next.j1 (m + 1 + 1 + 1 + 1 + 1) (c :: t) c := by
    by_cases h : c ≥ 192
    · rw [if_pos h, if_neg (by omega), rj0_no]
    · rw [if_neg h, rj0_no]
  rw [hj0]
  clear hj0
  by_cases h3 : 224 ≤ c ∧ c < 240
  · simp only [redpenref01_Next.j1]
    rw [if_pos h3.1, if_pos h3.2]
    rcases t with _ | ⟨c1, t⟩
    · refine ob (rtail_no _ 1 (by simp)) ?_
      rw [if_neg (by simp), rj2_no, rj3_out _ _ _ (by omega)]; simp [nx, h1, h2, h3]
    have b1 := hB.tail.head
    refine ob (rtail_yes _ 1 c1 (by omega) (by simp; omega) rfl) ?_
    by_cases hT : isT c1 = true
    · rw [if_pos hT]
      have t1 := (isT_iff c1).1 hT
      rcases t with _ | ⟨c2, t⟩
      · refine ob (rtail_no _ 2 (by simp)) ?_
        rw [rj2_no, rj3_out _ _ _ (by omega)]; simp [nx, h1, h2, h3]
      have b2 := hB.tail.tail.head
      refine ob (rtail_yes _ 2 c2 (by omega) (by simp; omega) rfl) ?_
      by_cases hT2 : isT c2 = true
      · have t2 := (isT_iff c2).1 hT2
        rw [hT2]
        simp only [redpenref01_Next.j2, ↓reduceIte]
        have hv : v3 c c1 c2 = ((c - 224) * 64 + (c1 - 128)) * 64 + (c2 - 128) := rfl
        rw [if_pos (by simp; omega), if_pos (by simp; omega), show rd (c :: c1 :: c2 :: t) 1 = c1 from rfl, show rd (c :: c1 :: c2 :: t) 2 = c2 from rfl, w32 (x := c - 224) (by omega) (by omega), w32 (x := (c - 224) * 4096) (by omega) (by omega), w32 (x := c1) (by omega) (by omega), w32 (x := c1 - 128) (by omega) (by omega), w32 (x := (c1 - 128) * 64) (by omega) (by omega), w32 (x := (c - 224) * 4096 + (c1 - 128) * 64) (by omega) (by omega), w32 (x := c2) (by omega) (by omega), w32 (x := (c - 224) * 4096 + (c1 - 128) * 64 + c2) (by omega) (by omega), w32 (x := (c - 224) * 4096 + (c1 - 128) * 64 + c2 - 128) (by omega) (by omega), show (c - 224) * 4096 + (c1 - 128) * 64 + c2 - 128 = v3 c c1 c2 by omega]
        simp only [nx]
        rw [if_neg h1, if_neg h2, if_pos h3]
        generalize v3 c c1 c2 = v at hv
        by_cases g1 : v ≥ 2048
        · rw [if_pos g1]
          by_cases g2 : v < 55296
          · rw [if_pos g2, if_pos ⟨hT, hT2, by omega, by omega⟩]
          · rw [if_neg g2]
            by_cases g3 : v > 57343
            · rw [if_pos g3, if_pos ⟨hT, hT2, by omega, by omega⟩]
            · rw [if_neg g3, rj3_out _ _ _ (by omega), if_neg (by omega)]
        · rw [if_neg g1, rj3_out _ _ _ (by omega), if_neg (by omega)]
      · rw [show isT c2 = false by simpa using hT2, rj2_no, rj3_out _ _ _ (by omega)]
        simp only [nx]; rw [if_neg h1, if_neg h2, if_pos h3, if_neg (fun h => hT2 h.2.1)]
    · rw [if_neg hT, rj2_no, rj3_out _ _ _ (by omega)]
      rcases t with _ | ⟨c2, t⟩
      · simp [nx, h1, h2, h3]
      · simp only [nx]; rw [if_neg h1, if_neg h2, if_pos h3, if_neg (fun h => hT h.1)]
  rw [rj1_out _ _ _ (by omega)]
  by_cases h4 : 240 ≤ c ∧ c < 248
  · simp only [redpenref01_Next.j3]
    rw [if_pos h4.1, if_pos h4.2]
    rcases t with _ | ⟨c1, t⟩
    · refine ob (rtail_no _ 1 (by simp)) ?_
      rw [if_neg (by simp), rj4_no]; simp [nx, h1, h2, h3]
    have b1 := hB.tail.head
    refine ob (rtail_yes _ 1 c1 (by omega) (by simp; omega) rfl) ?_
    by_cases hT : isT c1 = true
    · rw [if_pos hT]
      have t1 := (isT_iff c1).1 hT
      rcases t with _ | ⟨c2, t⟩
      · refine ob (rtail_no _ 2 (by simp)) ?_
        rw [if_neg (by simp), rj4_no]; simp [nx, h1, h2, h3]
      have b2 := hB.tail.tail.head
      refine ob (rtail_yes _ 2 c2 (by omega) (by simp; omega) rfl) ?_
      by_cases hT2 : isT c2 = true
      · rw [if_pos hT2]
        have t2 := (isT_iff c2).1 hT2
        rcases t with _ | ⟨c3, t⟩
        · refine ob (rtail_no _ 3 (by simp)) ?_
          rw [rj4_no]; simp [nx, h1, h2, h3]
        have b3 := hB.tail.tail.tail.head
        refine ob (rtail_yes _ 3 c3 (by omega) (by simp; omega) rfl) ?_
        by_cases hT3 : isT c3 = true
        · have t3 := (isT_iff c3).1 hT3
          rw [hT3]
          simp only [redpenref01_Next.j4, ↓reduceIte]
          have hv : v4 c c1 c2 c3 = (((c - 240) * 64 + (c1 - 128)) * 64 + (c2 - 128)) * 64 + (c3 - 128) := rfl
          rw [if_pos (by simp; omega), if_pos (by simp; omega), if_pos (by simp; omega), show rd (c :: c1 :: c2 :: c3 :: t) 1 = c1 from rfl, show rd (c :: c1 :: c2 :: c3 :: t) 2 = c2 from rfl, show rd (c :: c1 :: c2 :: c3 :: t) 3 = c3 from rfl, w32 (x := c - 240) (by omega) (by omega), w32 (x := (c - 240) * 262144) (by omega) (by omega), w32 (x := c1) (by omega) (by omega), w32 (x := c1 - 128) (by omega) (by omega), w32 (x := (c1 - 128) * 4096) (by omega) (by omega), w32 (x := (c - 240) * 262144 + (c1 - 128) * 4096) (by omega) (by omega), w32 (x := c2) (by omega) (by omega), w32 (x := c2 - 128) (by omega) (by omega), w32 (x := (c2 - 128) * 64) (by omega) (by omega), w32 (x := (c - 240) * 262144 + (c1 - 128) * 4096 + (c2 - 128) * 64) (by omega) (by omega), w32 (x := c3) (by omega) (by omega), w32 (x := (c - 240) * 262144 + (c1 - 128) * 4096 + (c2 - 128) * 64 + c3) (by omega) (by omega), w32 (x := (c - 240) * 262144 + (c1 - 128) * 4096 + (c2 - 128) * 64 + c3 - 128) (by omega) (by omega), show (c - 240) * 262144 + (c1 - 128) * 4096 + (c2 - 128) * 64 + c3 - 128 = v4 c c1 c2 c3 by omega]
          by_cases h5 : c < 245
          · simp only [nx]
            rw [if_neg h1, if_neg h2, if_neg h3, if_pos (show 240 ≤ c ∧ c < 245 from ⟨h4.1, h5⟩)]
            generalize v4 c c1 c2 c3 = v at hv
            by_cases g1 : v ≥ 65536
            · rw [if_pos g1]
              by_cases g2 : v ≤ 1114111
              · rw [if_pos g2, if_pos ⟨hT, hT2, hT3, by omega, by omega⟩]
              · rw [if_neg g2, if_neg (by omega)]
            · rw [if_neg g1, if_neg (by omega)]
          · have hn : nx (c :: c1 :: c2 :: c3 :: t) = (-1, 1) := by
              simp only [nx]; rw [if_neg h1, if_neg h2, if_neg h3, if_neg (by omega)]
            rw [hn, if_pos (by omega), if_neg (by omega)]
        · rw [show isT c3 = false by simpa using hT3, rj4_no]
          simp only [nx]; rw [if_neg h1, if_neg h2, if_neg h3]
          by_cases h5 : 240 ≤ c ∧ c < 245
          · rw [if_pos h5, if_neg (fun h => hT3 h.2.2.1)]
          · rw [if_neg h5]
      · rw [if_neg hT2, rj4_no]
        rcases t with _ | ⟨c3, t⟩
        · simp [nx, h1, h2, h3]
        · simp only [nx]; rw [if_neg h1, if_neg h2, if_neg h3]
          by_cases h5 : 240 ≤ c ∧ c < 245
          · rw [if_pos h5, if_neg (fun h => hT2 h.2.1)]
          · rw [if_neg h5]
    · rw [if_neg hT, rj4_no]
      rcases t with _ | ⟨c2, _ | ⟨c3, t⟩⟩
      · simp [nx, h1, h2, h3]
      · simp [nx, h1, h2, h3]
      · simp only [nx]; rw [if_neg h1, if_neg h2, if_neg h3]
        by_cases h5 : 240 ≤ c ∧ c < 245
        · rw [if_pos h5, if_neg (fun h => hT h.1)]
        · rw [if_neg h5]
  · rw [rj3_out _ _ _ (by omega)]
    simp only [nx]; rw [if_neg h1, if_neg h2, if_neg h3, if_neg (by omega)]
end Go.Proofs.YtekalnhackjldaaDoor.PDecodeUnits
end
section
/- The document's Units are the plain ones. -/
namespace Go.Proofs.YtekalnhackjldaaDoor.Pure
open Go.RowKit Go.Proofs.YtekalnhackjldaaDoor.PDecodeUnits Go.Proofs.YtekalnhackjldaaDoorW.PrintWords Go.Proofs.YtekalnhackjldaaDoorW.PrintLast
open Go.Proofs.YtekalnhackjldaaDoor.M Go.Proofs.YtekalnhackjldaaDoor.X Go.Proofs.YtekalnhackjldaaDoor.H
set_option linter.unusedVariables false
set_option linter.unusedSimpArgs false

theorem sign_eq (c : Int) : redpenref15_sign.f c = some (punM c) := by
  unfold redpenref15_sign.f punM
  by_cases h1 : c ≥ 33
  · by_cases h2 : c ≤ 126
    · by_cases h3 : c ≥ 97
      · by_cases h4 : c ≤ 122
        · simp [h1, h2, h3, h4]
        · simp [h1, h2, h3, h4, show c ≥ 65 by omega, show ¬ c ≤ 90 by omega, show c ≥ 48 by omega, show ¬ c ≤ 57 by omega, show (32 : Int) < c by omega, show c < 127 by omega]
      · by_cases h5 : c ≥ 65
        · by_cases h6 : c ≤ 90
          · simp [h1, h2, h3, h5, h6]
          · simp [h1, h2, h3, h5, h6, show c ≥ 48 by omega, show ¬ c ≤ 57 by omega, show (32 : Int) < c by omega, show c < 127 by omega]
        · by_cases h7 : c ≥ 48
          · by_cases h8 : c ≤ 57
            · simp [h1, h2, h3, h5, h7, h8]
            · simp [h1, h2, h3, h5, h7, h8, show (32 : Int) < c by omega, show c < 127 by omega]
          · simp [h1, h2, h3, h5, h7, show (32 : Int) < c by omega, show c < 127 by omega]
    · simp [h1, h2, show ¬ c < 127 by omega]
  · simp [h1, show ¬ (32 : Int) < c by omega]
def g1 (f lab : Int) (b : List Int) (q : Int × Int) : Int × Int := if (lab = 1 ∧ (f = 1 ∨ f = 2)) ∧ (entF b).2.2 = true then ((entF b).1, (entF b).2.1) else q
def g2 (f lab : Int) (b : List Int) (q : Int × Int) : Int × Int := if lab = 1 ∧ f = 2 ∧ rd b 0 = 92 ∧ 1 < b.length ∧ punM (rd b 1) = true then (rd b 1, 2) else q
def g4 (f lab : Int) (b : List Int) (q : Int × Int) : Int × Int := if lab = 5 ∧ f = 8 ∧ 1 < b.length ∧ rd b 0 = 39 ∧ rd b 1 = 39 then (39, 2) else q
def g6 (f lab : Int) (b : List Int) (q : Int × Int) : Int × Int := if (lab = 5 ∧ 4 ≤ f ∧ f ≤ 7) ∧ (escM f b).2.2 = true then ((escM f b).1, (escM f b).2.1) else q
theorem g_one (f lab : Int) (b : List Int) : g6 f lab b (g4 f lab b (g2 f lab b (g1 f lab b (nx b)))) = oneM f lab b := by
  have hE : rd b 0 ≠ 38 → (entF b).2.2 = false := by
    intro h
    have : entF b = entNo := by unfold entF; rw [if_pos (.inr (.inr (.inr h)))]
    rw [this]
    rfl
  have hS : rd b 0 ≠ 92 → (escM f b).2.2 = false := by
    intro h
    have : escM f b = entNo := by unfold escM; rw [if_pos (.inr (.inl h))]
    rw [this]
    rfl
  by_cases l1 : lab = 1
  · have h6 : ∀ q, g6 f lab b q = q := fun q => by unfold g6; rw [if_neg (by omega)]
    have h4 : ∀ q, g4 f lab b q = q := fun q => by unfold g4; rw [if_neg (by omega)]
    rw [h6, h4]
    unfold oneM g2 g1
    by_cases hf : f = 1 ∨ f = 2
    · by_cases h38 : rd b 0 = 38
      · rw [if_neg (show ¬ (lab = 1 ∧ f = 2 ∧ rd b 0 = 92 ∧ 1 < b.length ∧ punM (rd b 1) = true) from fun h => by omega), if_pos (show lab = 1 ∧ (f = 1 ∨ f = 2) ∧ rd b 0 = 38 from ⟨l1, hf, h38⟩)]
        by_cases he : (entF b).2.2 = true
        · rw [if_pos (show (lab = 1 ∧ (f = 1 ∨ f = 2)) ∧ (entF b).2.2 = true from ⟨⟨l1, hf⟩, he⟩), if_pos he]
        · rw [if_neg (show ¬ ((lab = 1 ∧ (f = 1 ∨ f = 2)) ∧ (entF b).2.2 = true) from fun h => he h.2), if_neg he]
      · rw [if_neg (show ¬ ((lab = 1 ∧ (f = 1 ∨ f = 2)) ∧ (entF b).2.2 = true) from fun h => by rw [hE h38] at h; cases h.2), if_neg (show ¬ (lab = 1 ∧ (f = 1 ∨ f = 2) ∧ rd b 0 = 38) from fun h => h38 h.2.2)]
        by_cases hp : lab = 1 ∧ f = 2 ∧ rd b 0 = 92 ∧ 1 < b.length ∧ punM (rd b 1) = true
        · rw [if_pos hp, if_pos hp]
        · rw [if_neg hp, if_neg hp, if_neg (by omega), if_neg (by omega)]
    · rw [if_neg (fun h => hf (.inr h.2.1)), if_neg (fun h => hf h.1.2), if_neg (fun h => hf h.2.1), if_neg (fun h => hf (.inr h.2.1)), if_neg (by omega), if_neg (by omega)]
  · have h1 : g1 f lab b (nx b) = nx b := by unfold g1; rw [if_neg (fun h => l1 h.1.1)]
    have h2 : ∀ q, g2 f lab b q = q := fun q => by unfold g2; rw [if_neg (fun h => l1 h.1)]
    rw [h1, h2]
    unfold oneM g6 g4
    rw [if_neg (show ¬ (lab = 1 ∧ (f = 1 ∨ f = 2) ∧ rd b 0 = 38) from fun h => l1 h.1), if_neg (show ¬ (lab = 1 ∧ f = 2 ∧ rd b 0 = 92 ∧ 1 < b.length ∧ punM (rd b 1) = true) from fun h => l1 h.1)]
    by_cases hq : lab = 5 ∧ f = 8 ∧ 1 < b.length ∧ rd b 0 = 39 ∧ rd b 1 = 39
    · rw [if_pos hq, if_pos hq, if_neg (by omega)]
    · rw [if_neg hq, if_neg hq]
      by_cases hs : lab = 5 ∧ rd b 0 = 92 ∧ 4 ≤ f ∧ f ≤ 7
      · rw [if_pos hs]
        by_cases he : (escM f b).2.2 = true
        · rw [if_pos ⟨⟨hs.1, hs.2.2⟩, he⟩, if_pos he]
        · rw [if_neg (fun h => he h.2), if_neg he]
      · rw [if_neg hs]
        by_cases h92 : rd b 0 = 92
        · rw [if_neg (fun h => hs ⟨h.1.1, h92, h.1.2⟩)]
        · rw [if_neg (fun h => by rw [hS h92] at h; cases h.2)]
section
variable {f0 lab at0 n0 : Int} {x b : List Int} {acc : List S45} {e p : Int} {R : List S45 × Bool} (hB : BT b) (hbl : b.length < 1000000) (hb : b ≠ []) (hacc : acc.length < 5864062014805)
include hB hbl hb hacc
theorem ru_j6 (r n : Int) (fin : Ev (fun f => redpenref15_Units.l0 f f0 x (acc ++ [⟨(g6 f0 lab b (r, n)).1, ⟨p, (g6 f0 lab b (r, n)).2⟩⟩]) e (wrap64 (p + (g6 f0 lab b (r, n)).2)) lab at0 n0) R) : Ev (fun f => redpenref15_Units.j6 f f0 x acc e p b r n lab at0 n0) R := by
  have hb_ := hb
  have j7 : ∀ y : Bool, y = decide (lab = 5 ∧ 4 ≤ f0 ∧ f0 ≤ 7) → Ev (fun f => redpenref15_Units.j7 f f0 x acc e p b r n y lab at0 n0) R := by
    intro y hy
    by_cases hq : lab = 5 ∧ 4 ≤ f0 ∧ f0 ≤ 7
    · rw [decide_eq_true hq] at hy
      subst hy
      refine Ev.step (f := fun f => (redpenref15_Escape.f f f0 b).bind fun bt231 => (if bt231.2.2 = true then (if acc.length < 5864062014805 then (redpenref15_Units.l0 f f0 x (acc ++ [(⟨bt231.1, (⟨p, bt231.2.1⟩ : S40)⟩ : S45)]) e (wrap64 (p + bt231.2.1)) lab at0 n0) else (none)) else (if acc.length < 5864062014805 then (redpenref15_Units.l0 f f0 x (acc ++ [(⟨r, (⟨p, n⟩ : S40)⟩ : S45)]) e (wrap64 (p + n)) lab at0 n0) else (none)))) (fun f => ?_) (Ev.bind (refescape_eq f0 b hB hbl) ?_)
      · simp only [redpenref15_Units.j7, if_true]
      · unfold g6 at fin
        by_cases he : (escM f0 b).2.2 = true
        · rw [if_pos ⟨hq, he⟩] at fin
          refine Ev.congr (fun f => ?_) fin
          rw [if_pos he, if_pos hacc]
        · rw [if_neg (fun h => he h.2)] at fin
          refine Ev.congr (fun f => ?_) fin
          rw [if_neg he, if_pos hacc]
    · rw [decide_eq_false hq] at hy
      subst hy
      unfold g6 at fin
      rw [if_neg (fun h => hq h.1)] at fin
      refine Ev.step (fun f => ?_) fin
      simp only [redpenref15_Units.j7]
      rw [if_neg (by simp), if_pos hacc]
  refine Ev.step (fun f => ?_) (j7 _ rfl)
  simp only [redpenref15_Units.j6]
  by_cases h5 : lab = 5
  · rw [if_pos h5]
    by_cases h4 : f0 ≥ 4
    · rw [if_pos h4]; congr 1; rw [decide_eq_decide]; exact ⟨fun h => ⟨h5, h4, h⟩, fun h => h.2.2⟩
    · rw [if_neg h4]; congr 1; symm; rw [decide_eq_false_iff_not]; exact fun h => h4 h.2.1
  · rw [if_neg h5]; congr 1; symm; rw [decide_eq_false_iff_not]; exact fun h => h5 h.1
theorem ru_j4 (q : Int × Int) (fin : Ev (fun f => redpenref15_Units.l0 f f0 x (acc ++ [⟨(g6 f0 lab b (g4 f0 lab b q)).1, ⟨p, (g6 f0 lab b (g4 f0 lab b q)).2⟩⟩]) e (wrap64 (p + (g6 f0 lab b (g4 f0 lab b q)).2)) lab at0 n0) R) : Ev (fun f => redpenref15_Units.j4 f f0 x acc e p b q.1 q.2 lab at0 n0) R := by
  have hl : 0 < b.length := List.length_pos_iff.2 hb
  have j5 : ∀ y : Bool, y = decide (lab = 5 ∧ f0 = 8 ∧ 1 < b.length ∧ rd b 0 = 39 ∧ rd b 1 = 39) → Ev (fun f => redpenref15_Units.j5 f f0 x acc e p b q.1 q.2 y lab at0 n0) R := by
    intro y hy
    by_cases hq : lab = 5 ∧ f0 = 8 ∧ 1 < b.length ∧ rd b 0 = 39 ∧ rd b 1 = 39
    · rw [decide_eq_true hq] at hy
      subst hy
      rw [show g4 f0 lab b q = (39, 2) by unfold g4; rw [if_pos hq]] at fin
      refine Ev.step (fun f => ?_) (ru_j6 hB hbl hb hacc 39 2 fin)
      simp only [redpenref15_Units.j5, if_true]
    · rw [decide_eq_false hq] at hy
      subst hy
      rw [show g4 f0 lab b q = (q.1, q.2) by unfold g4; rw [if_neg hq]] at fin
      refine Ev.step (fun f => ?_) (ru_j6 hB hbl hb hacc q.1 q.2 fin)
      simp only [redpenref15_Units.j5]
      rw [if_neg (by simp)]
  refine Ev.step (fun f => ?_) (j5 _ rfl)
  simp only [redpenref15_Units.j4]
  by_cases h5 : lab = 5
  · rw [if_pos h5]
    by_cases h8 : f0 = 8
    · rw [if_pos h8]
      by_cases h1 : (b.length : Int) > 1
      · rw [if_pos h1, if_pos (by omega)]
        by_cases h9 : rd b 0 = 39
        · rw [if_pos h9, if_pos (by omega)]
          congr 1
          rw [Bool.eq_iff_iff, beq_iff_eq, decide_eq_true_eq]
          exact ⟨fun h => ⟨h5, h8, by omega, h9, h⟩, fun h => h.2.2.2.2⟩
        · rw [if_neg h9]; congr 1; symm; rw [decide_eq_false_iff_not]; exact fun h => h9 h.2.2.2.1
      · rw [if_neg h1]; congr 1; symm; rw [decide_eq_false_iff_not]; exact fun h => h1 (by omega)
    · rw [if_neg h8]; congr 1; symm; rw [decide_eq_false_iff_not]; exact fun h => h8 h.2.1
  · rw [if_neg h5]; congr 1; symm; rw [decide_eq_false_iff_not]; exact fun h => h5 h.1
theorem ru_j2 (q : Int × Int) (z : Bool) (hz : z = (lab == 1)) (fin : Ev (fun f => redpenref15_Units.l0 f f0 x (acc ++ [⟨(g6 f0 lab b (g4 f0 lab b (g2 f0 lab b q))).1, ⟨p, (g6 f0 lab b (g4 f0 lab b (g2 f0 lab b q))).2⟩⟩]) e (wrap64 (p + (g6 f0 lab b (g4 f0 lab b (g2 f0 lab b q))).2)) lab at0 n0) R) : Ev (fun f => redpenref15_Units.j2 f f0 x acc e p b q.1 q.2 z lab at0 n0) R := by
  have hl : 0 < b.length := List.length_pos_iff.2 hb
  have j3 : ∀ y : Bool, y = decide (lab = 1 ∧ f0 = 2 ∧ rd b 0 = 92 ∧ 1 < b.length ∧ punM (rd b 1) = true) → Ev (fun f => redpenref15_Units.j3 f f0 x acc e p b q.1 q.2 y lab at0 n0) R := by
    intro y hy
    by_cases hq : lab = 1 ∧ f0 = 2 ∧ rd b 0 = 92 ∧ 1 < b.length ∧ punM (rd b 1) = true
    · rw [decide_eq_true hq] at hy
      subst hy
      rw [show g2 f0 lab b q = (rd b 1, 2) by unfold g2; rw [if_pos hq]] at fin
      have hc : 0 ≤ rd b 1 ∧ rd b 1 < 256 := rd_byte hB (i := 1) hq.2.2.2.1
      have := hq.2.2.2.1
      refine Ev.step (fun f => ?_) (ru_j4 hB hbl hb hacc (rd b 1, 2) fin)
      simp only [redpenref15_Units.j3, if_true]
      rw [if_pos (by omega), w32 (by omega) (by omega)]
    · rw [decide_eq_false hq] at hy
      subst hy
      rw [show g2 f0 lab b q = q by unfold g2; rw [if_neg hq]] at fin
      refine Ev.step (fun f => ?_) (ru_j4 hB hbl hb hacc q fin)
      simp only [redpenref15_Units.j3]
      rw [if_neg (by simp)]
  refine Ev.step (fun f => ?_) (j3 _ rfl)
  simp only [redpenref15_Units.j2]
  by_cases h1 : lab = 1
  · rw [if_pos (by rw [hz, beq_iff_eq]; exact h1)]
    by_cases h2 : f0 = 2
    · rw [if_pos h2, if_pos (by omega)]
      by_cases h9 : rd b 0 = 92
      · rw [if_pos h9]
        by_cases h3 : (b.length : Int) > 1
        · rw [if_pos h3, if_pos (by omega), sign_eq]
          show redpenref15_Units.j3 f f0 x acc e p b q.1 q.2 (punM (rd b 1)) lab at0 n0 = _
          congr 1
          rw [Bool.eq_iff_iff, decide_eq_true_eq]
          exact ⟨fun h => ⟨h1, h2, h9, by omega, h⟩, fun h => h.2.2.2.2⟩
        · rw [if_neg h3]; congr 1; symm; rw [decide_eq_false_iff_not]; exact fun h => h3 (by omega)
      · rw [if_neg h9]; congr 1; symm; rw [decide_eq_false_iff_not]; exact fun h => h9 h.2.2.1
    · rw [if_neg h2]; congr 1; symm; rw [decide_eq_false_iff_not]; exact fun h => h2 h.2.1
  · rw [if_neg (by rw [hz, beq_iff_eq]; exact h1)]; congr 1; symm; rw [decide_eq_false_iff_not]; exact fun h => h1 h.1
theorem ru_j1 (z y : Bool) (hz : z = (lab == 1)) (hy : y = decide (lab = 1 ∧ (f0 = 1 ∨ f0 = 2))) (fin : Ev (fun f => redpenref15_Units.l0 f f0 x (acc ++ [⟨(oneM f0 lab b).1, ⟨p, (oneM f0 lab b).2⟩⟩]) e (wrap64 (p + (oneM f0 lab b).2)) lab at0 n0) R) : Ev (fun f => redpenref15_Units.j1 f f0 x acc e p b (nx b).1 (nx b).2 z y lab at0 n0) R := by
  rw [← g_one] at fin
  by_cases hq : lab = 1 ∧ (f0 = 1 ∨ f0 = 2)
  · rw [decide_eq_true hq] at hy
    subst hy
    refine Ev.step (f := fun f => (redpenref15_Entity.f f b).bind fun bt222 => (if bt222.2.2 = true then (redpenref15_Units.j2 f f0 x acc e p b bt222.1 bt222.2.1 z lab at0 n0) else (redpenref15_Units.j2 f f0 x acc e p b (nx b).1 (nx b).2 z lab at0 n0))) (fun f => ?_) (Ev.bind (refentity_eq b hB hbl) ?_)
    · simp only [redpenref15_Units.j1, if_true]
    · by_cases he : (entF b).2.2 = true
      · rw [show g1 f0 lab b (nx b) = ((entF b).1, (entF b).2.1) by unfold g1; rw [if_pos ⟨hq, he⟩]] at fin
        refine Ev.congr (fun f => ?_) (ru_j2 hB hbl hb hacc _ z hz fin)
        rw [if_pos he]
      · rw [show g1 f0 lab b (nx b) = nx b by unfold g1; rw [if_neg (fun h => he h.2)]] at fin
        refine Ev.congr (fun f => ?_) (ru_j2 hB hbl hb hacc _ z hz fin)
        rw [if_neg he]
  · rw [decide_eq_false hq] at hy
    subst hy
    rw [show g1 f0 lab b (nx b) = nx b by unfold g1; rw [if_neg (fun h => hq h.1)]] at fin
    refine Ev.step (fun f => ?_) (ru_j2 hB hbl hb hacc _ z hz fin)
    simp only [redpenref15_Units.j1]
    rw [if_neg (by simp)]
end
theorem refunits_loop (f0 lab at0 n0 : Int) (x : List Int) (hB : BT x) (hx : x.length < 1000000) (e : Nat) (he : e ≤ x.length) : ∀ (d p : Nat) (acc : List S45), e - p = d → p ≤ e → acc.length ≤ p →
    Ev (fun f => redpenref15_Units.l0 f f0 x acc (e : Int) (p : Int) lab at0 n0) (acc ++ mkU (p : Int) (uM f0 lab d ((x.take e).drop p)), true) := by
  intro d
  induction d using Nat.strongRecOn with
  | _ d ih =>
    intro p acc hd hp hac
    by_cases hlt : p < e
    · obtain ⟨b, hb⟩ : ∃ b, (x.take e).drop p = b := ⟨_, rfl⟩
      have hbl : b.length = e - p := by rw [← hb, List.length_drop, List.length_take]; omega
      have hbn : b ≠ [] := by intro h; rw [h] at hbl; simp at hbl; omega
      have hbB : BT b := by rw [← hb]; exact (hB.take _).drop _
      have hw := oneM_width f0 lab b hbn
      obtain ⟨w, hwv⟩ : ∃ w : Nat, (oneM f0 lab b).2 = (w : Int) := ⟨(oneM f0 lab b).2.toNat, by omega⟩
      rw [hwv, hbl] at hw
      have hi := ih (d - w) (by omega) (p + w) (acc ++ [(⟨(oneM f0 lab b).1, (⟨(p : Int), (w : Int)⟩ : S40)⟩ : S45)]) (by omega) (by omega) (by rw [List.length_append, List.length_singleton]; omega)
      have hdd : (x.take e).drop (p + w) = b.drop w := by rw [← hb, List.drop_drop]
      rw [hdd, List.append_assoc] at hi
      have hu : uM f0 lab d b = oneM f0 lab b :: uM f0 lab (d - w) (b.drop w) := by
        obtain ⟨d', rfl⟩ : ∃ d', d = d' + 1 := ⟨d - 1, by omega⟩
        show (if b = [] then [] else oneM f0 lab b :: uM f0 lab d' (b.drop (oneM f0 lab b).2.toNat)) = _
        rw [if_neg hbn, hwv, Int.toNat_natCast, uM_stable f0 lab d' (d' + 1 - w) (b.drop w) (by rw [List.length_drop]; omega) (by rw [List.length_drop]; omega)]
      have hR : acc ++ mkU (p : Int) (uM f0 lab d b) = acc ++ ([⟨(oneM f0 lab b).1, ⟨(p : Int), (w : Int)⟩⟩] ++ mkU ((p + w : Nat) : Int) (uM f0 lab (d - w) (b.drop w))) := by
        rw [hu]
        have : oneM f0 lab b = ((oneM f0 lab b).1, (w : Int)) := by rw [← hwv]
        rw [this]
        simp only [mkU, List.singleton_append]
        rw [show ((p : Int) + (w : Int)) = ((p + w : Nat) : Int) by omega]
      rw [hb, hR]
      have fin : Ev (fun f => redpenref15_Units.l0 f f0 x (acc ++ [⟨(oneM f0 lab b).1, ⟨(p : Int), (oneM f0 lab b).2⟩⟩]) (e : Int) (wrap64 ((p : Int) + (oneM f0 lab b).2)) lab at0 n0) (acc ++ ([⟨(oneM f0 lab b).1, ⟨(p : Int), (w : Int)⟩⟩] ++ mkU ((p + w : Nat) : Int) (uM f0 lab (d - w) (b.drop w))), true) := by
        rw [hwv, w64 (by omega) (by omega), show (p : Int) + (w : Int) = ((p + w : Nat) : Int) by omega]
        exact hi
      have hj := ru_j1 (f0 := f0) (lab := lab) hbB (by omega) hbn (by omega) (lab == 1) (decide (lab = 1 ∧ (f0 = 1 ∨ f0 = 2))) rfl rfl fin
      refine Ev.step (f := fun f => (redpenref01_Next.f f b).bind fun bt220 => redpenref15_Units.j1 f f0 x acc (e : Int) (p : Int) b bt220.1 bt220.2 (lab == 1) (decide (lab = 1 ∧ (f0 = 1 ∨ f0 = 2))) lab at0 n0) (fun f => ?_) (Ev.bind (a := nx b) ⟨6, fun k hk => refnext_eq hk hbB⟩ hj)
      simp only [redpenref15_Units.l0]
      rw [if_pos (by omega), if_pos (by omega), if_pos (by omega), if_pos (by omega), Int.toNat_natCast, Int.toNat_natCast, hb]
      simp only [Option.bind_some]
      congr 1
      funext bt
      by_cases h1 : lab = 1
      · rw [if_pos h1]
        by_cases h2 : f0 = 1
        · rw [if_pos h2]; congr 1; symm; exact decide_eq_true ⟨h1, .inl h2⟩
        · rw [if_neg h2]; congr 1; rw [Bool.eq_iff_iff, beq_iff_eq, decide_eq_true_eq]; exact ⟨fun h => ⟨h1, .inr h⟩, fun h => h.2.elim (fun h => absurd h h2) id⟩
      · rw [if_neg h1]; congr 1; symm; rw [decide_eq_false_iff_not]; exact fun h => h1 h.1
    · have hpe : p = e := by omega
      refine Ev.step (f := fun _ => some (acc, true)) (fun f => ?_) (by
        rw [show (x.take e).drop p = [] from List.drop_eq_nil_of_le (by rw [List.length_take]; omega), uM_nil]
        show Ev _ (acc ++ mkU (p : Int) [], true)
        rw [show mkU (p : Int) [] = [] from rfl, List.append_nil]
        exact Ev.now _)
      simp only [redpenref15_Units.l0]
      rw [if_neg (by omega)]
theorem refunits_ok (f0 lab : Int) (x : List Int) (hB : BT x) (hx : x.length < 1000000) (p n : Nat) (hp : p + n ≤ x.length) : Ev (fun f => redpenref15_Units.f f f0 x lab (p : Int) (n : Int)) (mkU (p : Int) (uM f0 lab n ((x.take (p + n)).drop p)), true) := by
  have h := refunits_loop f0 lab (p : Int) (n : Int) x hB hx (p + n) hp n p [] (by omega) (by omega) (by simp)
  rw [List.nil_append] at h
  have hin : redpenref01_In.f (p : Int) (n : Int) (x.length : Int) = some true := by
    unfold redpenref01_In.f
    rw [if_pos (by omega), if_pos (by omega), if_pos (by omega), w64 (by omega) (by omega), decide_eq_true (by omega)]
  refine Ev.congr (fun f => ?_) h
  unfold redpenref15_Units.f
  refine ob hin ?_
  rw [if_pos rfl, w64 (by omega) (by omega), show (p : Int) + (n : Int) = ((p + n : Nat) : Int) by omega]
/-- A part that is none. -/
def isIn (a n : Int) (len : Nat) : Bool := decide (0 ≤ a) && decide (0 ≤ n) && decide (a ≤ (len : Int)) && decide (n ≤ (len : Int) - a)
theorem units_out (f0 lab a n : Int) (x : List Int) (hx : x.length < 1000000) (h : isIn a n x.length = false) : Ev (fun f => decode_Units.f f f0 x lab a n) ([], 2) := by
  have hj : Ev (fun f => decode_Units.j0 f f0 x a n true lab a n) ([], 2) := by
    refine Ev.step (f := fun _ => some ([], 2)) (fun f => ?_) (Ev.now _)
    simp only [decode_Units.j0, if_true]
  refine Ev.congr (fun f => ?_) hj
  unfold decode_Units.f
  by_cases h1 : a < 0
  · rw [if_pos h1]
  rw [if_neg h1]
  by_cases h2 : n < 0
  · rw [if_pos h2]
  rw [if_neg h2]
  by_cases h3 : a > (x.length : Int)
  · rw [if_pos h3]
  rw [if_neg h3, w64 (by omega) (by omega)]
  by_cases h4 : n > (x.length : Int) - a
  · rw [decide_eq_true h4]
  · unfold isIn at h
    rw [decide_eq_true (by omega), decide_eq_true (by omega), decide_eq_true (by omega), decide_eq_true (by omega)] at h
    cases h
theorem refunits_out (f0 lab a n : Int) (x : List Int) (hx : x.length < 1000000) (h : isIn a n x.length = false) : Ev (fun f => redpenref15_Units.f f f0 x lab a n) ([], false) := by
  have hin : redpenref01_In.f a n (x.length : Int) = some false := by
    unfold redpenref01_In.f
    by_cases h1 : a ≥ 0
    · rw [if_pos h1]
      by_cases h2 : n ≥ 0
      · rw [if_pos h2]
        by_cases h3 : a ≤ (x.length : Int)
        · rw [if_pos h3, w64 (by omega) (by omega)]
          by_cases h4 : n ≤ (x.length : Int) - a
          · unfold isIn at h
            rw [decide_eq_true (by omega), decide_eq_true (by omega), decide_eq_true h3, decide_eq_true h4] at h
            cases h
          · rw [decide_eq_false h4]
        · rw [if_neg h3]
      · rw [if_neg h2]
    · rw [if_neg h1]
  refine Ev.congr (f := fun _ => some ([], false)) (fun f => ?_) (Ev.now _)
  unfold redpenref15_Units.f
  refine ob hin ?_
  rw [if_neg (by simp)]
end Go.Proofs.YtekalnhackjldaaDoor.Pure
end
section
/- A text of pieces: how long it is, and that it is bytes. -/
namespace Go.Proofs.YtekalnhackjldaaDoor.PDecodeUnits
open Go.RowKit Go.Proofs.YtekalnhackjldaaDoorW.PrintWords Go.Proofs.YtekalnhackjldaaDoorW.PrintLast Go.Proofs.YtekalnhackjldaaDoorW.PrintMore
open Go.Proofs.YtekalnhackjldaaDoor.M
set_option linter.unusedVariables false
set_option linter.unusedSimpArgs false

theorem bits_from (ps : List ByteArray) (hp : ∀ p ∈ ps, p.size ≤ 100) (raw l : List Int) (hraw : BT raw) (hl : BT l) (hn : l.length ≤ 140737488351232) (hrn : raw.length < 100000000) : ∀ (d i : Nat), 61 - i = d → i ≤ l.length → i ≤ 60 → ∀ acc : List Int, BT acc → acc.length ≤ 100 * i →
    ∃ x, BT x ∧ x.length ≤ 6000 ∧ Ev (fun f => redpenlaw11_Bits.l0 f ps raw acc l (l.length : Int) (i : Int)) x := by
  intro d
  induction d with
  | zero => intro i hd hi h60; omega
  | succ d ih =>
    intro i hd hi h60 acc hB hA
    by_cases hlt : i < l.length
    · by_cases h6 : i = 60
      · refine ⟨acc, hB, by omega, ⟨1, fun k hk => ?_⟩⟩
        obtain ⟨k, rfl⟩ : ∃ m, k = m + 1 := ⟨k - 1, by omega⟩
        simp only [redpenlaw11_Bits.l0]
        rw [if_pos (by omega), if_pos (by omega), if_pos (by omega), if_pos (by omega)]
      · have ew : wrap64 ((i : Int) + 1) = ((i + 1 : Nat) : Int) := by rw [w64 (by omega) (by omega)]; omega
        have hx : 0 ≤ rd l (i : Int) ∧ rd l (i : Int) < 256 := by
          unfold rd
          rw [Int.toNat_natCast, List.getD_eq_getElem?_getD, List.getElem?_eq_getElem hlt]
          exact hl _ (List.getElem_mem hlt)
        have ex : wrap64 (rd l (i : Int)) = rd l (i : Int) := w64 (by omega) (by omega)
        by_cases hk : rd l (i : Int) < (ps.length : Int)
        · have hsz : (rdOf ByteArray.empty ps (rd l (i : Int))).size ≤ 100 := by
            unfold rdOf
            rw [List.getD_eq_getElem?_getD, List.getElem?_eq_getElem (by omega)]
            exact hp _ (List.getElem_mem _)
          obtain ⟨x, h1, h2, h3⟩ := ih (i + 1) (by omega) (by omega) (by omega) (acc ++ bytesOf (rdOf ByteArray.empty ps (rd l (i : Int)))) (hB.app (bytesOf_BT _)) (by rw [List.length_append, bytesOf_length]; omega)
          refine ⟨x, h1, h2, Ev.step (fun f => ?_) h3⟩
          simp only [redpenlaw11_Bits.l0]
          rw [if_pos (by omega), if_pos (by omega), if_pos (by omega), if_neg (by omega), ex, if_pos hk, if_pos hx.1, if_pos (by omega), ew]
        · by_cases hr : (raw.length : Int) > 0
          · have ht : Int.tmod (rd l (i : Int)) (raw.length : Int) = rd l (i : Int) % (raw.length : Int) := Int.tmod_eq_emod_of_nonneg hx.1
            have hm0 := Int.emod_nonneg (rd l (i : Int)) (show (raw.length : Int) ≠ 0 by omega)
            have hm1 := Int.emod_lt_of_pos (rd l (i : Int)) hr
            have hb0 : ∀ q : Int, 0 ≤ q → q < (raw.length : Int) → BT [rd raw q] := fun q q0 q1 z hz => by
              rw [List.mem_singleton.1 hz]
              unfold rd
              rw [List.getD_eq_getElem?_getD, List.getElem?_eq_getElem (by omega)]
              exact hraw _ (List.getElem_mem _)
            have hb := hb0 _ hm0 hm1
            obtain ⟨x, h1, h2, h3⟩ := ih (i + 1) (by omega) (by omega) (by omega) (acc ++ [rd raw (rd l (i : Int) % (raw.length : Int))]) (hB.app hb) (by rw [List.length_append, List.length_singleton]; omega)
            refine ⟨x, h1, h2, Ev.step (fun f => ?_) h3⟩
            simp only [redpenlaw11_Bits.l0]
            rw [if_pos (by omega), if_pos (by omega), if_pos (by omega), if_neg (by omega), ex, if_neg hk, if_pos hr, if_neg (by omega), ht, if_pos hm0, if_pos hm1, if_pos (by omega), ew]
          · obtain ⟨x, h1, h2, h3⟩ := ih (i + 1) (by omega) (by omega) (by omega) acc hB (by omega)
            refine ⟨x, h1, h2, Ev.step (fun f => ?_) h3⟩
            simp only [redpenlaw11_Bits.l0]
            rw [if_pos (by omega), if_pos (by omega), if_pos (by omega), if_neg (by omega), ex, if_neg hk, if_neg hr, ew]
    · refine ⟨acc, hB, by omega, ⟨1, fun k hk => ?_⟩⟩
      obtain ⟨k, rfl⟩ : ∃ m, k = m + 1 := ⟨k - 1, by omega⟩
      simp only [redpenlaw11_Bits.l0]
      rw [if_neg (by omega)]
theorem bits_eq (ps : List ByteArray) (hp : ∀ p ∈ ps, p.size ≤ 100) (raw l : List Int) (hraw : BT raw) (hl : BT l) (hn : l.length ≤ 140737488351232) (hrn : raw.length < 100000000) :
    ∃ x, BT x ∧ x.length ≤ 6000 ∧ Ev (fun f => redpenlaw11_Bits.f f ps l raw) x :=
  bits_from ps hp raw l hraw hl hn hrn 61 0 rfl (by omega) (by omega) [] (fun _ h => by cases h) (by simp)
end Go.Proofs.YtekalnhackjldaaDoor.PDecodeUnits
end
section
/- The document's SameUnits, of a list and itself. -/
namespace Go.Proofs.YtekalnhackjldaaDoor.PDecodeUnits
open Go.RowKit Go.Proofs.YtekalnhackjldaaDoorW.PrintWords Go.Proofs.YtekalnhackjldaaDoorW.PrintLast Go.Proofs.YtekalnhackjldaaDoorW.PrintMore
open Go.Proofs.YtekalnhackjldaaDoor.M Go.Proofs.YtekalnhackjldaaDoor.X
set_option linter.unusedVariables false
set_option linter.unusedSimpArgs false

theorem sameunits_from (x : List S45) (hx : x.length ≤ 1000000) : ∀ (d k i : Nat), x.length - i = d → i ≤ x.length → d < k →
    redpenref01_SameUnits.l0 k x x (i : Int) = some true := by
  intro d
  induction d with
  | zero =>
    intro k i hd hi hk
    obtain ⟨k, rfl⟩ : ∃ m, k = m + 1 := ⟨k - 1, by omega⟩
    simp only [redpenref01_SameUnits.l0]
    rw [if_neg (by omega)]
  | succ d ih =>
    intro k i hd hi hk
    obtain ⟨k, rfl⟩ : ∃ m, k = m + 1 := ⟨k - 1, by omega⟩
    have ew : wrap64 ((i : Int) + 1) = ((i + 1 : Nat) : Int) := by rw [w64 (by omega) (by omega)]; omega
    simp only [redpenref01_SameUnits.l0]
    rw [if_pos (by omega), if_pos (by omega), if_pos (by omega), if_neg (by simp), ew]
    exact ih k (i + 1) (by omega) (by omega) (by omega)
theorem sameunits_eq {k : Nat} (x : List S45) (hx : x.length ≤ 1000000) (hk : x.length < k) : redpenref01_SameUnits.f k x x = some true := by
  unfold redpenref01_SameUnits.f
  rw [if_pos rfl]
  exact sameunits_from x hx x.length k 0 (by omega) (by omega) hk
end Go.Proofs.YtekalnhackjldaaDoor.PDecodeUnits
end
section
/- The printed utf.Put and utf.Text are the plain ones. -/
namespace Go.Proofs.YtekalnhackjldaaDoor.PDecodeUnits
open Go.RowKit Go.Proofs.YtekalnhackjldaaDoorW.PrintWords Go.Proofs.YtekalnhackjldaaDoorW.PrintLast Go.Proofs.YtekalnhackjldaaDoorW.PrintMore
open Go.Proofs.YtekalnhackjldaaDoor.M Go.Proofs.YtekalnhackjldaaDoor.X
set_option linter.unusedVariables false
set_option linter.unusedSimpArgs false

theorem and191 {x : Int} (h0 : 0 ≤ x) (h1 : x < 256) : Go.bits .and .u8 x 191 = x / 128 * 128 + x % 64 := by
  have : ∀ x : Fin 256, Go.bits .and .u8 ((x.val : Nat) : Int) 191 = ((x.val : Nat) : Int) / 128 * 128 + ((x.val : Nat) : Int) % 64 := by decide +kernel
  have h := this ⟨x.toNat, by omega⟩
  simpa [Int.toNat_of_nonneg h0] using h
theorem or128 {x : Int} (h0 : 0 ≤ x) (h1 : x < 256) : Go.bits .or .u8 128 x = 128 + x % 128 := by
  have : ∀ x : Fin 256, Go.bits .or .u8 128 ((x.val : Nat) : Int) = 128 + ((x.val : Nat) : Int) % 128 := by decide +kernel
  have h := this ⟨x.toNat, by omega⟩
  simpa [Int.toNat_of_nonneg h0] using h
/-- A byte that goes on. -/
theorem tail_byte {x : Int} : Go.bits .or .u8 128 (Go.bits .and .u8 (x % 256) 191) = 128 + x % 64 := by
  rw [and191 (by omega) (by omega), or128 (by omega) (by omega)]
  omega
theorem put_eq {k : Nat} (hk : 1 ≤ k) (b : List Int) (r : Int) (hb : b.length < 140737488355300) :
    utf_Put.f k b r = some (if okR r = true then (b ++ enc r, 0) else ([], 2)) := by
  obtain ⟨k, rfl⟩ : ∃ m, k = m + 1 := ⟨k - 1, by omega⟩
  unfold utf_Put.f
  refine ob rfl ?_
  rw [if_pos (by rw [List.length_nil]; omega)]
  refine ob rfl ?_
  rw [List.nil_append]
  have hbad : utf_Put.j0 (k + 1) r b true = some ([], 2) := by simp only [utf_Put.j0, ↓reduceIte]
  by_cases h0 : r < 0
  · rw [if_pos h0, hbad, if_neg (by rw [okR_iff]; omega)]
  rw [if_neg h0]
  by_cases h1 : r > 1114111
  · rw [if_pos h1, hbad, if_neg (by rw [okR_iff]; omega)]
  rw [if_neg h1]
  have hgood : ¬ (55296 ≤ r ∧ r < 57344) → utf_Put.j0 (k + 1) r b false = some (b ++ enc r, 0) := by
    intro hs
    simp only [utf_Put.j0]
    rw [if_neg (by simp)]
    unfold enc
    by_cases h2 : r < 128
    · rw [if_pos h2, if_pos (by omega), if_pos h2, show r % 256 = r by omega]
    rw [if_neg h2, if_neg h2]
    by_cases h3 : r < 2048
    · rw [if_pos h3, if_pos (by omega), if_pos h3]
      refine ob rfl ?_
      rw [if_pos (by rw [List.length_append]; simp; omega), tail_byte, show r / 64 % 256 = r / 64 by omega, u8_or192 (r / 64) (by omega) (by omega), List.append_assoc]
      rfl
    rw [if_neg h3, if_neg h3]
    by_cases h4 : r < 65536
    · rw [if_pos h4, if_pos h4]
      refine ob rfl ?_
      rw [if_pos (by simp; omega)]
      refine ob rfl ?_
      rw [if_pos (by rw [List.length_append]; simp; omega), tail_byte, tail_byte, show r / 4096 % 256 = r / 4096 by omega, u8_or224 (r / 4096) (by omega) (by omega), List.append_assoc]
      rfl
    · rw [if_neg h4, if_neg h4]
      refine ob rfl ?_
      rw [if_pos (by simp; omega)]
      refine ob rfl ?_
      rw [if_pos (by rw [List.length_append]; simp; omega), tail_byte, tail_byte, tail_byte, show r / 262144 % 256 = r / 262144 by omega, u8_or240 (r / 262144) (by omega) (by omega), List.append_assoc]
      rfl
  by_cases h2 : r ≥ 55296
  · rw [if_pos h2]
    by_cases h3 : r < 57344
    · rw [decide_eq_true h3, hbad, if_neg (by rw [okR_iff]; omega)]
    · rw [decide_eq_false h3, hgood (by omega), if_pos ((okR_iff r).2 (by omega))]
  · rw [if_neg h2, hgood (by omega), if_pos ((okR_iff r).2 (by omega))]
theorem text_from (l : List Int) (hl : l.length ≤ 1000000000000) : ∀ (d k i : Nat), l.length - i = d → i ≤ l.length → d + 2 ≤ k → ∀ b : List Int, b.length ≤ 4 * i →
    utf_Text.l0 k b l (l.length : Int) (i : Int) = some (strOfNums (b ++ encL (l.drop i))) := by
  intro d
  induction d with
  | zero =>
    intro k i hd hi hk b hb
    obtain ⟨k, rfl⟩ : ∃ m, k = m + 1 := ⟨k - 1, by omega⟩
    simp only [utf_Text.l0]
    rw [if_neg (by omega), List.drop_eq_nil_of_le (by omega)]
    simp [encL]
  | succ d ih =>
    intro k i hd hi hk b hb
    obtain ⟨k, rfl⟩ : ∃ m, k = m + 1 := ⟨k - 1, by omega⟩
    have hlt : i < l.length := by omega
    have ew : wrap64 ((i : Int) + 1) = ((i + 1 : Nat) : Int) := by rw [w64 (by omega) (by omega)]; omega
    have hrd : rd l (i : Int) = l[i] := by
      unfold rd
      rw [Int.toNat_natCast, List.getD_eq_getElem?_getD, List.getElem?_eq_getElem hlt]
      rfl
    simp only [utf_Text.l0]
    rw [if_pos (by omega), if_pos (by omega), if_pos (by omega)]
    refine ob (put_eq (by omega) b _ (by omega)) ?_
    rw [hrd, List.drop_eq_getElem_cons hlt, ew]
    have he := enc_len l[i]
    simp only [encL]
    by_cases h : okR l[i] = true
    · rw [if_pos h]
      dsimp only
      rw [if_pos rfl, ih k (i + 1) (by omega) (by omega) (by omega) (b ++ enc l[i]) (by rw [List.length_append]; omega), if_pos h, List.append_assoc]
    · rw [if_neg h]
      dsimp only
      rw [if_neg (by decide), ih k (i + 1) (by omega) (by omega) (by omega) b (by omega), if_neg h, List.nil_append]
theorem text_eq {k : Nat} {l : List Int} (hl : l.length ≤ 1000000000000) (hk : l.length + 2 ≤ k) : utf_Text.f k l = some (strOfNums (encL l)) := by
  unfold utf_Text.f
  have := text_from l hl l.length k 0 (by omega) (by omega) hk [] (by simp)
  simpa using this
end Go.Proofs.YtekalnhackjldaaDoor.PDecodeUnits
end
section
/- The reference's Bytes and Text are the plain ones. -/
namespace Go.Proofs.YtekalnhackjldaaDoor.PDecodeUnits
open Go.RowKit Go.Proofs.YtekalnhackjldaaDoorW.PrintWords Go.Proofs.YtekalnhackjldaaDoorW.PrintLast Go.Proofs.YtekalnhackjldaaDoorW.PrintMore
open Go.Proofs.YtekalnhackjldaaDoor.M Go.Proofs.YtekalnhackjldaaDoor.X
set_option linter.unusedVariables false
set_option linter.unusedSimpArgs false

theorem refbytes_eq {k : Nat} (hk : 1 ≤ k) (r : Int) : redpenref01_Bytes.f k r = some (if okR r = true then enc r else []) := by
  obtain ⟨k, rfl⟩ : ∃ m, k = m + 1 := ⟨k - 1, by omega⟩
  have hbad : redpenref01_Bytes.j0 (k + 1) r true = some [] := by simp only [redpenref01_Bytes.j0, ↓reduceIte]
  unfold redpenref01_Bytes.f
  by_cases h0 : r < 0
  · rw [if_pos h0, hbad, if_neg (by rw [okR_iff]; omega)]
  rw [if_neg h0]
  by_cases h1 : r > 1114111
  · rw [if_pos h1, hbad, if_neg (by rw [okR_iff]; omega)]
  rw [if_neg h1]
  have td : ∀ n : Int, Int.tdiv r n = r / n := fun n => Int.tdiv_eq_ediv_of_nonneg (by omega)
  have tm : Int.tmod r 64 = r % 64 := Int.tmod_eq_emod_of_nonneg (by omega)
  have tm2 : ∀ n : Int, 0 < n → Int.tmod (r / n) 64 = r / n % 64 := fun n hn => Int.tmod_eq_emod_of_nonneg (Int.ediv_nonneg (by omega) (by omega))
  have hgood : ¬ (55296 ≤ r ∧ r < 57344) → redpenref01_Bytes.j0 (k + 1) r false = some (enc r) := by
    intro hs
    simp only [redpenref01_Bytes.j0]
    rw [if_neg (by simp)]
    unfold enc
    by_cases h2 : r < 128
    · rw [if_pos h2, if_pos h2, show r % 256 = r by omega]
    rw [if_neg h2, if_neg h2]
    by_cases h3 : r < 2048
    · rw [if_pos h3, if_pos h3, td, tm, w32 (x := r / 64) (by omega) (by omega), w32 (x := 192 + r / 64) (by omega) (by omega), w32 (x := 128 + r % 64) (by omega) (by omega), show (192 + r / 64) % 256 = 192 + r / 64 by omega, show (128 + r % 64) % 256 = 128 + r % 64 by omega]
    rw [if_neg h3, if_neg h3]
    by_cases h4 : r < 65536
    · rw [if_pos h4, if_pos h4, td, td, tm, w32 (x := r / 64) (by omega) (by omega), tm2 64 (by omega), w32 (x := r / 4096) (by omega) (by omega), w32 (x := 224 + r / 4096) (by omega) (by omega), w32 (x := 128 + r / 64 % 64) (by omega) (by omega), w32 (x := 128 + r % 64) (by omega) (by omega), show (224 + r / 4096) % 256 = 224 + r / 4096 by omega, show (128 + r / 64 % 64) % 256 = 128 + r / 64 % 64 by omega, show (128 + r % 64) % 256 = 128 + r % 64 by omega]
    · rw [if_neg h4, if_neg h4, td, td, td, tm, w32 (x := r / 64) (by omega) (by omega), tm2 64 (by omega), w32 (x := r / 4096) (by omega) (by omega), tm2 4096 (by omega), w32 (x := r / 262144) (by omega) (by omega), w32 (x := 240 + r / 262144) (by omega) (by omega), w32 (x := 128 + r / 4096 % 64) (by omega) (by omega), w32 (x := 128 + r / 64 % 64) (by omega) (by omega), w32 (x := 128 + r % 64) (by omega) (by omega), show (240 + r / 262144) % 256 = 240 + r / 262144 by omega, show (128 + r / 4096 % 64) % 256 = 128 + r / 4096 % 64 by omega, show (128 + r / 64 % 64) % 256 = 128 + r / 64 % 64 by omega, show (128 + r % 64) % 256 = 128 + r % 64 by omega]
  by_cases h2 : r ≥ 55296
  · rw [if_pos h2]
    by_cases h3 : r ≤ 57343
    · rw [decide_eq_true h3, hbad, if_neg (by rw [okR_iff]; omega)]
    · rw [decide_eq_false h3, hgood (by omega), if_pos ((okR_iff r).2 (by omega))]
  · rw [if_neg h2, hgood (by omega), if_pos ((okR_iff r).2 (by omega))]
theorem reftext_from (l : List Int) (hl : l.length ≤ 1000000000000) : ∀ (d k i : Nat), l.length - i = d → i ≤ l.length → d + 2 ≤ k → ∀ b : List Int, b.length ≤ 4 * i →
    redpenref01_Text.l0 k l b (i : Int) = some (strOfNums (b ++ encL (l.drop i))) := by
  intro d
  induction d with
  | zero =>
    intro k i hd hi hk b hb
    obtain ⟨k, rfl⟩ : ∃ m, k = m + 1 := ⟨k - 1, by omega⟩
    simp only [redpenref01_Text.l0]
    rw [if_neg (by omega), List.drop_eq_nil_of_le (by omega)]
    simp [encL]
  | succ d ih =>
    intro k i hd hi hk b hb
    obtain ⟨k, rfl⟩ : ∃ m, k = m + 1 := ⟨k - 1, by omega⟩
    have hlt : i < l.length := by omega
    have ew : wrap64 ((i : Int) + 1) = ((i + 1 : Nat) : Int) := by rw [w64 (by omega) (by omega)]; omega
    have hrd : rd l (i : Int) = l[i] := by
      unfold rd
      rw [Int.toNat_natCast, List.getD_eq_getElem?_getD, List.getElem?_eq_getElem hlt]
      rfl
    have he := enc_len l[i]
    simp only [redpenref01_Text.l0]
    rw [if_pos (by omega), if_pos (by omega)]
    refine ob (refbytes_eq (by omega) _) ?_
    rw [hrd, List.drop_eq_getElem_cons hlt, ew]
    simp only [encL]
    by_cases h : okR l[i] = true
    · rw [if_pos h, if_pos (by omega), ih k (i + 1) (by omega) (by omega) (by omega) (b ++ enc l[i]) (by rw [List.length_append]; omega), List.append_assoc]
    · rw [if_neg h, if_pos (by rw [List.length_nil]; omega), List.append_nil, ih k (i + 1) (by omega) (by omega) (by omega) b (by omega), List.nil_append]
theorem reftext_eq {k : Nat} {l : List Int} (hl : l.length ≤ 1000000000000) (hk : l.length + 2 ≤ k) : redpenref01_Text.f k l = some (strOfNums (encL l)) := by
  unfold redpenref01_Text.f
  have := reftext_from l hl l.length k 0 (by omega) (by omega) hk [] (by simp)
  simpa using this
end Go.Proofs.YtekalnhackjldaaDoor.PDecodeUnits
end
section
/- The printed decode.Text and decode.Literal, and the document's, are the plain ones. -/
namespace Go.Proofs.YtekalnhackjldaaDoor.Pure
open Go.RowKit Go.Proofs.YtekalnhackjldaaDoor.PDecodeUnits Go.Proofs.YtekalnhackjldaaDoorW.PrintWords Go.Proofs.YtekalnhackjldaaDoorW.PrintLast
open Go.Proofs.YtekalnhackjldaaDoor.M Go.Proofs.YtekalnhackjldaaDoor.X
set_option linter.unusedVariables false
set_option linter.unusedSimpArgs false

/-- The runes of signs. -/
def runesOf (u : List S45) : List Int := u.map (·.f0)
theorem runesOf_len (u : List S45) : (runesOf u).length = u.length := by simp [runesOf]
theorem rd_unit (u : List S45) (i : Int) : (rd_T45 u i).f0 = rd (runesOf u) i := by
  unfold rd_T45 rd runesOf
  rw [List.getD_eq_getElem?_getD, List.getD_eq_getElem?_getD, List.getElem?_map]
  cases u[i.toNat]? <;> rfl
theorem dtext_from (l : List S45) (hl : l.length < 1000000000) : ∀ (d i : Nat), l.length - i = d → i ≤ l.length → Ev (fun f => decode_Text.l0 f ((runesOf l).take i) l (l.length : Int) (i : Int)) (strOfNums (encL (runesOf l))) := by
  intro d
  induction d with
  | zero =>
    intro i hd hi
    refine Ev.step (f := fun f => (utf_Text.f f (runesOf l)).bind fun t => some t) (fun f => ?_) (Ev.bind (a := strOfNums (encL (runesOf l))) ⟨(runesOf l).length + 2, fun k hk => text_eq (by rw [runesOf_len]; omega) hk⟩ (Ev.now _))
    simp only [decode_Text.l0]
    rw [if_neg (by omega), List.take_of_length_le (by rw [runesOf_len]; omega)]
  | succ d ih =>
    intro i hd hi
    have hlt : i < (runesOf l).length := by rw [runesOf_len]; omega
    refine Ev.step (f := fun f => decode_Text.l0 f ((runesOf l).take (i + 1)) l (l.length : Int) ((i + 1 : Nat) : Int)) (fun f => ?_) (ih (i + 1) (by omega) (by omega))
    simp only [decode_Text.l0]
    rw [if_pos (by omega), if_pos (by omega), if_pos (by omega), if_pos (by rw [List.length_take, runesOf_len]; omega), rd_unit, show wrap64 ((i : Int) + 1) = ((i + 1 : Nat) : Int) by rw [w64 (by omega) (by omega)]; omega]
    have e : (runesOf l).take i ++ [rd (runesOf l) (i : Int)] = (runesOf l).take (i + 1) := by
      rw [List.take_succ_eq_append_getElem hlt]
      unfold rd
      rw [Int.toNat_natCast, List.getD_eq_getElem?_getD, List.getElem?_eq_getElem hlt]
      rfl
    rw [e]
theorem dtext_eq (l : List S45) (hl : l.length < 1000000000) : Ev (fun f => decode_Text.f f l) (strOfNums (encL (runesOf l))) := dtext_from l hl _ 0 rfl (by omega)
theorem rtext_from (l : List S45) (hl : l.length < 1000000000) : ∀ (d i : Nat), l.length - i = d → i ≤ l.length → Ev (fun f => redpenref15_Text.l0 f l ((runesOf l).take i) (i : Int)) (strOfNums (encL (runesOf l))) := by
  intro d
  induction d with
  | zero =>
    intro i hd hi
    refine Ev.step (f := fun f => (redpenref01_Text.f f (runesOf l)).bind fun t => some t) (fun f => ?_) (Ev.bind (a := strOfNums (encL (runesOf l))) ⟨(runesOf l).length + 2, fun k hk => reftext_eq (by rw [runesOf_len]; omega) hk⟩ (Ev.now _))
    simp only [redpenref15_Text.l0]
    rw [if_neg (by omega), List.take_of_length_le (by rw [runesOf_len]; omega)]
  | succ d ih =>
    intro i hd hi
    have hlt : i < (runesOf l).length := by rw [runesOf_len]; omega
    refine Ev.step (f := fun f => redpenref15_Text.l0 f l ((runesOf l).take (i + 1)) ((i + 1 : Nat) : Int)) (fun f => ?_) (ih (i + 1) (by omega) (by omega))
    simp only [redpenref15_Text.l0]
    rw [if_pos (by omega), if_pos (by omega), if_pos (by rw [List.length_take, runesOf_len]; omega), rd_unit, show wrap64 ((i : Int) + 1) = ((i + 1 : Nat) : Int) by rw [w64 (by omega) (by omega)]; omega]
    have e : (runesOf l).take i ++ [rd (runesOf l) (i : Int)] = (runesOf l).take (i + 1) := by
      rw [List.take_succ_eq_append_getElem hlt]
      unfold rd
      rw [Int.toNat_natCast, List.getD_eq_getElem?_getD, List.getElem?_eq_getElem hlt]
      rfl
    rw [e]
theorem rtext_eq (l : List S45) (hl : l.length < 1000000000) : Ev (fun f => redpenref15_Text.f f l) (strOfNums (encL (runesOf l))) := rtext_from l hl _ 0 rfl (by omega)
/-- From where signs stand, and up to where. -/
def litFrom (l : List S45) : Int := (rd_T45 l 0).f1.f0
def litTo (l : List S45) : Int := wrap64 ((rd_T45 l ((l.length : Int) - 1)).f1.f0 + (rd_T45 l ((l.length : Int) - 1)).f1.f1)
/-- Do signs stand in bytes as they are? -/
def litM (b : List Int) (l : List S45) : Bool :=
  if l.length = 0 then true else if 0 ≤ litFrom l ∧ litFrom l ≤ litTo l ∧ litTo l ≤ (b.length : Int) then (strOfNums ((b.take (litTo l).toNat).drop (litFrom l).toNat)).toList == (strOfNums (encL (runesOf l))).toList else false
theorem dlit_eq (b : List Int) (l : List S45) (hl : l.length < 1000000000) : Ev (fun f => decode_Literal.f f b l) (litM b l) := by
  by_cases h0 : l.length = 0
  · refine Ev.congr (f := fun _ => some true) (fun f => ?_) (by rw [show litM b l = true by unfold litM; rw [if_pos h0]]; exact Ev.now _)
    unfold decode_Literal.f
    rw [if_pos (by omega)]
  · have eL : wrap64 ((l.length : Int) - 1) = (l.length : Int) - 1 := w64 (by omega) (by omega)
    have head : ∀ f, decode_Literal.f f b l = if litFrom l ≥ 0 then (if litTo l ≥ litFrom l then (if litTo l ≤ (b.length : Int) then (if 0 ≤ litFrom l then (if litFrom l ≤ litTo l then ((decode_Text.f f l).bind fun t => some ((strOfNums ((b.take (litTo l).toNat).drop (litFrom l).toNat)).toList == t.toList)) else none) else none) else some false) else some false) else some false := by
      intro f
      unfold decode_Literal.f
      rw [eL, if_neg (by omega), if_pos (by omega), if_pos (by omega), if_pos (by omega)]
      rfl
    by_cases h1 : 0 ≤ litFrom l ∧ litFrom l ≤ litTo l ∧ litTo l ≤ (b.length : Int)
    · refine Ev.congr (f := fun f => (decode_Text.f f l).bind fun t => some ((strOfNums ((b.take (litTo l).toNat).drop (litFrom l).toNat)).toList == t.toList)) (fun f => ?_) (Ev.bind (dtext_eq l hl) (by rw [show litM b l = _ by unfold litM; rw [if_neg h0, if_pos h1]]; exact Ev.now _))
      rw [head, if_pos (by omega), if_pos (by omega), if_pos (by omega), if_pos (by omega), if_pos (by omega)]
    · refine Ev.congr (f := fun _ => some false) (fun f => ?_) (by rw [show litM b l = false by unfold litM; rw [if_neg h0, if_neg h1]]; exact Ev.now _)
      rw [head]
      by_cases g0 : litFrom l ≥ 0
      · rw [if_pos g0]
        by_cases g1 : litTo l ≥ litFrom l
        · rw [if_pos g1, if_neg (by omega)]
        · rw [if_neg g1]
      · rw [if_neg g0]
theorem rlit_eq (b : List Int) (l : List S45) (hl : l.length < 1000000000) : Ev (fun f => redpenref15_Literal.f f b l) (litM b l) := by
  by_cases h0 : l.length = 0
  · refine Ev.congr (f := fun _ => some true) (fun f => ?_) (by rw [show litM b l = true by unfold litM; rw [if_pos h0]]; exact Ev.now _)
    unfold redpenref15_Literal.f
    rw [if_pos (by omega)]
  · have eL : wrap64 ((l.length : Int) - 1) = (l.length : Int) - 1 := w64 (by omega) (by omega)
    have head : ∀ f, redpenref15_Literal.f f b l = if litFrom l ≥ 0 then (if litFrom l ≤ litTo l then (if litTo l ≤ (b.length : Int) then (if 0 ≤ litFrom l then ((redpenref15_Text.f f l).bind fun t => some ((strOfNums ((b.take (litTo l).toNat).drop (litFrom l).toNat)).toList == t.toList)) else none) else some false) else some false) else some false := by
      intro f
      unfold redpenref15_Literal.f
      rw [eL, if_neg (by omega), if_pos (by omega), if_pos (by omega), if_pos (by omega)]
      rfl
    by_cases h1 : 0 ≤ litFrom l ∧ litFrom l ≤ litTo l ∧ litTo l ≤ (b.length : Int)
    · refine Ev.congr (f := fun f => (redpenref15_Text.f f l).bind fun t => some ((strOfNums ((b.take (litTo l).toNat).drop (litFrom l).toNat)).toList == t.toList)) (fun f => ?_) (Ev.bind (rtext_eq l hl) (by rw [show litM b l = _ by unfold litM; rw [if_neg h0, if_pos h1]]; exact Ev.now _))
      rw [head, if_pos (by omega), if_pos (by omega), if_pos (by omega), if_pos (by omega)]
    · refine Ev.congr (f := fun _ => some false) (fun f => ?_) (by rw [show litM b l = false by unfold litM; rw [if_neg h0, if_neg h1]]; exact Ev.now _)
      rw [head]
      by_cases g0 : litFrom l ≥ 0
      · rw [if_pos g0]
        by_cases g1 : litFrom l ≤ litTo l
        · rw [if_pos g1, if_neg (by omega)]
        · rw [if_neg g1]
      · rw [if_neg g0]
end Go.Proofs.YtekalnhackjldaaDoor.Pure
end
