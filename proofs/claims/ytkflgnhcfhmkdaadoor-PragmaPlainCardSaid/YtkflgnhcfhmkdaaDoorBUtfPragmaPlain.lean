/- The printed functions of utf are the plain ones: utf.Next, utf.Units. -/
import Derived.Test.YtkflgnhcfhmkdaaDoorPPragmaPlainx
import Derived.Test.YtkflgnhcfhmkdaaDoorMStr
namespace Go.Proofs.YtkflgnhcfhmkdaaDoor.PPragmaPlain
open Go.RowKit Go.Proofs.YtkflgnhcfhmkdaaDoorW.PrintWords Go.Proofs.YtkflgnhcfhmkdaaDoorW.PrintLast Go.Proofs.YtkflgnhcfhmkdaaDoorW.PrintMore
open Go.Proofs.YtkflgnhcfhmkdaaDoor.M
set_option linter.unusedVariables false
set_option linter.unusedSimpArgs false

theorem first_a (m : Nat) {c : Int} (h0 : 0 ≤ c) (h : c < 128) : utf_first.f m c = some (c, 0, 0, true) := by
  unfold utf_first.f
  rw [if_pos h, w32 (x := c) (by omega) (by omega)]
theorem first_b (m : Nat) {c : Int} (h0 : 194 ≤ c) (h1 : c < 224) : utf_first.f (m + 1 + 1) c = some (c - 192, 1, 128, true) := by
  unfold utf_first.f
  rw [if_neg (by omega), if_pos h0]
  simp only [utf_first.j0]
  rw [if_pos (decide_eq_true h1), u8_and31 c (by omega) (by omega), w32 (x := c % 32) (by omega) (by omega)]
  congr 2; omega
theorem first_c (m : Nat) {c : Int} (h0 : 224 ≤ c) (h1 : c < 240) : utf_first.f (m + 1 + 1) c = some (c - 224, 2, 2048, true) := by
  unfold utf_first.f
  rw [if_neg (by omega), if_pos (by omega)]
  simp only [utf_first.j0, utf_first.j1]
  rw [if_neg (by rw [decide_eq_true_eq]; omega), if_pos h0, if_pos (decide_eq_true h1), u8_and15 c (by omega) (by omega), w32 (x := c % 16) (by omega) (by omega)]
  congr 2; omega
theorem first_d (m : Nat) {c : Int} (h0 : 240 ≤ c) (h1 : c < 245) : utf_first.f (m + 1 + 1) c = some (c - 240, 3, 65536, true) := by
  unfold utf_first.f
  rw [if_neg (by omega), if_pos (by omega)]
  simp only [utf_first.j0, utf_first.j1]
  rw [if_neg (by rw [decide_eq_true_eq]; omega), if_pos (by omega), if_neg (by rw [decide_eq_true_eq]; omega), if_pos h0, if_pos h1, u8_and7 c (by omega) (by omega), w32 (x := c % 8) (by omega) (by omega)]
  congr 2; omega
theorem first_e (m : Nat) {c : Int} (h0 : 128 ≤ c) (h : c < 194 ∨ 245 ≤ c) : utf_first.f (m + 1 + 1) c = some (0, 0, 0, false) := by
  unfold utf_first.f
  rw [if_neg (by omega)]
  by_cases h1 : c ≥ 194
  · rw [if_pos h1]
    simp only [utf_first.j0, utf_first.j1]
    rw [if_neg (by rw [decide_eq_true_eq]; omega), if_pos (by omega), if_neg (by rw [decide_eq_true_eq]; omega), if_pos (by omega), if_neg (by omega)]
  · rw [if_neg h1]
    simp only [utf_first.j0, utf_first.j1]
    rw [if_neg (by simp)]
    by_cases h2 : c ≥ 224
    · omega
    · rw [if_neg h2, if_neg (by simp), if_neg (by omega)]
theorem step_T (k : Nat) (r more least c : Int) (l : List Int) (n i : Int) (hi : 0 ≤ i) (hn : i < n) (hl : i < (l.length : Int)) (hc : rd l i = c) (h0 : 0 ≤ c) (h1 : c < 256) (hr0 : 0 ≤ r) (hr : r < 33554432) (hi' : i < 1000) :
    utf_Next.l0 (k + 1) r more least l n i = if isT c = true then utf_Next.l0 k (r * 64 + (c - 128)) more least l n (i + 1) else some (-1, 1) := by
  have e1 : Go.bits .and .u8 c 192 = c / 64 * 64 := by
    have : ∀ x : Fin 256, Go.bits .and .u8 ((x.val : Nat) : Int) 192 = ((x.val : Nat) : Int) / 64 * 64 := by decide +kernel
    have h := this ⟨c.toNat, by omega⟩
    simpa [Int.toNat_of_nonneg h0] using h
  simp only [utf_Next.l0]
  rw [if_pos hn, if_pos hi, if_pos hl, hc, e1]
  by_cases hT : isT c = true
  · have hT' := (isT_iff c).1 hT
    rw [if_pos (by omega), if_pos hT, u8_and63 c h0 h1, w32 (x := r * 64) (by omega) (by omega), w32 (x := c % 64) (by omega) (by omega), i32_or6 (r * 64) (c % 64) (by omega) (by omega) (by omega) (by omega) (by omega), w64 (x := i + 1) (by omega) (by omega)]
    congr 1; omega
  · have hT' : ¬ (128 ≤ c ∧ c < 192) := fun h => hT ((isT_iff c).2 h)
    rw [if_neg (by omega), if_neg hT]
theorem end_T (k : Nat) (r more least : Int) (l : List Int) (n : Int) (hr : least ≤ r) (hr1 : r ≤ 1114111) (hs : ¬ (55296 ≤ r ∧ r < 57344)) (hm0 : 0 ≤ more) (hm : more < 10) :
    utf_Next.l0 (k + 1) r more least l n n = some (r, 1 + more) := by
  simp only [utf_Next.l0]
  rw [if_neg (by omega), if_neg (by omega), if_neg (by omega), w64 (x := 1 + more) (by omega) (by omega)]
  by_cases h : r ≥ 55296
  · rw [if_pos h, if_neg (by omega)]
  · rw [if_neg h]
theorem end_F (k : Nat) (r more least : Int) (l : List Int) (n : Int) (h : r < least ∨ 1114111 < r ∨ (55296 ≤ r ∧ r < 57344)) :
    utf_Next.l0 (k + 1) r more least l n n = some (-1, 1) := by
  simp only [utf_Next.l0]
  rw [if_neg (by omega)]
  by_cases h1 : r < least
  · rw [if_pos h1]
  · rw [if_neg h1]
    by_cases h2 : r > 1114111
    · rw [if_pos h2]
    · rw [if_neg h2, if_pos (by omega), if_pos (by omega)]
theorem j0_short (k : Nat) (b : List Int) (r more least : Int) : utf_Next.j0 (k + 1) b r more least true = some (-1, 1) := by
  simp only [utf_Next.j0, ↓reduceIte]
theorem j0_long (k : Nat) (b : List Int) (r more least : Int) (hm0 : 0 ≤ more) (hn : more < (b.length : Int)) (hn' : more < 10) :
    utf_Next.j0 (k + 1) b r more least false = utf_Next.l0 k r more least ((b.take (more.toNat + 1)).drop 1) more 0 := by
  simp only [utf_Next.j0]
  have e : wrap64 (1 + more) = 1 + more := w64 (by omega) (by omega)
  have e3 : (1 + more).toNat = more.toNat + 1 := by omega
  have e2 : (((b.take (more.toNat + 1)).drop 1).length : Int) = more := by rw [List.length_drop, List.length_take]; omega
  rw [if_neg (by simp), e, if_pos (by omega), if_pos (by omega), e3]
  simp only [Option.bind_some]
  rw [e2]
theorem next_eq {k : Nat} (hk : 6 ≤ k) {b : List Int} (hB : BT b) : utf_Next.f k b = some (nx b) := by
  obtain ⟨m, rfl⟩ : ∃ m, k = m + 1 + 1 + 1 + 1 + 1 + 1 := ⟨k - 6, by omega⟩
  rcases b with _ | ⟨c, t⟩
  · rfl
  have hc := hB.head
  have hl : (((c :: t).length : Nat) : Int) = t.length + 1 := by simp
  unfold utf_Next.f
  rw [if_neg (by rw [hl]; omega), if_pos (by rw [hl]; omega), show rd (c :: t) 0 = c from rfl]
  by_cases h1 : c < 128
  · rw [first_a _ hc.1 h1]
    simp only [Option.bind_some, ↓reduceIte]
    rw [decide_eq_false (by rw [hl]; omega), j0_long (m + 1 + 1 + 1 + 1 + 1) (c :: t) c 0 0 (by omega) (by rw [hl]; omega) (by omega), end_T (m + 1 + 1 + 1 + 1) c 0 0 _ 0 hc.1 (by omega) (by omega) (by omega) (by omega)]
    simp [nx, h1]
  by_cases h2 : 194 ≤ c ∧ c < 224
  · rw [first_b (m + 1 + 1 + 1 + 1) h2.1 h2.2]
    simp only [Option.bind_some, ↓reduceIte]
    rcases t with _ | ⟨c1, t⟩
    · rw [decide_eq_true (by simp), j0_short]; simp [nx, h1, h2]
    · have b1 := hB.tail.head
      rw [decide_eq_false (by simp; omega), j0_long (m + 1 + 1 + 1 + 1 + 1) (c :: c1 :: t) (c - 192) 1 128 (by omega) (by simp; omega) (by omega)]
      rw [show ((c :: c1 :: t).take ((1 : Int).toNat + 1)).drop 1 = [c1] from rfl]
      rw [step_T (m + 1 + 1 + 1 + 1) (c - 192) 1 128 c1 [c1] 1 0 (by omega) (by omega) (by simp) rfl b1.1 b1.2 (by omega) (by omega) (by omega)]
      by_cases hT : isT c1 = true
      · have := (isT_iff c1).1 hT
        rw [if_pos hT, show (0 : Int) + 1 = 1 from rfl, end_T (m + 1 + 1 + 1) ((c - 192) * 64 + (c1 - 128)) 1 128 [c1] 1 (by omega) (by omega) (by omega) (by omega) (by omega)]
        simp [nx, h1, h2, hT, v2]
      · rw [if_neg hT]; simp [nx, h1, h2, hT]
  by_cases h3 : 224 ≤ c ∧ c < 240
  · rw [first_c (m + 1 + 1 + 1 + 1) h3.1 h3.2]
    simp only [Option.bind_some, ↓reduceIte]
    rcases t with _ | ⟨c1, _ | ⟨c2, t⟩⟩
    · rw [decide_eq_true (by simp), j0_short]; simp [nx, h1, h2, h3]
    · rw [decide_eq_true (by simp), j0_short]; simp [nx, h1, h2, h3]
    · have b1 := hB.tail.head
      have b2 := hB.tail.tail.head
      rw [decide_eq_false (by simp; omega), j0_long (m + 1 + 1 + 1 + 1 + 1) (c :: c1 :: c2 :: t) (c - 224) 2 2048 (by omega) (by simp; omega) (by omega)]
      rw [show ((c :: c1 :: c2 :: t).take ((2 : Int).toNat + 1)).drop 1 = [c1, c2] from rfl]
      rw [step_T (m + 1 + 1 + 1 + 1) (c - 224) 2 2048 c1 [c1, c2] 2 0 (by omega) (by omega) (by simp) rfl b1.1 b1.2 (by omega) (by omega) (by omega)]
      simp only [nx]
      rw [if_neg h1, if_neg h2, if_pos h3]
      by_cases hT : isT c1 = true
      · have t1 := (isT_iff c1).1 hT
        rw [if_pos hT, step_T (m + 1 + 1 + 1) ((c - 224) * 64 + (c1 - 128)) 2 2048 c2 [c1, c2] 2 (0 + 1) (by omega) (by omega) (by simp) rfl b2.1 b2.2 (by omega) (by omega) (by omega)]
        by_cases hT2 : isT c2 = true
        · have t2 := (isT_iff c2).1 hT2
          rw [if_pos hT2, show (0 : Int) + 1 + 1 = 2 from rfl]
          by_cases hv : 2048 ≤ v3 c c1 c2 ∧ ¬ (55296 ≤ v3 c c1 c2 ∧ v3 c c1 c2 < 57344)
          · rw [if_pos ⟨hT, hT2, hv.1, hv.2⟩]
            exact end_T (m + 1 + 1) (v3 c c1 c2) 2 2048 [c1, c2] 2 hv.1 (by unfold v3; omega) hv.2 (by omega) (by omega)
          · rw [if_neg (fun h => hv h.2.2)]
            exact end_F (m + 1 + 1) (v3 c c1 c2) 2 2048 [c1, c2] 2 (by omega)
        · rw [if_neg hT2, if_neg (fun h => hT2 h.2.1)]
      · rw [if_neg hT, if_neg (fun h => hT h.1)]
  by_cases h4 : 240 ≤ c ∧ c < 245
  · rw [first_d (m + 1 + 1 + 1 + 1) h4.1 h4.2]
    simp only [Option.bind_some, ↓reduceIte]
    rcases t with _ | ⟨c1, _ | ⟨c2, _ | ⟨c3, t⟩⟩⟩
    · rw [decide_eq_true (by simp), j0_short]; simp [nx, h1, h2, h3, h4]
    · rw [decide_eq_true (by simp), j0_short]; simp [nx, h1, h2, h3, h4]
    · rw [decide_eq_true (by simp), j0_short]; simp [nx, h1, h2, h3, h4]
    · have b1 := hB.tail.head
      have b2 := hB.tail.tail.head
      have b3 := hB.tail.tail.tail.head
      rw [decide_eq_false (by simp; omega), j0_long (m + 1 + 1 + 1 + 1 + 1) (c :: c1 :: c2 :: c3 :: t) (c - 240) 3 65536 (by omega) (by simp; omega) (by omega)]
      rw [show ((c :: c1 :: c2 :: c3 :: t).take ((3 : Int).toNat + 1)).drop 1 = [c1, c2, c3] from rfl]
      rw [step_T (m + 1 + 1 + 1 + 1) (c - 240) 3 65536 c1 [c1, c2, c3] 3 0 (by omega) (by omega) (by simp) rfl b1.1 b1.2 (by omega) (by omega) (by omega)]
      simp only [nx]
      rw [if_neg h1, if_neg h2, if_neg h3, if_pos h4]
      by_cases hT : isT c1 = true
      · have t1 := (isT_iff c1).1 hT
        rw [if_pos hT, step_T (m + 1 + 1 + 1) ((c - 240) * 64 + (c1 - 128)) 3 65536 c2 [c1, c2, c3] 3 (0 + 1) (by omega) (by omega) (by simp) rfl b2.1 b2.2 (by omega) (by omega) (by omega)]
        by_cases hT2 : isT c2 = true
        · have t2 := (isT_iff c2).1 hT2
          rw [if_pos hT2, step_T (m + 1 + 1) (((c - 240) * 64 + (c1 - 128)) * 64 + (c2 - 128)) 3 65536 c3 [c1, c2, c3] 3 (0 + 1 + 1) (by omega) (by omega) (by simp) rfl b3.1 b3.2 (by omega) (by omega) (by omega)]
          by_cases hT3 : isT c3 = true
          · have t3 := (isT_iff c3).1 hT3
            rw [if_pos hT3, show (0 : Int) + 1 + 1 + 1 = 3 from rfl]
            by_cases hv : 65536 ≤ v4 c c1 c2 c3 ∧ v4 c c1 c2 c3 ≤ 1114111
            · rw [if_pos ⟨hT, hT2, hT3, hv.1, hv.2⟩]
              exact end_T (m + 1) (v4 c c1 c2 c3) 3 65536 [c1, c2, c3] 3 hv.1 hv.2 (by omega) (by omega) (by omega)
            · rw [if_neg (fun h => hv h.2.2.2)]
              exact end_F (m + 1) (v4 c c1 c2 c3) 3 65536 [c1, c2, c3] 3 (by omega)
          · rw [if_neg hT3, if_neg (fun h => hT3 h.2.2.1)]
        · rw [if_neg hT2, if_neg (fun h => hT2 h.2.1)]
      · rw [if_neg hT, if_neg (fun h => hT h.1)]
  · rw [first_e (m + 1 + 1 + 1 + 1) (by omega) (by omega)]
    simp only [Option.bind_some]
    rw [if_neg (by simp), j0_short]
    simp [nx, h1, h2, h3, h4]

/-- Signs with their places. -/
def mkU : Int → List (Int × Int) → List S73
  | _, [] => []
  | at_, (r, n) :: l => ⟨r, ⟨at_, n⟩⟩ :: mkU (at_ + n) l
theorem mkU_len (a : Int) (l : List (Int × Int)) : (mkU a l).length = l.length := by
  induction l generalizing a with
  | nil => rfl
  | cons x l ih => simp [mkU, ih]
theorem mkU_get (a : Int) (l : List (Int × Int)) (i : Nat) (h : i < l.length) : (mkU a l).getD i z73 = ⟨(l.getD i (0, 0)).1, ⟨a + pos l i, (l.getD i (0, 0)).2⟩⟩ := by
  induction l generalizing a i with
  | nil => simp at h
  | cons x l ih =>
    cases i with
    | zero => simp [mkU, pos]
    | succ i =>
      have := ih (a + x.2) i (by simpa using h)
      simp only [mkU, List.getD_cons_succ, this, pos_cons]
      congr 2
      omega
theorem units_from {b : List Int} (hB : BT b) (hlen : b.length < 5864062014805) : ∀ (d k at_ : Nat) (acc : List S73), b.length - at_ = d → at_ ≤ b.length → d + 7 ≤ k → acc.length ≤ at_ →
    utf_Units.l0 k b acc at_ = some (acc ++ mkU at_ (us (b.drop at_))) := by
  intro d
  induction d using Nat.strongRecOn with
  | _ d ih =>
    intro k at_ acc hd ha hk hac
    obtain ⟨k, rfl⟩ : ∃ m, k = m + 1 := ⟨k - 1, by omega⟩
    simp only [utf_Units.l0]
    by_cases he : at_ < b.length
    · have hne : b.drop at_ ≠ [] := by
        intro h; have := congrArg List.length h; rw [List.length_drop] at this; simp at this; omega
      have hl := nx_len hne
      rw [List.length_drop] at hl
      rw [if_pos (by omega), if_pos (by omega), if_pos (by omega), Int.toNat_natCast, next_eq (by omega) (hB.drop _)]
      simp only [Option.bind_some]
      have e : wrap64 ((at_ : Int) + (nx (b.drop at_)).2) = ((at_ + (nx (b.drop at_)).2.toNat : Nat) : Int) := by
        rw [w64 (by omega) (by omega)]; omega
      rw [if_pos (by omega), e, ih (d - (nx (b.drop at_)).2.toNat) (by omega) k _ _ (by omega) (by omega) (by omega) (by rw [List.length_append]; simp; omega), us_cons hne, List.drop_drop, List.append_assoc]
      simp only [mkU, List.singleton_append]
      congr 4
      omega
    · rw [if_neg (by omega), show b.drop at_ = [] from List.drop_eq_nil_of_le (by omega)]
      simp [us_nil, mkU]
theorem units_eq {b : List Int} (hB : BT b) (hlen : b.length < 5864062014805) {k : Nat} (hk : b.length + 7 ≤ k) : utf_Units.f k b = some (mkU 0 (us b)) := by
  unfold utf_Units.f
  have := units_from hB hlen b.length k 0 [] (by omega) (by omega) (by omega) (by simp)
  simpa using this
end Go.Proofs.YtkflgnhcfhmkdaaDoor.PPragmaPlain
