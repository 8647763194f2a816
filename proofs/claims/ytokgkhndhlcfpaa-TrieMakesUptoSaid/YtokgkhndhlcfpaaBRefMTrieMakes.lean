/- The reference's Next, Units, SameUnits, Runes, Bytes and Text are the plain ones. -/
import Derived.Test.YtokgkhndhlcfpaaBUtfTrieMakes
namespace Go.Proofs.Ytokgkhndhlcfpaa.PTrieMakes
open Go.RowKit Go.Proofs.YtokgkhndhlcfpaaW.PrintWords Go.Proofs.YtokgkhndhlcfpaaW.PrintLast Go.Proofs.YtokgkhndhlcfpaaW.PrintMore
open Go.Proofs.Ytokgkhndhlcfpaa.M Go.Proofs.Ytokgkhndhlcfpaa.X
set_option linter.unusedVariables false
set_option linter.unusedSimpArgs false

theorem rtail_yes (b : List Int) (i c : Int) (hi : 0 ≤ i) (hl : i < (b.length : Int)) (hc : rd b i = c) : redpenref01_tail.f b i = some (isT c) := by
  unfold redpenref01_tail.f
  rw [if_pos hl, if_pos hi, hc]
  unfold isT
  by_cases h : c ≥ 128
  · rw [if_pos h, decide_eq_true (p := 128 ≤ c) h, Bool.true_and]
  · rw [if_neg h, decide_eq_false (p := 128 ≤ c) h, Bool.false_and]
theorem rtail_no (b : List Int) (i : Int) (hl : (b.length : Int) ≤ i) : redpenref01_tail.f b i = some false := by
  unfold redpenref01_tail.f
  rw [if_neg (by omega)]
theorem rj4_no (k : Nat) (b : List Int) (c : Int) : redpenref01_Next.j4 (k + 1) b c false = some (-1, 1) := by
  simp only [redpenref01_Next.j4]; rw [if_neg (by simp)]
theorem rj3_out (k : Nat) (b : List Int) (c : Int) (h : c < 240 ∨ 248 ≤ c) : redpenref01_Next.j3 (k + 1 + 1) b c = some (-1, 1) := by
  simp only [redpenref01_Next.j3]
  by_cases h1 : c ≥ 240
  · rw [if_pos h1, if_neg (by omega), rj4_no]
  · rw [if_neg h1, rj4_no]
theorem rj2_no (k : Nat) (b : List Int) (c : Int) : redpenref01_Next.j2 (k + 1) b c false = redpenref01_Next.j3 k b c := by
  simp only [redpenref01_Next.j2]; rw [if_neg (by simp)]
theorem rj1_out (k : Nat) (b : List Int) (c : Int) (h : c < 224 ∨ 240 ≤ c) : redpenref01_Next.j1 (k + 1 + 1) b c = redpenref01_Next.j3 k b c := by
  simp only [redpenref01_Next.j1]
  by_cases h1 : c ≥ 224
  · rw [if_pos h1, if_neg (by omega), rj2_no]
  · rw [if_neg h1, rj2_no]
theorem rj0_no (k : Nat) (b : List Int) (c : Int) : redpenref01_Next.j0 (k + 1) b c false = redpenref01_Next.j1 k b c := by
  simp only [redpenref01_Next.j0]; rw [if_neg (by simp)]
theorem refnext_eq {k : Nat} (hk : 6 ≤ k) {b : List Int} (hB : BT b) : redpenref01_Next.f k b = some (nx b) := by
  obtain ⟨m, rfl⟩ : ∃ m, k = m + 1 + 1 + 1 + 1 + 1 + 1 := ⟨k - 6, by omega⟩
  rcases b with _ | ⟨c, t⟩
  · rfl
  have hc := hB.head
  have hl : (((c :: t).length : Nat) : Int) = t.length + 1 := by simp
  unfold redpenref01_Next.f
  rw [if_neg (by rw [hl]; omega), if_pos (by rw [hl]; omega), show rd (c :: t) 0 = c from rfl, w32 (x := c) (by omega) (by omega)]
  by_cases h1 : c < 128
  · rw [if_pos h1]; simp [nx, h1]
  rw [if_neg h1]
  by_cases h2 : 194 ≤ c ∧ c < 224
  · rw [if_pos (by omega), if_pos (by omega)]
    rcases t with _ | ⟨c1, t⟩
    · refine ob (rtail_no _ 1 (by simp)) ?_
      rw [rj0_no, rj1_out _ _ _ (by omega), rj3_out _ _ _ (by omega)]; simp [nx, h1, h2]
    · have b1 := hB.tail.head
      refine ob (rtail_yes _ 1 c1 (by omega) (by simp; omega) rfl) ?_
      by_cases hT : isT c1 = true
      · have t1 := (isT_iff c1).1 hT
        rw [hT]
        simp only [redpenref01_Next.j0, ↓reduceIte]
        rw [if_pos (by simp; omega), show rd (c :: c1 :: t) 1 = c1 from rfl, w32 (x := c - 192) (by omega) (by omega), w32 (x := (c - 192) * 64) (by omega) (by omega), w32 (x := c1) (by omega) (by omega), w32 (x := (c - 192) * 64 + c1) (by omega) (by omega), w32 (x := (c - 192) * 64 + c1 - 128) (by omega) (by omega), if_pos (by omega)]
        simp only [nx]
        rw [if_neg h1, if_pos h2, if_pos hT]
        unfold v2
        congr 2; omega
      · rw [show isT c1 = false by simpa using hT, rj0_no, rj1_out _ _ _ (by omega), rj3_out _ _ _ (by omega)]; simp [nx, h1, h2, hT]
  by_cases h2' : 192 ≤ c ∧ c < 194
  · rw [if_pos (by omega), if_pos (by omega)]
    have hn : nx (c :: t) = (-1, 1) := by
      simp only [nx]; rw [if_neg h1, if_neg h2, if_neg (by omega), if_neg (by omega)]
    rw [hn]
    rcases t with _ | ⟨c1, t⟩
    · refine ob (rtail_no _ 1 (by simp)) ?_
      rw [rj0_no, rj1_out _ _ _ (by omega), rj3_out _ _ _ (by omega)]
    · have b1 := hB.tail.head
      refine ob (rtail_yes _ 1 c1 (by omega) (by simp; omega) rfl) ?_
      by_cases hT : isT c1 = true
      · have t1 := (isT_iff c1).1 hT
        rw [hT]
        simp only [redpenref01_Next.j0, ↓reduceIte]
        rw [if_pos (by simp; omega), show rd (c :: c1 :: t) 1 = c1 from rfl, w32 (x := c - 192) (by omega) (by omega), w32 (x := (c - 192) * 64) (by omega) (by omega), w32 (x := c1) (by omega) (by omega), w32 (x := (c - 192) * 64 + c1) (by omega) (by omega), w32 (x := (c - 192) * 64 + c1 - 128) (by omega) (by omega), if_neg (by omega), rj1_out _ _ _ (by omega), rj3_out _ _ _ (by omega)]
      · rw [show isT c1 = false by simpa using hT, rj0_no, rj1_out _ _ _ (by omega), rj3_out _ _ _ (by omega)]
  have hj0 : (if c ≥ 192 then (if c < 224 then ((redpenref01_tail.f (c :: t) 1).bind fun t133 => (redpenref01_Next.j0 (m + 1 + 1 + 1 + 1 + 1 + 1) (c :: t) c t133)) else (redpenref01_Next.j0 (m + 1 + 1 + 1 + 1 + 1 + 1) (c :: t) c false)) else (redpenref01_Next.j0 (m + 1 + 1 + 1 + 1 + 1 + 1) (c :: t) c false)) = redpenref01_Next.j1 (m + 1 + 1 + 1 + 1 + 1) (c :: t) c := by
    by_cases h : c ≥ 192
    · rw [if_pos h, if_neg (by omega), rj0_no]
    · rw [if_neg h, rj0_no]
  rw [hj0]
  clear hj0
  by_cases h3 : 224 ≤ c ∧ c < 240
  · simp only [redpenref01_Next.j1]
    rw [if_pos h3.1, if_pos h3.2]
    rcases t with _ | ⟨c1, t⟩
    · refine ob (rtail_no _ 1 (by simp)) ?_
      rw [if_neg (by simp), rj2_no, rj3_out _ _ _ (by omega)]; simp [nx, h1, h2, h3]
    have b1 := hB.tail.head
    refine ob (rtail_yes _ 1 c1 (by omega) (by simp; omega) rfl) ?_
    by_cases hT : isT c1 = true
    · rw [if_pos hT]
      have t1 := (isT_iff c1).1 hT
      rcases t with _ | ⟨c2, t⟩
      · refine ob (rtail_no _ 2 (by simp)) ?_
        rw [rj2_no, rj3_out _ _ _ (by omega)]; simp [nx, h1, h2, h3]
      have b2 := hB.tail.tail.head
      refine ob (rtail_yes _ 2 c2 (by omega) (by simp; omega) rfl) ?_
      by_cases hT2 : isT c2 = true
      · have t2 := (isT_iff c2).1 hT2
        rw [hT2]
        simp only [redpenref01_Next.j2, ↓reduceIte]
        have hv : v3 c c1 c2 = ((c - 224) * 64 + (c1 - 128)) * 64 + (c2 - 128) := rfl
        rw [if_pos (by simp; omega), if_pos (by simp; omega), show rd (c :: c1 :: c2 :: t) 1 = c1 from rfl, show rd (c :: c1 :: c2 :: t) 2 = c2 from rfl, w32 (x := c - 224) (by omega) (by omega), w32 (x := (c - 224) * 4096) (by omega) (by omega), w32 (x := c1) (by omega) (by omega), w32 (x := c1 - 128) (by omega) (by omega), w32 (x := (c1 - 128) * 64) (by omega) (by omega), w32 (x := (c - 224) * 4096 + (c1 - 128) * 64) (by omega) (by omega), w32 (x := c2) (by omega) (by omega), w32 (x := (c - 224) * 4096 + (c1 - 128) * 64 + c2) (by omega) (by omega), w32 (x := (c - 224) * 4096 + (c1 - 128) * 64 + c2 - 128) (by omega) (by omega), show (c - 224) * 4096 + (c1 - 128) * 64 + c2 - 128 = v3 c c1 c2 by omega]
        simp only [nx]
        rw [if_neg h1, if_neg h2, if_pos h3]
        generalize v3 c c1 c2 = v at hv
        by_cases g1 : v ≥ 2048
        · rw [if_pos g1]
          by_cases g2 : v < 55296
          · rw [if_pos g2, if_pos ⟨hT, hT2, by omega, by omega⟩]
          · rw [if_neg g2]
            by_cases g3 : v > 57343
            · rw [if_pos g3, if_pos ⟨hT, hT2, by omega, by omega⟩]
            · rw [if_neg g3, rj3_out _ _ _ (by omega), if_neg (by omega)]
        · rw [if_neg g1, rj3_out _ _ _ (by omega), if_neg (by omega)]
      · rw [show isT c2 = false by simpa using hT2, rj2_no, rj3_out _ _ _ (by omega)]
        simp only [nx]; rw [if_neg h1, if_neg h2, if_pos h3, if_neg (fun h => hT2 h.2.1)]
    · rw [if_neg hT, rj2_no, rj3_out _ _ _ (by omega)]
      rcases t with _ | ⟨c2, t⟩
      · simp [nx, h1, h2, h3]
      · simp only [nx]; rw [if_neg h1, if_neg h2, if_pos h3, if_neg (fun h => hT h.1)]
  rw [rj1_out _ _ _ (by omega)]
  by_cases h4 : 240 ≤ c ∧ c < 248
  · simp only [redpenref01_Next.j3]
    rw [if_pos h4.1, if_pos h4.2]
    rcases t with _ | ⟨c1, t⟩
    · refine ob (rtail_no _ 1 (by simp)) ?_
      rw [if_neg (by simp), rj4_no]; simp [nx, h1, h2, h3]
    have b1 := hB.tail.head
    refine ob (rtail_yes _ 1 c1 (by omega) (by simp; omega) rfl) ?_
    by_cases hT : isT c1 = true
    · rw [if_pos hT]
      have t1 := (isT_iff c1).1 hT
      rcases t with _ | ⟨c2, t⟩
      · refine ob (rtail_no _ 2 (by simp)) ?_
        rw [if_neg (by simp), rj4_no]; simp [nx, h1, h2, h3]
      have b2 := hB.tail.tail.head
      refine ob (rtail_yes _ 2 c2 (by omega) (by simp; omega) rfl) ?_
      by_cases hT2 : isT c2 = true
      · rw [if_pos hT2]
        have t2 := (isT_iff c2).1 hT2
        rcases t with _ | ⟨c3, t⟩
        · refine ob (rtail_no _ 3 (by simp)) ?_
          rw [rj4_no]; simp [nx, h1, h2, h3]
        have b3 := hB.tail.tail.tail.head
        refine ob (rtail_yes _ 3 c3 (by omega) (by simp; omega) rfl) ?_
        by_cases hT3 : isT c3 = true
        · have t3 := (isT_iff c3).1 hT3
          rw [hT3]
          simp only [redpenref01_Next.j4, ↓reduceIte]
          have hv : v4 c c1 c2 c3 = (((c - 240) * 64 + (c1 - 128)) * 64 + (c2 - 128)) * 64 + (c3 - 128) := rfl
          rw [if_pos (by simp; omega), if_pos (by simp; omega), if_pos (by simp; omega), show rd (c :: c1 :: c2 :: c3 :: t) 1 = c1 from rfl, show rd (c :: c1 :: c2 :: c3 :: t) 2 = c2 from rfl, show rd (c :: c1 :: c2 :: c3 :: t) 3 = c3 from rfl, w32 (x := c - 240) (by omega) (by omega), w32 (x := (c - 240) * 262144) (by omega) (by omega), w32 (x := c1) (by omega) (by omega), w32 (x := c1 - 128) (by omega) (by omega), w32 (x := (c1 - 128) * 4096) (by omega) (by omega), w32 (x := (c - 240) * 262144 + (c1 - 128) * 4096) (by omega) (by omega), w32 (x := c2) (by omega) (by omega), w32 (x := c2 - 128) (by omega) (by omega), w32 (x := (c2 - 128) * 64) (by omega) (by omega), w32 (x := (c - 240) * 262144 + (c1 - 128) * 4096 + (c2 - 128) * 64) (by omega) (by omega), w32 (x := c3) (by omega) (by omega), w32 (x := (c - 240) * 262144 + (c1 - 128) * 4096 + (c2 - 128) * 64 + c3) (by omega) (by omega), w32 (x := (c - 240) * 262144 + (c1 - 128) * 4096 + (c2 - 128) * 64 + c3 - 128) (by omega) (by omega), show (c - 240) * 262144 + (c1 - 128) * 4096 + (c2 - 128) * 64 + c3 - 128 = v4 c c1 c2 c3 by omega]
          by_cases h5 : c < 245
          · simp only [nx]
            rw [if_neg h1, if_neg h2, if_neg h3, if_pos (show 240 ≤ c ∧ c < 245 from ⟨h4.1, h5⟩)]
            generalize v4 c c1 c2 c3 = v at hv
            by_cases g1 : v ≥ 65536
            · rw [if_pos g1]
              by_cases g2 : v ≤ 1114111
              · rw [if_pos g2, if_pos ⟨hT, hT2, hT3, by omega, by omega⟩]
              · rw [if_neg g2, if_neg (by omega)]
            · rw [if_neg g1, if_neg (by omega)]
          · have hn : nx (c :: c1 :: c2 :: c3 :: t) = (-1, 1) := by
              simp only [nx]; rw [if_neg h1, if_neg h2, if_neg h3, if_neg (by omega)]
            rw [hn, if_pos (by omega), if_neg (by omega)]
        · rw [show isT c3 = false by simpa using hT3, rj4_no]
          simp only [nx]; rw [if_neg h1, if_neg h2, if_neg h3]
          by_cases h5 : 240 ≤ c ∧ c < 245
          · rw [if_pos h5, if_neg (fun h => hT3 h.2.2.1)]
          · rw [if_neg h5]
      · rw [if_neg hT2, rj4_no]
        rcases t with _ | ⟨c3, t⟩
        · simp [nx, h1, h2, h3]
        · simp only [nx]; rw [if_neg h1, if_neg h2, if_neg h3]
          by_cases h5 : 240 ≤ c ∧ c < 245
          · rw [if_pos h5, if_neg (fun h => hT2 h.2.1)]
          · rw [if_neg h5]
    · rw [if_neg hT, rj4_no]
      rcases t with _ | ⟨c2, _ | ⟨c3, t⟩⟩
      · simp [nx, h1, h2, h3]
      · simp [nx, h1, h2, h3]
      · simp only [nx]; rw [if_neg h1, if_neg h2, if_neg h3]
        by_cases h5 : 240 ≤ c ∧ c < 245
        · rw [if_pos h5, if_neg (fun h => hT h.1)]
        · rw [if_neg h5]
  · rw [rj3_out _ _ _ (by omega)]
    simp only [nx]; rw [if_neg h1, if_neg h2, if_neg h3, if_neg (by omega)]
theorem refunits_from {b : List Int} (hB : BT b) (hlen : b.length < 5864062014805) : ∀ (d k at_ : Nat) (acc : List S92), b.length - at_ = d → at_ ≤ b.length → d + 7 ≤ k → acc.length ≤ at_ →
    redpenref01_Units.l0 k b acc at_ = some (acc ++ mkU at_ (us (b.drop at_))) := by
  intro d
  induction d using Nat.strongRecOn with
  | _ d ih =>
    intro k at_ acc hd ha hk hac
    obtain ⟨k, rfl⟩ : ∃ m, k = m + 1 := ⟨k - 1, by omega⟩
    simp only [redpenref01_Units.l0]
    by_cases he : at_ < b.length
    · have hne : b.drop at_ ≠ [] := by
        intro h; have := congrArg List.length h; rw [List.length_drop] at this; simp at this; omega
      have hl := nx_len hne
      rw [List.length_drop] at hl
      rw [if_pos (by omega), if_pos (by omega), if_pos (by omega), Int.toNat_natCast, refnext_eq (by omega) (hB.drop _)]
      simp only [Option.bind_some]
      have e : wrap64 ((at_ : Int) + (nx (b.drop at_)).2) = ((at_ + (nx (b.drop at_)).2.toNat : Nat) : Int) := by
        rw [w64 (by omega) (by omega)]; omega
      rw [if_pos (by omega), e, ih (d - (nx (b.drop at_)).2.toNat) (by omega) k _ _ (by omega) (by omega) (by omega) (by rw [List.length_append]; simp; omega), us_cons hne, List.drop_drop, List.append_assoc]
      simp only [mkU, List.singleton_append]
      congr 4
      omega
    · rw [if_neg (by omega), show b.drop at_ = [] from List.drop_eq_nil_of_le (by omega)]
      simp [us_nil, mkU]
theorem refunits_eq {b : List Int} (hB : BT b) (hlen : b.length < 5864062014805) {k : Nat} (hk : b.length + 7 ≤ k) : redpenref01_Units.f k b = some (mkU 0 (us b)) := by
  unfold redpenref01_Units.f
  have := refunits_from hB hlen b.length k 0 [] (by omega) (by omega) (by omega) (by simp)
  simpa using this
end Go.Proofs.Ytokgkhndhlcfpaa.PTrieMakes
