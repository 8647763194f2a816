/- The printed functions are the plain ones. -/
import Derived.Test.YtnmngglfeiifaaaGreatDoorPListsChecksx
import Derived.Test.YtnmngglfeiifaaaGreatDoorHM
section
/- The printed functions of utf are the plain ones: utf.Next, utf.Units. -/
namespace Go.Proofs.YtnmngglfeiifaaaGreatDoor.PListsChecks
open Go.RowKit Go.Proofs.YtnmngglfeiifaaaGreatDoorW.PrintWords Go.Proofs.YtnmngglfeiifaaaGreatDoorW.PrintLast Go.Proofs.YtnmngglfeiifaaaGreatDoorW.PrintMore
open Go.Proofs.YtnmngglfeiifaaaGreatDoor.M
set_option linter.unusedVariables false
set_option linter.unusedSimpArgs false

theorem first_a (m : Nat) {c : Int} (h0 : 0 ≤ c) (h : c < 128) : utf_first.f m c = some (c, 0, 0, true) := by
  unfold utf_first.f
  rw [if_pos h, w32 (x := c) (by omega) (by omega)]
theorem first_b (m : Nat) {c : Int} (h0 : 194 ≤ c) (h1 : c < 224) : utf_first.f (m + 1 + 1) c = some (c - 192, 1, 128, true) := by
  unfold utf_first.f
  rw [if_neg (by omega), if_pos h0]
  simp only [utf_first.j0]
  rw [if_pos (decide_eq_true h1), u8_and31 c (by omega) (by omega), w32 (x := c % 32) (by omega) (by omega)]
  congr 2; omega
theorem first_c (m : Nat) {c : Int} (h0 : 224 ≤ c) (h1 : c < 240) : utf_first.f (m + 1 + 1) c = some (c - 224, 2, 2048, true) := by
  unfold utf_first.f
  rw [if_neg (by omega), if_pos (by omega)]
  simp only [utf_first.j0, utf_first.j1]
  rw [if_neg (by rw [decide_eq_true_eq]; omega), if_pos h0, if_pos (decide_eq_true h1), u8_and15 c (by omega) (by omega), w32 (x := c % 16) (by omega) (by omega)]
  congr 2; omega
theorem first_d (m : Nat) {c : Int} (h0 : 240 ≤ c) (h1 : c < 245) : utf_first.f (m + 1 + 1) c = some (c - 240, 3, 65536, true) := by
  unfold utf_first.f
  rw [if_neg (by omega), if_pos (by omega)]
  simp only [utf_first.j0, utf_first.j1]
  rw [if_neg (by rw [decide_eq_true_eq]; omega), if_pos (by omega), if_neg (by rw [decide_eq_true_eq]; omega), if_pos h0, if_pos h1, u8_and7 c (by omega) (by omega), w32 (x := c % 8) (by omega) (by omega)]
  congr 2; omega
theorem first_e (m : Nat) {c : Int} (h0 : 128 ≤ c) (h : c < 194 ∨ 245 ≤ c) : utf_first.f (m + 1 + 1) c = some (0, 0, 0, false) := by
  unfold utf_first.f
  rw [if_neg (by omega)]
  by_cases h1 : c ≥ 194
  · rw [if_pos h1]
    simp only [utf_first.j0, utf_first.j1]
    rw [if_neg (by rw [decide_eq_true_eq]; omega), if_pos (by omega), if_neg (by rw [decide_eq_true_eq]; omega), if_pos (by omega), if_neg (by omega)]
  · rw [if_neg h1]
    simp only [utf_first.j0, utf_first.j1]
    rw [if_neg (by simp)]
    by_cases h2 : c ≥ 224
    · omega
    · rw [if_neg h2, if_neg (by simp), if_neg (by omega)]
theorem step_T (k : Nat) (r more least c : Int) (l : List Int) (n i : Int) (hi : 0 ≤ i) (hn : i < n) (hl : i < (l.length : Int)) (hc : rd l i = c) (h0 : 0 ≤ c) (h1 : c < 256) (hr0 : 0 ≤ r) (hr : r < 33554432) (hi' : i < 1000) :
    utf_Next.l0 (k + 1) r more least l n i = if isT c = true then utf_Next.l0 k (r * 64 + (c - 128)) more least l n (i + 1) else some (-1, 1) := by
  have e1 : Go.bits .and .u8 c 192 = c / 64 * 64 := by
    have : ∀ x : Fin 256, Go.bits .and .u8 ((x.val : Nat) : Int) 192 = ((x.val : Nat) : Int) / 64 * 64 := by decide +kernel
    have h := this ⟨c.toNat, by omega⟩
    simpa [Int.toNat_of_nonneg h0] using h
  simp only [utf_Next.l0]
  rw [if_pos hn, if_pos hi, if_pos hl, hc, e1]
  by_cases hT : isT c = true
  · have hT' := (isT_iff c).1 hT
    rw [if_pos (by omega), if_pos hT, u8_and63 c h0 h1, w32 (x := r * 64) (by omega) (by omega), w32 (x := c % 64) (by omega) (by omega), i32_or6 (r * 64) (c % 64) (by omega) (by omega) (by omega) (by omega) (by omega), w64 (x := i + 1) (by omega) (by omega)]
    congr 1; omega
  · have hT' : ¬ (128 ≤ c ∧ c < 192) := fun h => hT ((isT_iff c).2 h)
    rw [if_neg (by omega), if_neg hT]
theorem end_T (k : Nat) (r more least : Int) (l : List Int) (n : Int) (hr : least ≤ r) (hr1 : r ≤ 1114111) (hs : ¬ (55296 ≤ r ∧ r < 57344)) (hm0 : 0 ≤ more) (hm : more < 10) :
    utf_Next.l0 (k + 1) r more least l n n = some (r, 1 + more) := by
  simp only [utf_Next.l0]
  rw [if_neg (by omega), if_neg (by omega), if_neg (by omega), w64 (x := 1 + more) (by omega) (by omega)]
  by_cases h : r ≥ 55296
  · rw [if_pos h, if_neg (by omega)]
  · rw [if_neg h]
theorem end_F (k : Nat) (r more least : Int) (l : List Int) (n : Int) (h : r < least ∨ 1114111 < r ∨ (55296 ≤ r ∧ r < 57344)) :
    utf_Next.l0 (k + 1) r more least l n n = some (-1, 1) := by
  simp only [utf_Next.l0]
  rw [if_neg (by omega)]
  by_cases h1 : r < least
  · rw [if_pos h1]
  · rw [if_neg h1]
    by_cases h2 : r > 1114111
    · rw [if_pos h2]
    · rw [if_neg h2, if_pos (by omega), if_pos (by omega)]
theorem j0_short (k : Nat) (b : List Int) (r more least : Int) : utf_Next.j0 (k + 1) b r more least true = some (-1, 1) := by
  simp only [utf_Next.j0, ↓reduceIte]
theorem j0_long (k : Nat) (b : List Int) (r more least : Int) (hm0 : 0 ≤ more) (hn : more < (b.length : Int)) (hn' : more < 10) :
    utf_Next.j0 (k + 1) b r more least false = utf_Next.l0 k r more least ((b.take (more.toNat + 1)).drop 1) more 0 := by
  simp only [utf_Next.j0]
  have e : wrap64 (1 + more) = 1 + more := w64 (by omega) (by omega)
  have e3 : (1 + more).toNat = more.toNat + 1 := by omega
  have e2 : (((b.take (more.toNat + 1)).drop 1).length : Int) = more := by rw [List.length_drop, List.length_take]; omega
  rw [if_neg (by simp), e, if_pos (by omega), if_pos (by omega), e3]
  simp only [Option.bind_some]
  rw [e2]
theorem next_eq {k : Nat} (hk : 6 ≤ k) {b : List Int} (hB : BT b) : utf_Next.f k b = some (nx b) := by
  obtain ⟨m, rfl⟩ : ∃ m, k = m + 1 + 1 + 1 + 1 + 1 + 1 := ⟨k - 6, by omega⟩
  rcases b with _ | ⟨c, t⟩
  · rfl
  have hc := hB.head
  have hl : (((c :: t).length : Nat) : Int) = t.length + 1 := by simp
  unfold utf_Next.f
  rw [if_neg (by rw [hl]; omega), if_pos (by rw [hl]; omega), show rd (c :: t) 0 = c from rfl]
  by_cases h1 : c < 128
  · rw [first_a _ hc.1 h1]
    simp only [Option.bind_some, ↓reduceIte]
    rw [decide_eq_false (by rw [hl]; omega), j0_long (m + 1 + 1 + 1 + 1 + 1) (c :: t) c 0 0 (by omega) (by rw [hl]; omega) (by omega), end_T (m + 1 + 1 + 1 + 1) c 0 0 _ 0 hc.1 (by omega) (by omega) (by omega) (by omega)]
    simp [nx, h1]
  by_cases h2 : 194 ≤ c ∧ c < 224
  · rw [first_b (m + 1 + 1 + 1 + 1) h2.1 h2.2]
    simp only [Option.bind_some, ↓reduceIte]
    rcases t with _ | ⟨c1, t⟩
    · rw [decide_eq_true (by simp), j0_short]; simp [nx, h1, h2]
    · have b1 := hB.tail.head
      rw [decide_eq_false (by simp; omega), j0_long (m + 1 + 1 + 1 + 1 + 1) (c :: c1 :: t) (c - 192) 1 128 (by omega) (by simp; omega) (by omega)]
      rw [show ((c :: c1 :: t).take ((1 : Int).toNat + 1)).drop 1 = [c1] from rfl]
      rw [step_T (m + 1 + 1 + 1 + 1) (c - 192) 1 128 c1 [c1] 1 0 (by omega) (by omega) (by simp) rfl b1.1 b1.2 (by omega) (by omega) (by omega)]
      by_cases hT : isT c1 = true
      · have := (isT_iff c1).1 hT
        rw [if_pos hT, show (0 : Int) + 1 = 1 from rfl, end_T (m + 1 + 1 + 1) ((c - 192) * 64 + (c1 - 128)) 1 128 [c1] 1 (by omega) (by omega) (by omega) (by omega) (by omega)]
        simp [nx, h1, h2, hT, v2]
      · rw [if_neg hT]; simp [nx, h1, h2, hT]
  by_cases h3 : 224 ≤ c ∧ c < 240
  · rw [first_c (m + 1 + 1 + 1 + 1) h3.1 h3.2]
    simp only [Option.bind_some, ↓reduceIte]
    rcases t with _ | ⟨c1, _ | ⟨c2, t⟩⟩
    · rw [decide_eq_true (by simp), j0_short]; simp [nx, h1, h2, h3]
    · rw [decide_eq_true (by simp), j0_short]; simp [nx, h1, h2, h3]
    · have b1 := hB.tail.head
      have b2 := hB.tail.tail.head
      rw [decide_eq_false (by simp; omega), j0_long (m + 1 + 1 + 1 + 1 + 1) (c :: c1 :: c2 :: t) (c - 224) 2 2048 (by omega) (by simp; omega) (by omega)]
      rw [show ((c :: c1 :: c2 :: t).take ((2 : Int).toNat + 1)).drop 1 = [c1, c2] from rfl]
      rw [step_T (m + 1 + 1 + 1 + 1) (c - 224) 2 2048 c1 [c1, c2] 2 0 (by omega) (by omega) (by simp) rfl b1.1 b1.2 (by omega) (by omega) (by omega)]
      simp only [nx]
      rw [if_neg h1, if_neg h2, if_pos h3]
      by_cases hT : isT c1 = true
      · have t1 := (isT_iff c1).1 hT
        rw [if_pos hT, step_T (m + 1 + 1 + 1) ((c - 224) * 64 + (c1 - 128)) 2 2048 c2 [c1, c2] 2 (0 + 1) (by omega) (by omega) (by simp) rfl b2.1 b2.2 (by omega) (by omega) (by omega)]
        by_cases hT2 : isT c2 = true
        · have t2 := (isT_iff c2).1 hT2
          rw [if_pos hT2, show (0 : Int) + 1 + 1 = 2 from rfl]
          by_cases hv : 2048 ≤ v3 c c1 c2 ∧ ¬ (55296 ≤ v3 c c1 c2 ∧ v3 c c1 c2 < 57344)
          · rw [if_pos ⟨hT, hT2, hv.1, hv.2⟩]
            exact end_T (m + 1 + 1) (v3 c c1 c2) 2 2048 [c1, c2] 2 hv.1 (by unfold v3; omega) hv.2 (by omega) (by omega)
          · rw [if_neg (fun h => hv h.2.2)]
            exact end_F (m + 1 + 1) (v3 c c1 c2) 2 2048 [c1, c2] 2 (by omega)
        · rw [if_neg hT2, if_neg (fun h => hT2 h.2.1)]
      · rw [if_neg hT, if_neg (fun h => hT h.1)]
  by_cases h4 : 240 ≤ c ∧ c < 245
  · rw [first_d (m + 1 + 1 + 1 + 1) h4.1 h4.2]
    simp only [Option.bind_some, ↓reduceIte]
    rcases t with _ | ⟨c1, _ | ⟨c2, _ | ⟨c3, t⟩⟩⟩
    · rw [decide_eq_true (by simp), j0_short]; simp [nx, h1, h2, h3, h4]
    · rw [decide_eq_true (by simp), j0_short]; simp [nx, h1, h2, h3, h4]
    · rw [decide_eq_true (by simp), j0_short]; simp [nx, h1, h2, h3, h4]
    · have b1 := hB.tail.head
      have b2 := hB.tail.tail.head
      have b3 := hB.tail.tail.tail.head
      rw [decide_eq_false (by simp; omega), j0_long (m + 1 + 1 + 1 + 1 + 1) (c :: c1 :: c2 :: c3 :: t) (c - 240) 3 65536 (by omega) (by simp; omega) (by omega)]
      rw [show ((c :: c1 :: c2 :: c3 :: t).take ((3 : Int).toNat + 1)).drop 1 = [c1, c2, c3] from rfl]
      rw [step_T (m + 1 + 1 + 1 + 1) (c - 240) 3 65536 c1 [c1, c2, c3] 3 0 (by omega) (by omega) (by simp) rfl b1.1 b1.2 (by omega) (by omega) (by omega)]
      simp only [nx]
      rw [if_neg h1, if_neg h2, if_neg h3, if_pos h4]
      by_cases hT : isT c1 = true
      · have t1 := (isT_iff c1).1 hT
        rw [if_pos hT, step_T (m + 1 + 1 + 1) ((c - 240) * 64 + (c1 - 128)) 3 65536 c2 [c1, c2, c3] 3 (0 + 1) (by omega) (by omega) (by simp) rfl b2.1 b2.2 (by omega) (by omega) (by omega)]
        by_cases hT2 : isT c2 = true
        · have t2 := (isT_iff c2).1 hT2
          rw [if_pos hT2, step_T (m + 1 + 1) (((c - 240) * 64 + (c1 - 128)) * 64 + (c2 - 128)) 3 65536 c3 [c1, c2, c3] 3 (0 + 1 + 1) (by omega) (by omega) (by simp) rfl b3.1 b3.2 (by omega) (by omega) (by omega)]
          by_cases hT3 : isT c3 = true
          · have t3 := (isT_iff c3).1 hT3
            rw [if_pos hT3, show (0 : Int) + 1 + 1 + 1 = 3 from rfl]
            by_cases hv : 65536 ≤ v4 c c1 c2 c3 ∧ v4 c c1 c2 c3 ≤ 1114111
            · rw [if_pos ⟨hT, hT2, hT3, hv.1, hv.2⟩]
              exact end_T (m + 1) (v4 c c1 c2 c3) 3 65536 [c1, c2, c3] 3 hv.1 hv.2 (by omega) (by omega) (by omega)
            · rw [if_neg (fun h => hv h.2.2.2)]
              exact end_F (m + 1) (v4 c c1 c2 c3) 3 65536 [c1, c2, c3] 3 (by omega)
          · rw [if_neg hT3, if_neg (fun h => hT3 h.2.2.1)]
        · rw [if_neg hT2, if_neg (fun h => hT2 h.2.1)]
      · rw [if_neg hT, if_neg (fun h => hT h.1)]
  · rw [first_e (m + 1 + 1 + 1 + 1) (by omega) (by omega)]
    simp only [Option.bind_some]
    rw [if_neg (by simp), j0_short]
    simp [nx, h1, h2, h3, h4]

/-- Signs with their places. -/
def mkU : Int → List (Int × Int) → List S100
  | _, [] => []
  | at_, (r, n) :: l => ⟨r, ⟨at_, n⟩⟩ :: mkU (at_ + n) l
theorem mkU_len (a : Int) (l : List (Int × Int)) : (mkU a l).length = l.length := by
  induction l generalizing a with
  | nil => rfl
  | cons x l ih => simp [mkU, ih]
theorem mkU_get (a : Int) (l : List (Int × Int)) (i : Nat) (h : i < l.length) : (mkU a l).getD i z100 = ⟨(l.getD i (0, 0)).1, ⟨a + pos l i, (l.getD i (0, 0)).2⟩⟩ := by
  induction l generalizing a i with
  | nil => simp at h
  | cons x l ih =>
    cases i with
    | zero => simp [mkU, pos]
    | succ i =>
      have := ih (a + x.2) i (by simpa using h)
      simp only [mkU, List.getD_cons_succ, this, pos_cons]
      congr 2
      omega
theorem units_from {b : List Int} (hB : BT b) (hlen : b.length < 5864062014805) : ∀ (d k at_ : Nat) (acc : List S100), b.length - at_ = d → at_ ≤ b.length → d + 7 ≤ k → acc.length ≤ at_ →
    utf_Units.l0 k b acc at_ = some (acc ++ mkU at_ (us (b.drop at_))) := by
  intro d
  induction d using Nat.strongRecOn with
  | _ d ih =>
    intro k at_ acc hd ha hk hac
    obtain ⟨k, rfl⟩ : ∃ m, k = m + 1 := ⟨k - 1, by omega⟩
    simp only [utf_Units.l0]
    by_cases he : at_ < b.length
    · have hne : b.drop at_ ≠ [] := by
        intro h; have := congrArg List.length h; rw [List.length_drop] at this; simp at this; omega
      have hl := nx_len hne
      rw [List.length_drop] at hl
      rw [if_pos (by omega), if_pos (by omega), if_pos (by omega), Int.toNat_natCast, next_eq (by omega) (hB.drop _)]
      simp only [Option.bind_some]
      have e : wrap64 ((at_ : Int) + (nx (b.drop at_)).2) = ((at_ + (nx (b.drop at_)).2.toNat : Nat) : Int) := by
        rw [w64 (by omega) (by omega)]; omega
      rw [if_pos (by omega), e, ih (d - (nx (b.drop at_)).2.toNat) (by omega) k _ _ (by omega) (by omega) (by omega) (by rw [List.length_append]; simp; omega), us_cons hne, List.drop_drop, List.append_assoc]
      simp only [mkU, List.singleton_append]
      congr 4
      omega
    · rw [if_neg (by omega), show b.drop at_ = [] from List.drop_eq_nil_of_le (by omega)]
      simp [us_nil, mkU]
theorem units_eq {b : List Int} (hB : BT b) (hlen : b.length < 5864062014805) {k : Nat} (hk : b.length + 7 ≤ k) : utf_Units.f k b = some (mkU 0 (us b)) := by
  unfold utf_Units.f
  have := units_from hB hlen b.length k 0 [] (by omega) (by omega) (by omega) (by simp)
  simpa using this
end Go.Proofs.YtnmngglfeiifaaaGreatDoor.PListsChecks
end
section
/- The printed utf.Runes is the plain one. -/
namespace Go.Proofs.YtnmngglfeiifaaaGreatDoor.PListsChecks
open Go.RowKit Go.Proofs.YtnmngglfeiifaaaGreatDoorW.PrintWords Go.Proofs.YtnmngglfeiifaaaGreatDoorW.PrintLast Go.Proofs.YtnmngglfeiifaaaGreatDoorW.PrintMore
open Go.Proofs.YtnmngglfeiifaaaGreatDoor.M Go.Proofs.YtnmngglfeiifaaaGreatDoor.X
set_option linter.unusedVariables false
set_option linter.unusedSimpArgs false

theorem mkU_rune (a : Int) (l : List (Int × Int)) (i : Nat) (h : i < l.length) : (rd_T100 (mkU a l) (i : Int)).f0 = (l.map (·.1)).getD i 0 := by
  unfold rd_T100
  rw [Int.toNat_natCast, mkU_get a l i h]
  rw [List.getD_eq_getElem?_getD, List.getD_eq_getElem?_getD, List.getElem?_map, List.getElem?_eq_getElem h]
  rfl
theorem runes_from (l : List (Int × Int)) (hl : l.length < 35184372088832) : ∀ (d k i : Nat), l.length - i = d → i ≤ l.length → d < k →
    utf_Runes.l0 k ((l.map (·.1)).take i) (mkU 0 l) (l.length : Int) (i : Int) = some (l.map (·.1)) := by
  intro d
  induction d with
  | zero =>
    intro k i hd hi hk
    obtain ⟨k, rfl⟩ : ∃ m, k = m + 1 := ⟨k - 1, by omega⟩
    simp only [utf_Runes.l0]
    rw [if_neg (by omega), List.take_of_length_le (by rw [List.length_map]; omega)]
  | succ d ih =>
    intro k i hd hi hk
    obtain ⟨k, rfl⟩ : ∃ m, k = m + 1 := ⟨k - 1, by omega⟩
    have hlt : i < l.length := by omega
    have ew : wrap64 ((i : Int) + 1) = ((i + 1 : Nat) : Int) := by rw [w64 (by omega) (by omega)]; omega
    simp only [utf_Runes.l0]
    rw [if_pos (by omega), if_pos (by omega), if_pos (by rw [mkU_len]; omega), if_pos (by rw [List.length_take, List.length_map]; omega), mkU_rune 0 l i hlt, ew]
    have := ih k (i + 1) (by omega) (by omega) (by omega)
    rw [List.take_succ_eq_append_getElem (by rw [List.length_map]; exact hlt)] at this
    rw [List.getD_eq_getElem?_getD, List.getElem?_eq_getElem (by rw [List.length_map]; exact hlt)]
    exact this
theorem runes_eq {k : Nat} (s : ByteArray) (hs : s.size < 5864062014805) (hk : s.size + 8 ≤ k) : utf_Runes.f k s = some (rs (bytesOf s)) := by
  unfold utf_Runes.f
  have hB := bytesOf_BT s
  have hl := bytesOf_length s
  have hul := us_len (bytesOf s)
  refine ob (conv_of_str s (by omega)) ?_
  refine ob (units_eq hB (by omega) (by omega)) ?_
  rw [mkU_len]
  exact runes_from (us (bytesOf s)) (by omega) _ _ 0 rfl (by omega) (by omega)
end Go.Proofs.YtnmngglfeiifaaaGreatDoor.PListsChecks
end
section
/- The printed utf.Put and utf.Text are the plain ones. -/
namespace Go.Proofs.YtnmngglfeiifaaaGreatDoor.PListsChecks
open Go.RowKit Go.Proofs.YtnmngglfeiifaaaGreatDoorW.PrintWords Go.Proofs.YtnmngglfeiifaaaGreatDoorW.PrintLast Go.Proofs.YtnmngglfeiifaaaGreatDoorW.PrintMore
open Go.Proofs.YtnmngglfeiifaaaGreatDoor.M Go.Proofs.YtnmngglfeiifaaaGreatDoor.X
set_option linter.unusedVariables false
set_option linter.unusedSimpArgs false

end Go.Proofs.YtnmngglfeiifaaaGreatDoor.PListsChecks
end
section
/- The printed functions of fold great and small are the plain ones. -/
namespace Go.Proofs.YtnmngglfeiifaaaGreatDoor.Pure
open Go.RowKit Go.Proofs.YtnmngglfeiifaaaGreatDoor.PListsChecks Go.Proofs.YtnmngglfeiifaaaGreatDoorW.PrintWords Go.Proofs.YtnmngglfeiifaaaGreatDoorW.PrintLast
open Go.Proofs.YtnmngglfeiifaaaGreatDoor.M Go.Proofs.YtnmngglfeiifaaaGreatDoor.X
set_option linter.unusedVariables false
set_option linter.unusedSimpArgs false

theorem fgreat_eq (r : Int) : fold_great.f r = some (great r) := by
  unfold fold_great.f
  cases h : great r
  · rw [great_not] at h
    (repeat' split) <;> first | rfl | omega | (rw [Option.some.injEq, bne_eq_false_iff_eq]; omega)
  · rw [great_iff] at h
    (repeat' split) <;> first | rfl | omega | (rw [Option.some.injEq, bne_iff_ne]; omega)
theorem fsmall_eq (r : Int) : fold_small.f r = some (small r) := by
  unfold fold_small.f
  cases h : small r
  · rw [small_not] at h
    (repeat' split) <;> first | rfl | omega | (rw [Option.some.injEq, bne_eq_false_iff_eq]; omega)
  · rw [small_iff] at h
    (repeat' split) <;> first | rfl | omega | (rw [Option.some.injEq, bne_iff_ne]; omega)
end Go.Proofs.YtnmngglfeiifaaaGreatDoor.Pure
end
section
/- fold.Fold, as printed, over a text's runes. -/
namespace Go.Proofs.YtnmngglfeiifaaaGreatDoor.Pure
open Go.RowKit Go.Proofs.YtnmngglfeiifaaaGreatDoor.PListsChecks Go.Proofs.YtnmngglfeiifaaaGreatDoorW.PrintWords Go.Proofs.YtnmngglfeiifaaaGreatDoorW.PrintLast
open Go.Proofs.YtnmngglfeiifaaaGreatDoor.M Go.Proofs.YtnmngglfeiifaaaGreatDoor.X
set_option linter.unusedVariables false
set_option linter.unusedSimpArgs false

theorem rs_range {b : List Int} (hB : BT b) : ∀ r ∈ rs b, -1 ≤ r ∧ r ≤ 1114111 := by
  intro r hr
  rcases rs_each b hB r hr with h | h
  · omega
  · rw [okR_iff] at h; omega
end Go.Proofs.YtnmngglfeiifaaaGreatDoor.Pure
end
section
/- fold.Letter, Great, Small, and the reference's, are the plain ones. -/
namespace Go.Proofs.YtnmngglfeiifaaaGreatDoor.Pure
open Go.RowKit Go.Proofs.YtnmngglfeiifaaaGreatDoor.PListsChecks Go.Proofs.YtnmngglfeiifaaaGreatDoorW.PrintWords Go.Proofs.YtnmngglfeiifaaaGreatDoorW.PrintLast
open Go.Proofs.YtnmngglfeiifaaaGreatDoor.M Go.Proofs.YtnmngglfeiifaaaGreatDoor.X
set_option linter.unusedVariables false
set_option linter.unusedSimpArgs false

theorem fletter_eq (r : Int) : fold_Letter.f r = some (letter r) := by
  unfold fold_Letter.f
  refine ob (fgreat_eq r) ?_
  have hi := letter_iff r
  cases hg : great r
  · rw [if_neg (by decide)]
    refine ob (fsmall_eq r) ?_
    cases hs : small r
    · rw [if_neg (by decide)]
      rw [hg, hs] at hi
      simp only [Bool.false_eq_true, false_or] at hi
      cases hl : letter r
      · rw [hl] at hi
        simp only [Bool.false_eq_true, false_iff] at hi
        (repeat' split) <;> first | rfl | omega | (rw [Option.some.injEq, decide_eq_false_iff_not]; omega)
      · have h := hi.1 hl
        (repeat' split) <;> first | rfl | omega | (rw [Option.some.injEq, decide_eq_true_iff]; omega)
    · rw [if_pos rfl, hi.2 (.inr (.inl hs))]
  · rw [if_pos rfl, hi.2 (.inl hg)]
end Go.Proofs.YtnmngglfeiifaaaGreatDoor.Pure
end
section
/- lists.Check, as printed, in plain words. -/
namespace Go.Proofs.YtnmngglfeiifaaaGreatDoor.Pure
open Go.RowKit Go.Proofs.YtnmngglfeiifaaaGreatDoor.PListsChecks Go.Proofs.YtnmngglfeiifaaaGreatDoorW.PrintWords Go.Proofs.YtnmngglfeiifaaaGreatDoorW.PrintLast Go.Proofs.YtnmngglfeiifaaaGreatDoor.X
open Go.Proofs.YtnmngglfeiifaaaGreatDoor.M Go.Proofs.YtnmngglfeiifaaaGreatDoor.H
set_option linter.unusedVariables false
set_option linter.unusedSimpArgs false

theorem hw (x : Int) (n : Nat) (h : x = (n : Int)) (hb : n < 9223372036854775808) : wrap64 x = (n : Int) := by rw [h]; exact w64 (by omega) (by omega)
/-- May a rune stand at its place in a listed word? -/
def goodAt (l : List Int) (i : Nat) : Bool := letter (rd l (i : Int)) || (decide (rd l (i : Int) = 39) && (decide (0 < i) && (decide (i + 1 < l.length) && (letter (rd l ((i - 1 : Nat) : Int)) && letter (rd l ((i + 1 : Nat) : Int))))))
def chkF (l : List Int) : Nat → Nat → Int
  | 0, _ => 0
  | d + 1, i => if goodAt l i = true then chkF l d (i + 1) else 5
def checkM (s : ByteArray) : Int := if s.size > 64 then 3 else if (rs (bytesOf s)).length = 0 then 5 else chkF (rs (bytesOf s)) (rs (bytesOf s)).length 0
theorem check_l0 (l : List Int) (hl : l.length ≤ 1000000) : ∀ (d i : Nat), l.length - i = d → i ≤ l.length → Ev (fun k => lists_Check.l0 k l l (l.length : Int) (i : Int)) (chkF l d i) := by
  intro d
  induction d with
  | zero =>
    intro i hd hi
    refine Ev.step (f := fun _ => some 0) (fun k => ?_) (Ev.now _)
    simp only [lists_Check.l0]
    rw [if_neg (by omega)]
  | succ d ih =>
    intro i hd hi
    have ei : ∀ _ : Unit, wrap64 ((i : Int) + 1) = ((i + 1 : Nat) : Int) := fun _ => hw _ _ (by omega) (by omega)
    have el : ∀ _ : Unit, wrap64 ((l.length : Int) - 1) = ((l.length - 1 : Nat) : Int) := fun _ => hw _ _ (by omega) (by omega)
    have nx := ih (i + 1) (by omega) (by omega)
    have done5 : ∀ g : Nat → Option Int, (∀ k, lists_Check.l0 (k + 1) l l (l.length : Int) (i : Int) = some 5) → goodAt l i = false → Ev (fun k => lists_Check.l0 k l l (l.length : Int) (i : Int)) (chkF l (d + 1) i) := by
      intro _ h hb
      show Ev _ (if goodAt l i = true then chkF l d (i + 1) else 5)
      rw [hb, if_neg (by simp)]
      exact Ev.step (f := fun _ => some 5) h (Ev.now _)
    have go : (∀ k, lists_Check.l0 (k + 1) l l (l.length : Int) (i : Int) = lists_Check.l0 k l l (l.length : Int) ((i + 1 : Nat) : Int)) → goodAt l i = true → Ev (fun k => lists_Check.l0 k l l (l.length : Int) (i : Int)) (chkF l (d + 1) i) := by
      intro h hb
      show Ev _ (if goodAt l i = true then chkF l d (i + 1) else 5)
      rw [hb, if_pos rfl]
      exact Ev.step h nx
    by_cases c0 : 0 < i
    · have ep : ∀ _ : Unit, wrap64 ((i : Int) - 1) = ((i - 1 : Nat) : Int) := fun _ => hw _ _ (by omega) (by omega)
      by_cases c1 : i + 1 < l.length
      · cases cp : letter (rd l ((i - 1 : Nat) : Int)) with
        | true =>
          cases cl : letter (rd l (i : Int)) with
          | true =>
            refine go (fun k => ?_) (by unfold goodAt; rw [cl]; rfl)
            simp only [lists_Check.l0, ei (), el (), ep (), fletter_eq, Option.bind_some, cp, cl, Bool.false_eq_true, if_true, if_false]
            repeat (first | rw [if_pos (by omega)] | rw [if_neg (by omega)])
          | false =>
            by_cases c39 : rd l (i : Int) = 39
            · cases cn : letter (rd l ((i + 1 : Nat) : Int)) with
              | true =>
                refine go (fun k => ?_) (by unfold goodAt; rw [cl, cp, cn, decide_eq_true c39, decide_eq_true c0, decide_eq_true c1]; rfl)
                simp only [lists_Check.l0, ei (), el (), ep (), fletter_eq, Option.bind_some, cp, cl, cn, Bool.false_eq_true, if_true, if_false]
                repeat (first | rw [if_pos (by omega)] | rw [if_neg (by omega)] | rw [if_pos c39] | rw [if_neg c39])
              | false =>
                refine done5 (fun _ => none) (fun k => ?_) (by unfold goodAt; rw [cl, cp, cn]; simp)
                simp only [lists_Check.l0, ei (), el (), ep (), fletter_eq, Option.bind_some, cp, cl, cn, Bool.false_eq_true, if_true, if_false]
                repeat (first | rw [if_pos (by omega)] | rw [if_neg (by omega)] | rw [if_pos c39] | rw [if_neg c39])
            · refine done5 (fun _ => none) (fun k => ?_) (by unfold goodAt; rw [cl, decide_eq_false c39]; simp)
              simp only [lists_Check.l0, ei (), el (), ep (), fletter_eq, Option.bind_some, cp, cl, Bool.false_eq_true, if_true, if_false]
              repeat (first | rw [if_pos (by omega)] | rw [if_neg (by omega)] | rw [if_pos c39] | rw [if_neg c39])
        | false =>
          cases cl : letter (rd l (i : Int)) with
          | true =>
            refine go (fun k => ?_) (by unfold goodAt; rw [cl]; rfl)
            simp only [lists_Check.l0, ei (), el (), ep (), fletter_eq, Option.bind_some, cp, cl, Bool.false_eq_true, if_true, if_false]
            repeat (first | rw [if_pos (by omega)] | rw [if_neg (by omega)])
          | false =>
            refine done5 (fun _ => none) (fun k => ?_) (by unfold goodAt; rw [cl, cp]; simp)
            simp only [lists_Check.l0, ei (), el (), ep (), fletter_eq, Option.bind_some, cp, cl, Bool.false_eq_true, if_true, if_false]
            repeat (first | rw [if_pos (by omega)] | rw [if_neg (by omega)])
            all_goals (try (split <;> rfl))
      · cases cl : letter (rd l (i : Int)) with
        | true =>
          refine go (fun k => ?_) (by unfold goodAt; rw [cl]; rfl)
          simp only [lists_Check.l0, ei (), el (), fletter_eq, Option.bind_some, cl, Bool.false_eq_true, if_true, if_false]
          repeat (first | rw [if_pos (by omega)] | rw [if_neg (by omega)])
        | false =>
          refine done5 (fun _ => none) (fun k => ?_) (by unfold goodAt; rw [cl, decide_eq_false c1]; simp)
          simp only [lists_Check.l0, ei (), el (), fletter_eq, Option.bind_some, cl, Bool.false_eq_true, if_true, if_false]
          repeat (first | rw [if_pos (by omega)] | rw [if_neg (by omega)])
          all_goals (try (split <;> rfl))
    · cases cl : letter (rd l (i : Int)) with
      | true =>
        refine go (fun k => ?_) (by unfold goodAt; rw [cl]; rfl)
        simp only [lists_Check.l0, ei (), fletter_eq, Option.bind_some, cl, Bool.false_eq_true, if_true, if_false]
        repeat (first | rw [if_pos (by omega)] | rw [if_neg (by omega)])
      | false =>
        refine done5 (fun _ => none) (fun k => ?_) (by unfold goodAt; rw [cl, decide_eq_false c0]; simp)
        simp only [lists_Check.l0, ei (), fletter_eq, Option.bind_some, cl, Bool.false_eq_true, if_true, if_false]
        repeat (first | rw [if_pos (by omega)] | rw [if_neg (by omega)])
        all_goals (try (split <;> rfl))
theorem check_ev (s : ByteArray) (hs : s.size ≤ 1000000) : Ev (fun k => lists_Check.f k s) (checkM s) := by
  have hl : (bytesOf s).length = s.size := bytesOf_length s
  have h1 := rs_len (bytesOf s)
  have h2 := us_len (bytesOf s)
  unfold checkM
  by_cases c : s.size > 64
  · rw [if_pos c]
    refine Ev.congr (f := fun _ => some 3) (fun k => ?_) (Ev.now _)
    unfold lists_Check.f
    rw [if_pos (by omega)]
  · rw [if_neg c]
    have hr : Ev (fun k => utf_Runes.f k s) (rs (bytesOf s)) := ⟨s.size + 8, fun k hk => runes_eq s (by omega) hk⟩
    refine Ev.congr (f := fun k => (utf_Runes.f k s).bind fun t => if (t.length : Int) = 0 then some 5 else lists_Check.l0 k t t (t.length : Int) 0) (fun k => ?_) (Ev.bind hr ?_)
    · unfold lists_Check.f
      rw [if_neg (by omega)]
    · by_cases c0 : (rs (bytesOf s)).length = 0
      · rw [if_pos c0]
        simp only [if_pos (show ((rs (bytesOf s)).length : Int) = 0 by omega)]
        exact Ev.now _
      · rw [if_neg c0]
        simp only [if_neg (show ¬ ((rs (bytesOf s)).length : Int) = 0 by omega)]
        exact check_l0 (rs (bytesOf s)) (by omega) _ 0 (by omega) (Nat.zero_le _)
end Go.Proofs.YtnmngglfeiifaaaGreatDoor.Pure
end
section
/- The reference's Next, Units, SameUnits, Runes, Bytes and Text are the plain ones. -/
namespace Go.Proofs.YtnmngglfeiifaaaGreatDoor.PListsChecks
open Go.RowKit Go.Proofs.YtnmngglfeiifaaaGreatDoorW.PrintWords Go.Proofs.YtnmngglfeiifaaaGreatDoorW.PrintLast Go.Proofs.YtnmngglfeiifaaaGreatDoorW.PrintMore
open Go.Proofs.YtnmngglfeiifaaaGreatDoor.M Go.Proofs.YtnmngglfeiifaaaGreatDoor.X
set_option linter.unusedVariables false
set_option linter.unusedSimpArgs false

theorem rtail_yes (b : List Int) (i c : Int) (hi : 0 ≤ i) (hl : i < (b.length : Int)) (hc : rd b i = c) : redpenref01_tail.f b i = some (isT c) := by
  unfold redpenref01_tail.f
  rw [if_pos hl, if_pos hi, hc]
  unfold isT
  by_cases h : c ≥ 128
  · rw [if_pos h, decide_eq_true (p := 128 ≤ c) h, Bool.true_and]
  · rw [if_neg h, decide_eq_false (p := 128 ≤ c) h, Bool.false_and]
theorem rtail_no (b : List Int) (i : Int) (hl : (b.length : Int) ≤ i) : redpenref01_tail.f b i = some false := by
  unfold redpenref01_tail.f
  rw [if_neg (by omega)]
theorem rj4_no (k : Nat) (b : List Int) (c : Int) : redpenref01_Next.j4 (k + 1) b c false = some (-1, 1) := by
  simp only [redpenref01_Next.j4]; rw [if_neg (by simp)]
theorem rj3_out (k : Nat) (b : List Int) (c : Int) (h : c < 240 ∨ 248 ≤ c) : redpenref01_Next.j3 (k + 1 + 1) b c = some (-1, 1) := by
  simp only [redpenref01_Next.j3]
  by_cases h1 : c ≥ 240
  · rw [if_pos h1, if_neg (by omega), rj4_no]
  · rw [if_neg h1, rj4_no]
theorem rj2_no (k : Nat) (b : List Int) (c : Int) : redpenref01_Next.j2 (k + 1) b c false = redpenref01_Next.j3 k b c := by
  simp only [redpenref01_Next.j2]; rw [if_neg (by simp)]
theorem rj1_out (k : Nat) (b : List Int) (c : Int) (h : c < 224 ∨ 240 ≤ c) : redpenref01_Next.j1 (k + 1 + 1) b c = redpenref01_Next.j3 k b c := by
  simp only [redpenref01_Next.j1]
  by_cases h1 : c ≥ 224
  · rw [if_pos h1, if_neg (by omega), rj2_no]
  · rw [if_neg h1, rj2_no]
theorem rj0_no (k : Nat) (b : List Int) (c : Int) : redpenref01_Next.j0 (k + 1) b c false = redpenref01_Next.j1 k b c := by
  simp only [redpenref01_Next.j0]; rw [if_neg (by simp)]
theorem refnext_eq {k : Nat} (hk : 6 ≤ k) {b : List Int} (hB : BT b) : redpenref01_Next.f k b = some (nx b) := by
  obtain ⟨m, rfl⟩ : ∃ m, k = m + 1 + 1 + 1 + 1 + 1 + 1 := ⟨k - 6, by omega⟩
  rcases b with _ | ⟨c, t⟩
  · rfl
  have hc := hB.head
  have hl : (((c :: t).length : Nat) : Int) = t.length + 1 := by simp
  unfold redpenref01_Next.f
  rw [if_neg (by rw [hl]; omega), if_pos (by rw [hl]; omega), show rd (c :: t) 0 = c from rfl, w32 (x := c) (by omega) (by omega)]
  by_cases h1 : c < 128
  · rw [if_pos h1]; simp [nx, h1]
  rw [if_neg h1]
  by_cases h2 : 194 ≤ c ∧ c < 224
  · rw [if_pos (by omega), if_pos (by omega)]
    rcases t with _ | ⟨c1, t⟩
    · refine ob (rtail_no _ 1 (by simp)) ?_
      rw [rj0_no, rj1_out _ _ _ (by omega), rj3_out _ _ _ (by omega)]; simp [nx, h1, h2]
    · have b1 := hB.tail.head
      refine ob (rtail_yes _ 1 c1 (by omega) (by simp; omega) rfl) ?_
      by_cases hT : isT c1 = true
      · have t1 := (isT_iff c1).1 hT
        rw [hT]
        simp only [redpenref01_Next.j0, ↓reduceIte]
        rw [if_pos (by simp; omega), show rd (c :: c1 :: t) 1 = c1 from rfl, w32 (x := c - 192) (by omega) (by omega), w32 (x := (c - 192) * 64) (by omega) (by omega), w32 (x := c1) (by omega) (by omega), w32 (x := (c - 192) * 64 + c1) (by omega) (by omega), w32 (x := (c - 192) * 64 + c1 - 128) (by omega) (by omega), if_pos (by omega)]
        simp only [nx]
        rw [if_neg h1, if_pos h2, if_pos hT]
        unfold v2
        congr 2; omega
      · rw [show isT c1 = false by simpa using hT, rj0_no, rj1_out _ _ _ (by omega), rj3_out _ _ _ (by omega)]; simp [nx, h1, h2, hT]
  by_cases h2' : 192 ≤ c ∧ c < 194
  · rw [if_pos (by omega), if_pos (by omega)]
    have hn : nx (c :: t) = (-1, 1) := by
      simp only [nx]; rw [if_neg h1, if_neg h2, if_neg (by omega), if_neg (by omega)]
    rw [hn]
    rcases t with _ | ⟨c1, t⟩
    · refine ob (rtail_no _ 1 (by simp)) ?_
      rw [rj0_no, rj1_out _ _ _ (by omega), rj3_out _ _ _ (by omega)]
    · have b1 := hB.tail.head
      refine ob (rtail_yes _ 1 c1 (by omega) (by simp; omega) rfl) ?_
      by_cases hT : isT c1 = true
      · have t1 := (isT_iff c1).1 hT
        rw [hT]
        simp only [redpenref01_Next.j0, ↓reduceIte]
        rw [if_pos (by simp; omega), show rd (c :: c1 :: t) 1 = c1 from rfl, w32 (x := c - 192) (by omega) (by omega), w32 (x := (c - 192) * 64) (by omega) (by omega), w32 (x := c1) (by omega) (by omega), w32 (x := (c - 192) * 64 + c1) (by omega) (by omega), w32 (x := (c - 192) * 64 + c1 - 128) (by omega) (by omega), if_neg (by omega), rj1_out _ _ _ (by omega), rj3_out _ _ _ (by omega)]
      · rw [show isT c1 = false by simpa using hT, rj0_no, rj1_out _ _ _ (by omega), rj3_out _ _ _ (by omega)]
  have hj0 : (if c ≥ 192 then (if c < 224 then ((redpenref01_tail.f (c :: t) 1).bind fun t133 => (redpenref01_Next.j0 (m + 1 + 1 + 1 + 1 + 1 + 1) (c :: t) c t133)) else (redpenref01_Next.j0 (m + 1 + 1 + 1 + 1 + 1 + 1) (c :: t) c false)) else (redpenref01_Next.j0 (m + 1 + 1 + 1 + 1 + 1 + 1) (c :: t) c false)) = redpenref01_Next.j1 (m + 1 + 1 + 1 + 1 + 1) (c :: t) c := by
    by_cases h : c ≥ 192
    · rw [if_pos h, if_neg (by omega), rj0_no]
    · rw [if_neg h, rj0_no]
  rw [hj0]
  clear hj0
  by_cases h3 : 224 ≤ c ∧ c < 240
  · simp only [redpenref01_Next.j1]
    rw [if_pos h3.1, if_pos h3.2]
    rcases t with _ | ⟨c1, t⟩
    · refine ob (rtail_no _ 1 (by simp)) ?_
      rw [if_neg (by simp), rj2_no, rj3_out _ _ _ (by omega)]; simp [nx, h1, h2, h3]
    have b1 := hB.tail.head
    refine ob (rtail_yes _ 1 c1 (by omega) (by simp; omega) rfl) ?_
    by_cases hT : isT c1 = true
    · rw [if_pos hT]
      have t1 := (isT_iff c1).1 hT
      rcases t with _ | ⟨c2, t⟩
      · refine ob (rtail_no _ 2 (by simp)) ?_
        rw [rj2_no, rj3_out _ _ _ (by omega)]; simp [nx, h1, h2, h3]
      have b2 := hB.tail.tail.head
      refine ob (rtail_yes _ 2 c2 (by omega) (by simp; omega) rfl) ?_
      by_cases hT2 : isT c2 = true
      · have t2 := (isT_iff c2).1 hT2
        rw [hT2]
        simp only [redpenref01_Next.j2, ↓reduceIte]
        have hv : v3 c c1 c2 = ((c - 224) * 64 + (c1 - 128)) * 64 + (c2 - 128) := rfl
        rw [if_pos (by simp; omega), if_pos (by simp; omega), show rd (c :: c1 :: c2 :: t) 1 = c1 from rfl, show rd (c :: c1 :: c2 :: t) 2 = c2 from rfl, w32 (x := c - 224) (by omega) (by omega), w32 (x := (c - 224) * 4096) (by omega) (by omega), w32 (x := c1) (by omega) (by omega), w32 (x := c1 - 128) (by omega) (by omega), w32 (x := (c1 - 128) * 64) (by omega) (by omega), w32 (x := (c - 224) * 4096 + (c1 - 128) * 64) (by omega) (by omega), w32 (x := c2) (by omega) (by omega), w32 (x := (c - 224) * 4096 + (c1 - 128) * 64 + c2) (by omega) (by omega), w32 (x := (c - 224) * 4096 + (c1 - 128) * 64 + c2 - 128) (by omega) (by omega), show (c - 224) * 4096 + (c1 - 128) * 64 + c2 - 128 = v3 c c1 c2 by omega]
        simp only [nx]
        rw [if_neg h1, if_neg h2, if_pos h3]
        generalize v3 c c1 c2 = v at hv
        by_cases g1 : v ≥ 2048
        · rw [if_pos g1]
          by_cases g2 : v < 55296
          · rw [if_pos g2, if_pos ⟨hT, hT2, by omega, by omega⟩]
          · rw [if_neg g2]
            by_cases g3 : v > 57343
            · rw [if_pos g3, if_pos ⟨hT, hT2, by omega, by omega⟩]
            · rw [if_neg g3, rj3_out _ _ _ (by omega), if_neg (by omega)]
        · rw [if_neg g1, rj3_out _ _ _ (by omega), if_neg (by omega)]
      · rw [show isT c2 = false by simpa using hT2, rj2_no, rj3_out _ _ _ (by omega)]
        simp only [nx]; rw [if_neg h1, if_neg h2, if_pos h3, if_neg (fun h => hT2 h.2.1)]
    · rw [if_neg hT, rj2_no, rj3_out _ _ _ (by omega)]
      rcases t with _ | ⟨c2, t⟩
      · simp [nx, h1, h2, h3]
      · simp only [nx]; rw [if_neg h1, if_neg h2, if_pos h3, if_neg (fun h => hT h.1)]
  rw [rj1_out _ _ _ (by omega)]
  by_cases h4 : 240 ≤ c ∧ c < 248
  · simp only [redpenref01_Next.j3]
    rw [if_pos h4.1, if_pos h4.2]
    rcases t with _ | ⟨c1, t⟩
    · refine ob (rtail_no _ 1 (by simp)) ?_
      rw [if_neg (by simp), rj4_no]; simp [nx, h1, h2, h3]
    have b1 := hB.tail.head
    refine ob (rtail_yes _ 1 c1 (by omega) (by simp; omega) rfl) ?_
    by_cases hT : isT c1 = true
    · rw [if_pos hT]
      have t1 := (isT_iff c1).1 hT
      rcases t with _ | ⟨c2, t⟩
      · refine ob (rtail_no _ 2 (by simp)) ?_
        rw [if_neg (by simp), rj4_no]; simp [nx, h1, h2, h3]
      have b2 := hB.tail.tail.head
      refine ob (rtail_yes _ 2 c2 (by omega) (by simp; omega) rfl) ?_
      by_cases hT2 : isT c2 = true
      · rw [if_pos hT2]
        have t2 := (isT_iff c2).1 hT2
        rcases t with _ | ⟨c3, t⟩
        · refine ob (rtail_no _ 3 (by simp)) ?_
          rw [rj4_no]; simp [nx, h1, h2, h3]
        have b3 := hB.tail.tail.tail.head
        refine ob (rtail_yes _ 3 c3 (by omega) (by simp; omega) rfl) ?_
        by_cases hT3 : isT c3 = true
        · have t3 := (isT_iff c3).1 hT3
          rw [hT3]
          simp only [redpenref01_Next.j4, ↓reduceIte]
          have hv : v4 c c1 c2 c3 = (((c - 240) * 64 + (c1 - 128)) * 64 + (c2 - 128)) * 64 + (c3 - 128) := rfl
          rw [if_pos (by simp; omega), if_pos (by simp; omega), if_pos (by simp; omega), show rd (c :: c1 :: c2 :: c3 :: t) 1 = c1 from rfl, show rd (c :: c1 :: c2 :: c3 :: t) 2 = c2 from rfl, show rd (c :: c1 :: c2 :: c3 :: t) 3 = c3 from rfl, w32 (x := c - 240) (by omega) (by omega), w32 (x := (c - 240) * 262144) (by omega) (by omega), w32 (x := c1) (by omega) (by omega), w32 (x := c1 - 128) (by omega) (by omega), w32 (x := (c1 - 128) * 4096) (by omega) (by omega), w32 (x := (c - 240) * 262144 + (c1 - 128) * 4096) (by omega) (by omega), w32 (x := c2) (by omega) (by omega), w32 (x := c2 - 128) (by omega) (by omega), w32 (x := (c2 - 128) * 64) (by omega) (by omega), w32 (x := (c - 240) * 262144 + (c1 - 128) * 4096 + (c2 - 128) * 64) (by omega) (by omega), w32 (x := c3) (by omega) (by omega), w32 (x := (c - 240) * 262144 + (c1 - 128) * 4096 + (c2 - 128) * 64 + c3) (by omega) (by omega), w32 (x := (c - 240) * 262144 + (c1 - 128) * 4096 + (c2 - 128) * 64 + c3 - 128) (by omega) (by omega), show (c - 240) * 262144 + (c1 - 128) * 4096 + (c2 - 128) * 64 + c3 - 128 = v4 c c1 c2 c3 by omega]
          by_cases h5 : c < 245
          · simp only [nx]
            rw [if_neg h1, if_neg h2, if_neg h3, if_pos (show 240 ≤ c ∧ c < 245 from ⟨h4.1, h5⟩)]
            generalize v4 c c1 c2 c3 = v at hv
            by_cases g1 : v ≥ 65536
            · rw [if_pos g1]
              by_cases g2 : v ≤ 1114111
              · rw [if_pos g2, if_pos ⟨hT, hT2, hT3, by omega, by omega⟩]
              · rw [if_neg g2, if_neg (by omega)]
            · rw [if_neg g1, if_neg (by omega)]
          · have hn : nx (c :: c1 :: c2 :: c3 :: t) = (-1, 1) := by
              simp only [nx]; rw [if_neg h1, if_neg h2, if_neg h3, if_neg (by omega)]
            rw [hn, if_pos (by omega), if_neg (by omega)]
        · rw [show isT c3 = false by simpa using hT3, rj4_no]
          simp only [nx]; rw [if_neg h1, if_neg h2, if_neg h3]
          by_cases h5 : 240 ≤ c ∧ c < 245
          · rw [if_pos h5, if_neg (fun h => hT3 h.2.2.1)]
          · rw [if_neg h5]
      · rw [if_neg hT2, rj4_no]
        rcases t with _ | ⟨c3, t⟩
        · simp [nx, h1, h2, h3]
        · simp only [nx]; rw [if_neg h1, if_neg h2, if_neg h3]
          by_cases h5 : 240 ≤ c ∧ c < 245
          · rw [if_pos h5, if_neg (fun h => hT2 h.2.1)]
          · rw [if_neg h5]
    · rw [if_neg hT, rj4_no]
      rcases t with _ | ⟨c2, _ | ⟨c3, t⟩⟩
      · simp [nx, h1, h2, h3]
      · simp [nx, h1, h2, h3]
      · simp only [nx]; rw [if_neg h1, if_neg h2, if_neg h3]
        by_cases h5 : 240 ≤ c ∧ c < 245
        · rw [if_pos h5, if_neg (fun h => hT h.1)]
        · rw [if_neg h5]
  · rw [rj3_out _ _ _ (by omega)]
    simp only [nx]; rw [if_neg h1, if_neg h2, if_neg h3, if_neg (by omega)]
theorem refunits_from {b : List Int} (hB : BT b) (hlen : b.length < 5864062014805) : ∀ (d k at_ : Nat) (acc : List S100), b.length - at_ = d → at_ ≤ b.length → d + 7 ≤ k → acc.length ≤ at_ →
    redpenref01_Units.l0 k b acc at_ = some (acc ++ mkU at_ (us (b.drop at_))) := by
  intro d
  induction d using Nat.strongRecOn with
  | _ d ih =>
    intro k at_ acc hd ha hk hac
    obtain ⟨k, rfl⟩ : ∃ m, k = m + 1 := ⟨k - 1, by omega⟩
    simp only [redpenref01_Units.l0]
    by_cases he : at_ < b.length
    · have hne : b.drop at_ ≠ [] := by
        intro h; have := congrArg List.length h; rw [List.length_drop] at this; simp at this; omega
      have hl := nx_len hne
      rw [List.length_drop] at hl
      rw [if_pos (by omega), if_pos (by omega), if_pos (by omega), Int.toNat_natCast, refnext_eq (by omega) (hB.drop _)]
      simp only [Option.bind_some]
      have e : wrap64 ((at_ : Int) + (nx (b.drop at_)).2) = ((at_ + (nx (b.drop at_)).2.toNat : Nat) : Int) := by
        rw [w64 (by omega) (by omega)]; omega
      rw [if_pos (by omega), e, ih (d - (nx (b.drop at_)).2.toNat) (by omega) k _ _ (by omega) (by omega) (by omega) (by rw [List.length_append]; simp; omega), us_cons hne, List.drop_drop, List.append_assoc]
      simp only [mkU, List.singleton_append]
      congr 4
      omega
    · rw [if_neg (by omega), show b.drop at_ = [] from List.drop_eq_nil_of_le (by omega)]
      simp [us_nil, mkU]
theorem refunits_eq {b : List Int} (hB : BT b) (hlen : b.length < 5864062014805) {k : Nat} (hk : b.length + 7 ≤ k) : redpenref01_Units.f k b = some (mkU 0 (us b)) := by
  unfold redpenref01_Units.f
  have := refunits_from hB hlen b.length k 0 [] (by omega) (by omega) (by omega) (by simp)
  simpa using this
end Go.Proofs.YtnmngglfeiifaaaGreatDoor.PListsChecks
end
section
/- The reference's Runes, Bytes and Text are the plain ones. -/
namespace Go.Proofs.YtnmngglfeiifaaaGreatDoor.PListsChecks
open Go.RowKit Go.Proofs.YtnmngglfeiifaaaGreatDoorW.PrintWords Go.Proofs.YtnmngglfeiifaaaGreatDoorW.PrintLast Go.Proofs.YtnmngglfeiifaaaGreatDoorW.PrintMore
open Go.Proofs.YtnmngglfeiifaaaGreatDoor.M Go.Proofs.YtnmngglfeiifaaaGreatDoor.X
set_option linter.unusedVariables false
set_option linter.unusedSimpArgs false

theorem refrunes_from (l : List (Int × Int)) (hl : l.length < 35184372088832) : ∀ (d k i : Nat), l.length - i = d → i ≤ l.length → d < k →
    redpenref01_Runes.l0 k ((l.map (·.1)).take i) (mkU 0 l) (i : Int) = some (l.map (·.1)) := by
  intro d
  induction d with
  | zero =>
    intro k i hd hi hk
    obtain ⟨k, rfl⟩ : ∃ m, k = m + 1 := ⟨k - 1, by omega⟩
    simp only [redpenref01_Runes.l0]
    rw [if_neg (by rw [mkU_len]; omega), List.take_of_length_le (by rw [List.length_map]; omega)]
  | succ d ih =>
    intro k i hd hi hk
    obtain ⟨k, rfl⟩ : ∃ m, k = m + 1 := ⟨k - 1, by omega⟩
    have hlt : i < l.length := by omega
    have ew : wrap64 ((i : Int) + 1) = ((i + 1 : Nat) : Int) := by rw [w64 (by omega) (by omega)]; omega
    have hm : (rd_T100 (mkU 0 l) (i : Int)).f0 = (l.map (·.1)).getD i 0 := by
      unfold rd_T100
      rw [Int.toNat_natCast, mkU_get 0 l i hlt, List.getD_eq_getElem?_getD, List.getD_eq_getElem?_getD, List.getElem?_map, List.getElem?_eq_getElem hlt]
      rfl
    simp only [redpenref01_Runes.l0]
    rw [if_pos (by rw [mkU_len]; omega), if_pos (by omega), if_pos (by rw [List.length_take, List.length_map]; omega), hm, ew]
    have := ih k (i + 1) (by omega) (by omega) (by omega)
    rw [List.take_succ_eq_append_getElem (by rw [List.length_map]; exact hlt)] at this
    rw [List.getD_eq_getElem?_getD, List.getElem?_eq_getElem (by rw [List.length_map]; exact hlt)]
    exact this
theorem refrunes_eq {k : Nat} (s : ByteArray) (hs : s.size < 5864062014805) (hk : s.size + 8 ≤ k) : redpenref01_Runes.f k s = some (rs (bytesOf s)) := by
  unfold redpenref01_Runes.f
  have hB := bytesOf_BT s
  have hl := bytesOf_length s
  have hul := us_len (bytesOf s)
  refine ob (conv_of_str s (by omega)) ?_
  refine ob (refunits_eq hB (by omega) (by omega)) ?_
  exact refrunes_from (us (bytesOf s)) (by omega) _ _ 0 rfl (by omega) (by omega)
end Go.Proofs.YtnmngglfeiifaaaGreatDoor.PListsChecks
end
section
/- The document's letters, Check, Fold and words, as printed, in plain words. -/
namespace Go.Proofs.YtnmngglfeiifaaaGreatDoor.Pure
open Go.RowKit Go.Proofs.YtnmngglfeiifaaaGreatDoor.PListsChecks Go.Proofs.YtnmngglfeiifaaaGreatDoorW.PrintWords Go.Proofs.YtnmngglfeiifaaaGreatDoorW.PrintLast Go.Proofs.YtnmngglfeiifaaaGreatDoor.X
open Go.Proofs.YtnmngglfeiifaaaGreatDoor.M Go.Proofs.YtnmngglfeiifaaaGreatDoor.H
set_option linter.unusedVariables false
set_option linter.unusedSimpArgs false

theorem rgreat_eq (r : Int) : redpenref01_Great.f r = some (great r) := by
  unfold redpenref01_Great.f
  cases h : great r
  · rw [great_not] at h
    (repeat' split) <;> first | rfl | omega | (rw [Option.some.injEq, bne_eq_false_iff_eq]; omega)
  · rw [great_iff] at h
    (repeat' split) <;> first | rfl | omega | (rw [Option.some.injEq, bne_iff_ne]; omega)
theorem rsmall_eq {r : Int} (h0 : -2147483648 ≤ r) (h1 : r < 2147483648) : redpenref01_Small.f r = some (small r) := by
  unfold redpenref01_Small.f
  have e : great (wrap32 (r - 32)) = small r := by
    by_cases h : -2147483648 ≤ r - 32
    · rw [w32 h (by omega)]; rfl
    · have e1 : small r = false := by rw [small_not]; omega
      rw [e1, great_not]
      unfold wrap32
      omega
  refine ob (rgreat_eq _) ?_
  rw [e]
theorem rletter_eq {r : Int} (h0 : -2147483648 ≤ r) (h1 : r < 2147483648) : redpenref01_Letter.f r = some (letter r) := by
  unfold redpenref01_Letter.f
  refine ob (rgreat_eq r) ?_
  have hi := letter_iff r
  cases hg : great r
  · rw [if_neg (by decide)]
    refine ob (rsmall_eq h0 h1) ?_
    cases hs : small r
    · rw [if_neg (by decide)]
      rw [hg, hs] at hi
      simp only [Bool.false_eq_true, false_or] at hi
      cases hl : letter r
      · rw [hl] at hi
        simp only [Bool.false_eq_true, false_iff] at hi
        (repeat' split) <;> first | rfl | omega | (rw [Option.some.injEq, decide_eq_false_iff_not]; omega)
      · have h := hi.1 hl
        (repeat' split) <;> first | rfl | omega | (rw [Option.some.injEq, decide_eq_true_iff]; omega)
    · rw [if_pos rfl, hi.2 (.inr (.inl hs))]
  · rw [if_pos rfl, hi.2 (.inl hg)]
theorem rl_at {l : List Int} (hR : ∀ r ∈ l, -1 ≤ r ∧ r ≤ 1114111) (j : Nat) (hj : j < l.length) : redpenref01_Letter.f (rd l (j : Int)) = some (letter (rd l (j : Int))) := by
  have e : rd l (j : Int) = l[j] := by unfold rd; rw [Int.toNat_natCast, List.getD_eq_getElem?_getD, List.getElem?_eq_getElem hj]; rfl
  have := hR _ (List.getElem_mem hj)
  rw [e]
  exact rletter_eq (by omega) (by omega)
theorem rcheck_l0 (l : List Int) (hl : l.length ≤ 1000000) (hR : ∀ r ∈ l, -1 ≤ r ∧ r ≤ 1114111) (hne : ¬ (l.length : Int) = 0) : ∀ (d i : Nat), l.length - i = d → i ≤ l.length → Ev (fun k => redpenref06_Check.l0 k l (i : Int)) (chkF l d i) := by
  intro d
  induction d with
  | zero =>
    intro i hd hi
    refine Ev.step (f := fun _ => some 0) (fun k => ?_) (Ev.now _)
    simp only [redpenref06_Check.l0]
    rw [if_neg (by omega), if_neg hne]
  | succ d ih =>
    intro i hd hi
    have ei : ∀ _ : Unit, wrap64 ((i : Int) + 1) = ((i + 1 : Nat) : Int) := fun _ => hw _ _ (by omega) (by omega)
    have nx := ih (i + 1) (by omega) (by omega)
    have hlt : i < l.length := by omega
    have e : ∀ k, redpenref06_Check.l0 (k + 1) l (i : Int) = (redpenref01_Letter.f (rd l (i : Int))).bind fun t293 => (if t293 = true then (redpenref06_Check.l0 k l ((i + 1 : Nat) : Int)) else (if (rd l (i : Int)) = 39 then (if (i : Int) > 0 then (if ((i + 1 : Nat) : Int) < (l.length : Int) then (if 0 ≤ (wrap64 ((i : Int) - 1)) then (if (wrap64 ((i : Int) - 1)) < (l.length : Int) then ((redpenref01_Letter.f (rd l (wrap64 ((i : Int) - 1)))).bind fun t296 => (if t296 = true then (if 0 ≤ ((i + 1 : Nat) : Int) then ((redpenref01_Letter.f (rd l ((i + 1 : Nat) : Int))).bind fun t298 => (if t298 = true then (redpenref06_Check.l0 k l ((i + 1 : Nat) : Int)) else (some 5))) else (none)) else (some 5))) else (none)) else (none)) else (some 5)) else (some 5)) else (some 5))) := by
      intro k
      rw [← ei ()]
      show (if (i : Int) < (l.length : Int) then (if 0 ≤ (i : Int) then _ else _) else _) = _
      rw [if_pos (by omega), if_pos (by omega)]
    have yes : (∀ k, redpenref06_Check.l0 (k + 1) l (i : Int) = redpenref06_Check.l0 k l ((i + 1 : Nat) : Int)) → goodAt l i = true → Ev (fun k => redpenref06_Check.l0 k l (i : Int)) (chkF l (d + 1) i) := by
      intro h hb
      show Ev _ (if goodAt l i = true then chkF l d (i + 1) else 5)
      rw [hb, if_pos rfl]
      exact Ev.step h nx
    have no : (∀ k, redpenref06_Check.l0 (k + 1) l (i : Int) = some 5) → goodAt l i = false → Ev (fun k => redpenref06_Check.l0 k l (i : Int)) (chkF l (d + 1) i) := by
      intro h hb
      show Ev _ (if goodAt l i = true then chkF l d (i + 1) else 5)
      rw [hb, if_neg (by simp)]
      exact Ev.step (f := fun _ => some 5) h (Ev.now _)
    have hL := rl_at hR i hlt
    cases cl : letter (rd l (i : Int)) with
    | true =>
      rw [cl] at hL
      exact yes (fun k => (e k).trans (ob hL (if_pos rfl))) (by unfold goodAt; rw [cl]; rfl)
    | false =>
      rw [cl] at hL
      by_cases c39 : rd l (i : Int) = 39
      · by_cases c0 : 0 < i
        · have ep : ∀ _ : Unit, wrap64 ((i : Int) - 1) = ((i - 1 : Nat) : Int) := fun _ => hw _ _ (by omega) (by omega)
          have hP := rl_at hR (i - 1) (by omega)
          by_cases c1 : i + 1 < l.length
          · have hN := rl_at hR (i + 1) c1
            have g2 : ((i + 1 : Nat) : Int) < (l.length : Int) := by omega
            have g3 : (0 : Int) ≤ wrap64 ((i : Int) - 1) := by rw [ep ()]; omega
            have g4 : wrap64 ((i : Int) - 1) < (l.length : Int) := by rw [ep ()]; omega
            have g5 : (0 : Int) ≤ ((i + 1 : Nat) : Int) := by omega
            rw [← ep ()] at hP
            have e2 : ∀ k, redpenref06_Check.l0 (k + 1) l (i : Int) = (redpenref01_Letter.f (rd l (wrap64 ((i : Int) - 1)))).bind fun t296 => (if t296 = true then (if 0 ≤ ((i + 1 : Nat) : Int) then ((redpenref01_Letter.f (rd l ((i + 1 : Nat) : Int))).bind fun t298 => (if t298 = true then (redpenref06_Check.l0 k l ((i + 1 : Nat) : Int)) else (some 5))) else (none)) else (some 5)) :=
              fun k => (e k).trans (ob hL ((if_neg (by decide)).trans ((if_pos c39).trans ((if_pos (by omega)).trans ((if_pos g2).trans ((if_pos g3).trans (if_pos g4)))))))
            rw [ep ()] at hP
            cases cp : letter (rd l ((i - 1 : Nat) : Int)) with
            | true =>
              rw [cp, ← ep ()] at hP
              cases cn : letter (rd l ((i + 1 : Nat) : Int)) with
              | true =>
                rw [cn] at hN
                exact yes (fun k => (e2 k).trans (ob hP ((if_pos rfl).trans ((if_pos g5).trans (ob hN (if_pos rfl)))))) (by unfold goodAt; rw [cl, cp, cn, decide_eq_true c39, decide_eq_true c0, decide_eq_true c1]; rfl)
              | false =>
                rw [cn] at hN
                exact no (fun k => (e2 k).trans (ob hP ((if_pos rfl).trans ((if_pos g5).trans (ob hN (if_neg (by decide))))))) (by unfold goodAt; rw [cl, cp, cn]; simp)
            | false =>
              rw [cp, ← ep ()] at hP
              exact no (fun k => (e2 k).trans (ob hP (if_neg (by decide)))) (by unfold goodAt; rw [cl, cp]; simp)
          · exact no (fun k => (e k).trans (ob hL ((if_neg (by decide)).trans ((if_pos c39).trans ((if_pos (by omega)).trans (if_neg (by omega))))))) (by unfold goodAt; rw [cl, decide_eq_false c1]; simp)
        · exact no (fun k => (e k).trans (ob hL ((if_neg (by decide)).trans ((if_pos c39).trans (if_neg (by omega)))))) (by unfold goodAt; rw [cl, decide_eq_false c0]; simp)
      · exact no (fun k => (e k).trans (ob hL ((if_neg (by decide)).trans (if_neg c39)))) (by unfold goodAt; rw [cl, decide_eq_false c39]; simp)
theorem rcheck_ev (s : ByteArray) (hs : s.size ≤ 1000000) : Ev (fun k => redpenref06_Check.f k s) (checkM s) := by
  have hl : (bytesOf s).length = s.size := bytesOf_length s
  have h1 := rs_len (bytesOf s)
  have h2 := us_len (bytesOf s)
  have hR := rs_range (bytesOf_BT s)
  unfold checkM
  by_cases c : s.size > 64
  · rw [if_pos c]
    refine Ev.congr (f := fun _ => some 3) (fun k => ?_) (Ev.now _)
    unfold redpenref06_Check.f
    rw [if_pos (by omega)]
  · rw [if_neg c]
    have hr : Ev (fun k => redpenref01_Runes.f k s) (rs (bytesOf s)) := ⟨s.size + 8, fun k hk => refrunes_eq s (by omega) hk⟩
    refine Ev.congr (f := fun k => (redpenref01_Runes.f k s).bind fun t => redpenref06_Check.l0 k t 0) (fun k => ?_) (Ev.bind hr ?_)
    · unfold redpenref06_Check.f
      rw [if_neg (by omega)]
    · by_cases c0 : (rs (bytesOf s)).length = 0
      · rw [if_pos c0]
        refine Ev.step (f := fun _ => some 5) (fun k => ?_) (Ev.now _)
        simp only [redpenref06_Check.l0]
        rw [if_neg (by omega), if_pos (by omega)]
      · rw [if_neg c0]
        exact rcheck_l0 (rs (bytesOf s)) (by omega) hR (by omega) _ 0 (by omega) (Nat.zero_le _)
/-! ### Fold -/
end Go.Proofs.YtnmngglfeiifaaaGreatDoor.Pure
end
