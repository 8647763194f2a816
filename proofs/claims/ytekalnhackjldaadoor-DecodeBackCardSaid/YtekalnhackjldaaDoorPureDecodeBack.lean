/- DecodeBack: a sign written as an entity, or an escape, is that sign; a number that is no sign is left as it is written. For all numbers of 32 bits and all kinds; the tables of Go's library and of the program lie as their texts lay them. -/
import Derived.Test.YtekalnhackjldaaDoorBOneDecodeBack
import Derived.Test.YtekalnhackjldaaDoorBDlBDecodeBack
import Derived.Test.YtekalnhackjldaaDoorMBack
namespace Go.Proofs.YtekalnhackjldaaDoor.Pure
open Go.RowKit Go.Proofs.YtekalnhackjldaaDoor.PDecodeBack Go.Proofs.YtekalnhackjldaaDoorW.PrintWords Go.Proofs.YtekalnhackjldaaDoorW.PrintLast
open Go.Proofs.YtekalnhackjldaaDoor.M Go.Proofs.YtekalnhackjldaaDoor.X Go.Proofs.YtekalnhackjldaaDoor.H
set_option linter.unusedVariables false
set_option linter.unusedSimpArgs false

theorem dec_awake : Ev (fun f => redpenlaw15_Awake.f f) true := Ev.of redpenlaw15_Awake.mono (k := 60) (by decide +kernel)
/-! ### the digits as the closure writes them -/
theorem bt_hex : ∀ d : Nat, d < 16 → bt (⟨#[48, 49, 50, 51, 52, 53, 54, 55, 56, 57, 97, 98, 99, 100, 101, 102]⟩ : ByteArray) (d : Int) = hexC d := by
  have h : ∀ d : Fin 16, bt (⟨#[48, 49, 50, 51, 52, 53, 54, 55, 56, 57, 97, 98, 99, 100, 101, 102]⟩ : ByteArray) ((d.val : Nat) : Int) = hexC d.val := by decide +kernel
  intro d hd
  exact h ⟨d, hd⟩
theorem dig_ev (b least : Nat) (hb : b = 10 ∨ b = 16) (hl8 : least ≤ 8) : ∀ (f x : Nat) (acc : List Int), x < 10 ^ f → least ≤ f + acc.length → x ≤ 1114111 → f + acc.length ≤ 100 → Ev (fun k => redpenlaw15_DecodeBack_1.l0 k (b : Int) (least : Int) acc (x : Int)) (strOfNums (digL b least f x acc))
  | 0, x, acc, hx, hl, hm, ha => by
    have : x = 0 := by simpa using hx
    subst this
    refine Ev.step (f := fun _ => some (strOfNums acc)) (fun k => ?_) (Ev.now _)
    simp only [redpenlaw15_DecodeBack_1.l0]
    rw [if_neg (by omega), if_neg (by omega)]
  | f + 1, x, acc, hx, hl, hm, ha => by
    have hb0 : 0 < b := by omega
    have hd : x % b < b := Nat.mod_lt _ hb0
    have hx' : x / b < 10 ^ f := by
      rw [Nat.pow_succ] at hx
      rcases hb with rfl | rfl <;> omega
    have hdiv : x / b ≤ 1114111 := Nat.le_trans (Nat.div_le_self _ _) hm
    have e1 : Int.tmod (x : Int) (b : Int) = ((x % b : Nat) : Int) := (Int.ofNat_tmod x b).symm
    have e2 : Int.tdiv (x : Int) (b : Int) % 4294967296 = ((x / b : Nat) : Int) := by
      rw [← Int.ofNat_tdiv]
      exact Int.emod_eq_of_lt (Int.natCast_nonneg _) (by omega)
    have hbt := bt_hex (x % b) (by omega)
    unfold digL
    by_cases h : 0 < x ∨ acc.length < least
    · rw [if_pos h]
      have ih := dig_ev b least hb hl8 f (x / b) (hexC (x % b) :: acc) hx' (by simp only [List.length_cons]; omega) hdiv (by simp only [List.length_cons]; omega)
      refine Ev.step (fun k => ?_) ih
      simp only [redpenlaw15_DecodeBack_1.l0, Option.bind_some, e1, e2, hbt]
      have q1 : ¬ ((b : Int) = 0) := by omega
      have q2 : (0 : Int) ≤ ((x % b : Nat) : Int) := by omega
      have q3 : ((x % b : Nat) : Int) < 16 := by omega
      have q4 : ([hexC (x % b)] : List Int).length + acc.length < 140737488355328 := by simp; omega
      by_cases hx0 : (x : Int) > 0
      · rw [if_pos hx0, if_neg q1, if_pos q2, if_pos q3, if_pos q4]
        rfl
      · rw [if_neg hx0, if_pos (by omega), if_neg q1, if_pos q2, if_pos q3, if_pos q4]
        rfl
    · rw [if_neg h]
      refine Ev.step (f := fun _ => some (strOfNums acc)) (fun k => ?_) (Ev.now _)
      simp only [redpenlaw15_DecodeBack_1.l0]
      rw [if_neg (by omega), if_neg (by omega)]
theorem dig_text (b least n : Nat) (hb : b = 10 ∨ b = 16) (hl8 : least ≤ 8) (hn : n ≤ 1114111) :
    ∃ pre : List Int, Ev (fun k => redpenlaw15_DecodeBack_1.f k (b : Int) (least : Int) (n : Int)) (strOfNums pre) ∧ sat (b : Int) 0 pre = some (n : Int) ∧ (∀ c ∈ pre, (48 ≤ c ∧ c ≤ 57) ∨ (97 ≤ c ∧ c ≤ 102 ∧ b = 16)) ∧ least ≤ pre.length ∧ (∀ m, n < b ^ m → pre.length ≤ max m least) := by
  obtain ⟨pre, e1, e2, e3, e4, e5, _⟩ := dig_spec b least hb 8 n [] (by show n < 100000000; omega) (by simpa using hl8) hn
  have h := dig_ev b least hb hl8 8 n [] (by show n < 100000000; omega) (by simpa using hl8) hn (by simp)
  rw [e1, List.append_nil] at h
  refine ⟨pre, h, e2, e3, by simpa using e4, fun m hm => by simpa using e5 m hm⟩
/-! ### what is read of them -/
theorem endN_at (A : List Int) (h59 : ∀ c ∈ A, c ≠ 59) : ∀ (d i : Nat), i ≤ A.length → A.length ≤ i + d → endN (A ++ [59]) d i = A.length
  | 0, i, h1, h2 => by unfold endN; omega
  | d + 1, i, h1, h2 => by
    unfold endN
    rw [if_pos (by simp; omega)]
    by_cases hi : i = A.length
    · subst hi
      rw [if_pos (by unfold rd; rw [Int.toNat_natCast, List.getD_eq_getElem?_getD, List.getElem?_concat_length]; rfl)]
    · have hlt : i < A.length := by omega
      have hr : rd (A ++ [59]) (i : Int) = A[i] := by
        unfold rd
        rw [Int.toNat_natCast, List.getD_eq_getElem?_getD, List.getElem?_append_left hlt, List.getElem?_eq_getElem hlt]
        rfl
      rw [hr, if_neg (h59 _ (List.getElem_mem hlt))]
      exact endN_at A h59 d (i + 1) (by omega) (by omega)
theorem str_extract (c : Int) (l : List Int) : (strOfNums (c :: l)).extract 1 (strOfNums (c :: l)).size = strOfNums l := by
  apply ba_ext
  rw [toList_eq_data, toList_eq_data, strOfNums_data, strOfNums_size, ByteArray.data_extract, Array.toList_extract, strOfNums_data]
  simp [List.extract, List.take_of_length_le]
theorem bt_str {l : List Int} (hB : BT l) (i : Nat) (h : i < l.length) : bt (strOfNums l) (i : Int) = rd l (i : Int) := by
  rw [bt_bytesOf _ _ (by rw [strOfNums_size]; exact h), bytesOf_strOfNums hB]
theorem ent_at_digits (b : Nat) (hb : b = 10 ∨ b = 16) (A : List Int) (pre : List Int) (n : Nat) (hA : A = 38 :: 35 :: (if b = 16 then 120 :: pre else pre)) (hs : sat (b : Int) 0 pre = some (n : Int)) (hc : ∀ c ∈ pre, (48 ≤ c ∧ c ≤ 57) ∨ (97 ≤ c ∧ c ≤ 102 ∧ b = 16)) (h1 : 1 ≤ pre.length) (h2 : A.length ≤ 12) :
    entF (A ++ [59]) = if okV (n : Int) = true then ((n : Int), ((A.length + 1 : Nat) : Int), true) else entNo := by
  have hBp : BT pre := fun x hx => by have := hc x hx; omega
  have hne : pre ≠ [] := by intro e; rw [e] at h1; simp at h1
  have h59 : ∀ c ∈ A, c ≠ 59 := by
    intro c hcm
    rw [hA] at hcm
    rcases List.mem_cons.1 hcm with e | hcm
    · omega
    rcases List.mem_cons.1 hcm with e | hcm
    · omega
    by_cases h16 : b = 16
    · rw [if_pos h16] at hcm
      rcases List.mem_cons.1 hcm with e | hcm
      · omega
      · have := hc c hcm; omega
    · rw [if_neg h16] at hcm
      have := hc c hcm; omega
  have he := endN_at A h59 12 0 (by omega) (by omega)
  have hl : (A ++ [59]).length = A.length + 1 := by simp
  have hA2 : 2 ≤ A.length := by rw [hA]; simp
  have ht : ((A ++ [59]).take A.length).drop 1 = 35 :: (if b = 16 then 120 :: pre else pre) := by rw [List.take_left, hA]; rfl
  unfold entF
  rw [he, hl, if_neg, ht]
  · have hBt : BT (if b = 16 then 120 :: pre else pre) := by
      split
      · intro x hx
        rcases List.mem_cons.1 hx with e | hx
        · omega
        · exact hBp x hx
      · exact hBp
    have hB1 : BT (35 :: (if b = 16 then 120 :: pre else pre)) := by
      intro x hx
      rcases List.mem_cons.1 hx with e | hx
      · omega
      · exact hBt x hx
    have hcast : ((A.length : Nat) : Int) + 1 = ((A.length + 1 : Nat) : Int) := by omega
    rw [hcast]
    generalize ((A.length + 1 : Nat) : Int) = N
    unfold entB
    rw [if_pos (by rw [show (0 : Int) = ((0 : Nat) : Int) from rfl, bt_str hB1 0 (by simp)]; rfl), str_extract]
    unfold entNum
    have fin : entDig b (strOfNums pre) N = if okV (n : Int) = true then ((n : Int), N, true) else entNo := by
      rw [← rsign_dig b hb, bytesOf_strOfNums hBp]
      exact rsign_of hs hne
    by_cases h16 : b = 16
    · subst h16
      simp only [if_true] at hBt ⊢
      rw [if_neg (by rw [strOfNums_size]; simp), if_pos (by rw [show (0 : Int) = ((0 : Nat) : Int) from rfl, bt_str hBt 0 (by simp)]; rfl), str_extract]
      exact fin
    · have h10 : b = 10 := by omega
      subst h10
      simp only [if_neg h16]
      obtain ⟨c, t, rfl⟩ : ∃ c t, pre = c :: t := by
        cases pre with
        | nil => exact absurd rfl hne
        | cons c t => exact ⟨c, t, rfl⟩
      have hcc := hc c List.mem_cons_self
      have hbt0 : bt (strOfNums (c :: t)) 0 = c := by rw [show (0 : Int) = ((0 : Nat) : Int) from rfl, bt_str hBp 0 (by simp)]; rfl
      rw [if_neg (by rw [strOfNums_size]; simp), hbt0, if_neg (by omega), if_neg (by omega)]
      exact fin
  · rintro (h | h | h | h)
    · omega
    · omega
    · exact h (by unfold rd; rw [Int.toNat_natCast, List.getD_eq_getElem?_getD, List.getElem?_concat_length]; rfl)
    · exact h (by rw [hA]; rfl)
theorem enc_ne (n : Int) (c : Int) (t : List Int) (hc : c = 38 ∨ c = 92) (ht : 3 ≤ t.length) : enc n ≠ c :: t := by
  intro h
  unfold enc at h
  split at h
  · injection h with _ h2
    rw [← h2] at ht
    simp at ht
  split at h
  · have := congrArg List.length h
    simp at this
    omega
  split at h
  · have := congrArg List.length h
    simp at this
    omega
  · injection h with h1 _
    omega
/-- The law behind the text. -/
theorem tail_ok (f w : Int) (c : Int) (t : List Int) (hB : BT (c :: t)) (n : Nat) (hc : c = 38 ∨ c = 92) (ht : 3 ≤ t.length) (ht2 : t.length < 1000) (hn : n ≤ 1114111)
    (hone : oneM f w (c :: t) = if okV (n : Int) = true then ((n : Int), ((t.length + 1 : Nat) : Int)) else nx (c :: t)) : Ev (fun k => redpenlaw15_DecodeBack.T k (n : Int) f w (strOfNums (c :: t))) true := by
  have hl : (c :: t).length = t.length + 1 := rfl
  have hu := units_ok f w (c :: t) hB (by rw [hl]; omega) 0 (t.length + 1) (by rw [hl]; omega)
  rw [show 0 + (t.length + 1) = (c :: t).length by rw [hl]; omega, List.take_length, List.drop_zero] at hu
  have hu' : Ev (fun k => decode_Units.f k f (c :: t) w 0 (((strOfNums (c :: t)).size : Nat) : Int)) (mkU 0 (uM f w (t.length + 1) (c :: t)), 0) := by
    rw [strOfNums_size, hl]
    exact hu
  unfold redpenlaw15_DecodeBack.T
  rw [strOfNums_size] at *
  simp only [if_pos (show (c :: t).length < 1000000 by rw [hl]; omega)]
  refine Ev.bind (a := c :: t) ⟨0, fun _ _ => conv_of hB (by rw [hl]; omega)⟩ (Ev.bind hu' ?_)
  simp only [if_true]
  by_cases hv : okV (n : Int) = true
  · rw [if_pos hv] at hone
    have hv2 := (okV_iff _).1 hv
    have hcond : 0 < (n : Int) ∧ ¬ (55296 ≤ (n : Int) ∧ (n : Int) < 57344) := ⟨hv2.1, hv2.2.2⟩
    have hun : uM f w (t.length + 1) (c :: t) = [((n : Int), ((t.length + 1 : Nat) : Int))] := by
      show (if c :: t = [] then [] else oneM f w (c :: t) :: uM f w t.length ((c :: t).drop (oneM f w (c :: t)).2.toNat)) = _
      rw [if_neg (by simp), hone]
      simp only
      rw [Int.toNat_natCast, List.drop_eq_nil_of_le (by rw [hl]; omega), uM_nil]
    rw [hun]
    simp only [if_pos hcond]
    have hlen : (mkU 0 [((n : Int), ((t.length + 1 : Nat) : Int))]).length = 1 := rfl
    simp only [if_pos hlen]
    have hr : (rd_T45 (mkU 0 [((n : Int), ((t.length + 1 : Nat) : Int))]) 0).f0 = wrap32 (n : Int) := by rw [w32 (by omega) (by omega)]; rfl
    simp only [if_pos hr]
    have hlit : litM (c :: t) (mkU 0 [((n : Int), ((t.length + 1 : Nat) : Int))]) = false := by
      have e0 : litFrom (mkU 0 [((n : Int), ((t.length + 1 : Nat) : Int))]) = 0 := rfl
      have e1 : litTo (mkU 0 [((n : Int), ((t.length + 1 : Nat) : Int))]) = ((t.length + 1 : Nat) : Int) := by
        show wrap64 (0 + ((t.length + 1 : Nat) : Int)) = _
        rw [w64 (by omega) (by omega)]
        omega
      unfold litM
      rw [if_neg (by rw [hlen]; omega), e0, e1, if_pos ⟨by omega, by omega, by rw [hl]; omega⟩, Int.toNat_natCast, ← hl, List.take_length]
      show ((strOfNums (c :: t)).toList == (strOfNums (encL [(n : Int)])).toList) = false
      have hok : okR (n : Int) = true := by rw [okR_iff]; omega
      have hen : encL [(n : Int)] = enc (n : Int) := by
        show (if okR (n : Int) = true then enc (n : Int) else []) ++ [] = _
        rw [if_pos hok, List.append_nil]
      rw [strOfNums_beq hB (by rw [hen]; exact enc_BT hok), hen, beq_eq_false_iff_ne]
      exact fun e => enc_ne (n : Int) c t hc ht e.symm
    have hd := dlit_eq (c :: t) (mkU 0 [((n : Int), ((t.length + 1 : Nat) : Int))]) (by rw [hlen]; omega)
    rw [hlit] at hd
    exact Ev.bind hd (Ev.now _)
  · rw [if_neg hv] at hone
    have hcond : ¬ (0 < (n : Int) ∧ ¬ (55296 ≤ (n : Int) ∧ (n : Int) < 57344)) := by
      intro h
      exact hv ((okV_iff _).2 ⟨h.1, by omega, h.2⟩)
    have hnx : nx (c :: t) = (c, 1) := by
      simp only [nx]
      rw [if_pos (by omega)]
    rw [hnx] at hone
    have hun : uM f w (t.length + 1) (c :: t) = (c, 1) :: uM f w t.length t := by
      show (if c :: t = [] then [] else oneM f w (c :: t) :: uM f w t.length ((c :: t).drop (oneM f w (c :: t)).2.toNat)) = _
      rw [if_neg (by simp), hone]
      rfl
    rw [hun]
    simp only [if_neg hcond]
    have htn : 1 ≤ (uM f w t.length t).length := by
      obtain ⟨m, hm⟩ : ∃ m, t.length = m + 1 := ⟨t.length - 1, by omega⟩
      rw [hm]
      show 1 ≤ (if t = [] then [] else oneM f w t :: uM f w m (t.drop (oneM f w t).2.toNat)).length
      rw [if_neg (by intro e; rw [e] at ht; simp at ht)]
      simp
    have hml : ∀ (k : Nat) (b : List Int), (uM f w k b).length ≤ k := by
      intro k
      induction k with
      | zero => intro b; simp [uM]
      | succ k ih =>
        intro b
        unfold uM
        split
        · simp
        · have := ih (b.drop (oneM f w b).2.toNat)
          simp only [List.length_cons]
          omega
    have hm2 := hml t.length t
    have hlen : 1 < (mkU 0 ((c, 1) :: uM f w t.length t)).length := by
      rw [mkU_len]
      simp only [List.length_cons]
      omega
    simp only [if_pos hlen]
    refine Ev.bind (dtext_eq _ (by rw [mkU_len]; simp only [List.length_cons]; omega)) ?_
    have hne : ((strOfNums (encL (runesOf (mkU 0 ((c, 1) :: uM f w t.length t))))).toList == ([] : List UInt8)) = false := by
      rw [beq_eq_false_iff_ne]
      intro e
      have e2 : (strOfNums (encL (runesOf (mkU 0 ((c, 1) :: uM f w t.length t))))).size = 0 := by
        have := congrArg List.length e
        rw [toList_eq_data] at this
        simpa using this
      rw [strOfNums_size, runesOf_mkU] at e2
      simp only [List.map_cons, encL, List.length_append] at e2
      rw [if_pos (by rw [okR_iff]; omega)] at e2
      have := (enc_len c).1
      omega
    rw [hne]
    exact Ev.now _
theorem esc_at (w : Nat) (hw : w = 4 ∨ w = 8) (f : Int) (hf : 4 ≤ f ∧ f < 7) (c : Int) (hc : c = if w = 8 then 85 else 117) (pre : List Int) (n : Nat) (hs : sat 16 0 pre = some (n : Int)) (hl : pre.length = w) :
    escM f (92 :: c :: pre) = if okV (n : Int) = true then ((n : Int), 2 + (w : Int), true) else entNo := by
  have hlen : (92 :: c :: pre).length = w + 2 := by simp [hl]
  have h0 : rd (92 :: c :: pre) 0 = 92 := rfl
  have h1 : rd (92 :: c :: pre) 1 = c := rfl
  unfold escM
  rw [h0, h1, if_neg (by rintro (h | h | h) <;> first | omega | (exact h rfl) | (rcases hw with rfl | rfl <;> simp at hc <;> omega)), if_neg (by omega)]
  have hE : escH w (92 :: c :: pre) = if okV (n : Int) = true then ((n : Int), 2 + (w : Int), true) else entNo := by
    rw [← rsign_hex w (by omega) (92 :: c :: pre) (by rw [hlen]; omega)]
    have hd : (List.drop 2 (92 :: c :: pre)).take w = pre := by
      show pre.take w = pre
      rw [← hl, List.take_length]
    rw [hd]
    exact rsign_of hs (by intro e; rw [e] at hl; simp at hl; omega)
  rcases hw with rfl | rfl
  · simp only [show ((4 : Nat) = 8) = False by simp, if_false] at hc
    subst hc
    rw [if_neg (by decide), if_neg (by decide), if_neg (by decide), if_neg (by decide), if_pos rfl]
    exact hE
  · simp only [if_true] at hc
    subst hc
    rw [if_neg (by decide), if_neg (by decide), if_neg (by decide), if_pos rfl]
    exact hE
theorem ent_ok (b : Nat) (hb : b = 10 ∨ b = 16) (n : Nat) (hn : n ≤ 1114111) (P : ByteArray) (hP : P = strOfNums (if b = 16 then [38, 35, 120] else [38, 35])) :
    Ev (fun k => (redpenlaw15_DecodeBack_1.f k (b : Int) 1 (n : Int)).bind fun d => if d.size < 1000 then redpenlaw15_DecodeBack.T k (n : Int) 1 1 (P ++ d ++ (⟨#[59]⟩ : ByteArray)) else none) true := by
  obtain ⟨pre, e, hs, hc, h1, h2⟩ := dig_text b 1 n hb (by omega) hn
  have hp7 : pre.length ≤ 7 := by
    rcases hb with rfl | rfl
    · have := h2 7 (by show n < 10000000; omega)
      omega
    · have := h2 6 (by show n < 16777216; omega)
      omega
  have hBp : BT pre := fun x hx => by have := hc x hx; omega
  refine Ev.bind e ?_
  simp only [if_pos (show (strOfNums pre).size < 1000 by rw [strOfNums_size]; omega)]
  obtain ⟨A, hA⟩ : ∃ A : List Int, A = 38 :: 35 :: (if b = 16 then 120 :: pre else pre) := ⟨_, rfl⟩
  have htext : P ++ strOfNums pre ++ (⟨#[59]⟩ : ByteArray) = strOfNums (A ++ [59]) := by
    rw [hP, show (⟨#[59]⟩ : ByteArray) = strOfNums [59] from rfl, ← strOfNums_append, ← strOfNums_append, hA]
    congr 1
    split <;> rfl
  rw [htext]
  obtain ⟨T, hT⟩ : ∃ T : List Int, T = 35 :: (if b = 16 then 120 :: pre else pre) ++ [59] := ⟨_, rfl⟩
  have hAT : A ++ [59] = 38 :: T := by rw [hA, hT]; rfl
  have hAl : A.length + 1 = T.length + 1 := by
    have := congrArg List.length hAT
    simpa using this
  have hAle : A.length ≤ 12 ∧ 3 ≤ A.length := by
    rw [hA]
    split
    · simp only [List.length_cons]; omega
    · simp only [List.length_cons]; omega
  have hB : BT (38 :: T) := by
    rw [← hAT, hA]
    intro x hx
    rcases List.mem_append.1 hx with hx | hx
    · rcases List.mem_cons.1 hx with e | hx
      · omega
      rcases List.mem_cons.1 hx with e | hx
      · omega
      split at hx
      · rcases List.mem_cons.1 hx with e | hx
        · omega
        · exact hBp x hx
      · exact hBp x hx
    · have := List.mem_singleton.1 hx
      omega
  have hE := ent_at_digits b hb A pre n hA hs hc h1 hAle.1
  rw [hAT]
  refine tail_ok 1 1 38 T hB n (.inl rfl) (by omega) (by omega) hn ?_
  unfold oneM
  rw [if_pos ⟨rfl, .inl rfl, rfl⟩, ← hAT, hE]
  by_cases hv : okV (n : Int) = true
  · rw [if_pos hv, if_pos hv, if_pos rfl, hAl]
  · rw [if_neg hv, if_neg hv, if_neg (by decide)]
theorem esc_ok (w : Nat) (hw : w = 4 ∨ w = 8) (f : Int) (hf : 4 ≤ f ∧ f < 7) (n : Nat) (hn : n ≤ 1114111) (hn4 : w = 4 → n < 65536) (P : ByteArray) (c : Int) (hcw : c = if w = 8 then 85 else 117) (hP : P = strOfNums [92, c]) :
    Ev (fun k => (redpenlaw15_DecodeBack_1.f k 16 (w : Int) (n : Int)).bind fun d => if d.size < 1000 then redpenlaw15_DecodeBack.T k (n : Int) f 5 (P ++ d) else none) true := by
  obtain ⟨pre, e, hs, hc, h1, h2⟩ := dig_text 16 w n (.inr rfl) (by omega) hn
  have hpl : pre.length = w := by
    rcases hw with rfl | rfl
    · have := h2 4 (by have := hn4 rfl; show n < 65536; omega)
      omega
    · have := h2 6 (by show n < 16777216; omega)
      omega
  have hBp : BT pre := fun x hx => by have := hc x hx; omega
  refine Ev.bind e ?_
  simp only [if_pos (show (strOfNums pre).size < 1000 by rw [strOfNums_size]; omega)]
  have hcr : 0 ≤ c ∧ c < 128 := by rw [hcw]; split <;> omega
  rw [hP, ← strOfNums_append]
  have hB : BT (92 :: c :: pre) := by
    intro x hx
    rcases List.mem_cons.1 hx with e | hx
    · omega
    rcases List.mem_cons.1 hx with e | hx
    · omega
    · exact hBp x hx
  have hE := esc_at w hw f hf c hcw pre n hs hpl
  refine tail_ok f 5 92 (c :: pre) hB n (.inr rfl) (by simp only [List.length_cons]; omega) (by simp only [List.length_cons]; omega) hn ?_
  unfold oneM
  have hrd : rd (92 :: c :: pre) 0 = 92 := rfl
  rw [if_neg (by rintro ⟨h, _⟩; omega), if_neg (by rintro ⟨h, _⟩; omega), if_neg (by rintro ⟨_, h, _⟩; omega), if_pos ⟨rfl, hrd, hf.1, by omega⟩, hE]
  by_cases hv : okV (n : Int) = true
  · rw [if_pos hv, if_pos hv, if_pos rfl]
    simp only [List.length_cons, hpl]
    congr 1
    omega
  · rw [if_neg hv, if_neg hv, if_neg (by decide)]
theorem DecodeBack (a0 a1 : Int) (h0 : (Lit.int .u32 a0).wf = true) (h1 : (Lit.int .u8 a1).wf = true) : ∃ k, redpenlaw15_DecodeBack.f k a0 a1 = some true := by
  have r0 : 0 ≤ a0 ∧ a0 ≤ 4294967295 := by simp [Lit.wf, IntKind.min, IntKind.max, IntKind.signed, IntKind.bits] at h0; omega
  have r1 : 0 ≤ a1 ∧ a1 ≤ 255 := by simp [Lit.wf, IntKind.min, IntKind.max, IntKind.signed, IntKind.bits] at h1; omega
  refine Ev.rounds ?_
  unfold redpenlaw15_DecodeBack.f
  refine Ev.bind dec_awake ?_
  simp only [if_true]
  obtain ⟨n, hn⟩ : ∃ n : Nat, Int.tmod a0 1114112 = (n : Int) := ⟨(Int.tmod a0 1114112).toNat, by have := Int.tmod_nonneg 1114112 r0.1; omega⟩
  have hnl : n ≤ 1114111 := by have := Int.tmod_lt_of_pos a0 (show (0 : Int) < 1114112 by omega); omega
  obtain ⟨m, hm⟩ : ∃ m : Nat, Int.tmod (n : Int) 65536 = (m : Int) := ⟨(Int.tmod (n : Int) 65536).toNat, by have := Int.tmod_nonneg 65536 (show (0 : Int) ≤ (n : Int) by omega); omega⟩
  have hml : m < 65536 := by have := Int.tmod_lt_of_pos (n : Int) (show (0 : Int) < 65536 by omega); omega
  rw [hn, hm]
  by_cases q0 : Int.tmod a1 4 = 0
  · simp only [if_pos q0]
    exact ent_ok 10 (.inl rfl) n hnl _ rfl
  simp only [if_neg q0]
  by_cases q1 : Int.tmod a1 4 = 1
  · simp only [if_pos q1]
    exact ent_ok 16 (.inr rfl) n hnl _ rfl
  simp only [if_neg q1]
  by_cases q2 : Int.tmod a1 4 = 2
  · simp only [if_pos q2]
    exact esc_ok 8 (.inr rfl) 6 (by omega) n hnl (by omega) _ 85 rfl rfl
  simp only [if_neg q2]
  exact esc_ok 4 (.inl rfl) 4 (by omega) m (by omega) (fun _ => hml) _ 117 rfl rfl
end Go.Proofs.YtekalnhackjldaaDoor.Pure
