/- PragmaWords: the words that a file lists are known, in any case; what is no listed word ends them. The tables of Go's library lie as their texts lay them. -/
import Derived.Test.YtkflgnhcfhmkdaaDoorBAll
namespace Go.Proofs.YtkflgnhcfhmkdaaDoor.Pure
open Go.RowKit Go.Proofs.YtkflgnhcfhmkdaaDoor.PPragmaWords Go.Proofs.YtkflgnhcfhmkdaaDoorW.PrintWords Go.Proofs.YtkflgnhcfhmkdaaDoorW.PrintLast
open Go.Proofs.YtkflgnhcfhmkdaaDoor.M Go.Proofs.YtkflgnhcfhmkdaaDoor.X Go.Proofs.YtkflgnhcfhmkdaaDoor.H
set_option linter.unusedVariables false
set_option linter.unusedSimpArgs false

theorem prag_awake : Ev (fun k => redpenlaw17_Awake.f k) true := Ev.of redpenlaw17_Awake.mono (k := 60) (by decide +kernel)
theorem knows_ours (offs : List (Int × Int)) (ws : List ByteArray) (w : ByteArray) (hw : w.size ≤ 300) : Ev (fun k => pragma_Rules_Knows.f k [⟨offs, ws⟩] w) (hasW ws (foldB w)) := by
  have hf := fold_ev w (by omega)
  have hs := foldB_size w
  refine Ev.bind (f := fun k s => if s.size ≤ 140737488351232 then some (hasW ws s) else none) hf ?_
  exact ⟨0, fun k _ => if_pos (by omega)⟩
/-! ### what is asked -/
theorem asks_none {s : ByteArray} (h : ∀ x ∈ s.data.toList, x ≠ (58 : UInt8)) (f : Nat) : asksM f s = [] := by
  cases f with
  | zero => rfl
  | succ f =>
    unfold asksM
    rw [if_neg]
    intro hc
    unfold cutB Lib.cut at hc
    split at hc
    · rename_i hi
      rcases Lib.index_spec s.data.toList mk.data.toList with ⟨h1, _⟩ | ⟨i, h1, h2, h3, _⟩
      · omega
      · unfold Lib.occAt at h3
        have hm : (58 : UInt8) ∈ mk.data.toList := by decide
        have hp := List.isPrefixOf_iff_prefix.1 h3
        exact h _ (List.mem_of_mem_drop (hp.subset hm)) rfl
    · cases hc
theorem linesOf_nl (t : List Int) : ∀ (u cur : List Int), (∀ x ∈ u, x ≠ 10) → linesOf cur (u ++ 10 :: t) = (cur ++ (u ++ [10])) :: linesOf [] t
  | [], cur, _ => by
    show (if (10 : Int) = 10 then (cur ++ [10]) :: linesOf [] t else linesOf (cur ++ [10]) t) = _
    rw [if_pos rfl]
    rfl
  | c :: u, cur, h => by
    show (if c = 10 then (cur ++ [c]) :: linesOf [] (u ++ 10 :: t) else linesOf (cur ++ [c]) (u ++ 10 :: t)) = _
    rw [if_neg (h c (by simp)), linesOf_nl t u (cur ++ [c]) (fun x hx => h x (by simp [hx])), List.append_assoc]
    rfl
theorem lead_go {s : ByteArray} {d i : Nat} {v : Int} (e : bt s (i : Int) = v) (h1 : 97 ≤ v) (h2 : v ≤ 122) : leadF s (d + 1) i = leadF s d (i + 1) := by
  have h : leadF s (d + 1) i = if 97 ≤ bt s (i : Int) then (if bt s (i : Int) ≤ 122 then leadF s d (i + 1) else i) else i := rfl
  rw [h, e, if_pos h1, if_pos h2]
theorem lead_stop {s : ByteArray} {d i : Nat} {v : Int} (e : bt s (i : Int) = v) (h1 : v < 97) : leadF s (d + 1) i = i := by
  have h : leadF s (d + 1) i = if 97 ≤ bt s (i : Int) then (if bt s (i : Int) ≤ 122 then leadF s d (i + 1) else i) else i := rfl
  rw [h, e, if_neg (by omega)]
abbrev hd11 : List Int := [115, 112, 101, 108, 108, 58, 119, 111, 114, 100, 115]
theorem al_words (c : Int) (R : List Int) (hB : BT (c :: R)) (hc : c < 97) (h58 : ∀ x ∈ c :: R, x ≠ 58) (hl : R.length ≤ 4000) : ∃ a0 : ByteArray, AL (hd11 ++ c :: R) = [⟨a0, strOfNums (c :: R)⟩] ∧ a0.toList = wL := by
  have hBB : BT (hd11 ++ c :: R) := BT.app (by intro x hx; revert x; decide) hB
  have hbs := bytesOf_strOfNums hBB
  have hsz := strOfNums_size (hd11 ++ c :: R)
  have hdl := data_str (hd11 ++ c :: R)
  have hdr := ext_drop (hd11 ++ c :: R) 11
  have hdd : (hd11 ++ c :: R).drop 11 = c :: R := rfl
  rw [hdd] at hdr
  have hlen : (hd11 ++ c :: R).length = R.length + 12 := rfl
  unfold AL
  obtain ⟨s, hs⟩ : ∃ s, s = strOfNums (hd11 ++ c :: R) := ⟨_, rfl⟩
  rw [← hs] at hbs hsz hdl hdr ⊢
  have hbt : ∀ i : Nat, bt s (i : Int) = rd (hd11 ++ c :: R) (i : Int) := fun i => by rw [← rd_bytesOf, hbs]
  obtain ⟨d, hd⟩ : ∃ d, s.size - (0 + 6) = d + 6 := ⟨s.size - 12, by omega⟩
  have he : endP s 0 = 11 := by
    unfold endP
    rw [hd]
    show leadF s (d + 5 + 1) 6 = 11
    rw [lead_go (v := 119) (hbt 6) (by decide) (by decide)]
    show leadF s (d + 4 + 1) 7 = 11
    rw [lead_go (v := 111) (hbt 7) (by decide) (by decide)]
    show leadF s (d + 3 + 1) 8 = 11
    rw [lead_go (v := 114) (hbt 8) (by decide) (by decide)]
    show leadF s (d + 2 + 1) 9 = 11
    rw [lead_go (v := 100) (hbt 9) (by decide) (by decide)]
    show leadF s (d + 1 + 1) 10 = 11
    rw [lead_go (v := 115) (hbt 10) (by decide) (by decide)]
    exact lead_stop (v := c) (hbt 11) hc
  have hx : (s.extract 0 (0 + 6)).toList = mkL := by
    rw [Lib.extract_toList, hdl]
    rfl
  have h0 : asksP s.size s 11 = [] := by
    rw [← asks_P s s.size 11 s.size (by omega) (by omega) (by omega), hdr]
    refine asks_none ?_ _
    rw [data_str]
    intro x hx
    obtain ⟨n, hn, rfl⟩ := List.mem_map.1 hx
    have h1 := hB n hn
    have h2 := h58 n hn
    intro e
    have e2 := congrArg UInt8.toNat e
    rw [UInt8.toNat_ofNat'] at e2
    have e3 : (58 : UInt8).toNat = 58 := rfl
    rw [e3] at e2
    omega
  rw [asks_zero]
  have h1 : asksP (s.size + 1) s 0 = if 0 + 6 ≤ s.size then (if (s.extract 0 (0 + 6)).toList = mkL then ⟨s.extract (0 + 6) (endP s 0), s.extract (endP s 0) s.size⟩ :: asksP s.size s (endP s 0) else asksP s.size s (0 + 1)) else [] := rfl
  rw [h1, if_pos (by omega), if_pos hx, he, h0, hdr]
  refine ⟨_, rfl, ?_⟩
  rw [Lib.extract_toList, hdl]
  rfl
abbrev L2 : List Int := [115, 112, 101, 108, 108, 58, 108, 105, 110, 101]
theorem no2 : NoWords (AL L2) := by unfold NoWords; decide +kernel
theorem step2 : stepQ (AL L2) false false (false || false) = (false, false, true) := by decide +kernel
theorem wordsQ_no : ∀ (qs : List Ak) (ws : List ByteArray), NoWords qs → wordsQ qs ws = ws
  | [], _, _ => rfl
  | a :: t, ws, h => by
    unfold wordsQ
    rw [if_neg (h a (by simp))]
    exact wordsQ_no t ws (fun x hx => h x (by simp [hx]))
theorem step_words (a0 a1 : ByteArray) (h : a0.toList = wL) : stepQ [⟨a0, a1⟩] false false (false || false) = (false, false, false) := by
  unfold stepQ
  rw [h, if_neg (by decide), if_neg (by decide), if_neg (by decide), if_neg (by decide)]
  rfl
/-! ### the whole text read -/
theorem read_text (W : List (List Int)) (bad : Int) (hW : ∀ u ∈ W, Wd u) (hn : W.length ≤ 13) :
    Ev (fun k => pragma_Read.f k ((hd11 ++ tx bad 0 W) ++ 10 :: L2)) [⟨[(((hd11 ++ tx bad 0 W).length + 1 : Nat), 10)], (kw bad 0 W).map strOfNums⟩] := by
  have hlen := tx_len bad W 0 hW
  have hasc := tx_asc bad W 0 hW
  obtain ⟨c, R, ec, hc⟩ := tx_head bad W 0
  obtain ⟨s0, s1, s2, s3⟩ := stops hc
  have hmem := tx_mem bad W 0 hW
  have h58 : ∀ x ∈ tx bad 0 W ++ [10], x ≠ 58 := fun x hx => by
    rcases List.mem_append.1 hx with hx | hx
    · have := hmem x hx
      omega
    · have := List.mem_singleton.1 hx
      omega
  have hn10 : ∀ x ∈ hd11 ++ tx bad 0 W, x ≠ 10 := by
    intro x hx
    rcases List.mem_append.1 hx with hx | hx
    · simp only [hd11, List.mem_cons, List.not_mem_nil, or_false] at hx
      omega
    · have := hmem x hx
      omega
  have hls : ls ((hd11 ++ tx bad 0 W) ++ 10 :: L2) = [hd11 ++ c :: R, L2] := by
    unfold ls
    rw [linesOf_nl L2 _ [] hn10, List.nil_append, List.append_assoc, ec]
    rfl
  have hcr : (c :: R).length = (tx bad 0 W).length + 1 := by rw [← ec, List.length_append]; rfl
  rw [List.length_cons] at hcr
  have hB : BT (c :: R) := by
    rw [← ec]
    exact BT.app hasc.BT (by intro x hx; revert x; decide)
  obtain ⟨a0, ha, ha0⟩ := al_words c R hB (by rcases hc with rfl | rfl | rfl | rfl <;> decide) (fun x hx => h58 x (by rw [ec]; exact hx)) (by omega)
  have hr := read_any ((hd11 ++ tx bad 0 W) ++ 10 :: L2) (by
    rw [List.length_append, List.length_append]
    show 11 + (tx bad 0 W).length + 11 ≤ 4000
    omega)
  rw [hls] at hr
  have h1 : offsQ AL [hd11 ++ c :: R, L2] 0 false false = [((((hd11 ++ tx bad 0 W).length + 1 : Nat) : Int), (10 : Int))] := by
    unfold offsQ
    rw [ha, step_words _ _ ha0, if_neg (by decide), List.nil_append]
    unfold offsQ
    rw [step2, if_pos rfl]
    show [(((0 + (hd11 ++ c :: R).length : Nat) : Int), (10 : Int))] ++ [] = _
    rw [List.append_nil]
    have : 0 + (hd11 ++ c :: R).length = (hd11 ++ tx bad 0 W).length + 1 := by
      have e1 : (hd11 ++ c :: R).length = 11 + (c :: R).length := List.length_append
      have e2 : (hd11 ++ tx bad 0 W).length = 11 + (tx bad 0 W).length := List.length_append
      have e3 : (c :: R).length = R.length + 1 := rfl
      omega
    rw [this]
  have h2 : wordsL [hd11 ++ c :: R, L2] [] = (kw bad 0 W).map strOfNums := by
    show wordsQ (AL L2) (wordsQ (AL (hd11 ++ c :: R)) []) = _
    rw [wordsQ_no _ _ no2, ha]
    show (if a0.toList = wL then knownF ((strOfNums (c :: R)).size + 1) (strOfNums (c :: R)) [] else []) = _
    rw [if_pos ha0, ← ec, known_tx bad W 0 _ [] hW (by rw [strOfNums_size, ec, List.length_cons]; have := tx_ge bad W 0 hW; omega)]
    rfl
  rw [h1, h2] at hr
  exact hr
/-! ### the law's end -/
def kwS (stop : Int) : Nat → List (List Int) → List (List Int)
  | _, [] => []
  | i, u :: t => if (i : Int) < stop then u :: kwS stop (i + 1) t else kwS stop (i + 1) t
theorem kwS_cons (stop : Int) (i : Nat) (u : List Int) (t : List (List Int)) : kwS stop i (u :: t) = if (i : Int) < stop then u :: kwS stop (i + 1) t else kwS stop (i + 1) t := rfl
theorem ks_eq (stop : Int) : ∀ (l : List (List Int)) (i : Nat) (acc : List ByteArray), redpenlaw17_PragmaWords.ks stop i (l.map strOfNums) acc = acc ++ (kwS stop i l).map strOfNums
  | [], _, acc => (List.append_nil _).symm
  | u :: t, i, acc => by
    show redpenlaw17_PragmaWords.ks stop (i + 1) (t.map strOfNums) (if (i : Int) < stop then acc ++ [strOfNums u] else acc) = _
    rw [ks_eq stop t (i + 1)]
    rw [kwS_cons]
    split
    · rw [List.map_cons, List.append_assoc]; rfl
    · rfl
theorem kwS_none (stop : Int) : ∀ (l : List (List Int)) (i : Nat), stop ≤ (i : Int) → kwS stop i l = []
  | [], _, _ => rfl
  | u :: t, i, h => by
    rw [kwS_cons, if_neg (by omega)]
    exact kwS_none stop t (i + 1) (by omega)
theorem kw_lt (bad : Int) : ∀ (l : List (List Int)) (i : Nat), (i : Int) ≤ bad → kw bad i l = kwS bad i l
  | [], _, _ => rfl
  | u :: t, i, h => by
    rw [kw_cons, kwS_cons]
    by_cases hb : (i : Int) = bad
    · rw [if_pos hb, if_neg (by omega), kwS_none bad t (i + 1) (by omega)]
    · rw [if_neg hb, if_pos (by omega), kw_lt bad t (i + 1) (by omega)]
theorem kw_all (bad : Int) : ∀ (l : List (List Int)) (i : Nat), ((i + l.length : Nat) : Int) ≤ bad → kw bad i l = l
  | [], _, _ => rfl
  | u :: t, i, h => by
    rw [List.length_cons] at h
    rw [kw_cons, if_neg (by omega), kw_all bad t (i + 1) (by omega)]
theorem kwS_all (stop : Int) : ∀ (l : List (List Int)) (i : Nat), ((i + l.length : Nat) : Int) ≤ stop → kwS stop i l = l
  | [], _, _ => rfl
  | u :: t, i, h => by
    rw [List.length_cons] at h
    rw [kwS_cons, if_pos (by omega), kwS_all stop t (i + 1) (by omega)]
theorem kw_mem (bad : Int) : ∀ (l : List (List Int)) (i : Nat), ∀ u ∈ kw bad i l, u ∈ l
  | [], _, u, h => h
  | x :: t, i, u, h => by
    unfold kw at h
    split at h
    · cases h
    · rcases List.mem_cons.1 h with rfl | h
      · exact List.mem_cons_self
      · exact List.mem_cons_of_mem _ (kw_mem bad t (i + 1) u h)
section
variable (offs : List (Int × Int)) (K : List ByteArray)
theorem tw_ev : ∀ (l : List (List Int)), (∀ u ∈ l, Wd u) → Ev (fun k => redpenlaw17_PragmaWords.tw k [⟨offs, K⟩] K (l.map strOfNums)) true
  | [], _ => Ev.now _
  | u :: t, h => by
    have hu := h u (by simp)
    have ih := tw_ev t (fun x hx => h x (by simp [hx]))
    have hl := hu.len
    have hz : (strOfNums u).size = u.length := strOfNums_size u
    have hq : (qB (strOfNums u)).size ≤ 300 := by
      unfold qB
      rw [strOfNums_size, List.length_cons, List.length_drop, bytesOf_length]
      omega
    have k1 := knows_ours offs K (strOfNums u) (by omega)
    have k2 := knows_ours offs K (qB (strOfNums u)) hq
    rw [hu.fold] at k1
    rw [hu.foldQ] at k2
    rw [List.map_cons]
    have e : ∀ k, redpenlaw17_PragmaWords.tw k [⟨offs, K⟩] K (strOfNums u :: t.map strOfNums) = (pragma_Rules_Knows.f k [⟨offs, K⟩] (strOfNums u)).bind fun a => if a = hasW K (strOfNums u) then (pragma_Rules_Knows.f k [⟨offs, K⟩] (qB (strOfNums u))).bind fun b => if b = hasW K (strOfNums u) then redpenlaw17_PragmaWords.tw k [⟨offs, K⟩] K (t.map strOfNums) else none else none := fun k => by
      show (if 0 < (strOfNums u).size then (if (strOfNums u).size ≤ 140737488351232 then _ else none) else none) = _
      rw [if_pos (by omega), if_pos (by omega)]
    refine Ev.congr e (Ev.bind k1 ?_)
    simp only [if_true]
    refine Ev.bind k2 ?_
    simp only [if_true]
    exact ih
end
theorem other_fold : foldB ⟨#[111, 116, 104, 101, 114]⟩ = strOfNums [111, 116, 104, 101, 114] := by decide +kernel
theorem hasW_other (K : List (List Int)) (h : ∀ u ∈ K, Wd u) : hasW (K.map strOfNums) (strOfNums [111, 116, 104, 101, 114]) = false := by
  unfold hasW
  rw [List.any_eq_false]
  intro x hx
  obtain ⟨u, hu, rfl⟩ := List.mem_map.1 hx
  rw [strOfNums_beq (h u hu).asc.BT (by intro x hx; revert x; decide)]
  obtain ⟨v, rfl, _, _⟩ := h u hu
  intro e
  have := beq_iff_eq.1 e
  injection this with e1 _
  exact absurd e1 (by decide)
theorem te_ev (n : Nat) (hn : n ≤ 1000) (K : List (List Int)) (h : ∀ u ∈ K, Wd u) (x5 : ByteArray) (hx : x5.size = n) : Ev (fun k => redpenlaw17_PragmaWords.te k [⟨[(((n + 1 : Nat) : Int), 10)], K.map strOfNums⟩] x5) true := by
  have k1 := knows_ours [(((n + 1 : Nat) : Int), 10)] (K.map strOfNums) ⟨#[111, 116, 104, 101, 114]⟩ (by decide)
  rw [other_fold, hasW_other K h] at k1
  have e1 : pragma_Rules_Off.f [⟨[(((n + 1 : Nat) : Int), 10)], K.map strOfNums⟩] 0 = some false := by
    show (if (1 : Nat) < 1000000000000 then some (pragma_Rules_Off.any 0 [(((n + 1 : Nat) : Int), 10)]) else none) = _
    rw [if_pos (by decide)]
    show some (if (0 : Int) ≥ ((n + 1 : Nat) : Int) then _ else false) = _
    rw [if_neg (by omega)]
  have e2 : pragma_Rules_Off.f [⟨[(((n + 1 : Nat) : Int), 10)], K.map strOfNums⟩] ((x5.size : Int) + 1) = some true := by
    show (if (1 : Nat) < 1000000000000 then some (pragma_Rules_Off.any ((x5.size : Int) + 1) [(((n + 1 : Nat) : Int), 10)]) else none) = _
    rw [if_pos (by decide)]
    show some (if ((x5.size : Int) + 1) ≥ ((n + 1 : Nat) : Int) then (if ((x5.size : Int) + 1) < wrap64 (((n + 1 : Nat) : Int) + 10) then true else _) else _) = _
    rw [if_pos (by omega), if_pos (by rw [w64 (by omega) (by omega)]; omega)]
  refine Ev.bind k1 ?_
  simp only [if_true]
  refine Ev.congr (fun k => ob e1 ((if_pos rfl).trans e2)) (Ev.now _)
theorem tail_ev (W : List (List Int)) (bad stop : Int) (hW : ∀ u ∈ W, Wd u) (hn : W.length ≤ 13) (hk : kwS stop 0 W = kw bad 0 W) (n : Nat) (hn2 : n ≤ 1000) (x5 : ByteArray) (hx : x5.size = n) :
    Ev (fun k => redpenlaw17_PragmaWords_tail.f k (W.map strOfNums) stop [⟨[(((n + 1 : Nat) : Int), 10)], (kw bad 0 W).map strOfNums⟩] x5) true := by
  have h1 := tw_ev [(((n + 1 : Nat) : Int), 10)] ((kw bad 0 W).map strOfNums) W hW
  have h2 := te_ev n hn2 (kw bad 0 W) (fun u hu => hW u (kw_mem bad W 0 u hu)) x5 hx
  have e : redpenlaw17_PragmaWords.ks stop 0 (W.map strOfNums) [] = (kw bad 0 W).map strOfNums := by rw [ks_eq, hk]; rfl
  refine Ev.congr (fun k => ?_) (Ev.bind (f := fun k _ => redpenlaw17_PragmaWords.te k [⟨[(((n + 1 : Nat) : Int), 10)], (kw bad 0 W).map strOfNums⟩] x5) h1 h2)
  unfold redpenlaw17_PragmaWords_tail.f
  rw [e, if_pos (by rw [List.length_map]; omega)]
/-! ### the law's loops -/
def ltr (c : Int) : Int := (97 + Int.tmod c 5) % 256
def wd (w : List Int) : List Int := 113 :: (w.take 5).map ltr
theorem ltr_ok {c : Int} (h0 : 0 ≤ c) : 97 ≤ ltr c ∧ ltr c ≤ 101 := by
  unfold ltr
  have h1 := Int.tmod_nonneg 5 h0
  have h2 := Int.tmod_lt_of_pos c (show (0 : Int) < 5 by decide)
  omega
theorem wd_ok {w : List Int} (h : ∀ x ∈ w, 0 ≤ x) : Wd (wd w) :=
  ⟨(w.take 5).map ltr, rfl, by rw [List.length_map, List.length_take]; omega, fun x hx => by
    obtain ⟨y, hy, rfl⟩ := List.mem_map.1 hx
    exact ltr_ok (h y (List.mem_of_mem_take hy))⟩
abbrev SUF : ByteArray := ⟨#[10, 115, 112, 101, 108, 108, 58, 108, 105, 110, 101]⟩
def EXIT (k : Nat) (x5 : ByteArray) (x6 : List ByteArray) (x7 : Int) : Option Bool := if x5.size + 11 ≤ 9223372036854775807 then ((conv_bytes.f (x5 ++ SUF)).bind fun t217 => ((pragma_Read.f k t217).bind fun t220 => ((redpenlaw17_PragmaWords_tail.f k x6 x7 t220 x5).bind fun t223 => (some t223)))) else none
theorem exit_ev (W : List (List Int)) (bad stop : Int) (hW : ∀ u ∈ W, Wd u) (hn : W.length ≤ 13) (hk : kwS stop 0 W = kw bad 0 W) : Ev (fun k => EXIT k (strOfNums (hd11 ++ tx bad 0 W)) (W.map strOfNums) stop) true := by
  have hlen := tx_len bad W 0 hW
  have hasc := tx_asc bad W 0 hW
  have hz : (strOfNums (hd11 ++ tx bad 0 W)).size = (hd11 ++ tx bad 0 W).length := strOfNums_size _
  have hl : (hd11 ++ tx bad 0 W).length = 11 + (tx bad 0 W).length := by rw [List.length_append]; rfl
  have hB : BT ((hd11 ++ tx bad 0 W) ++ 10 :: L2) := BT.app (BT.app (by intro x hx; revert x; decide) hasc.BT) (by intro x hx; revert x; decide)
  have hc : conv_bytes.f (strOfNums (hd11 ++ tx bad 0 W) ++ SUF) = some ((hd11 ++ tx bad 0 W) ++ 10 :: L2) := by
    have e : strOfNums (hd11 ++ tx bad 0 W) ++ SUF = strOfNums ((hd11 ++ tx bad 0 W) ++ 10 :: L2) := by
      have eS : SUF = strOfNums (10 :: L2) := by decide +kernel
      rw [eS]
      exact (strOfNums_append _ _).symm
    rw [e]
    refine conv_of hB ?_
    rw [List.length_append, hl]
    show 11 + (tx bad 0 W).length + 11 < 140737488355328
    omega
  have h1 := read_text W bad hW hn
  have h2 := tail_ev W bad stop hW hn hk (hd11 ++ tx bad 0 W).length (by omega) (strOfNums (hd11 ++ tx bad 0 W)) hz
  refine Ev.congr (fun k => (if_pos (by omega)).trans (ob hc rfl)) (Ev.bind h1 (Ev.bind h2 (Ev.now _)))
def y4 : List ByteArray := [(⟨#[32]⟩ : ByteArray), (⟨#[44]⟩ : ByteArray), (⟨#[44, 32]⟩ : ByteArray), (⟨#[9]⟩ : ByteArray)]
theorem y4_at (i : Nat) (hi : i ≤ 12) : 0 ≤ Int.tmod (i : Int) 4 ∧ Int.tmod (i : Int) 4 < (y4.length : Int) ∧ rdOf ByteArray.empty y4 (Int.tmod (i : Int) 4) = strOfNums (sepL i) := by
  have : ∀ i : Nat, i ≤ 12 → 0 ≤ Int.tmod (i : Int) 4 ∧ Int.tmod (i : Int) 4 < (y4.length : Int) ∧ (rdOf ByteArray.empty y4 (Int.tmod (i : Int) 4)).data.toList = (strOfNums (sepL i)).data.toList := by
    intro i hi
    have hh : i ∈ List.range 13 := List.mem_range.2 (by omega)
    revert i
    decide +kernel
  obtain ⟨a, b, c⟩ := this i hi
  exact ⟨a, b, ba_ext (by rw [toList_eq_data, toList_eq_data, c])⟩
def ENDB (k : Nat) (x1 : Int) (x5 : ByteArray) (x6 : List ByteArray) (x7 x8 : Int) (x10 : ByteArray) (x24 : List (List Int)) (x25 x26 : Int) : Option Bool :=
  if x8 > 12 then EXIT k x5 x6 x7 else (if x8 = (wrap64 (x1)) then (if x5.size + 3 ≤ 9223372036854775807 then ((some y4).bind fun y236 => (if 0 ≤ (Int.tmod x8 4) then (if (Int.tmod x8 4) < (y236.length : Int) then (if (rdOf ByteArray.empty y236 (Int.tmod x8 4)).size + x10.size ≤ 9223372036854775807 then (if (x5 ++ (⟨#[32, 61, 39]⟩ : ByteArray)).size + ((rdOf ByteArray.empty y236 (Int.tmod x8 4)) ++ x10).size ≤ 9223372036854775807 then (if x6.length < 8796093022208 then (redpenlaw17_PragmaWords.l0 k x1 ((x5 ++ (⟨#[32, 61, 39]⟩ : ByteArray)) ++ ((rdOf ByteArray.empty y236 (Int.tmod x8 4)) ++ x10)) (x6 ++ [x10]) x8 x24 x25 (wrap64 (x26 + 1))) else (none)) else (none)) else (none)) else (none)) else (none))) else (none)) else ((some y4).bind fun y243 => (if 0 ≤ (Int.tmod x8 4) then (if (Int.tmod x8 4) < (y243.length : Int) then (if (rdOf ByteArray.empty y243 (Int.tmod x8 4)).size + x10.size ≤ 9223372036854775807 then (if x5.size + ((rdOf ByteArray.empty y243 (Int.tmod x8 4)) ++ x10).size ≤ 9223372036854775807 then (if x6.length < 8796093022208 then (redpenlaw17_PragmaWords.l0 k x1 (x5 ++ ((rdOf ByteArray.empty y243 (Int.tmod x8 4)) ++ x10)) (x6 ++ [x10]) x7 x24 x25 (wrap64 (x26 + 1))) else (none)) else (none)) else (none)) else (none)) else (none))))
theorem l1_ev (a1 : Int) (x5 : ByteArray) (x6 : List ByteArray) (x7 : Int) (i : Int) (l0 : List (List Int)) (n : Int) (w : List Int) (hwl : w.length ≤ 9223372036854775807) (main : Ev (fun k => ENDB k a1 x5 x6 x7 i (strOfNums (wd w)) l0 n i) true) :
    ∀ (d j : Nat), w.length - j = d → j ≤ w.length → Ev (fun k => redpenlaw17_PragmaWords.l1 k a1 x5 x6 x7 i (strOfNums (113 :: (w.take (min j 5)).map ltr)) l0 n i w (w.length : Int) (j : Int)) true := by
  intro d
  induction d with
  | zero =>
    intro j hd hj
    have e : w.take (min j 5) = w.take 5 := by
      rcases Nat.lt_or_ge 5 j with h | h
      · rw [Nat.min_eq_right (by omega)]
      · rw [Nat.min_eq_left h, List.take_of_length_le (by omega), List.take_of_length_le (by omega)]
    rw [e]
    refine Ev.step (fun k => ?_) main
    simp only [redpenlaw17_PragmaWords.l1]
    rw [if_neg (by omega)]
    rfl
  | succ d ih =>
    intro j hd hj
    have hlt : j < w.length := by omega
    have ih2 := ih (j + 1) (by omega) (by omega)
    have ew : ∀ _ : Unit, wrap64 ((j : Int) + 1) = ((j + 1 : Nat) : Int) := fun _ => hw _ _ (by omega) (by omega)
    by_cases h5 : j < 5
    · have hs : strOfNums (113 :: (w.take (min (j + 1) 5)).map ltr) = strOfNums (113 :: (w.take (min j 5)).map ltr) ++ strOfNums [(97 + (Int.tmod (rd w (j : Int)) 5)) % 256] := by
        rw [← strOfNums_append, Nat.min_eq_left (show j + 1 ≤ 5 by omega), Nat.min_eq_left (show j ≤ 5 by omega), List.take_add_one, List.map_append, List.cons_append]
        congr 2
        have hr : rd w (j : Int) = w[j] := by unfold rd; rw [Int.toNat_natCast, List.getD_eq_getElem?_getD, List.getElem?_eq_getElem hlt]; rfl
        rw [hr, List.getElem?_eq_getElem hlt]
        rfl
      have hz : (strOfNums (113 :: (w.take (min j 5)).map ltr)).size + (strOfNums [(97 + (Int.tmod (rd w (j : Int)) 5)) % 256]).size ≤ 9223372036854775807 := by
        rw [strOfNums_size, strOfNums_size, List.length_cons, List.length_map, List.length_take]
        show _ + 1 ≤ _
        omega
      refine Ev.step (fun k => ?_) ih2
      simp only [redpenlaw17_PragmaWords.l1]
      rw [if_pos (by omega), if_pos (by omega), if_pos (by omega), if_pos (by omega)]
      refine (if_pos hz).trans ?_
      rw [← hs, ew ()]
    · have hs : min (j + 1) 5 = min j 5 := by omega
      refine Ev.step (fun k => ?_) ih2
      simp only [redpenlaw17_PragmaWords.l1]
      rw [if_pos (by omega), if_pos (by omega), if_pos (by omega), if_neg (by omega), ew (), hs]
section
variable (a1 : Int) (h0 : 0 ≤ a1) (h1 : a1 < 256) (l : List (List Int)) (hww : ∀ w ∈ l, w.length ≤ 9223372036854775807 ∧ ∀ x ∈ w, 0 ≤ x)
/-- The words from a place on. -/
def restW (l : List (List Int)) (i : Nat) : List (List Int) := ((l.drop i).take (13 - i)).map wd
theorem restW_cons {l : List (List Int)} {i : Nat} (h : i < l.length) (h2 : i ≤ 12) : restW l i = wd (l[i]) :: restW l (i + 1) := by
  unfold restW
  rw [List.drop_eq_getElem_cons h, show 13 - i = (13 - (i + 1)) + 1 by omega, List.take_succ_cons, List.map_cons]
theorem restW_end {l : List (List Int)} {i : Nat} (h : l.length ≤ i ∨ 13 ≤ i) : restW l i = [] := by
  unfold restW
  rcases h with h | h
  · rw [List.drop_of_length_le h, List.take_nil]; rfl
  · rw [show 13 - i = 0 by omega]; rfl
include h0 h1 hww
theorem l0_ev : ∀ (d i : Nat) (A : List Int) (V : List (List Int)) (st : Int), l.length - i = d → i ≤ l.length → i ≤ 13 → V.length = i → A.length ≤ 11 + 11 * i →
    Ev (fun k => EXIT k (strOfNums (A ++ tx a1 i (restW l i))) ((V ++ restW l i).map strOfNums) (if (i : Int) ≤ a1 ∧ a1 < ((i + (restW l i).length : Nat) : Int) then a1 else st)) true →
    Ev (fun k => redpenlaw17_PragmaWords.l0 k a1 (strOfNums A) (V.map strOfNums) st l (l.length : Int) (i : Int)) true := by
  intro d
  induction d with
  | zero =>
    intro i A V st hd hi h13 hV hA main
    rw [restW_end (.inl (by omega)), List.append_nil, if_neg (by rw [List.length_nil]; omega)] at main
    have e : A ++ tx a1 i [] = A := List.append_nil A
    rw [e] at main
    refine Ev.step (fun k => ?_) main
    simp only [redpenlaw17_PragmaWords.l0]
    rw [if_neg (by omega)]
    rfl
  | succ d ih =>
    intro i A V st hd hi h13 hV hA main
    have hlt : i < l.length := by omega
    have hrl : rd_L1 l (i : Int) = l[i] := by
      unfold rd_L1
      rw [Int.toNat_natCast, List.getD_eq_getElem?_getD, List.getElem?_eq_getElem hlt]
      rfl
    obtain ⟨hwl, hwn⟩ := hww l[i] (List.getElem_mem hlt)
    have hu := wd_ok hwn
    have hul := hu.len
    have ew : ∀ _ : Unit, wrap64 ((i : Int) + 1) = ((i + 1 : Nat) : Int) := fun _ => hw _ _ (by omega) (by omega)
    have ea : wrap64 a1 = a1 := w64 (by omega) (by omega)
    have endb : Ev (fun k => ENDB k a1 (strOfNums A) (V.map strOfNums) st (i : Int) (strOfNums (wd l[i])) l (l.length : Int) (i : Int)) true := by
      by_cases h12 : i ≤ 12
      · obtain ⟨t0, t1, t2⟩ := y4_at i h12
        have hsl := sep_len i
        rw [restW_cons hlt h12] at main
        have etx : tx a1 i (wd l[i] :: restW l (i + 1)) = (if (i : Int) = a1 then [32, 61, 39] else []) ++ (sepL i ++ wd l[i]) ++ tx a1 (i + 1) (restW l (i + 1)) := rfl
        rw [etx, List.length_cons] at main
        by_cases hb : (i : Int) = a1
        · rw [if_pos hb] at main
          have hst : (if (i : Int) ≤ a1 ∧ a1 < ((i + ((restW l (i + 1)).length + 1) : Nat) : Int) then a1 else st) = (if ((i + 1 : Nat) : Int) ≤ a1 ∧ a1 < ((i + 1 + (restW l (i + 1)).length : Nat) : Int) then a1 else (i : Int)) := by
            rw [if_pos ⟨by omega, by omega⟩, if_neg (by omega)]
            exact hb.symm
          rw [hst] at main
          have hnext := ih (i + 1) (A ++ ([32, 61, 39] ++ (sepL i ++ wd l[i]))) (V ++ [wd l[i]]) (i : Int) (by omega) (by omega) (by omega) (by rw [List.length_append, hV]; rfl) (by
            rw [List.length_append, List.length_append, List.length_append]
            show _ + (3 + _) ≤ _
            omega) (by
            rw [List.append_assoc, List.append_assoc V]
            rw [List.append_assoc] at main
            simpa [List.append_assoc] using main)
          have eA : strOfNums (A ++ ([32, 61, 39] ++ (sepL i ++ wd l[i]))) = (strOfNums A ++ (⟨#[32, 61, 39]⟩ : ByteArray)) ++ (strOfNums (sepL i) ++ strOfNums (wd l[i])) := by
            rw [← strOfNums_append, ← List.append_assoc, strOfNums_append, strOfNums_append]
            rfl
          rw [eA, List.map_append] at hnext
          have z1 : (strOfNums A).size = A.length := strOfNums_size A
          have z2 : (strOfNums (sepL i)).size = (sepL i).length := strOfNums_size _
          have z3 : (strOfNums (wd l[i])).size = (wd l[i]).length := strOfNums_size _
          have z4 : (strOfNums A ++ (⟨#[32, 61, 39]⟩ : ByteArray)).size = A.length + 3 := by rw [ByteArray.size_append, z1]; rfl
          have z5 : (strOfNums (sepL i) ++ strOfNums (wd l[i])).size = (sepL i).length + (wd l[i]).length := by rw [ByteArray.size_append, z2, z3]
          have g3 : (strOfNums (sepL i)).size + (strOfNums (wd l[i])).size ≤ 9223372036854775807 := by omega
          have g5 : (V.map strOfNums).length < 8796093022208 := by rw [List.length_map]; omega
          have g4 : (strOfNums A ++ (⟨#[32, 61, 39]⟩ : ByteArray)).size + (strOfNums (sepL i) ++ strOfNums (wd l[i])).size ≤ 9223372036854775807 := by omega
          refine Ev.congr (fun k => ?_) hnext
          unfold ENDB
          rw [if_neg (by omega), if_pos (by rw [ea]; exact hb), if_pos (by omega)]
          show (if 0 ≤ (Int.tmod (i : Int) 4) then _ else none) = _
          rw [if_pos t0, if_pos t1, t2, if_pos g3, if_pos g4, if_pos g5, ew ()]
          rfl
        · rw [if_neg hb, List.nil_append] at main
          have hst : (if (i : Int) ≤ a1 ∧ a1 < ((i + ((restW l (i + 1)).length + 1) : Nat) : Int) then a1 else st) = (if ((i + 1 : Nat) : Int) ≤ a1 ∧ a1 < ((i + 1 + (restW l (i + 1)).length : Nat) : Int) then a1 else st) := by
            by_cases hc : (i : Int) ≤ a1 ∧ a1 < ((i + ((restW l (i + 1)).length + 1) : Nat) : Int)
            · rw [if_pos hc, if_pos ⟨by omega, by omega⟩]
            · rw [if_neg hc, if_neg (by omega)]
          rw [hst] at main
          have hnext := ih (i + 1) (A ++ (sepL i ++ wd l[i])) (V ++ [wd l[i]]) st (by omega) (by omega) (by omega) (by rw [List.length_append, hV]; rfl) (by
            rw [List.length_append, List.length_append]
            omega) (by simpa [List.append_assoc] using main)
          have eA : strOfNums (A ++ (sepL i ++ wd l[i])) = strOfNums A ++ (strOfNums (sepL i) ++ strOfNums (wd l[i])) := by
            rw [strOfNums_append, strOfNums_append]
          rw [eA, List.map_append] at hnext
          have z1 : (strOfNums A).size = A.length := strOfNums_size A
          have z2 : (strOfNums (sepL i)).size = (sepL i).length := strOfNums_size _
          have z3 : (strOfNums (wd l[i])).size = (wd l[i]).length := strOfNums_size _
          have z5 : (strOfNums (sepL i) ++ strOfNums (wd l[i])).size = (sepL i).length + (wd l[i]).length := by rw [ByteArray.size_append, z2, z3]
          have g3 : (strOfNums (sepL i)).size + (strOfNums (wd l[i])).size ≤ 9223372036854775807 := by omega
          have g5 : (V.map strOfNums).length < 8796093022208 := by rw [List.length_map]; omega
          have g4 : (strOfNums A).size + (strOfNums (sepL i) ++ strOfNums (wd l[i])).size ≤ 9223372036854775807 := by omega
          refine Ev.congr (fun k => ?_) hnext
          unfold ENDB
          rw [if_neg (by omega), if_neg (by rw [ea]; exact hb)]
          show (if 0 ≤ (Int.tmod (i : Int) 4) then _ else none) = _
          rw [if_pos t0, if_pos t1, t2, if_pos g3, if_pos g4, if_pos g5, ew ()]
          rfl
      · rw [restW_end (.inr (by omega)), List.append_nil, if_neg (by rw [List.length_nil]; omega)] at main
        have e : A ++ tx a1 i [] = A := List.append_nil A
        rw [e] at main
        refine Ev.congr (fun k => ?_) main
        unfold ENDB
        rw [if_pos (by omega)]
    have hl1 := l1_ev a1 (strOfNums A) (V.map strOfNums) st (i : Int) l (l.length : Int) l[i] hwl endb _ 0 rfl (Nat.zero_le _)
    refine Ev.step (fun k => ?_) hl1
    simp only [redpenlaw17_PragmaWords.l0]
    rw [if_pos (by omega), if_pos (by omega), if_pos (by omega), hrl]
    rfl
end
theorem PragmaWords (l0 : List (List Int)) (a1 : Int) (h0 : l0.length * 24 ≤ 140737488351232) (h1 : ∀ x ∈ l0, (fun l => l.length ≤ maxLen ∧ ∀ x ∈ l, (fun n => (Lit.int .u8 n).wf = true) x) x) (h2 : (Lit.int .u8 a1).wf = true) : ∃ k, redpenlaw17_PragmaWords.f k l0 a1 = some true := by
  have w8 : ∀ n : Int, (Lit.int .u8 n).wf = true → 0 ≤ n ∧ n < 256 := fun n h => by
    have := h
    simp [Lit.wf, IntKind.min, IntKind.max, IntKind.signed, IntKind.bits] at this
    omega
  obtain ⟨g0, g1⟩ := w8 a1 h2
  have hww : ∀ w ∈ l0, w.length ≤ 9223372036854775807 ∧ ∀ x ∈ w, 0 ≤ x := fun w hw1 => by
    obtain ⟨k1, k2⟩ := h1 w hw1
    refine ⟨by unfold maxLen at k1; omega, fun x hx => (w8 x (k2 x hx)).1⟩
  have hW : ∀ u ∈ restW l0 0, Wd u := fun u hu => by
    unfold restW at hu
    obtain ⟨w, hw1, rfl⟩ := List.mem_map.1 hu
    exact wd_ok (hww w (List.mem_of_mem_drop (List.mem_of_mem_take hw1))).2
  have hn : (restW l0 0).length ≤ 13 := by
    unfold restW
    rw [List.length_map, List.length_take]
    omega
  have hn2 : (restW l0 0).length ≤ l0.length := by
    unfold restW
    rw [List.length_map, List.length_take, List.length_drop]
    omega
  have hk : kwS (if ((0 : Nat) : Int) ≤ a1 ∧ a1 < ((0 + (restW l0 0).length : Nat) : Int) then a1 else (l0.length : Int)) 0 (restW l0 0) = kw a1 0 (restW l0 0) := by
    by_cases hc : ((0 : Nat) : Int) ≤ a1 ∧ a1 < ((0 + (restW l0 0).length : Nat) : Int)
    · rw [if_pos hc, kw_lt a1 _ 0 (by omega)]
    · rw [if_neg hc, kwS_all _ _ 0 (by omega), kw_all _ _ 0 (by omega)]
  have hx := exit_ev (restW l0 0) a1 _ hW hn hk
  have main := l0_ev a1 g0 g1 l0 hww _ 0 hd11 [] (l0.length : Int) rfl (Nat.zero_le _) (by decide) rfl (by decide) hx
  refine Ev.rounds (Ev.congr (fun k => rfl) (Ev.bind prag_awake ?_))
  exact main
end Go.Proofs.YtkflgnhcfhmkdaaDoor.Pure
