/- TokenCases: words with a great first letter, put together, are cut where they were; small ones and great ones aren't. For any bytes and kind. No condition beyond the statement's own. -/
import Derived.Test.YtmnohlmdckcdeaaBWordsUTokenCases
import Derived.Test.YtmnohlmdckcdeaaBAsTokenCases
import Derived.Test.YtmnohlmdckcdeaaMSegs
namespace Go.Proofs.Ytmnohlmdckcdeaa.Pure
open Go.RowKit Go.Proofs.Ytmnohlmdckcdeaa.PTokenCases Go.Proofs.YtmnohlmdckcdeaaW.PrintWords Go.Proofs.YtmnohlmdckcdeaaW.PrintLast
open Go.Proofs.Ytmnohlmdckcdeaa.M Go.Proofs.Ytmnohlmdckcdeaa.X
set_option linter.unusedVariables false
set_option linter.unusedSimpArgs false

theorem cases_awake : Ev (fun f => redpenlaw16_Awake.f f) true := Ev.of redpenlaw16_Awake.mono (k := 60) (by decide +kernel)
theorem runs_one {R : List Int} (h : ∀ t : Nat, t < R.length → inn R (t : Int) = true) {rs : List (Nat × Nat)} (hR : RunsOk R 0 rs) : rs = if R.length = 0 then [] else [(0, R.length)] := by
  cases rs with
  | nil =>
    by_cases hl : R.length = 0
    · rw [if_pos hl]
    · have h1 := hR 0 (Nat.le_refl _)
      rw [h 0 (by omega)] at h1
      cases h1
  | cons p rs =>
    obtain ⟨a, b⟩ := p
    obtain ⟨h1, h2, h3, h4, h5, h6, h7, h8⟩ := hR
    rw [if_neg (by omega)]
    have ha : a = 0 := by
      rcases Nat.eq_zero_or_pos a with e | e
      · exact e
      · have := h4 0 (Nat.le_refl _) e
        rw [h 0 (by omega)] at this
        cases this
    have hb : b = R.length := by
      rcases Nat.lt_or_ge b R.length with e | e
      · rw [h b e] at h6
        cases h6
      · omega
    subst ha hb
    cases rs with
    | nil => rfl
    | cons q rs =>
      obtain ⟨c, d⟩ := q
      obtain ⟨g1, g2, g3, _⟩ := h8
      omega
/-- Words put together, of letters of one byte, and cut just where they are to be: so they are told. -/
theorem words_segs (ws : List (List Int)) (hne : ∀ w ∈ ws, w ≠ []) (hlet : ∀ x ∈ ws.flatten, letter x = true) (hA : Asc ws.flatten) (hl : ws.flatten.length < 1000) (hcut : ∀ t : Nat, 0 < t → t < ws.flatten.length → (cutAt ws.flatten 0 (ws.flatten.length : Int) (t : Int) = true ↔ ∃ p ∈ (spans 0 ws).tail, p.1 = t)) :
    ∃ W : List S50, Ev (fun f => token_Words.f f ws.flatten (mkU 0 (us ws.flatten)) 1 1000) W ∧ W.map (·.f0) = ws.map strOfNums := by
  obtain ⟨R, Q, hR, hK, hQ, hE⟩ := wordsU_cut hA.BT (by omega)
  rw [hA.rs] at hR hK hQ
  have hinn : ∀ t : Nat, t < ws.flatten.length → inn ws.flatten (t : Int) = true := by
    intro t ht
    refine ltr_inn ?_
    unfold ltr
    rw [decide_eq_true (by omega), decide_eq_true (by omega), hlet _ (rd_mem _ t ht)]
    rfl
  have hR1 := runs_one hinn hR
  have hQs : Q = spans 0 ws := by
    by_cases h0 : ws.flatten.length = 0
    · rw [if_pos h0] at hR1
      subst hR1
      have hw : ws = [] := by
        cases ws with
        | nil => rfl
        | cons w ws =>
          have := List.length_pos_iff.2 (hne w List.mem_cons_self)
          rw [List.flatten_cons, List.length_append] at h0
          omega
      rw [hw]
      exact hK
    · rw [if_neg h0] at hR1
      subst hR1
      obtain ⟨ps, Q', rfl, k1, k2, k3, k4⟩ := hK
      have k4' : Q' = [] := k4
      rw [k4', List.append_nil]
      have hp := spans_parts ws 0 hne
      rw [Nat.zero_add] at hp
      have tl : ∀ (ps : List (Nat × Nat)), PartsOk 0 ws.flatten.length ps → ∀ p ∈ ps.tail, 0 < p.1 ∧ p.1 < ws.flatten.length := by
        have g : ∀ (l : List (Nat × Nat)) (s : Nat), PartsOk s ws.flatten.length l → ∀ p ∈ l, s ≤ p.1 ∧ p.1 < ws.flatten.length := by
          intro l
          induction l with
          | nil => intro s _ p hp; cases hp
          | cons q l ih =>
            obtain ⟨u, v⟩ := q
            intro s hs p hp
            obtain ⟨rfl, g1, g2, g3⟩ := hs
            rcases List.mem_cons.1 hp with rfl | hp
            · exact ⟨Nat.le_refl _, by show u < _; omega⟩
            · have := ih v g3 p hp; omega
        intro ps hps p hp
        cases ps with
        | nil => cases hp
        | cons q l =>
          obtain ⟨u, v⟩ := q
          obtain ⟨rfl, g1, g2, g3⟩ := hps
          have := g l v g3 p hp
          omega
      refine parts_unique (fun t => 0 < t ∧ t < ws.flatten.length ∧ cutAt ws.flatten 0 (ws.flatten.length : Int) (t : Int) = true) ws.flatten.length ps (spans 0 ws) 0 (by omega) k1 hp (fun p hp' => ?_) (fun p hp' => ?_) (fun t q1 q2 q3 => k3 t q1 q2 q3.2.2) (fun t q1 q2 q3 => (hcut t q1 q2).1 q3.2.2)
      · have := tl ps k1 p hp'
        exact ⟨this.1, this.2, k2 p hp'⟩
      · have := tl _ hp p hp'
        exact ⟨this.1, this.2, (hcut p.1 this.1 this.2).2 ⟨p, hp', rfl⟩⟩
  subst hQs
  refine ⟨_, hE 1 1000, ?_⟩
  have hmem := allOk_mem _ 0 hQ
  have hall : (spans 0 ws).filter (sel 1 1000) = spans 0 ws := by
    rw [List.filter_eq_self]
    intro p hp
    obtain ⟨_, g1, g2, _⟩ := hmem p hp
    unfold sel
    rw [decide_eq_true (by omega), decide_eq_true (by omega)]
    rfl
  rw [hall, List.map_map]
  have ht := spans_text ws []
  rw [List.length_nil, List.nil_append] at ht
  conv => rhs; rw [← ht]
  rw [List.map_map]
  refine List.map_congr_left fun p hp => ?_
  obtain ⟨_, g1, g2, _⟩ := hmem p hp
  show strOfNums (bytesAt ws.flatten p) = strOfNums _
  unfold bytesAt
  rw [hA.pos p.2 (by omega), hA.pos p.1 (by omega), Int.toNat_natCast, Int.toNat_natCast]
/-- A byte as a small letter. -/
def lo (c : Int) : Int := (97 + Int.tmod c 26) % 256
theorem lo_in {c : Int} (h : 0 ≤ c) : 97 ≤ lo c ∧ lo c ≤ 122 := by
  unfold lo
  rw [Int.tmod_eq_emod_of_nonneg h]
  omega
/-- A small word. -/
def Low (w : List Int) : Prop := 2 ≤ w.length ∧ w.length ≤ 7 ∧ ∀ x ∈ w, 97 ≤ x ∧ x ≤ 122
theorem Low.asc {w : List Int} (h : Low w) : Asc w := fun x hx => by have := h.2.2 x hx; omega
theorem up_low {x : Int} (h : 97 ≤ x ∧ x ≤ 122) : upR x = x - 32 := by
  unfold upR
  rw [if_pos ((small_iff x).2 (Or.inl h))]
theorem down_low {x : Int} (h : 97 ≤ x ∧ x ≤ 122) : downR x = x := by
  unfold downR
  rw [if_neg (by rw [great_iff]; omega)]
/-- How a word is put. -/
def form (a : Int) (w : List Int) : List Int := if Int.tmod a 3 = 0 then w.mapIdx (asR 2) else if Int.tmod a 3 = 1 then w else w.mapIdx (asR 3)
theorem form_len (a : Int) (w : List Int) : (form a w).length = w.length := by
  unfold form
  split
  · simp
  split <;> simp
theorem up_all {w : List Int} : w.mapIdx (asR 3) = w.map upR := by
  refine List.ext_getElem (by simp) fun i h1 h2 => ?_
  rw [List.getElem_mapIdx, List.getElem_map]
  rfl
theorem first_low {w : List Int} (h : Low w) : ∃ c x l, w = c :: x :: l ∧ w.mapIdx (asR 2) = (c - 32) :: x :: l := by
  obtain ⟨h1, h2, h3⟩ := h
  match w, h1 with
  | c :: x :: l, _ =>
    refine ⟨c, x, l, rfl, ?_⟩
    have e : ∀ i : Nat, ∀ y, y ∈ x :: l → asR 2 (i + 1) y = y := by
      intro i y hy
      unfold asR
      rw [if_neg (by decide), if_pos rfl, if_neg (by omega), down_low (h3 y (List.mem_cons_of_mem _ hy))]
    have e0 : asR 2 0 c = c - 32 := by
      unfold asR
      rw [if_neg (by decide), if_pos rfl, if_pos rfl, up_low (h3 c List.mem_cons_self)]
    refine List.ext_getElem (by simp) fun i g1 g2 => ?_
    rw [List.getElem_mapIdx]
    match i with
    | 0 => exact e0
    | i + 1 => exact e i _ (List.getElem_mem _)
theorem form_asc (a : Int) {w : List Int} (h : Low w) : Asc (form a w) ∧ ∀ x ∈ form a w, letter x = true := by
  have key : ∀ x ∈ form a w, (65 ≤ x ∧ x ≤ 90) ∨ (97 ≤ x ∧ x ≤ 122) := by
    intro x hx
    unfold form at hx
    split at hx
    · obtain ⟨c, y, l, rfl, e⟩ := first_low h
      rw [e] at hx
      have h3 := h.2.2
      rcases List.mem_cons.1 hx with rfl | hx
      · have := h3 c List.mem_cons_self; omega
      · have := h3 x (List.mem_cons_of_mem _ hx); omega
    split at hx
    · exact Or.inr (h.2.2 x hx)
    · rw [up_all] at hx
      obtain ⟨y, hy, rfl⟩ := List.mem_map.1 hx
      have := h.2.2 y hy
      rw [up_low this]
      omega
  refine ⟨fun x hx => by have := key x hx; omega, fun x hx => ?_⟩
  have := key x hx
  rw [letter_iff, great_iff, small_iff]
  omega
theorem forms_asc (a : Int) (wl : List (List Int)) (h : ∀ w ∈ wl, Low w) : Asc ((wl.map (form a)).flatten) ∧ ∀ x ∈ (wl.map (form a)).flatten, letter x = true := by
  refine ⟨fun x hx => ?_, fun x hx => ?_⟩ <;>
  · obtain ⟨y, hy, hxy⟩ := List.mem_flatten.1 hx
    obtain ⟨w, hw, rfl⟩ := List.mem_map.1 hy
    first | exact (form_asc a (h w hw)).1 x hxy | exact (form_asc a (h w hw)).2 x hxy
theorem forms_len (a : Int) : ∀ (wl : List (List Int)), (∀ w ∈ wl, Low w) → ((wl.map (form a)).flatten).length ≤ 7 * wl.length
  | [], _ => by simp
  | w :: wl, h => by
    have ih := forms_len a wl (fun w hw => h w (List.mem_cons_of_mem _ hw))
    have := (h w List.mem_cons_self).2.1
    rw [List.map_cons, List.flatten_cons, List.length_append, form_len, List.length_cons]
    omega
theorem as_low (c : Int) {w : List Int} (h : Low w) (hA : Asc (w.mapIdx (asR c))) : Ev (fun f => fold_As.f f c (strOfNums w)) (strOfNums (w.mapIdx (asR c))) := by
  have h2 := h.2.1
  refine ⟨2 * w.length + 8, fun k hk => ?_⟩
  have := as_of (k := k) c h.asc.BT (by omega) hk
  rw [h.asc.rs, hA.encL] at this
  exact this
theorem size_str (l : List Int) : (strOfNums l).size = l.length := strOfNums_size l
/-- The last loop: each word, folded, is the one that it was made of. -/
theorem cases_l2 (wl : List (List Int)) (h : ∀ w ∈ wl, Low w) (W : List S50) (hk : wl.length < 1000) (a : Int) (ha : Int.tmod a 3 = 0) (hW : W.map (·.f0) = (wl.map (form a)).map strOfNums) : ∀ (d i : Nat), wl.length - i = d → i ≤ wl.length → Ev (fun f => redpenlaw16_TokenCases.l2 f (wl.map strOfNums) W (W.length : Int) (i : Int)) true := by
  have hlen : W.length = wl.length := by
    have := congrArg List.length hW
    simpa using this
  intro d
  induction d with
  | zero =>
    intro i hd hi
    refine Ev.step (f := fun _ => some true) (fun f => ?_) (Ev.now _)
    simp only [redpenlaw16_TokenCases.l2]
    rw [if_neg (by omega)]
  | succ d ih =>
    intro i hd hi
    have hlt : i < wl.length := by omega
    have ew : wrap64 ((i : Int) + 1) = ((i + 1 : Nat) : Int) := by rw [w64 (by omega) (by omega)]; omega
    have hw := h _ (List.getElem_mem hlt)
    have hget : (rd_T50 W (i : Int)).f0 = strOfNums (form a wl[i]) := by
      have := congrArg (fun l => l[i]?) hW
      simp only [List.getElem?_map, List.getElem?_eq_getElem hlt, List.getElem?_eq_getElem (show i < W.length by omega), Option.map_some] at this
      unfold rd_T50
      rw [Int.toNat_natCast, List.getD_eq_getElem?_getD, List.getElem?_eq_getElem (by omega)]
      exact Option.some.inj this
    have hget2 : rdOf ByteArray.empty (wl.map strOfNums) (i : Int) = strOfNums wl[i] := by
      unfold rdOf
      rw [Int.toNat_natCast, List.getD_eq_getElem?_getD, List.getElem?_map, List.getElem?_eq_getElem hlt]
      rfl
    have hfa := (form_asc a hw).1
    have hff : (form a wl[i]).map downR = wl[i] := by
      unfold form
      rw [if_pos ha]
      obtain ⟨c, x, l, e1, e2⟩ := first_low hw
      rw [e2, e1]
      have h3 := hw.2.2
      rw [e1] at h3
      have hc := h3 c List.mem_cons_self
      have hd' : downR (c - 32) = c := by
        unfold downR
        rw [if_pos (by rw [great_iff]; omega)]
        omega
      rw [List.map_cons, hd']
      congr 1
      conv => rhs; rw [← List.map_id (x :: l)]
      exact List.map_congr_left fun y hy => down_low (h3 y (List.mem_cons_of_mem _ hy))
    have hfold : Ev (fun f => fold_Fold.f f (strOfNums (form a wl[i]))) (strOfNums wl[i]) := by
      have hl7 := hw.2.1
      refine ⟨2 * (form a wl[i]).length + 8, fun k hk => ?_⟩
      have := fold_of (k := k) hfa.BT (by rw [form_len]; omega) hk
      rw [hfa.rs, hff, hw.asc.encL] at this
      exact this
    refine Ev.step (f := fun f => (fold_Fold.f f (strOfNums (form a wl[i]))).bind fun t => if t.toList = (strOfNums wl[i]).toList then redpenlaw16_TokenCases.l2 f (wl.map strOfNums) W (W.length : Int) ((i + 1 : Nat) : Int) else some false) (fun f => ?_) (Ev.bind hfold (by simp only [if_true]; exact ih (i + 1) (by omega) (by omega)))
    simp only [redpenlaw16_TokenCases.l2]
    rw [hget, hget2, ew, if_pos (by omega), if_pos (by omega), if_pos (by omega)]
    simp only [if_pos (show (i : Int) < ((wl.map strOfNums).length : Int) by rw [List.length_map]; omega)]
theorem cases_end (a : Int) (h0 : 0 ≤ a) (wl : List (List Int)) (h : ∀ w ∈ wl, Low w) (hk : wl.length ≤ 10) : Ev (fun f => (token_Words.f f ((wl.map (form a)).flatten) (mkU 0 (us (wl.map (form a)).flatten)) 1 1000).bind fun t => if Int.tmod a 3 > 0 then redpenlaw16_TokenCases.j3 f (wl.map strOfNums) (strOfNums (wl.map (form a)).flatten) t true else redpenlaw16_TokenCases.j3 f (wl.map strOfNums) (strOfNums (wl.map (form a)).flatten) t (((wl.map strOfNums).length : Int) == 0)) true := by
  have hA := forms_asc a wl h
  have hn := forms_len a wl h
  have hm : 0 ≤ Int.tmod a 3 := by rw [Int.tmod_eq_emod_of_nonneg h0]; omega
  by_cases hz : Int.tmod a 3 = 0
  · have hcap : ∀ w ∈ wl.map (form a), Cap w := by
      intro w hw
      obtain ⟨v, hv, rfl⟩ := List.mem_map.1 hw
      obtain ⟨c, x, l, e1, e2⟩ := first_low (h v hv)
      have h3 := (h v hv).2.2
      rw [e1] at h3
      refine ⟨c - 32, x, l, ?_, ?_, fun y hy => ?_⟩
      · unfold form
        rw [if_pos hz, e2]
      · have := h3 c List.mem_cons_self
        rw [great_iff]; omega
      · have := h3 y (List.mem_cons_of_mem _ hy)
        rw [small_iff]; omega
    obtain ⟨W, hW, hWt⟩ := words_segs (wl.map (form a)) (fun w hw => by have := cap_len (hcap w hw); intro e; rw [e] at this; simp at this) hA.2 hA.1 (by omega) (fun t q1 q2 => cut_at _ hcap t q1 q2)
    refine Ev.bind hW ?_
    simp only [if_neg (show ¬ Int.tmod a 3 > 0 by omega)]
    have hlen : W.length = wl.length := by
      have := congrArg List.length hWt
      simpa using this
    by_cases he : wl = []
    · subst he
      have hW0 : W = [] := List.length_eq_zero_iff.1 (by rw [hlen]; rfl)
      subst hW0
      refine Ev.step (f := fun _ => some true) (fun f => ?_) (Ev.now _)
      simp only [redpenlaw16_TokenCases.j3]
      rfl
    · have hpos := List.length_pos_iff.2 he
      refine Ev.step (f := fun f => redpenlaw16_TokenCases.l2 f (wl.map strOfNums) W (W.length : Int) ((0 : Nat) : Int)) (fun f => ?_) (cases_l2 wl h W (by omega) a hz hWt _ 0 rfl (by omega))
      simp only [redpenlaw16_TokenCases.j3]
      rw [if_neg (by rw [beq_iff_eq, List.length_map]; omega), if_pos (by rw [List.length_map]; omega)]
      rfl
  · -- all words make one
    let b := (wl.map (form a)).flatten
    have hcutb : ∀ t : Nat, 0 < t → t < b.length → cutAt b 0 (b.length : Int) (t : Int) = false := by
      intro t q1 q2
      by_cases h1 : Int.tmod a 3 = 1
      · refine cut_small b (fun x hx => ?_) t q2
        obtain ⟨y, hy, hxy⟩ := List.mem_flatten.1 hx
        obtain ⟨w, hw, rfl⟩ := List.mem_map.1 hy
        unfold form at hxy
        rw [if_neg hz, if_pos h1] at hxy
        have := (h w hw).2.2 x hxy
        rw [small_iff]; omega
      · refine cut_great b (fun x hx => ?_) t q1 q2
        obtain ⟨y, hy, hxy⟩ := List.mem_flatten.1 hx
        obtain ⟨w, hw, rfl⟩ := List.mem_map.1 hy
        unfold form at hxy
        rw [if_neg hz, if_neg h1, up_all] at hxy
        obtain ⟨z, hz', rfl⟩ := List.mem_map.1 hxy
        have := (h w hw).2.2 z hz'
        rw [up_low this, great_iff]; omega
    by_cases he : wl = []
    · subst he
      obtain ⟨W, hW, hWt⟩ := words_segs [] (by simp) (by simp) (by intro x hx; simp at hx) (by simp) (by intro t q1 q2; simp at q2)
      have hlen : W = [] := by simpa using hWt
      subst hlen
      refine Ev.bind hW ?_
      simp only [if_pos (show Int.tmod a 3 > 0 by omega)]
      refine Ev.step (f := fun _ => some true) (fun f => ?_) (Ev.now _)
      simp only [redpenlaw16_TokenCases.j3]
      rfl
    · have hpos := List.length_pos_iff.2 he
      have hb : b ≠ [] := by
        cases wl with
        | nil => exact absurd rfl he
        | cons w wl =>
          intro e
          have h2 := (h w List.mem_cons_self).1
          have := congrArg List.length e
          simp only [b, List.map_cons, List.flatten_cons, List.length_append, form_len, List.length_nil] at this
          omega
      have e1 : ([b] : List (List Int)).flatten = b := by simp
      obtain ⟨W, hW, hWt⟩ := words_segs [b] (by simpa using hb) (by rw [e1]; exact hA.2) (by rw [e1]; exact hA.1) (by rw [e1]; show (wl.map (form a)).flatten.length < 1000; omega) (by
        rw [e1]
        intro t q1 q2
        rw [hcutb t q1 q2]
        simp [spans])
      rw [e1] at hW
      refine Ev.bind hW ?_
      simp only [if_pos (show Int.tmod a 3 > 0 by omega)]
      have hW1 : ∃ w, W = [w] ∧ w.f0 = strOfNums b := by
        cases W with
        | nil => simp at hWt
        | cons w W =>
          cases W with
          | nil => exact ⟨w, rfl, by simpa using hWt⟩
          | cons _ _ => simp at hWt
      obtain ⟨w, rfl, hw0⟩ := hW1
      refine Ev.step (f := fun _ => some true) (fun f => ?_) (Ev.now _)
      simp only [redpenlaw16_TokenCases.j3, if_true]
      have hmn : mn ((wl.map strOfNums).length : Int) 1 = 1 := by rw [List.length_map]; unfold mn; split <;> omega
      have hr0 : (rd_T50 [w] 0).f0 = strOfNums b := hw0
      rw [hmn, hr0, if_pos (show (([w] : List S50).length : Int) = 1 from rfl), if_neg (show ¬ (([w] : List S50).length : Int) = 0 by show ¬ (1 : Int) = 0; decide), if_pos (show (0 : Int) < (([w] : List S50).length : Int) by show (0 : Int) < 1; decide)]
      exact congrArg some (beq_self_eq_true _)
theorem word_from (a : Int) (x5 : List ByteArray) (x6 : ByteArray) (i : Int) (l0 : List (List Int)) (n : Int) (w : List Int) (hw : ∀ x ∈ w, 0 ≤ x ∧ x < 256) (hwl : w.length ≤ 9223372036854775807) (r : Bool)
    (hr : Ev (fun f => if i < 10 then redpenlaw16_TokenCases.j2 f a x5 x6 (strOfNums ((w.take 7).map lo)) l0 n i (decide (((strOfNums ((w.take 7).map lo)).size : Int) > 1)) else redpenlaw16_TokenCases.j2 f a x5 x6 (strOfNums ((w.take 7).map lo)) l0 n i false) r) : ∀ (d j : Nat), w.length - j = d → j ≤ w.length →
    Ev (fun f => redpenlaw16_TokenCases.l1 f a x5 x6 i (strOfNums (((w.take j).take 7).map lo)) l0 n i w (w.length : Int) (j : Int)) r := by
  intro d
  induction d with
  | zero =>
    intro j hd hj
    rw [List.take_of_length_le (show w.length ≤ j by omega)]
    refine Ev.step (f := fun f => if i < 10 then redpenlaw16_TokenCases.j2 f a x5 x6 (strOfNums ((w.take 7).map lo)) l0 n i (decide (((strOfNums ((w.take 7).map lo)).size : Int) > 1)) else redpenlaw16_TokenCases.j2 f a x5 x6 (strOfNums ((w.take 7).map lo)) l0 n i false) (fun f => ?_) hr
    simp only [redpenlaw16_TokenCases.l1]
    rw [if_neg (by omega)]
  | succ d ih =>
    intro j hd hj
    have hlt : j < w.length := by omega
    have ew : wrap64 ((j : Int) + 1) = ((j + 1 : Nat) : Int) := by rw [w64 (by omega) (by omega)]; omega
    have hrd : rd w (j : Int) = w[j] := by
      unfold rd
      rw [Int.toNat_natCast, List.getD_eq_getElem?_getD, List.getElem?_eq_getElem hlt]
      rfl
    have hn := ih (j + 1) (by omega) (by omega)
    refine Ev.step (f := fun f => redpenlaw16_TokenCases.l1 f a x5 x6 i (strOfNums (((w.take (j + 1)).take 7).map lo)) l0 n i w (w.length : Int) ((j + 1 : Nat) : Int)) (fun f => ?_) hn
    simp only [redpenlaw16_TokenCases.l1]
    rw [if_pos (by omega), if_pos (by omega), if_pos (by omega), hrd, ew]
    by_cases h7 : (j : Int) < 7
    · rw [if_pos h7]
      have e1 : ((w.take (j + 1)).take 7).map lo = ((w.take j).take 7).map lo ++ [lo w[j]] := by
        rw [show (w.take (j + 1)).take 7 = w.take (j + 1) from List.take_of_length_le (by rw [List.length_take]; omega), show (w.take j).take 7 = w.take j from List.take_of_length_le (by rw [List.length_take]; omega), List.take_succ_eq_append_getElem hlt, List.map_append]
        rfl
      rw [e1, strOfNums_append]
      simp only [Option.bind_some]
      rw [if_pos (by rw [size_str, size_str, List.length_map, List.length_take, List.length_singleton]; omega)]
      rfl
    · rw [if_neg h7]
      have e1 : (w.take (j + 1)).take 7 = (w.take j).take 7 := by
        rw [List.take_take, List.take_take]
        congr 1
        omega
      rw [e1]
theorem cases_l0 (a : Int) (h0 : 0 ≤ a) (l0 : List (List Int)) (hl : l0.length < 1000000000000000) (hl0 : ∀ x ∈ l0, x.length ≤ maxLen ∧ ∀ y ∈ x, (Lit.int .u8 y).wf = true) : ∀ (d i : Nat) (wl : List (List Int)), l0.length - i = d → i ≤ l0.length → (∀ w ∈ wl, Low w) → wl.length ≤ i → wl.length ≤ 10 →
    Ev (fun f => redpenlaw16_TokenCases.l0 f a (wl.map strOfNums) (strOfNums (wl.map (form a)).flatten) l0 (l0.length : Int) (i : Int)) true := by
  intro d
  induction d with
  | zero =>
    intro i wl hd hi hlow hwi hw10
    have hA := forms_asc a wl hlow
    have hn := forms_len a wl hlow
    have hc := conv_of hA.1.BT (by omega)
    have he := cases_end a h0 wl hlow hw10
    have hu := units_ev hA.1.BT (by omega)
    refine Ev.step (f := fun f => (utf_Units.f f (wl.map (form a)).flatten).bind fun u => (token_Words.f f (wl.map (form a)).flatten u 1 1000).bind fun t => if Int.tmod a 3 > 0 then redpenlaw16_TokenCases.j3 f (wl.map strOfNums) (strOfNums (wl.map (form a)).flatten) t true else redpenlaw16_TokenCases.j3 f (wl.map strOfNums) (strOfNums (wl.map (form a)).flatten) t (((wl.map strOfNums).length : Int) == 0)) (fun f => ?_) (Ev.bind hu he)
    simp only [redpenlaw16_TokenCases.l0]
    rw [if_neg (by omega)]
    refine ob hc (ob hc ?_)
    rfl
  | succ d ih =>
    intro i wl hd hi hlow hwi hw10
    have hlt : i < l0.length := by omega
    have ew : wrap64 ((i : Int) + 1) = ((i + 1 : Nat) : Int) := by rw [w64 (by omega) (by omega)]; omega
    have hget : rd_L11 l0 (i : Int) = l0[i] := by
      unfold rd_L11
      rw [Int.toNat_natCast, List.getD_eq_getElem?_getD, List.getElem?_eq_getElem hlt]
      rfl
    have hx := hl0 _ (List.getElem_mem hlt)
    have hB := BT_of_wf hx.2
    have hml : l0[i].length ≤ 9223372036854775807 := hx.1
    let s := (l0[i].take 7).map lo
    have hskip := ih (i + 1) wl (by omega) (by omega) hlow (by omega) hw10
    have hslen : s.length ≤ 7 := by show ((l0[i].take 7).map lo).length ≤ 7; rw [List.length_map, List.length_take]; omega
    have hs : ∀ x ∈ s, 97 ≤ x ∧ x ≤ 122 := by
      intro x hx'
      obtain ⟨y, hy, rfl⟩ := List.mem_map.1 hx'
      exact lo_in (hB y (List.mem_of_mem_take hy)).1
    have hj : Ev (fun f => if (i : Int) < 10 then redpenlaw16_TokenCases.j2 f a (wl.map strOfNums) (strOfNums (wl.map (form a)).flatten) (strOfNums s) l0 (l0.length : Int) (i : Int) (decide (((strOfNums s).size : Int) > 1)) else redpenlaw16_TokenCases.j2 f a (wl.map strOfNums) (strOfNums (wl.map (form a)).flatten) (strOfNums s) l0 (l0.length : Int) (i : Int) false) true := by
      have hno : Ev (fun f => redpenlaw16_TokenCases.j2 f a (wl.map strOfNums) (strOfNums (wl.map (form a)).flatten) (strOfNums s) l0 (l0.length : Int) (i : Int) false) true := by
        refine Ev.step (f := fun f => redpenlaw16_TokenCases.l0 f a (wl.map strOfNums) (strOfNums (wl.map (form a)).flatten) l0 (l0.length : Int) ((i + 1 : Nat) : Int)) (fun f => ?_) hskip
        simp only [redpenlaw16_TokenCases.j2]
        rw [if_neg (by decide), ew]
      by_cases h10 : (i : Int) < 10
      · simp only [if_pos h10]
        by_cases h2 : 2 ≤ s.length
        · rw [decide_eq_true (show ((strOfNums s).size : Int) > 1 by rw [size_str]; omega)]
          have hlow1 : Low s := ⟨h2, hslen, hs⟩
          have hlow' : ∀ w ∈ wl ++ [s], Low w := by
            intro w hw
            rcases List.mem_append.1 hw with hw | hw
            · exact hlow w hw
            · rw [List.mem_singleton.1 hw]; exact hlow1
          have hn := forms_len a wl hlow
          have hnext := ih (i + 1) (wl ++ [s]) (by omega) (by omega) hlow' (by simp; omega) (by simp; omega)
          have eA : (wl ++ [s]).map strOfNums = wl.map strOfNums ++ [strOfNums s] := by simp
          have eB : strOfNums ((wl ++ [s]).map (form a)).flatten = strOfNums (wl.map (form a)).flatten ++ strOfNums (form a s) := by
            rw [← strOfNums_append]
            congr 1
            simp
          rw [eA, eB] at hnext
          have hsz : (strOfNums (wl.map (form a)).flatten).size + (strOfNums (form a s)).size ≤ 9223372036854775807 := by rw [size_str, size_str, form_len]; omega
          have hfa := (form_asc a hlow1).1
          by_cases k0 : Int.tmod a 3 = 0
          · have ef : form a s = s.mapIdx (asR 2) := by unfold form; rw [if_pos k0]
            rw [ef] at hfa hsz hnext
            refine Ev.step (f := fun f => (fold_As.f f 2 (strOfNums s)).bind fun t => if (strOfNums (wl.map (form a)).flatten).size + t.size ≤ 9223372036854775807 then redpenlaw16_TokenCases.l0 f a (wl.map strOfNums ++ [strOfNums s]) (strOfNums (wl.map (form a)).flatten ++ t) l0 (l0.length : Int) ((i + 1 : Nat) : Int) else none) (fun f => ?_) (Ev.bind (as_low 2 hlow1 hfa) (by simp only [if_pos hsz]; exact hnext))
            simp only [redpenlaw16_TokenCases.j2, Option.bind_some, if_true]
            rw [if_pos (by rw [List.length_map]; omega), if_pos k0, ew]
          · by_cases k1 : Int.tmod a 3 = 1
            · have ef : form a s = s := by unfold form; rw [if_neg k0, if_pos k1]
              rw [ef] at hsz hnext
              refine Ev.step (f := fun f => redpenlaw16_TokenCases.l0 f a (wl.map strOfNums ++ [strOfNums s]) (strOfNums (wl.map (form a)).flatten ++ strOfNums s) l0 (l0.length : Int) ((i + 1 : Nat) : Int)) (fun f => ?_) hnext
              simp only [redpenlaw16_TokenCases.j2, Option.bind_some, if_true]
              rw [if_pos (by rw [List.length_map]; omega), if_neg k0, if_pos k1, if_pos hsz, ew]
            · have ef : form a s = s.mapIdx (asR 3) := by unfold form; rw [if_neg k0, if_neg k1]
              rw [ef] at hfa hsz hnext
              refine Ev.step (f := fun f => (fold_As.f f 3 (strOfNums s)).bind fun t => if (strOfNums (wl.map (form a)).flatten).size + t.size ≤ 9223372036854775807 then redpenlaw16_TokenCases.l0 f a (wl.map strOfNums ++ [strOfNums s]) (strOfNums (wl.map (form a)).flatten ++ t) l0 (l0.length : Int) ((i + 1 : Nat) : Int) else none) (fun f => ?_) (Ev.bind (as_low 3 hlow1 hfa) (by simp only [if_pos hsz]; exact hnext))
              simp only [redpenlaw16_TokenCases.j2, Option.bind_some, if_true]
              rw [if_pos (by rw [List.length_map]; omega), if_neg k0, if_neg k1, ew]
        · rw [decide_eq_false (show ¬ ((strOfNums s).size : Int) > 1 by rw [size_str]; omega)]
          exact hno
      · simp only [if_neg h10]
        exact hno
    have hw := word_from a (wl.map strOfNums) (strOfNums (wl.map (form a)).flatten) (i : Int) l0 (l0.length : Int) l0[i] hB hml true hj _ 0 rfl (by omega)
    refine Ev.step (f := fun f => redpenlaw16_TokenCases.l1 f a (wl.map strOfNums) (strOfNums (wl.map (form a)).flatten) (i : Int) (strOfNums (((l0[i].take 0).take 7).map lo)) l0 (l0.length : Int) (i : Int) l0[i] (l0[i].length : Int) ((0 : Nat) : Int)) (fun f => ?_) hw
    simp only [redpenlaw16_TokenCases.l0]
    rw [if_pos (by omega), if_pos (by omega), if_pos (by omega), hget]
    rfl
theorem TokenCases (l0 : List (List Int)) (a1 : Int) (h0 : l0.length*24 ≤ 140737488351232) (h1 : ∀ x ∈ l0, (fun l => l.length ≤ maxLen ∧ ∀ x ∈ l, (fun n => (Lit.int .u8 n).wf = true) x) x) (h2 : (Lit.int .u8 a1).wf = true) : ∃ k, redpenlaw16_TokenCases.f k l0 a1 = some true := by
  refine Ev.rounds ?_
  unfold redpenlaw16_TokenCases.f
  refine Ev.bind cases_awake ?_
  simp only [if_true]
  have ha := (BT_of_wf (l := [a1]) (by simpa using h2)) a1 (by simp)
  exact cases_l0 a1 ha.1 l0 (by omega) h1 _ 0 [] rfl (by omega) (by simp) (by simp) (by simp)
end Go.Proofs.Ytmnohlmdckcdeaa.Pure
