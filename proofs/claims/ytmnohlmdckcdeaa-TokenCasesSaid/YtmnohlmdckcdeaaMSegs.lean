/- Plain facts on small signs, and on words put together, cut where a great letter begins one. -/
import Derived.Test.YtmnohlmdckcdeaaMTok
namespace Go.Proofs.Ytmnohlmdckcdeaa.M
open Go.RowKit Go.Proofs.YtmnohlmdckcdeaaW.PrintWords
set_option linter.unusedVariables false
set_option linter.unusedSimpArgs false

/-- Signs of one byte. -/
def Asc (l : List Int) : Prop := ∀ x ∈ l, 0 ≤ x ∧ x < 128
theorem Asc.BT {l : List Int} (h : Asc l) : BT l := fun x hx => by have := h x hx; omega
theorem Asc.ok {l : List Int} (h : Asc l) : ∀ x ∈ l, okR x = true := fun x hx => by have := h x hx; rw [okR_iff]; omega
theorem Asc.encL : ∀ {l : List Int}, Asc l → encL l = l
  | [], _ => rfl
  | c :: l, h => by
    have hc := h c List.mem_cons_self
    have hl : Asc l := fun x hx => h x (List.mem_cons_of_mem _ hx)
    show (if okR c = true then enc c else []) ++ M.encL l = c :: l
    rw [if_pos (Asc.ok h c List.mem_cons_self), hl.encL]
    unfold enc
    rw [if_pos hc.2]
    rfl
theorem Asc.us : ∀ {l : List Int}, Asc l → us l = l.map (fun c => (c, (1 : Int)))
  | [], _ => rfl
  | c :: l, h => by
    have hc := h c List.mem_cons_self
    have hl : Asc l := fun x hx => h x (List.mem_cons_of_mem _ hx)
    have hn : nx (c :: l) = (c, 1) := by simp only [nx]; rw [if_pos hc.2]
    rw [us_cons (by simp), hn]
    show (c, (1 : Int)) :: M.us l = _
    rw [hl.us]
    rfl
theorem Asc.rs {l : List Int} (h : Asc l) : rs l = l := by
  unfold M.rs
  rw [h.us, List.map_map]
  exact List.map_id' l
theorem Asc.pos : ∀ {l : List Int}, Asc l → ∀ k : Nat, k ≤ l.length → pos (M.us l) k = (k : Int)
  | l, _, 0, _ => by simp [M.pos]
  | [], _, k + 1, hk => by simp at hk
  | c :: l, h, k + 1, hk => by
    have hl : Asc l := fun x hx => h x (List.mem_cons_of_mem _ hx)
    have ih := hl.pos k (by simpa using hk)
    rw [h.us, List.map_cons, pos_cons, ← hl.us, ih]
    show 1 + (k : Int) = ((k + 1 : Nat) : Int)
    omega
/-- Where the words lie that are put together. -/
def spans : Nat → List (List Int) → List (Nat × Nat)
  | _, [] => []
  | s, w :: ws => (s, s + w.length) :: spans (s + w.length) ws
theorem spans_len : ∀ (ws : List (List Int)) (s : Nat), (spans s ws).length = ws.length
  | [], _ => rfl
  | _ :: ws, s => by simp [spans, spans_len ws]
theorem spans_ge : ∀ (ws : List (List Int)) (s : Nat), ∀ p ∈ spans s ws, s ≤ p.1
  | [], _, p, hp => by cases hp
  | w :: ws, s, p, hp => by
    rcases List.mem_cons.1 hp with rfl | hp
    · exact Nat.le_refl _
    · have := spans_ge ws _ p hp; omega
theorem spans_parts : ∀ (ws : List (List Int)) (s : Nat), (∀ w ∈ ws, w ≠ []) → PartsOk s (s + ws.flatten.length) (spans s ws)
  | [], s, _ => by show s = s + 0; omega
  | w :: ws, s, h => by
    have hw := h w List.mem_cons_self
    have hl : 0 < w.length := List.length_pos_iff.2 hw
    have ih := spans_parts ws (s + w.length) (fun w hw => h w (List.mem_cons_of_mem _ hw))
    have e : s + (w :: ws).flatten.length = s + w.length + ws.flatten.length := by rw [List.flatten_cons, List.length_append]; omega
    rw [e]
    exact ⟨rfl, by omega, by omega, ih⟩
theorem spans_text : ∀ (ws : List (List Int)) (pre : List Int), (spans pre.length ws).map (fun p => ((pre ++ ws.flatten).take p.2).drop p.1) = ws
  | [], _ => rfl
  | w :: ws, pre => by
    have ih := spans_text ws (pre ++ w)
    rw [List.length_append, List.append_assoc] at ih
    show (((pre ++ (w ++ ws.flatten)).take (pre.length + w.length)).drop pre.length) :: (spans (pre.length + w.length) ws).map (fun p => ((pre ++ (w ++ ws.flatten)).take p.2).drop p.1) = _
    rw [ih]
    congr 1
    rw [← List.append_assoc, List.take_append_of_le_length (by rw [List.length_append]; exact Nat.le_refl _), List.take_of_length_le (by rw [List.length_append]; exact Nat.le_refl _)]
    exact List.drop_left
/-- Parts that are cut at the same places are the same. -/
theorem parts_unique (C : Nat → Prop) (n : Nat) : ∀ (ps ps' : List (Nat × Nat)) (a : Nat), a < n → PartsOk a n ps → PartsOk a n ps' → (∀ p ∈ ps.tail, C p.1) → (∀ p ∈ ps'.tail, C p.1) → (∀ t, a < t → t < n → C t → ∃ p ∈ ps.tail, p.1 = t) → (∀ t, a < t → t < n → C t → ∃ p ∈ ps'.tail, p.1 = t) → ps = ps'
  | [], _, a, ha, h, _, _, _, _, _ => by have : a = n := h; omega
  | _ :: _, [], a, ha, _, h, _, _, _, _ => by have : a = n := h; omega
  | (x, y) :: r, (x', y') :: r', a, ha, h, h', hc, hc', hall, hall' => by
    obtain ⟨rfl, h1, h2, h3⟩ := h
    obtain ⟨rfl, h1', h2', h3'⟩ := h'
    have ge : ∀ (l : List (Nat × Nat)) (s : Nat), PartsOk s n l → ∀ p ∈ l, s ≤ p.1 := by
      intro l
      induction l with
      | nil => intro s _ p hp; cases hp
      | cons q l ih =>
        obtain ⟨u, v⟩ := q
        intro s hs p hp
        obtain ⟨rfl, g1, g2, g3⟩ := hs
        rcases List.mem_cons.1 hp with rfl | hp
        · exact Nat.le_refl _
        · have := ih v g3 p hp; omega
    have first : ∀ (l : List (Nat × Nat)) (s : Nat), PartsOk s n l → s < n → ∃ p ∈ l, p.1 = s := by
      intro l s hs hl
      cases l with
      | nil => have : s = n := hs; omega
      | cons q l => obtain ⟨u, v⟩ := q; exact ⟨(u, v), by simp, hs.1⟩
    have hyy : y = y' := by
      rcases Nat.lt_trichotomy y y' with hlt | he | hlt
      · obtain ⟨p, hp, e⟩ := first r y h3 (by omega)
        have hC := hc p hp
        rw [e] at hC
        obtain ⟨p', hp', e'⟩ := hall' y (by omega) (by omega) hC
        have := ge r' y' h3' p' hp'
        omega
      · exact he
      · obtain ⟨p, hp, e⟩ := first r' y' h3' (by omega)
        have hC := hc' p hp
        rw [e] at hC
        obtain ⟨p', hp', e'⟩ := hall y' (by omega) (by omega) hC
        have := ge r y h3 p' hp'
        omega
    subst hyy
    congr 1
    by_cases hn : y < n
    · refine parts_unique C n r r' y hn h3 h3' (fun p hp => hc p (List.mem_of_mem_tail hp)) (fun p hp => hc' p (List.mem_of_mem_tail hp)) (fun t q1 q2 q3 => ?_) (fun t q1 q2 q3 => ?_)
      · obtain ⟨p, hp, e⟩ := hall t (by omega) q2 q3
        cases r with
        | nil => cases hp
        | cons q l =>
          obtain ⟨u, v⟩ := q
          rcases List.mem_cons.1 hp with rfl | hp
          · have : u = y := h3.1
            simp only at e
            omega
          · exact ⟨p, hp, e⟩
      · obtain ⟨p, hp, e⟩ := hall' t (by omega) q2 q3
        cases r' with
        | nil => cases hp
        | cons q l =>
          obtain ⟨u, v⟩ := q
          rcases List.mem_cons.1 hp with rfl | hp
          · have : u = y := h3'.1
            simp only at e
            omega
          · exact ⟨p, hp, e⟩
    · have empty : ∀ l : List (Nat × Nat), PartsOk y n l → l = [] := by
        intro l hl
        cases l with
        | nil => rfl
        | cons q l => obtain ⟨u, v⟩ := q; obtain ⟨g0, g1, g2, _⟩ := hl; omega
      rw [empty r h3, empty r' h3']
/-- A word with a great first letter. -/
def Cap (w : List Int) : Prop := ∃ c x l, w = c :: x :: l ∧ great c = true ∧ ∀ y ∈ x :: l, small y = true
theorem rd_app_l (a b : List Int) (t : Nat) (h : t < a.length) : rd (a ++ b) (t : Int) = rd a (t : Int) := by
  unfold rd
  rw [Int.toNat_natCast, List.getD_eq_getElem?_getD, List.getD_eq_getElem?_getD, List.getElem?_append_left h]
theorem rd_app_r (a b : List Int) (t : Nat) (h : a.length ≤ t) : rd (a ++ b) (t : Int) = rd b ((t - a.length : Nat) : Int) := by
  unfold rd
  rw [Int.toNat_natCast, Int.toNat_natCast, List.getD_eq_getElem?_getD, List.getD_eq_getElem?_getD, List.getElem?_append_right h]
theorem rd_mem (a : List Int) (t : Nat) (h : t < a.length) : rd a (t : Int) ∈ a := by
  unfold rd
  rw [Int.toNat_natCast, List.getD_eq_getElem?_getD, List.getElem?_eq_getElem h]
  exact List.getElem_mem h
theorem small_great {r : Int} (h : small r = true) : great r = false := by
  rw [small_iff] at h
  rw [great_not]
  omega
theorem cap_zero {w : List Int} (h : Cap w) : great (rd w ((0 : Nat) : Int)) = true := by
  obtain ⟨c, x, l, rfl, h1, h2⟩ := h
  exact h1
theorem cap_succ {w : List Int} (h : Cap w) (t : Nat) (ht : t + 1 < w.length) : small (rd w ((t + 1 : Nat) : Int)) = true := by
  obtain ⟨c, x, l, rfl, h1, h2⟩ := h
  have : rd (c :: x :: l) ((t + 1 : Nat) : Int) = rd (x :: l) (t : Int) := by
    unfold rd
    rw [Int.toNat_natCast, Int.toNat_natCast]
    rfl
  rw [this]
  exact h2 _ (rd_mem _ _ (by simpa using ht))
theorem cap_len {w : List Int} (h : Cap w) : 2 ≤ w.length := by
  obtain ⟨c, x, l, rfl, _⟩ := h
  simp
theorem great_at : ∀ (ws : List (List Int)) (s t : Nat), (∀ w ∈ ws, Cap w) → t < ws.flatten.length → (great (rd ws.flatten (t : Int)) = true ↔ ∃ p ∈ spans s ws, p.1 = s + t)
  | [], s, t, _, ht => by simp at ht
  | w :: ws, s, t, h, ht => by
    have hw := h w List.mem_cons_self
    have hws : ∀ w ∈ ws, Cap w := fun w hw => h w (List.mem_cons_of_mem _ hw)
    rw [List.flatten_cons] at ht ⊢
    rw [List.length_append] at ht
    by_cases hl : t < w.length
    · rw [rd_app_l _ _ _ hl]
      cases t with
      | zero => exact ⟨fun _ => ⟨(s, s + w.length), by simp [spans], rfl⟩, fun _ => cap_zero hw⟩
      | succ t =>
        have := small_great (cap_succ hw t hl)
        rw [this]
        constructor
        · intro h; cases h
        · rintro ⟨p, hp, e⟩
          rcases List.mem_cons.1 hp with rfl | hp
          · simp only at e; omega
          · have := spans_ge ws _ p hp
            omega
    · rw [rd_app_r _ _ _ (by omega), great_at ws (s + w.length) (t - w.length) hws (by omega)]
      constructor
      · rintro ⟨p, hp, e⟩
        exact ⟨p, List.mem_cons_of_mem _ hp, by omega⟩
      · rintro ⟨p, hp, e⟩
        rcases List.mem_cons.1 hp with rfl | hp
        · have := cap_len hw
          simp only at e
          omega
        · exact ⟨p, hp, by omega⟩
theorem small_before : ∀ (ws : List (List Int)) (t : Nat), (∀ w ∈ ws, Cap w) → 0 < t → t < ws.flatten.length → great (rd ws.flatten (t : Int)) = true → small (rd ws.flatten ((t - 1 : Nat) : Int)) = true
  | [], t, _, _, ht, _ => by simp at ht
  | w :: ws, t, h, h0, ht, hg => by
    have hw := h w List.mem_cons_self
    have hws : ∀ w ∈ ws, Cap w := fun w hw => h w (List.mem_cons_of_mem _ hw)
    have hlen := cap_len hw
    rw [List.flatten_cons] at ht hg ⊢
    rw [List.length_append] at ht
    by_cases hl : t < w.length
    · rw [rd_app_l _ _ _ hl] at hg
      obtain ⟨t, rfl⟩ : ∃ m, t = m + 1 := ⟨t - 1, by omega⟩
      rw [small_great (cap_succ hw t hl)] at hg
      cases hg
    · by_cases he : t = w.length
      · rw [rd_app_l _ _ _ (by omega), show t - 1 = (t - 2) + 1 by omega]
        exact cap_succ hw (t - 2) (by omega)
      · rw [rd_app_r _ _ _ (by omega)] at hg ⊢
        have := small_before ws (t - w.length) hws (by omega) (by omega) hg
        rw [show t - 1 - w.length = t - w.length - 1 by omega]
        exact this
/-- Words with great first letters, put together, are to be cut where they were. -/
theorem cut_at (ws : List (List Int)) (h : ∀ w ∈ ws, Cap w) (t : Nat) (h0 : 0 < t) (ht : t < ws.flatten.length) : cutAt ws.flatten 0 (ws.flatten.length : Int) (t : Int) = true ↔ ∃ p ∈ (spans 0 ws).tail, p.1 = t := by
  have hg := great_at ws 0 t h ht
  have e : ((t : Int) - 1) = ((t - 1 : Nat) : Int) := by omega
  have hb := small_before ws t h h0 ht
  have ht1 : (∃ p ∈ spans 0 ws, p.1 = 0 + t) ↔ ∃ p ∈ (spans 0 ws).tail, p.1 = t := by
    cases ws with
    | nil => simp [spans]
    | cons w ws =>
      constructor
      · rintro ⟨p, hp, e⟩
        rcases List.mem_cons.1 hp with rfl | hp
        · simp only at e; omega
        · exact ⟨p, hp, by omega⟩
      · rintro ⟨p, hp, e⟩
        exact ⟨p, List.mem_cons_of_mem _ hp, by omega⟩
  rw [← ht1, ← hg]
  unfold cutAt
  rw [e, beq_eq_false_iff_ne.2 (show (t : Int) ≠ 0 by omega)]
  cases hgr : great (rd ws.flatten (t : Int))
  · simp
  · rw [hb hgr]
    simp
theorem cut_small (b : List Int) (h : ∀ x ∈ b, small x = true) (t : Nat) (ht : t < b.length) : cutAt b 0 (b.length : Int) (t : Int) = false := by
  unfold cutAt
  rw [small_great (h _ (rd_mem b t ht))]
  simp
theorem cut_great (b : List Int) (h : ∀ x ∈ b, great x = true) (t : Nat) (h0 : 0 < t) (ht : t < b.length) : cutAt b 0 (b.length : Int) (t : Int) = false := by
  unfold cutAt
  have h1 := great_small (h _ (rd_mem b (t - 1) (by omega)))
  rw [show ((t : Int) - 1) = ((t - 1 : Nat) : Int) by omega, h1]
  by_cases hl : t + 1 < b.length
  · have h2 := great_small (h _ (rd_mem b (t + 1) hl))
    rw [show ((t : Int) + 1) = ((t + 1 : Nat) : Int) by omega, h2]
    simp
  · rw [decide_eq_false (show ¬ (t : Int) + 1 < (b.length : Int) by omega)]
    simp
end Go.Proofs.Ytmnohlmdckcdeaa.M
