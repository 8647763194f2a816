/- DecodeCover: of any bytes, of any format and label, the signs' spans lie side by side, from the beginning to the end; bytes without &, backslash and ' have just their bytes' signs. No condition beyond the statement's own. -/
import Derived.Test.YtekalnhackjldaaDoorBOneDecodeCover
import Derived.Test.YtekalnhackjldaaDoorBBitsDecodeCover
import Derived.Test.YtekalnhackjldaaDoorBSameDecodeCover
namespace Go.Proofs.YtekalnhackjldaaDoor.Pure
open Go.RowKit Go.Proofs.YtekalnhackjldaaDoor.PDecodeCover Go.Proofs.YtekalnhackjldaaDoorW.PrintWords Go.Proofs.YtekalnhackjldaaDoorW.PrintLast
open Go.Proofs.YtekalnhackjldaaDoor.M Go.Proofs.YtekalnhackjldaaDoor.X Go.Proofs.YtekalnhackjldaaDoor.H
set_option linter.unusedVariables false
set_option linter.unusedSimpArgs false

theorem dec_awake : Ev (fun f => redpenlaw15_Awake.f f) true := Ev.of redpenlaw15_Awake.mono (k := 60) (by decide +kernel)
theorem pieces_small : ∀ ps, redpenlaw15_pieces.f = some ps → ∀ p ∈ ps, p.size ≤ 100 := by
  intro ps h
  injection h with h
  subst h
  decide +kernel
/-- No byte of an entity's or an escape's. -/
def plainB (c : Int) : Bool := (c != 38) && (c != 92) && (c != 39)
theorem plainB_iff (c : Int) : plainB c = true ↔ c ≠ 38 ∧ c ≠ 92 ∧ c ≠ 39 := by
  unfold plainB
  simp only [Bool.and_eq_true, bne_iff_ne]
  exact ⟨fun h => ⟨h.1.1, h.1.2, h.2⟩, fun h => ⟨⟨h.1, h.2.1⟩, h.2.2⟩⟩
theorem uM_plain (f lab : Int) : ∀ (n : Nat) (b : List Int), b.length ≤ n → (b.all plainB) = true → uM f lab n b = us b := by
  intro n
  induction n with
  | zero =>
    intro b h _
    have : b = [] := List.length_eq_zero_iff.1 (by omega)
    subst this
    rfl
  | succ n ih =>
    intro b h hp
    unfold uM
    by_cases hb : b = []
    · subst hb; rfl
    · rw [if_neg hb, us_cons hb]
      have h0 : plainB (rd b 0) = true := by
        cases b with
        | nil => exact absurd rfl hb
        | cons c t => rw [List.all_cons, Bool.and_eq_true] at hp; exact hp.1
      obtain ⟨a1, a2, a3⟩ := (plainB_iff _).1 h0
      have hw := nx_len hb
      rw [oneM_plain f lab b a1 a2 a3, ih _ (by rw [List.length_drop]; omega) (by
        rw [List.all_eq_true] at hp ⊢
        exact fun x hx => hp x (List.mem_of_mem_drop hx))]
/-- The spans of signs. -/
def spansOf (u : List S45) : List S40 := u.map (·.f1)
theorem rd_span (u : List S45) (i : Nat) (h : i < u.length) : rd_T40 (spansOf u) (i : Int) = (rd_T45 u (i : Int)).f1 := by
  unfold rd_T40 rd_T45 spansOf
  rw [Int.toNat_natCast, List.getD_eq_getElem?_getD, List.getD_eq_getElem?_getD, List.getElem?_map, List.getElem?_eq_getElem h]
  rfl
/-- Spans that lie side by side. -/
def Side : Int → List (Int × Int) → Int → Prop
  | a, [], e => a = e
  | a, (_, n) :: t, e => 1 ≤ n ∧ Side (a + n) t e
theorem uM_side (f lab : Int) : ∀ (n : Nat) (b : List Int) (a : Int), b.length ≤ n → Side a (uM f lab n b) (a + b.length) := by
  intro n
  induction n with
  | zero =>
    intro b a h
    have : b = [] := List.length_eq_zero_iff.1 (by omega)
    subst this
    show a = a + (0 : Nat)
    omega
  | succ n ih =>
    intro b a h
    unfold uM
    by_cases hb : b = []
    · subst hb
      rw [if_pos rfl]
      show a = a + (0 : Nat)
      omega
    · rw [if_neg hb]
      have hw := oneM_width f lab b hb
      have := ih (b.drop (oneM f lab b).2.toNat) (a + (oneM f lab b).2) (by rw [List.length_drop]; omega)
      rw [List.length_drop, show a + (oneM f lab b).2 + ((b.length - (oneM f lab b).2.toNat : Nat) : Int) = a + b.length by omega] at this
      exact ⟨hw.1, this⟩
theorem side_le : ∀ (l : List (Int × Int)) (a e : Int), Side a l e → a + l.length ≤ e
  | [], a, e, h => by have : a = e := h; simp; omega
  | (_, n) :: t, a, e, h => by
    have := side_le t (a + n) e h.2
    have h1 := h.1
    rw [List.length_cons]
    omega
theorem cover_from (e : Int) (he : e ≤ 65536) : ∀ (l : List (Int × Int)) (pre : List S40) (a : Int), 0 ≤ a → Side a l e → pre.length + l.length < 1000000 →
    Ev (fun f => span_Cover.l0 f e a (pre ++ spansOf (mkU a l)) ((pre.length + l.length : Nat) : Int) (pre.length : Int)) true
  | [], pre, a, ha, h, hl => by
    have hae : a = e := h
    refine Ev.step (f := fun _ => some true) (fun f => ?_) (Ev.now _)
    simp only [span_Cover.l0]
    rw [if_neg (by simp), hae, beq_self_eq_true]
  | (r, n) :: t, pre, a, ha, h, hl => by
    obtain ⟨hn, ht⟩ := h
    have hle := side_le t _ _ ht
    have hi := cover_from e he t (pre ++ [⟨a, n⟩]) (a + n) (by omega) ht (by rw [List.length_append]; simp at hl ⊢; omega)
    rw [List.length_append, List.length_singleton, List.append_assoc] at hi
    have hr : rd_T40 (pre ++ spansOf (mkU a ((r, n) :: t))) (pre.length : Int) = ⟨a, n⟩ := by
      unfold rd_T40
      rw [Int.toNat_natCast, List.getD_eq_getElem?_getD, List.getElem?_append_right (by omega), Nat.sub_self]
      rfl
    refine Ev.step (fun f => ?_) hi
    simp only [span_Cover.l0]
    rw [List.length_cons] at hl ⊢
    have hln : (pre ++ spansOf (mkU a ((r, n) :: t))).length = pre.length + (t.length + 1) := by
      rw [List.length_append]; unfold spansOf; rw [List.length_map, mkU_len]; simp
    rw [if_pos (by omega), if_pos (by omega), if_pos (by rw [hln]; omega), hr]
    have hs : span_sound.f a n = some true := by
      unfold span_sound.f
      rw [if_pos (by omega), if_pos (by omega), if_pos (by omega), decide_eq_true (by omega)]
    have he2 : span_end.f a n = some (a + n) := by unfold span_end.f; rw [w64 (by omega) (by omega)]
    dsimp only
    refine ob hs ?_
    rw [if_pos rfl, if_pos rfl, if_neg (by omega)]
    refine ob he2 ?_
    rw [w64 (by omega) (by omega), show ((pre.length + (t.length + 1) : Nat) : Int) = ((pre.length + 1 + t.length : Nat) : Int) by omega, show ((pre.length : Int) + 1) = ((pre.length + 1 : Nat) : Int) by omega]
    rfl
theorem spans_loop (x : List Int) (u : List S45) (c : Int) (hu : u.length < 1000000) (r : Bool) (hend : Ev (fun f => redpenlaw15_DecodeCover.l1 f x u c (spansOf u) true x (x.length : Int) 0) r) : ∀ (d i : Nat), u.length - i = d → i ≤ u.length →
    Ev (fun f => redpenlaw15_DecodeCover.l0 f x u c ((spansOf u).take i) u (u.length : Int) (i : Int)) r := by
  intro d
  induction d with
  | zero =>
    intro i hd hi
    refine Ev.step (fun f => ?_) hend
    simp only [redpenlaw15_DecodeCover.l0]
    rw [if_neg (by omega), List.take_of_length_le (by unfold spansOf; rw [List.length_map]; omega)]
  | succ d ih =>
    intro i hd hi
    refine Ev.step (fun f => ?_) (ih (i + 1) (by omega) (by omega))
    simp only [redpenlaw15_DecodeCover.l0]
    have hsl : (spansOf u).length = u.length := by unfold spansOf; rw [List.length_map]
    rw [if_pos (by omega), if_pos (by omega), if_pos (by omega), if_pos (by rw [List.length_take]; omega), show wrap64 ((i : Int) + 1) = ((i + 1 : Nat) : Int) by rw [w64 (by omega) (by omega)]; omega]
    have e : (spansOf u).take i ++ [(⟨(rd_T45 u (i : Int)).f1.f0, (rd_T45 u (i : Int)).f1.f1⟩ : S40)] = (spansOf u).take (i + 1) := by
      rw [List.take_succ_eq_append_getElem (by omega)]
      congr 2
      unfold rd_T45 spansOf
      rw [Int.toNat_natCast, List.getElem_map, List.getD_eq_getElem?_getD, List.getElem?_eq_getElem (by omega)]
      rfl
    rw [e]
theorem plain_loop (x : List Int) (hx : x.length < 1000000) (u : List S45) (c : Int) (s : List S40) (r : Bool) (hend : ∀ p : Bool, (p = true → x.all plainB = true) → Ev (fun f => redpenlaw15_DecodeCover.l1 f x u c s p x (x.length : Int) (x.length : Int)) r) : ∀ (d i : Nat) (p : Bool), x.length - i = d → i ≤ x.length → (p = true → (x.take i).all plainB = true) →
    Ev (fun f => redpenlaw15_DecodeCover.l1 f x u c s p x (x.length : Int) (i : Int)) r := by
  intro d
  induction d with
  | zero =>
    intro i p hd hi hp
    have e : i = x.length := by omega
    subst e
    rw [List.take_length] at hp
    exact hend p hp
  | succ d ih =>
    intro i p hd hi hp
    have hlt : i < x.length := by omega
    have hn := ih (i + 1) (p && plainB (rd x (i : Int))) (by omega) (by omega) (fun h => by
      rw [Bool.and_eq_true] at h
      rw [List.take_succ_eq_append_getElem hlt, List.all_append, hp h.1, Bool.true_and]
      have : x[i] = rd x (i : Int) := by
        unfold rd
        rw [Int.toNat_natCast, List.getD_eq_getElem?_getD, List.getElem?_eq_getElem hlt]
        rfl
      rw [List.all_cons, this, h.2]
      rfl)
    refine Ev.step (fun f => ?_) hn
    simp only [redpenlaw15_DecodeCover.l1]
    rw [if_pos (by omega), if_pos (by omega), if_pos (by omega), show wrap64 ((i : Int) + 1) = ((i + 1 : Nat) : Int) by rw [w64 (by omega) (by omega)]; omega]
    cases p
    · rw [if_neg (by simp), Bool.false_and]
    · rw [if_pos rfl, Bool.true_and]
      unfold plainB
      by_cases h1 : rd x (i : Int) = 38
      · rw [if_pos h1, h1]; rfl
      · rw [if_neg h1]
        by_cases h2 : rd x (i : Int) = 92
        · rw [if_pos h2, h2]; rfl
        · rw [if_neg h2, bne_iff_ne.2 h1, bne_iff_ne.2 h2]
          rfl
theorem DecodeCover (a0 a1 : Int) (l2 l3 : List Int) (h0 : (Lit.int .u8 a0).wf = true) (h1 : (Lit.int .u8 a1).wf = true) (h2 : l2.length * 1 ≤ 140737488351232) (hB2 : ∀ x ∈ l2, (fun n => (Lit.int .u8 n).wf = true) x) (h3 : l3.length * 1 ≤ 140737488351232) (hB3 : ∀ x ∈ l3, (fun n => (Lit.int .u8 n).wf = true) x) : ∃ k, redpenlaw15_DecodeCover.f k a0 a1 l2 l3 = some true := by
  have b2 := BT_of_wf hB2
  have b3 := BT_of_wf hB3
  refine Ev.rounds ?_
  unfold redpenlaw15_DecodeCover.f
  refine Ev.bind dec_awake ?_
  by_cases hl : (l2.length : Int) > 500
  · simp only [if_pos hl, if_true]
    exact Ev.now _
  · simp only [if_neg hl, if_true]
    obtain ⟨ps, hps⟩ : ∃ ps, redpenlaw15_pieces.f = some ps := ⟨_, rfl⟩
    simp only [hps, Option.bind_some]
    obtain ⟨x, hB, hbl, hb⟩ := bits_eq ps (pieces_small ps hps) l2 l3 b2 b3 (by omega) (by omega)
    refine Ev.bind hb ?_
    generalize Int.tmod a0 9 = f0
    generalize (1 + Int.tmod a1 7) % 256 = lab
    have hu := units_ok f0 lab x hB (by omega) 0 x.length (by omega)
    rw [Nat.zero_add, List.take_length, List.drop_zero] at hu
    refine Ev.bind hu ?_
    obtain ⟨v, hv⟩ : ∃ v, uM f0 lab x.length x = v := ⟨_, rfl⟩
    have hside := uM_side f0 lab x.length x 0 (by omega)
    have hpl := fun h => uM_plain f0 lab x.length x (by omega) h
    rw [hv] at hside hpl ⊢
    rw [Int.zero_add] at hside
    have hvl := side_le _ _ _ hside
    have hul : (mkU ((0 : Nat) : Int) v).length = v.length := mkU_len _ _
    refine spans_loop x (mkU ((0 : Nat) : Int) v) 0 (by omega) true ?_ _ 0 rfl (by omega)
    refine plain_loop x (by omega) _ 0 _ true (fun p hp => ?_) _ 0 true rfl (by omega) (fun _ => rfl)
    refine Ev.step (f := fun f => (span_Cover.f f (spansOf (mkU ((0 : Nat) : Int) v)) (x.length : Int)).bind fun t207 => (if t207 = true then (if p = true then ((utf_Units.f f x).bind fun t208 => ((redpenref01_SameUnits.f f (mkU ((0 : Nat) : Int) v) t208).bind fun t211 => (some t211))) else (some true)) else (some false))) (fun f => ?_) ?_
    · simp only [redpenlaw15_DecodeCover.l1]
      rw [if_neg (by omega), if_pos trivial]
    · have hc := cover_from (x.length : Int) (by omega) v [] 0 (by omega) hside (by simp; omega)
      rw [List.nil_append, List.length_nil, Nat.zero_add] at hc
      refine Ev.bind (a := true) (Ev.congr (fun f => ?_) hc) ?_
      · unfold span_Cover.f
        have : (spansOf (mkU ((0 : Nat) : Int) v)).length = v.length := by unfold spansOf; rw [List.length_map, mkU_len]
        rw [this]
        rfl
      · simp only [if_true]
        cases p
        · simp only [Bool.false_eq_true, if_false]; exact Ev.now _
        · simp only [if_true]
          rw [hpl (hp rfl)]
          refine Ev.bind (a := mkU 0 (us x)) ⟨x.length + 7, fun k hk => units_eq hB (by omega) hk⟩ ?_
          have hul2 := us_len x
          exact Ev.bind (a := true) ⟨(us x).length + 1, fun k hk => sameunits_eq _ (by rw [mkU_len]; omega) (by rw [mkU_len]; omega)⟩ (Ev.now _)
end Go.Proofs.YtekalnhackjldaaDoor.Pure
