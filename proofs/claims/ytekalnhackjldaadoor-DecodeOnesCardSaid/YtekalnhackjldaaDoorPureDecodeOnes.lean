/- DecodeOnes: an entity, and an escape of any format, that any bytes begin with, are the document's. No condition beyond the statement's own. -/
import Derived.Test.YtekalnhackjldaaDoorBAll
namespace Go.Proofs.YtekalnhackjldaaDoor.Pure
open Go.RowKit Go.Proofs.YtekalnhackjldaaDoor.PDecodeOnes Go.Proofs.YtekalnhackjldaaDoorW.PrintWords Go.Proofs.YtekalnhackjldaaDoorW.PrintLast
open Go.Proofs.YtekalnhackjldaaDoor.M Go.Proofs.YtekalnhackjldaaDoor.X Go.Proofs.YtekalnhackjldaaDoor.H
set_option linter.unusedVariables false
set_option linter.unusedSimpArgs false

theorem dec_awake : Ev (fun f => redpenlaw15_Awake.f f) true := Ev.of redpenlaw15_Awake.mono (k := 60) (by decide +kernel)
theorem pieces_small : ∀ ps, redpenlaw15_pieces.f = some ps → ∀ p ∈ ps, p.size ≤ 100 := by
  intro ps h
  injection h with h
  subst h
  decide +kernel
section
variable {a0 : Int} {x : List Int} (hB : BT x) (hx : x.length < 100000)
theorem ones_l2 (y : List Int) (hy : BT y) (hyl : y.length < 1000000) (a b : Int) (z : List (List Int)) (n c : Int) (g : List Int) (hg : g.length < 1000)
    (cont : Ev (fun f => redpenlaw15_DecodeOnes.l1 f a0 x a b z n (wrap64 (c + 1))) true) : ∀ (d i : Nat), g.length - i = d → i ≤ g.length →
    Ev (fun f => redpenlaw15_DecodeOnes.l2 f a0 x y a b z n c g (g.length : Int) (i : Int)) true := by
  intro d
  induction d with
  | zero =>
    intro i hd hi
    refine Ev.step (fun f => ?_) cont
    simp only [redpenlaw15_DecodeOnes.l2]
    rw [if_neg (by omega)]
  | succ d ih =>
    intro i hd hi
    have hn := ih (i + 1) (by omega) (by omega)
    obtain ⟨lab, hlab⟩ : ∃ lab, rd g (i : Int) = lab := ⟨_, rfl⟩
    have ew : wrap64 ((i : Int) + 1) = ((i + 1 : Nat) : Int) := by rw [w64 (by omega) (by omega)]; omega
    have h1 := escape_eq lab y hy
    have h2 := refescape_eq lab y hy hyl
    generalize escM lab y = R at h1 h2
    refine Ev.step (f := fun k => (decode_Escape.f k lab y).bind fun bt244 => ((redpenref15_Escape.f k lab y).bind fun bt247 => (if bt244.1 = bt247.1 then (if bt244.2.1 = bt247.2.1 then (if (bt244.2.2 != bt247.2.2) = true then (some false) else (redpenlaw15_DecodeOnes.l2 k a0 x y a b z n c g (g.length : Int) ((i + 1 : Nat) : Int))) else (some false)) else (some false)))) (fun f => ?_) (Ev.bind h1 (Ev.bind h2 ?_))
    · simp only [redpenlaw15_DecodeOnes.l2]
      rw [if_pos (by omega), if_pos (by omega), if_pos (by omega), hlab, ew]
    · simp only [if_true, bne_self_eq_false, Bool.false_eq_true, if_false]
      exact hn
theorem ones_l1 (a b : Int) (z : List (List Int)) (hz : z.length < 1000) (hzy : ∀ y ∈ z, BT y ∧ y.length < 1000000)
    (cont : Ev (fun f => redpenlaw15_DecodeOnes.l0 f a0 x a (wrap64 (b + 1))) true) : ∀ (d i : Nat), z.length - i = d → i ≤ z.length →
    Ev (fun f => redpenlaw15_DecodeOnes.l1 f a0 x a b z (z.length : Int) (i : Int)) true := by
  intro d
  induction d with
  | zero =>
    intro i hd hi
    refine Ev.step (fun f => ?_) cont
    simp only [redpenlaw15_DecodeOnes.l1]
    rw [if_neg (by omega)]
  | succ d ih =>
    intro i hd hi
    have hn := ih (i + 1) (by omega) (by omega)
    have ew : wrap64 ((i : Int) + 1) = ((i + 1 : Nat) : Int) := by rw [w64 (by omega) (by omega)]; omega
    have hmem : rd_L1 z (i : Int) ∈ z := by
      unfold rd_L1
      rw [Int.toNat_natCast, List.getD_eq_getElem?_getD, List.getElem?_eq_getElem (show i < z.length by omega)]
      exact List.getElem_mem _
    obtain ⟨hy, hyl⟩ := hzy _ hmem
    obtain ⟨y, hye⟩ : ∃ y, rd_L1 z (i : Int) = y := ⟨_, rfl⟩
    rw [hye] at hy hyl
    have h2 := refentity_eq y hy hyl
    have h1 : decode_Entity.f y = some (entF y) := rfl
    have h3 := ones_l2 (a0 := a0) (x := x) y hy hyl a b z (z.length : Int) (i : Int) [a0, 7, 5] (by simp) (by rw [ew]; exact hn) _ 0 rfl (by omega)
    generalize entF y = R at h1 h2
    refine Ev.step (f := fun k => ((redpenref15_Entity.f k y).bind fun bt237 => (if R.1 = bt237.1 then (if R.2.1 = bt237.2.1 then (if (R.2.2 != bt237.2.2) = true then (some false) else (redpenlaw15_DecodeOnes.l2 k a0 x y a b z (z.length : Int) (i : Int) [a0, 7, 5] (([a0, 7, 5] : List Int).length : Int) ((0 : Nat) : Int))) else (some false)) else (some false)))) (fun f => ?_) (Ev.bind h2 ?_)
    · simp only [redpenlaw15_DecodeOnes.l1]
      rw [if_pos (by omega), if_pos (by omega), if_pos (by omega), hye, h1]
      rfl
    · simp only [if_true, bne_self_eq_false, Bool.false_eq_true, if_false]
      exact h3
include hB hx
theorem ones_l0 (m : Nat) (hm : m ≤ x.length) (hm2 : m ≤ 60) : ∀ (d i : Nat), m - i = d → i ≤ m → Ev (fun f => redpenlaw15_DecodeOnes.l0 f a0 x (m : Int) (i : Int)) true := by
  intro d
  induction d with
  | zero =>
    intro i hd hi
    refine Ev.step (f := fun _ => some true) (fun f => ?_) (Ev.now _)
    simp only [redpenlaw15_DecodeOnes.l0]
    rw [if_neg (by omega)]
  | succ d ih =>
    intro i hd hi
    have hn := ih (i + 1) (by omega) (by omega)
    rw [show (((i + 1 : Nat) : Nat) : Int) = wrap64 ((i : Int) + 1) by rw [w64 (by omega) (by omega)]; omega] at hn
    have hBd : BT (x.drop i) := fun y hy => hB y (List.mem_of_mem_drop hy)
    have hl : (x.drop i).length ≤ x.length := by rw [List.length_drop]; omega
    have hc : ∀ c : Int, 0 ≤ c → c < 256 → BT ([c] ++ x.drop i) := by
      intro c h0 h1 y hy
      rcases List.mem_append.1 hy with hy | hy
      · rw [List.mem_singleton.1 hy]; exact ⟨h0, h1⟩
      · exact hBd y hy
    have h1 := ones_l1 (a0 := a0) (x := x) (m : Int) (i : Int) [x.drop i, [38] ++ x.drop i, [92] ++ x.drop i] (by simp) (fun y hy => by
      simp only [List.mem_cons, List.not_mem_nil, or_false] at hy
      rcases hy with rfl | rfl | rfl
      · exact ⟨hBd, by omega⟩
      · exact ⟨hc 38 (by decide) (by decide), by rw [List.length_append, List.length_singleton]; omega⟩
      · exact ⟨hc 92 (by decide) (by decide), by rw [List.length_append, List.length_singleton]; omega⟩) hn _ 0 rfl (by omega)
    refine Ev.step (fun f => ?_) h1
    simp only [redpenlaw15_DecodeOnes.l0, Option.bind_some, Int.toNat_natCast]
    rw [if_pos (by omega), if_pos (by omega), if_pos (by omega), if_pos (by rw [List.length_singleton]; omega), if_pos (by rw [List.length_singleton]; omega)]
    rfl
end
theorem DecodeOnes (a0 : Int) (l1 : List Int) (l2 : List Int) (h0 : (Lit.int .u8 a0).wf = true) (h1 : l1.length * 1 ≤ 140737488351232) (h2 : ∀ x ∈ l1, (fun n => (Lit.int .u8 n).wf = true) x) (h3 : l2.length * 1 ≤ 140737488351232) (h4 : ∀ x ∈ l2, (fun n => (Lit.int .u8 n).wf = true) x) : ∃ k, redpenlaw15_DecodeOnes.f k a0 l1 l2 = some true := by
  have b1 := BT_of_wf h2
  have b2 := BT_of_wf h4
  refine Ev.rounds ?_
  unfold redpenlaw15_DecodeOnes.f
  refine Ev.bind dec_awake ?_
  by_cases hl : (l1.length : Int) > 200
  · simp only [if_pos hl, if_true]
    exact Ev.now _
  simp only [if_neg hl, if_true]
  obtain ⟨ps, hps⟩ : ∃ ps, redpenlaw15_pieces.f = some ps := ⟨_, rfl⟩
  obtain ⟨x, hB, hbl, hb⟩ := bits_eq ps (pieces_small ps hps) l1 l2 b1 b2 (by omega) (by omega)
  simp only [hps, Option.bind_some]
  refine Ev.bind hb ?_
  have hmn : mn (x.length : Int) 60 = ((min x.length 60 : Nat) : Int) := by unfold mn; split <;> omega
  simp only [hmn]
  exact ones_l0 hB (by omega) (min x.length 60) (by omega) (by omega) _ 0 rfl (by omega)
end Go.Proofs.YtekalnhackjldaaDoor.Pure
