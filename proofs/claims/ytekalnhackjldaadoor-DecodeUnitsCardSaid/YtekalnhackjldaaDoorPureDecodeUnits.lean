/- DecodeUnits: the signs of any part of any bytes, of any format and label, what they say and whether they stand as they are, are the document's. No condition beyond the statement's own. -/
import Derived.Test.YtekalnhackjldaaDoorBAll
namespace Go.Proofs.YtekalnhackjldaaDoor.Pure
open Go.RowKit Go.Proofs.YtekalnhackjldaaDoor.PDecodeUnits Go.Proofs.YtekalnhackjldaaDoorW.PrintWords Go.Proofs.YtekalnhackjldaaDoorW.PrintLast
open Go.Proofs.YtekalnhackjldaaDoor.M Go.Proofs.YtekalnhackjldaaDoor.X Go.Proofs.YtekalnhackjldaaDoor.H
set_option linter.unusedVariables false
set_option linter.unusedSimpArgs false

theorem dec_awake : Ev (fun f => redpenlaw15_Awake.f f) true := Ev.of redpenlaw15_Awake.mono (k := 60) (by decide +kernel)
theorem pieces_small : ∀ ps, redpenlaw15_pieces.f = some ps → ∀ p ∈ ps, p.size ≤ 100 := by
  intro ps h
  injection h with h
  subst h
  decide +kernel
theorem uM_len (f lab : Int) : ∀ (n : Nat) (b : List Int), (uM f lab n b).length ≤ n
  | 0, b => by simp [uM]
  | n + 1, b => by
    unfold uM
    split
    · simp
    · have := uM_len f lab n (b.drop (oneM f lab b).2.toNat)
      simp
      omega
section
variable {a1 at0 n0 : Int} {x : List Int} (hB : BT x) (hx : x.length < 100000)
include hB hx
theorem law_l1 (f0 : Int) (z y : List Int) (zi : Int) (cont : Ev (fun f => redpenlaw15_DecodeUnits.l0 f a1 x z (z.length : Int) (wrap64 (zi + 1)) at0 n0) true) (hy : y.length < 1000) : ∀ (d i : Nat), y.length - i = d → i ≤ y.length →
    Ev (fun f => redpenlaw15_DecodeUnits.l1 f a1 x f0 z (z.length : Int) zi y (y.length : Int) (i : Int) at0 n0) true := by
  intro d
  induction d with
  | zero =>
    intro i hd hi
    refine Ev.step (fun f => ?_) cont
    simp only [redpenlaw15_DecodeUnits.l1]
    rw [if_neg (by omega)]
  | succ d ih =>
    intro i hd hi
    have hn := ih (i + 1) (by omega) (by omega)
    obtain ⟨lab, hlab⟩ : ∃ lab, rd y (i : Int) = lab := ⟨_, rfl⟩
    have ew : wrap64 ((i : Int) + 1) = ((i + 1 : Nat) : Int) := by rw [w64 (by omega) (by omega)]; omega
    have tail : ∀ U : List S45, U.length < 1000000 → Ev (fun k => (redpenref01_SameUnits.f k U U).bind fun t352 => (if t352 = true then ((decode_Text.f k U).bind fun t353 => ((redpenref15_Text.f k U).bind fun t354 => (if t353.toList = t354.toList then ((decode_Literal.f k x U).bind fun t355 => ((redpenref15_Literal.f k x U).bind fun t356 => (if (t355 != t356) = true then (some false) else (redpenlaw15_DecodeUnits.l1 k a1 x f0 z (z.length : Int) zi y (y.length : Int) ((i + 1 : Nat) : Int) at0 n0)))) else (some false)))) else (some false))) true := by
      intro U hU
      refine Ev.bind (a := true) ⟨U.length + 1, fun k hk => sameunits_eq _ (by omega) (by omega)⟩ ?_
      simp only [if_true]
      refine Ev.bind (dtext_eq U (by omega)) (Ev.bind (rtext_eq U (by omega)) ?_)
      simp only [if_true]
      refine Ev.bind (dlit_eq x U (by omega)) (Ev.bind (rlit_eq x U (by omega)) ?_)
      simp only [bne_self_eq_false, Bool.false_eq_true, if_false]
      exact hn
    by_cases hin : isIn at0 n0 x.length = true
    · unfold isIn at hin
      simp only [Bool.and_eq_true, decide_eq_true_eq] at hin
      obtain ⟨p, rfl⟩ : ∃ p : Nat, at0 = p := ⟨at0.toNat, by omega⟩
      obtain ⟨n, rfl⟩ : ∃ n : Nat, n0 = n := ⟨n0.toNat, by omega⟩
      have h1 := units_ok f0 lab x hB (by omega) p n (by omega)
      have h2 := refunits_ok f0 lab x hB (by omega) p n (by omega)
      have hU : (mkU (p : Int) (uM f0 lab n ((x.take (p + n)).drop p))).length < 1000000 := by
        rw [mkU_len]
        have := uM_len f0 lab n ((x.take (p + n)).drop p)
        omega
      generalize mkU (p : Int) (uM f0 lab n ((x.take (p + n)).drop p)) = U at h1 h2 hU
      refine Ev.step (f := fun k => (decode_Units.f k f0 x lab (p : Int) (n : Int)).bind fun bt344 => ((redpenref15_Units.f k f0 x lab (p : Int) (n : Int)).bind fun bt348 => (if ((bt344.2 == 0) != bt348.2) = true then (some false) else (if bt348.2 = true then ((redpenref01_SameUnits.f k bt344.1 bt348.1).bind fun t352 => (if t352 = true then ((decode_Text.f k bt344.1).bind fun t353 => ((redpenref15_Text.f k bt348.1).bind fun t354 => (if t353.toList = t354.toList then ((decode_Literal.f k x bt344.1).bind fun t355 => ((redpenref15_Literal.f k x bt344.1).bind fun t356 => (if (t355 != t356) = true then (some false) else (redpenlaw15_DecodeUnits.l1 k a1 x f0 z (z.length : Int) zi y (y.length : Int) ((i + 1 : Nat) : Int) (p : Int) (n : Int))))) else (some false)))) else (some false))) else (if bt344.2 = 2 then ((redpenref01_SameUnits.f k bt344.1 bt348.1).bind fun t357 => (if t357 = true then ((decode_Text.f k bt344.1).bind fun t358 => ((redpenref15_Text.f k bt348.1).bind fun t359 => (if t358.toList = t359.toList then ((decode_Literal.f k x bt344.1).bind fun t360 => ((redpenref15_Literal.f k x bt344.1).bind fun t361 => (if (t360 != t361) = true then (some false) else (redpenlaw15_DecodeUnits.l1 k a1 x f0 z (z.length : Int) zi y (y.length : Int) ((i + 1 : Nat) : Int) (p : Int) (n : Int))))) else (some false)))) else (some false))) else (some false)))))) (fun f => ?_) (Ev.bind h1 (Ev.bind h2 ?_))
      · simp only [redpenlaw15_DecodeUnits.l1]
        rw [if_pos (by omega), if_pos (by omega), if_pos (by omega), hlab, ew]
      · have e : (((0 : Int) == 0) != true) = false := rfl
        simp only [e, Bool.false_eq_true, if_false, if_true]
        exact tail U hU
    · rw [Bool.not_eq_true] at hin
      have h1 := units_out f0 lab at0 n0 x (by omega) hin
      have h2 := refunits_out f0 lab at0 n0 x (by omega) hin
      refine Ev.step (f := fun k => (decode_Units.f k f0 x lab at0 n0).bind fun bt344 => ((redpenref15_Units.f k f0 x lab at0 n0).bind fun bt348 => (if ((bt344.2 == 0) != bt348.2) = true then (some false) else (if bt348.2 = true then ((redpenref01_SameUnits.f k bt344.1 bt348.1).bind fun t352 => (if t352 = true then ((decode_Text.f k bt344.1).bind fun t353 => ((redpenref15_Text.f k bt348.1).bind fun t354 => (if t353.toList = t354.toList then ((decode_Literal.f k x bt344.1).bind fun t355 => ((redpenref15_Literal.f k x bt344.1).bind fun t356 => (if (t355 != t356) = true then (some false) else (redpenlaw15_DecodeUnits.l1 k a1 x f0 z (z.length : Int) zi y (y.length : Int) ((i + 1 : Nat) : Int) at0 n0)))) else (some false)))) else (some false))) else (if bt344.2 = 2 then ((redpenref01_SameUnits.f k bt344.1 bt348.1).bind fun t357 => (if t357 = true then ((decode_Text.f k bt344.1).bind fun t358 => ((redpenref15_Text.f k bt348.1).bind fun t359 => (if t358.toList = t359.toList then ((decode_Literal.f k x bt344.1).bind fun t360 => ((redpenref15_Literal.f k x bt344.1).bind fun t361 => (if (t360 != t361) = true then (some false) else (redpenlaw15_DecodeUnits.l1 k a1 x f0 z (z.length : Int) zi y (y.length : Int) ((i + 1 : Nat) : Int) at0 n0)))) else (some false)))) else (some false))) else (some false)))))) (fun f => ?_) (Ev.bind h1 (Ev.bind h2 ?_))
      · simp only [redpenlaw15_DecodeUnits.l1]
        rw [if_pos (by omega), if_pos (by omega), if_pos (by omega), hlab, ew]
      · have e : (((2 : Int) == 0) != false) = false := rfl
        simp only [e, Bool.false_eq_true, if_false, if_true]
        exact tail [] (by decide)
theorem law_l0 (z : List Int) (hz : z.length < 1000) : ∀ (d i : Nat), z.length - i = d → i ≤ z.length → Ev (fun f => redpenlaw15_DecodeUnits.l0 f a1 x z (z.length : Int) (i : Int) at0 n0) true := by
  intro d
  induction d with
  | zero =>
    intro i hd hi
    refine Ev.step (f := fun _ => some true) (fun f => ?_) (Ev.now _)
    simp only [redpenlaw15_DecodeUnits.l0]
    rw [if_neg (by omega)]
  | succ d ih =>
    intro i hd hi
    have hn := ih (i + 1) (by omega) (by omega)
    rw [show (((i + 1 : Nat) : Nat) : Int) = wrap64 ((i : Int) + 1) by rw [w64 (by omega) (by omega)]; omega] at hn
    have h1 := law_l1 (at0 := at0) (n0 := n0) (a1 := a1) hB hx (rd z (i : Int)) z [a1, (1 + (Int.tmod a1 7)) % 256, 1, 5] (i : Int) hn (by simp) _ 0 rfl (by omega)
    refine Ev.step (fun f => ?_) h1
    simp only [redpenlaw15_DecodeUnits.l0]
    rw [if_pos (by omega), if_pos (by omega), if_pos (by omega)]
    rfl
theorem law_j0 (a0 : Int) : Ev (fun f => redpenlaw15_DecodeUnits.j0 f a0 a1 x at0 n0) true := by
  refine Ev.step (fun f => ?_) (law_l0 (at0 := at0) (n0 := n0) (a1 := a1) hB hx [a0, Int.tmod a0 9] (by simp) _ 0 rfl (by omega))
  simp only [redpenlaw15_DecodeUnits.j0]
  rfl
end
theorem DecodeUnits (a0 a1 : Int) (l2 l3 : List Int) (a4 : S40) (a5 : Bool) (h0 : (Lit.int .u8 a0).wf = true) (h1 : (Lit.int .u8 a1).wf = true) (h2 : l2.length * 1 ≤ 140737488351232) (h3 : ∀ x ∈ l2, (fun n => (Lit.int .u8 n).wf = true) x) (h4 : l3.length * 1 ≤ 140737488351232) (h5 : ∀ x ∈ l3, (fun n => (Lit.int .u8 n).wf = true) x) (h6 : (fun x => (fun n => (Lit.int .i64 n).wf = true) x.f0 ∧ (fun n => (Lit.int .i64 n).wf = true) x.f1) a4) : ∃ k, redpenlaw15_DecodeUnits.f k a0 a1 l2 l3 a4.f0 a4.f1 a5 = some true := by
  have b2 := BT_of_wf h3
  have b3 := BT_of_wf h5
  refine Ev.rounds ?_
  unfold redpenlaw15_DecodeUnits.f
  refine Ev.bind dec_awake ?_
  by_cases hl : (l2.length : Int) > 500
  · simp only [if_pos hl, if_true]
    exact Ev.now _
  · simp only [if_neg hl, if_true]
    obtain ⟨ps, hps⟩ : ∃ ps, redpenlaw15_pieces.f = some ps := ⟨_, rfl⟩
    simp only [hps, Option.bind_some]
    obtain ⟨x, hB, hbl, hb⟩ := bits_eq ps (pieces_small ps hps) l2 l3 b2 b3 (by omega) (by omega)
    refine Ev.bind hb ?_
    cases a5
    · have e1 : IntKind.u64.wrap (wrap64 ((x.length : Int) + 1)) = (x.length : Int) + 1 := by rw [w64 (by omega) (by omega), IntKind.wrap_u64]; omega
      simp only [e1]
      obtain ⟨q, hq⟩ : ∃ q, wrap64 (Int.tmod (IntKind.u64.wrap a4.f0) ((x.length : Int) + 1)) = q := ⟨_, rfl⟩
      have hq01 : 0 ≤ q ∧ q ≤ (x.length : Int) := by
        have hu : 0 ≤ IntKind.u64.wrap a4.f0 := by rw [IntKind.wrap_u64]; omega
        have hm : Int.tmod (IntKind.u64.wrap a4.f0) ((x.length : Int) + 1) = IntKind.u64.wrap a4.f0 % ((x.length : Int) + 1) := Int.tmod_eq_emod_of_nonneg hu
        have m0 := Int.emod_nonneg (IntKind.u64.wrap a4.f0) (show ((x.length : Int) + 1) ≠ 0 by omega)
        have m1 := Int.emod_lt_of_pos (IntKind.u64.wrap a4.f0) (show 0 < (x.length : Int) + 1 by omega)
        rw [hm] at hq
        rw [w64 (by omega) (by omega)] at hq
        omega
      rw [hq]
      have e2 : IntKind.u64.wrap (wrap64 (wrap64 ((x.length : Int) - q) + 1)) = (x.length : Int) - q + 1 := by
        rw [w64 (x := (x.length : Int) - q) (by omega) (by omega), w64 (by omega) (by omega), IntKind.wrap_u64]
        omega
      simp only [e2, Bool.false_eq_true, if_false]
      refine Ev.congr (fun f => ?_) (law_j0 (a1 := a1) (at0 := q) (n0 := wrap64 (Int.tmod (IntKind.u64.wrap a4.f1) ((x.length : Int) - q + 1))) hB (by omega) a0)
      rw [if_neg (by omega), if_neg (by omega)]
    · simp only [if_true]
      exact law_j0 hB (by omega) a0
end Go.Proofs.YtekalnhackjldaaDoor.Pure
