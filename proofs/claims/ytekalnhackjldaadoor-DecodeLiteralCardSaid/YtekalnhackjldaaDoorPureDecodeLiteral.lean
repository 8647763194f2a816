/- DecodeLiteral: whether any signs stand in any bytes as they are, and what signs say, is the document's; the signs of bytes stand as they are just if they make the bytes. No condition beyond the statement's own. -/
import Derived.Test.YtekalnhackjldaaDoorBDlDecodeLiteral
namespace Go.Proofs.YtekalnhackjldaaDoor.Pure
open Go.RowKit Go.Proofs.YtekalnhackjldaaDoor.PDecodeLiteral Go.Proofs.YtekalnhackjldaaDoorW.PrintWords Go.Proofs.YtekalnhackjldaaDoorW.PrintLast
open Go.Proofs.YtekalnhackjldaaDoor.M Go.Proofs.YtekalnhackjldaaDoor.X
set_option linter.unusedVariables false
set_option linter.unusedSimpArgs false

theorem dec_awake : Ev (fun f => redpenlaw15_Awake.f f) true := Ev.of redpenlaw15_Awake.mono (k := 60) (by decide +kernel)
theorem law_end (b : List Int) (hB : BT b) (hb : b.length ≤ 300) (l : List S45) (hl : l.length ≤ 100) : Ev (fun f => redpenlaw15_DecodeLiteral.l0 f b l l (l.length : Int) (l.length : Int)) true := by
  refine Ev.step (f := fun k => (utf_Units.f k b).bind fun t268 => ((decode_Literal.f k b l).bind fun t271 => ((redpenref15_Literal.f k b l).bind fun t272 => (if (t271 == t272) = true then ((decode_Text.f k l).bind fun t273 => ((redpenref15_Text.f k l).bind fun t274 => (if t273.toList = t274.toList then ((decode_Literal.f k b t268).bind fun t275 => ((utf_Runes.f k (strOfNums b)).bind fun t276 => ((utf_Text.f k t276).bind fun t279 => (some (t275 == (t279.toList == (strOfNums b).toList)))))) else (some false)))) else (some false))))) (fun f => ?_) ?_
  · simp only [redpenlaw15_DecodeLiteral.l0]
    rw [if_neg (by omega)]
  · refine Ev.bind (units_ev hB (by omega)) (Ev.bind (dlit_eq b l (by omega)) (Ev.bind (rlit_eq b l (by omega)) ?_))
    simp only [beq_self_eq_true, if_true]
    refine Ev.bind (dtext_eq l (by omega)) (Ev.bind (rtext_eq l (by omega)) ?_)
    simp only [if_true]
    have hul := units_len b
    refine Ev.bind (dlit_eq b (mkU 0 (us b)) (by omega)) (Ev.bind (a := rs b) ⟨b.length + 8, fun k hk => runes_of hB (by omega) hk⟩ (Ev.bind (a := strOfNums (encL (rs b))) ⟨(rs b).length + 2, fun k hk => text_eq (by rw [rs_len]; have := us_len b; omega) hk⟩ ?_))
    rw [lit_us b hB (by omega), beq_self_eq_true]
    exact Ev.now _
theorem law_from (b : List Int) (hB : BT b) (hb : b.length ≤ 300) (l : List S45) (hl : l.length ≤ 100) : ∀ (d i : Nat), l.length - i = d → i ≤ l.length → Ev (fun f => redpenlaw15_DecodeLiteral.l0 f b l l (l.length : Int) (i : Int)) true := by
  intro d
  induction d with
  | zero =>
    intro i hd hi
    rw [show i = l.length by omega]
    exact law_end b hB hb l hl
  | succ d ih =>
    intro i hd hi
    have hn := ih (i + 1) (by omega) (by omega)
    refine Ev.step (f := fun f => if ((rd_T45 l (i : Int)).f1.f0) < (-1000) then (some true) else (if ((rd_T45 l (i : Int)).f1.f0) > 1000 then (some true) else (if ((rd_T45 l (i : Int)).f1.f1) < (-1000) then (some true) else (if ((rd_T45 l (i : Int)).f1.f1) > 1000 then (some true) else redpenlaw15_DecodeLiteral.l0 f b l l (l.length : Int) ((i + 1 : Nat) : Int))))) (fun f => ?_) ?_
    · simp only [redpenlaw15_DecodeLiteral.l0]
      rw [if_pos (by omega), if_pos (by omega), if_pos (by omega), show wrap64 ((i : Int) + 1) = ((i + 1 : Nat) : Int) by rw [w64 (by omega) (by omega)]; omega]
    · by_cases h1 : ((rd_T45 l (i : Int)).f1.f0) < (-1000)
      · simp only [if_pos h1]; exact Ev.now _
      · by_cases h2 : ((rd_T45 l (i : Int)).f1.f0) > 1000
        · simp only [if_neg h1, if_pos h2]; exact Ev.now _
        · by_cases h3 : ((rd_T45 l (i : Int)).f1.f1) < (-1000)
          · simp only [if_neg h1, if_neg h2, if_pos h3]; exact Ev.now _
          · by_cases h4 : ((rd_T45 l (i : Int)).f1.f1) > 1000
            · simp only [if_neg h1, if_neg h2, if_neg h3, if_pos h4]; exact Ev.now _
            · simp only [if_neg h1, if_neg h2, if_neg h3, if_neg h4]; exact hn
theorem DecodeLiteral (l0 : List Int) (l1 : List S45) (h0 : l0.length * 1 ≤ 140737488351232) (h1 : ∀ x ∈ l0, (fun n => (Lit.int .u8 n).wf = true) x) (h2 : l1.length * 24 ≤ 140737488351232) (h3 : ∀ x ∈ l1, (fun x => (fun n => (Lit.int .i32 n).wf = true) x.f0 ∧ (fun x => (fun n => (Lit.int .i64 n).wf = true) x.f0 ∧ (fun n => (Lit.int .i64 n).wf = true) x.f1) x.f1) x) : ∃ k, redpenlaw15_DecodeLiteral.f k l0 l1 = some true := by
  have b0 := BT_of_wf h1
  refine Ev.rounds ?_
  unfold redpenlaw15_DecodeLiteral.f
  refine Ev.bind dec_awake ?_
  by_cases hl : (l0.length : Int) > 300
  · simp only [if_pos hl, if_true]
    refine Ev.step (f := fun _ => some true) (fun f => ?_) (Ev.now _)
    simp only [redpenlaw15_DecodeLiteral.j0, if_true]
  · simp only [if_neg hl, if_true]
    by_cases hm : (l1.length : Int) > 100
    · refine Ev.step (f := fun _ => some true) (fun f => ?_) (Ev.now _)
      simp only [redpenlaw15_DecodeLiteral.j0, decide_eq_true hm, if_true]
    · refine Ev.step (f := fun f => redpenlaw15_DecodeLiteral.l0 f l0 l1 l1 (l1.length : Int) ((0 : Nat) : Int)) (fun f => ?_) (law_from l0 b0 (by omega) l1 (by omega) _ 0 rfl (by omega))
      simp only [redpenlaw15_DecodeLiteral.j0, decide_eq_false hm]
      rfl
end Go.Proofs.YtekalnhackjldaaDoor.Pure
