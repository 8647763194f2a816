/- TokenRuns: the runs of signs, and the parts of any run, are the document's. For any bytes, any run. No condition beyond the statement's own. -/
import Derived.Test.YtmnohlmdckcdeaaBTokRTokenRuns
import Derived.Test.YtmnohlmdckcdeaaBTokLTokenRuns
namespace Go.Proofs.Ytmnohlmdckcdeaa.Pure
open Go.RowKit Go.Proofs.Ytmnohlmdckcdeaa.PTokenRuns Go.Proofs.YtmnohlmdckcdeaaW.PrintWords Go.Proofs.YtmnohlmdckcdeaaW.PrintLast
open Go.Proofs.Ytmnohlmdckcdeaa.M Go.Proofs.Ytmnohlmdckcdeaa.X
set_option linter.unusedVariables false
set_option linter.unusedSimpArgs false

theorem tok_awake : Ev (fun f => redpenlaw16_Awake.f f) true := Ev.of redpenlaw16_Awake.mono (k := 60) (by decide +kernel)
theorem pieces_small : ∀ ps, redpenlaw16_pieces.f = some ps → ∀ p ∈ ps, p.size ≤ 100 := by
  intro ps h
  injection h with h
  subst h
  decide +kernel
theorem splits {u : List S53} (hu : RB u) (hn : u.length < 1000000000) (x y : Int) : ∃ t : List S33, Ev (fun f => token_Split.f f u x y) t ∧ Ev (fun f => redpenref15_Split.f f u x y) t ∧ Ev (fun f => redpenlaw16_same.f f t t) true := by
  obtain ⟨ps, h1, h2, h3, h4⟩ := toksplit_eq u hn x y
  exact ⟨ps.map mkP, h4, refsplit_eq hu hn x y h1 h2, same_eq _ (by rw [List.length_map]; omega)⟩
theorem law_from {u : List S53} (hu : RB u) (hn : u.length < 1000000000) (rs : List S33) (hl : rs.length < 1000000000) : ∀ (d i : Nat), rs.length - i = d → i ≤ rs.length → Ev (fun f => redpenlaw16_TokenRuns.l0 f u rs (rs.length : Int) (i : Int)) true := by
  intro d
  induction d with
  | zero =>
    intro i hd hi
    refine Ev.step (f := fun _ => some true) (fun f => ?_) (Ev.now _)
    simp only [redpenlaw16_TokenRuns.l0]
    rw [if_neg (by omega)]
  | succ d ih =>
    intro i hd hi
    obtain ⟨t, h1, h2, h3⟩ := splits hu hn (rd_T33 rs (i : Int)).f0 (rd_T33 rs (i : Int)).f1
    refine Ev.step (f := fun f => (token_Split.f f u (rd_T33 rs (i : Int)).f0 (rd_T33 rs (i : Int)).f1).bind fun t => (redpenref15_Split.f f u (rd_T33 rs (i : Int)).f0 (rd_T33 rs (i : Int)).f1).bind fun t' => (redpenlaw16_same.f f t t').bind fun b => if b = true then redpenlaw16_TokenRuns.l0 f u rs (rs.length : Int) ((i + 1 : Nat) : Int) else some false) (fun f => ?_) (Ev.bind h1 (Ev.bind h2 (Ev.bind h3 ?_)))
    · simp only [redpenlaw16_TokenRuns.l0]
      rw [if_pos (by omega), if_pos (by omega), if_pos (by omega), show wrap64 ((i : Int) + 1) = ((i + 1 : Nat) : Int) by rw [w64 (by omega) (by omega)]; omega]
    · simpa using ih (i + 1) (by omega) (by omega)
theorem TokenRuns (l0 l1 : List Int) (a2 : S33) (h0 : l0.length * 1 ≤ 140737488351232) (hB0 : ∀ x ∈ l0, (Lit.int .u8 x).wf = true) (h1 : l1.length * 1 ≤ 140737488351232) (hB1 : ∀ x ∈ l1, (Lit.int .u8 x).wf = true) (_ : (Lit.int .i64 a2.f0).wf = true ∧ (Lit.int .i64 a2.f1).wf = true) : ∃ k, redpenlaw16_TokenRuns.f k l0 l1 a2.f0 a2.f1 = some true := by
  have b0 := BT_of_wf hB0
  have b1 := BT_of_wf hB1
  refine Ev.rounds ?_
  unfold redpenlaw16_TokenRuns.f
  refine Ev.bind tok_awake ?_
  by_cases hl : (l0.length : Int) > 500
  · simp only [if_pos hl, if_true]
    exact Ev.now _
  · simp only [if_neg hl, if_true]
    obtain ⟨ps, hps⟩ : ∃ ps, redpenlaw16_pieces.f = some ps := ⟨_, rfl⟩
    simp only [hps, Option.bind_some]
    obtain ⟨b, hB, hbl, hb⟩ := bits_eq ps (pieces_small ps hps) l0 l1 b0 b1 (by omega) (by omega)
    refine Ev.bind hb (Ev.bind (units_ev hB (by omega)) ?_)
    have hu : RB (mkU 0 (us b)) := by unfold RB; rw [runesOf_us]; exact rs_bound hB
    have hul := units_len b
    have hn : (mkU 0 (us b)).length < 1000000000 := by omega
    obtain ⟨rs, r1, r2, r3⟩ := tokruns_eq (mkU 0 (us b)) hn
    have hrl : (rs.map mkP).length < 1000000000 := by rw [List.length_map]; omega
    refine Ev.bind r3 (Ev.bind (refruns_eq hu hn r1) (Ev.bind (same_eq _ hrl) ?_))
    simp only [if_true]
    obtain ⟨t, t1, t2, t3⟩ := splits hu hn a2.f0 a2.f1
    refine Ev.bind t1 (Ev.bind t2 (Ev.bind t3 ?_))
    refine Ev.step (f := fun f => redpenlaw16_TokenRuns.l0 f (mkU 0 (us b)) (rs.map mkP) ((rs.map mkP).length : Int) ((0 : Nat) : Int)) (fun f => ?_) (law_from hu hn _ hrl _ 0 rfl (by omega))
    simp only [redpenlaw16_TokenRuns.j0]
    rfl
end Go.Proofs.Ytmnohlmdckcdeaa.Pure
