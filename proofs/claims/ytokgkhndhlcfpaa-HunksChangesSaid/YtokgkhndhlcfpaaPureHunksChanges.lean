/- HunksChanges: the changes between any lists of lines are the reference's. For any bytes. No condition beyond the statement's own. -/
import Derived.Test.YtokgkhndhlcfpaaBRChgHunksChanges
import Derived.Test.YtokgkhndhlcfpaaBTxHunksChanges
import Derived.Test.YtokgkhndhlcfpaaBRef01HunksChanges
namespace Go.Proofs.Ytokgkhndhlcfpaa.Pure
open Go.RowKit Go.Proofs.Ytokgkhndhlcfpaa.PHunksChanges Go.Proofs.YtokgkhndhlcfpaaW.PrintWords Go.Proofs.YtokgkhndhlcfpaaW.PrintLast
open Go.Proofs.Ytokgkhndhlcfpaa.M Go.Proofs.Ytokgkhndhlcfpaa.X
set_option linter.unusedVariables false
set_option linter.unusedSimpArgs false

theorem hunks_awake : Ev (fun f => redpenlaw19_Awake.f f) true := Ev.of redpenlaw19_Awake.mono (k := 60) (by decide +kernel)
theorem chg_cmp (C : List Ch) (hC : C.length ≤ 10000) : ∀ (d i : Nat), C.length - i = d → i ≤ C.length → Ev (fun f => redpenlaw19_HunksChanges.l0 f (C.map toS) (C.map toR) (C.length : Int) (i : Int)) true := by
  intro d
  induction d with
  | zero =>
    intro i hd hi
    refine Ev.step (f := fun _ => some true) (fun f => ?_) (Ev.now _)
    simp only [redpenlaw19_HunksChanges.l0]
    rw [if_neg (by omega)]
  | succ d ih =>
    intro i hd hi
    have hlt : i < C.length := by omega
    have e1 : ∀ _ : Unit, wrap64 ((i : Int) + 1) = ((i + 1 : Nat) : Int) := fun _ => hw64 _ _ (by omega) (by omega)
    have r1 : rd_T39 (C.map toS) (i : Int) = toS C[i] := by
      unfold rd_T39
      rw [Int.toNat_natCast, List.getD_eq_getElem?_getD, List.getElem?_map, List.getElem?_eq_getElem hlt]
      rfl
    have r2 : rd_T40 (C.map toR) (i : Int) = toR C[i] := by
      unfold rd_T40
      rw [Int.toNat_natCast, List.getD_eq_getElem?_getD, List.getElem?_map, List.getElem?_eq_getElem hlt]
      rfl
    refine Ev.step (fun f => ?_) (ih (i + 1) (by omega) (by omega))
    simp only [redpenlaw19_HunksChanges.l0]
    rw [if_pos (by omega), if_pos (by omega), if_pos (by rw [List.length_map]; omega), if_pos (by rw [List.length_map]; omega), r1, r2, if_neg (by simp [toS, toR]), e1 ()]
theorem HunksChanges : redpenlaw19_HunksChanges.Pure := by
  intro l0 l1 a2 a3 h0 h0' hB0 h1 h1' hB1
  obtain ⟨s, hs, hsB, hsl⟩ := text_ev l0 (tx_wf hB0) (by omega) a2
  obtain ⟨t, ht, htB, htl⟩ := text_ev l1 (tx_wf hB1) (by omega) a3
  have cs := ls_count s
  have ct := ls_count t
  have lp : ((ls s).map strOfNums).length ≤ 1000 := by rw [List.length_map]; omega
  have lq : ((ls t).map strOfNums).length ≤ 1000 := by rw [List.length_map]; omega
  have hP : Ev (fun f => redpenref01_Lines.f f s) ((ls s).map strOfNums) := ⟨s.length + 1, fun k hk => reflines_eq (by omega) (by omega)⟩
  have hQ : Ev (fun f => redpenref01_Lines.f f t) ((ls t).map strOfNums) := ⟨t.length + 1, fun k hk => reflines_eq (by omega) (by omega)⟩
  generalize (ls s).map strOfNums = P at *
  generalize (ls t).map strOfNums = Q at *
  have hC := changes_ev P Q (by omega) (by omega)
  have hR := rchanges_ev P Q (by omega) (by omega)
  have hl := chgs_len P Q
  generalize chgs P Q = C at *
  have main := chg_cmp C (by omega) _ 0 rfl (Nat.zero_le _)
  refine Ev.rounds (Ev.bind hunks_awake ?_)
  simp only [if_true]
  refine Ev.bind hs (Ev.bind hP (Ev.bind ht (Ev.bind hQ (Ev.bind hC (Ev.bind hR ?_)))))
  simp only [List.length_map, if_true]
  exact main
end Go.Proofs.Ytokgkhndhlcfpaa.Pure
