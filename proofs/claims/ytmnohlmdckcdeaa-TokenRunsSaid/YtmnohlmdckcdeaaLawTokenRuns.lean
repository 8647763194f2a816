/- The row of the law redpen/redpenlaw16.TokenRuns: its walk, and the plain statement. -/
import Derived.Test.YtmnohlmdckcdeaaRows
import Derived.Test.YtmnohlmdckcdeaaPTokenRunsx
import Derived.Test.YtmnohlmdckcdeaaPureTokenRuns
import Derived.Test.YtmnohlmdckcdeaaXTrod
import Derived.WalkKit
import Derived.ProofKit
import Derived.OpenShut
import Derived.ShutString
import Derived.ChangeOld
import Derived.Below
import Derived.SizedLaws
import Derived.Test.YtmnohlmdckcdeaaWSized
namespace Go.Proofs.Ytmnohlmdckcdeaa.tokenRuns
open Go.ChangeShapes Go.WideShapes Go.ChangeAt Go.RowKit
open Go.ChangeMaps (open_string shut_string)
open Go.Proofs.Ytmnohlmdckcdeaa.X Go.Proofs.YtmnohlmdckcdeaaW.PrintWords Go.Proofs.YtmnohlmdckcdeaaW.PrintLast Go.Proofs.Ytmnohlmdckcdeaa.PTokenRuns
set_option linter.unusedVariables false
theorem own : ownKnob Try.prog.godebug = none := by kernel_rfl
theorem laidOut : laidOutB Try.prog = true := by kernel_rfl
set_option maxRecDepth 100000 in
set_option maxHeartbeats 4000000 in
theorem lifted (os : Os) (started : os.Started) (H : Type) (enc : TypeId × Value → H) :
    ReturnsInHanded {} Try.checked os 6 .any (Rows.tokenRunsSpec.pre6 enc Try.prog Try.f6 Rows.tokenRunsRow.domain false) (Rows.tokenRunsSpec.post enc Try.prog Try.f6 false true false false) := by
  refine returnsInHanded_of_change_sized (C := Try.checked) own started (by kernel_rfl) Try.func6
    (ChangeSpec.witness6 (enc := enc) (C := Try.checked) false ⟨#[], #[.slice none 0 0, .slice none 0 0, .agg #[.int .i64 0, .int .i64 0]], []⟩ 8 (by kernel_rfl) (by kernel_rfl) (by kernel_rfl) (by kernel_rfl)) ?_
  intro W base args ds gs before hval0 hW hcnd hsz0 _
  have hsz : (DataW.weightsEach Try.prog (Try.f6.params.toList ++ Rows.tokenRunsSpec.plain.varTypes Try.prog) (ds ++ gs)).all (· ≤ reachBytes) = true := hsz0
  have hval : ∀ (j : Nat) t v, Try.f6.params[j]? = some t → args[j]? = some v → Value.okWide Try.prog W .any base t v := hval0
  have hW' := hW
  obtain ⟨p, q, hA0, hV, rfl, hfz, hnd⟩ := hW
  have hA : DataW.TrodAll enc Try.prog W 0 (fun _ => true) true Try.f6.params.toList args.toList ds p := hA0
  rw [Try.params6] at hA hval hsz
  obtain ⟨v0, vs0, d0, ds0, p0, q0, hargs, rfl, rfl, h0, r0⟩ := trodAll_cons hA
  obtain ⟨v1, vs1, d1, ds1, p1, q1, rfl, rfl, rfl, h1, r1⟩ := trodAll_cons r0
  obtain ⟨v2, vs2, d2, ds2, p2, q2, rfl, rfl, rfl, h2, r2⟩ := trodAll_cons r1
  obtain ⟨rfl, rfl, rfl⟩ := trodAll_nil r2
  obtain rfl : args = #[v0, v1, v2] := by cases args; simp_all
  obtain ⟨rfl, rfl⟩ := trodVars_none hV
  have k0_ := h0
  have lt0 : ∀ x ∈ p0, x.block < W.heap.size := by obtain ⟨m, hm⟩ := k0_; exact DataW.trod_lt m _ _ _ hm
  obtain ⟨a0, len0, cap0, rfl⟩ := okWide_slice Try.underlying32 (hval 0 32 v0 rfl rfl)
  have y0 := sized_any hsz (j := 0) (t := 32) rfl rfl Try.underlying32 (B := 1) (by kernel_rfl) h0
  obtain ⟨l0, ⟨A0, c0, e0, hc0, hr0⟩, w0⟩ := TK.arg (TK.slice Try.underlying32 (by kernel_rfl) (TK.int Try.underlying5 (by kernel_rfl))) h0
  simp [Value.cells] at e0
  obtain ⟨rfl, rfl, rfl⟩ := e0
  have k1_ := h1
  have lt1 : ∀ x ∈ p1, x.block < W.heap.size := by obtain ⟨m, hm⟩ := k1_; exact DataW.trod_lt m _ _ _ hm
  obtain ⟨a1, len1, cap1, rfl⟩ := okWide_slice Try.underlying32 (hval 1 32 v1 rfl rfl)
  have y1 := sized_any hsz (j := 1) (t := 32) rfl rfl Try.underlying32 (B := 1) (by kernel_rfl) h1
  obtain ⟨l1, ⟨A1, c1, e1, hc1, hr1⟩, w1⟩ := TK.arg (TK.slice Try.underlying32 (by kernel_rfl) (TK.int Try.underlying5 (by kernel_rfl))) h1
  simp [Value.cells] at e1
  obtain ⟨rfl, rfl, rfl⟩ := e1
  have k2_ := h2
  have lt2 : ∀ x ∈ p2, x.block < W.heap.size := by obtain ⟨m, hm⟩ := k2_; exact DataW.trod_lt m _ _ _ hm
  obtain ⟨cs2, rfl⟩ : ∃ cs, v2 = .agg cs := by have z := (hval 2 33 v2 rfl rfl); simp only [Value.okWide, Try.underlying33] at z; obtain ⟨cs, z, _⟩ := z; exact ⟨cs, z⟩
  obtain ⟨a2, hK2, w2⟩ := TK.arg (show TK Try.prog 33 k33 _ from TK.arr2 Try.underlying33 (by kernel_rfl) (TK.int Try.underlying3 (by kernel_rfl)) (fun x : S33 => (x.f0, x.f1)) (fun p => ⟨p.1, p.2⟩) (fun _ => rfl)) h2
  have hk2 := k33_open hK2
  obtain rfl : cs2 = #[.int .i64 a2.f0, .int .i64 a2.f1] := by apply Array.ext'; simpa [Value.cells] using hk2
  clear hA0 hval0 hsz0 hsz
  obtain ⟨k, hp⟩ := Pure.TokenRuns l0 l1 a2 y0 w0.2 y1 w1.2 w2
  refine (redpenlaw16_TokenRuns.calls k _ _ l0 _ _ l1 a2.f0 a2.f1 true W hr0 hc0 hr1 hc1 hp rfl).mono fun e W' h => ?_
  obtain ⟨he, bel⟩ := h
  subst he
  exact ⟨_, rfl, _, _, _, [], _, [], hW', trodAll_mk1 (shut_bool Try.underlying4 _), (trodAll_cons_mk (Below.trod laidOut (by kernel_rfl) (of_decide_eq_true (by kernel_rfl)) k0_ bel lt0) (trodAll_cons_mk (Below.trod laidOut (by kernel_rfl) (of_decide_eq_true (by kernel_rfl)) k1_ bel lt1) (trodAll_cons_mk (Below.trod laidOut (by kernel_rfl) (of_decide_eq_true (by kernel_rfl)) k2_ bel lt2) trodAll_mk0))), rfl, bel.frame _, fun h => by cases h⟩
theorem over : Rows.tokenRunsRow.holds Try.pinned (OpenSpec.ofChange Rows.tokenRunsSpec) :=
  OpenClaim.holds_of_wide 6 Try.f6 rfl rfl rfl rfl rfl rfl rfl ⟨rfl, rfl, rfl, rfl, rfl⟩ rfl rfl rfl rfl rfl (by kernel_rfl) Try.func6 (by kernel_rfl)
    (of_decide_eq_true (by kernel_rfl)) (by unfold Func.isWrapper; first | (rw [if_pos (by decide +kernel)]; kernel_rfl) | (rw [if_neg (by decide +kernel)]; exact ⟨rfl, rfl⟩))
    (fun os started H enc _ => lifted os started H enc)
theorem proved : Rows.TokenRunsSaid := over
#print axioms proved
end Go.Proofs.Ytmnohlmdckcdeaa.tokenRuns
namespace Go.Proofs.Ytmnohlmdckcdeaa
/-- The row, under a short name, for the claim. -/
theorem tokenRuns_holds : Rows.TokenRunsSaid := tokenRuns.proved
end Go.Proofs.Ytmnohlmdckcdeaa
