/- The row of the law redpen/redpenlaw16.TokenCases: its walk, and the plain statement. -/
import Derived.Test.YtmnohlmdckcdeaaRows
import Derived.Test.YtmnohlmdckcdeaaPTokenCasesx
import Derived.Test.YtmnohlmdckcdeaaPureTokenCases
import Derived.Test.YtmnohlmdckcdeaaXTrod
import Derived.WalkKit
import Derived.ProofKit
import Derived.OpenShut
import Derived.ShutString
import Derived.ChangeOld
import Derived.Below
import Derived.SizedLaws
import Derived.Test.YtmnohlmdckcdeaaWSized
namespace Go.Proofs.Ytmnohlmdckcdeaa.tokenCases
open Go.ChangeShapes Go.WideShapes Go.ChangeAt Go.RowKit
open Go.ChangeMaps (open_string shut_string)
open Go.Proofs.Ytmnohlmdckcdeaa.X Go.Proofs.YtmnohlmdckcdeaaW.PrintWords Go.Proofs.YtmnohlmdckcdeaaW.PrintLast Go.Proofs.Ytmnohlmdckcdeaa.PTokenCases
set_option linter.unusedVariables false
theorem own : ownKnob Try.prog.godebug = none := by kernel_rfl
theorem laidOut : laidOutB Try.prog = true := by kernel_rfl
set_option maxRecDepth 100000 in
set_option maxHeartbeats 4000000 in
theorem lifted (os : Os) (started : os.Started) (H : Type) (enc : TypeId × Value → H) :
    ReturnsInHanded {} Try.checked os 9 .any (Rows.tokenCasesSpec.pre6 enc Try.prog Try.f9 Rows.tokenCasesRow.domain false) (Rows.tokenCasesSpec.post enc Try.prog Try.f9 false true false false) := by
  refine returnsInHanded_of_change_sized (C := Try.checked) own started (by kernel_rfl) Try.func9
    (ChangeSpec.witness6 (enc := enc) (C := Try.checked) false ⟨#[], #[.slice none 0 0, .int .u8 0], []⟩ 8 (by kernel_rfl) (by kernel_rfl) (by kernel_rfl) (by kernel_rfl)) ?_
  intro W base args ds gs before hval0 hW hcnd hsz0 _
  have hsz : (DataW.weightsEach Try.prog (Try.f9.params.toList ++ Rows.tokenCasesSpec.plain.varTypes Try.prog) (ds ++ gs)).all (· ≤ reachBytes) = true := hsz0
  have hval : ∀ (j : Nat) t v, Try.f9.params[j]? = some t → args[j]? = some v → Value.okWide Try.prog W .any base t v := hval0
  have hW' := hW
  obtain ⟨p, q, hA0, hV, rfl, hfz, hnd⟩ := hW
  have hA : DataW.TrodAll enc Try.prog W 0 (fun _ => true) true Try.f9.params.toList args.toList ds p := hA0
  rw [Try.params9] at hA hval hsz
  obtain ⟨v0, vs0, d0, ds0, p0, q0, hargs, rfl, rfl, h0, r0⟩ := trodAll_cons hA
  obtain ⟨v1, vs1, d1, ds1, p1, q1, rfl, rfl, rfl, h1, r1⟩ := trodAll_cons r0
  obtain ⟨rfl, rfl, rfl⟩ := trodAll_nil r1
  obtain rfl : args = #[v0, v1] := by cases args; simp_all
  obtain ⟨rfl, rfl⟩ := trodVars_none hV
  have k0_ := h0
  have lt0 : ∀ x ∈ p0, x.block < W.heap.size := by obtain ⟨m, hm⟩ := k0_; exact DataW.trod_lt m _ _ _ hm
  obtain ⟨a0, len0, cap0, rfl⟩ := okWide_slice Try.underlying57 (hval 0 57 v0 rfl rfl)
  have y0 := sized_any hsz (j := 0) (t := 57) rfl rfl Try.underlying57 (B := 24) (by kernel_rfl) h0
  obtain ⟨l0, ⟨A0, c0, e0, hc0, hr0⟩, w0⟩ := TK.arg (TK.slice Try.underlying57 (by kernel_rfl) (TK.slice Try.underlying32 (by kernel_rfl) (TK.int Try.underlying5 (by kernel_rfl)))) h0
  simp [Value.cells] at e0
  obtain ⟨rfl, rfl, rfl⟩ := e0
  obtain ⟨a1, rfl, rfl, rfl, w1⟩ := open_int Try.underlying5 (hval 1 5 v1 rfl rfl) h1
  clear hA0 hval0 hsz0 hsz
  obtain ⟨k, hp⟩ := Pure.TokenCases l0 a1 y0 w0.2 w1
  refine (redpenlaw16_TokenCases.calls k _ _ l0 a1 true W hr0 hc0 hp rfl).mono fun e W' h => ?_
  obtain ⟨he, bel⟩ := h
  subst he
  exact ⟨_, rfl, _, _, _, [], _, [], hW', trodAll_mk1 (shut_bool Try.underlying4 _), (trodAll_cons_mk (Below.trod laidOut (by kernel_rfl) (of_decide_eq_true (by kernel_rfl)) k0_ bel lt0) (trodAll_cons_mk (shut_int Try.underlying5 w1) trodAll_mk0)), rfl, bel.frame _, fun h => by cases h⟩
theorem over : Rows.tokenCasesRow.holds Try.pinned (OpenSpec.ofChange Rows.tokenCasesSpec) :=
  OpenClaim.holds_of_wide 9 Try.f9 rfl rfl rfl rfl rfl rfl rfl ⟨rfl, rfl, rfl, rfl, rfl⟩ rfl rfl rfl rfl rfl (by kernel_rfl) Try.func9 (by kernel_rfl)
    (of_decide_eq_true (by kernel_rfl)) (by unfold Func.isWrapper; first | (rw [if_pos (by decide +kernel)]; kernel_rfl) | (rw [if_neg (by decide +kernel)]; exact ⟨rfl, rfl⟩))
    (fun os started H enc _ => lifted os started H enc)
theorem proved : Rows.TokenCasesSaid := over
#print axioms proved
end Go.Proofs.Ytmnohlmdckcdeaa.tokenCases
namespace Go.Proofs.Ytmnohlmdckcdeaa
/-- The row, under a short name, for the claim. -/
theorem tokenCases_holds : Rows.TokenCasesSaid := tokenCases.proved
end Go.Proofs.Ytmnohlmdckcdeaa
