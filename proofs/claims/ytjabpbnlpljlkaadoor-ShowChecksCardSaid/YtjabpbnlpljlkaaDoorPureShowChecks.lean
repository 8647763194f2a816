/- ShowChecks: a hunk is right just if the document says so; of any hunk, and of a right one with something turned. For all hunks; the tables of Go's library lie as their texts lay them. -/
import Derived.Test.YtjabpbnlpljlkaaDoorBTidShowChecks
import Derived.SizedLaws
namespace Go.Proofs.YtjabpbnlpljlkaaDoor.Pure
open Go.RowKit Go.Proofs.YtjabpbnlpljlkaaDoor.PShowChecks Go.Proofs.YtjabpbnlpljlkaaDoorW.PrintWords Go.Proofs.YtjabpbnlpljlkaaDoorW.PrintLast Go.Proofs.YtjabpbnlpljlkaaDoor.X
set_option linter.unusedVariables false
set_option linter.unusedSimpArgs false

theorem show_awake : redpenlaw20_Awake.f = some true := by decide +kernel
theorem both {a b c d : Int} {l : List Ln} (hl : l.length ≤ 1000) (hsz : ∀ x ∈ l, x.f1.size ≤ 1000000000000000) : Ev (fun k => (show_Check.f k a b c d l).bind fun t => (redpenref18_Check.f k a b c d l).bind fun u => some (t == u)) true := by
  refine Ev.bind (check_ev a b c d l hl) (Ev.bind (rcheck_ev a b c d l hl hsz) ?_)
  rw [beq_self_eq_true]
  exact Ev.now _
theorem sz_set {l : List Ln} {B : Nat} (h : ∀ x ∈ l, x.f1.size ≤ B) (i : Nat) {v : Ln} (hv : v.f1.size ≤ B) : ∀ x ∈ l.set i v, x.f1.size ≤ B := by
  intro x hx
  rcases List.mem_or_eq_of_mem_set hx with hx | rfl
  · exact h x hx
  · exact hv
theorem ShowChecks (a0 : S26) (a1 : Bool) (a2 : Int) (a3 : Int) (h0 : (fun x : S26 => (fun n => (Lit.int .i64 n).wf = true) x.f0 ∧ (fun n => (Lit.int .i64 n).wf = true) x.f1 ∧ (fun n => (Lit.int .i64 n).wf = true) x.f2 ∧ (fun n => (Lit.int .i64 n).wf = true) x.f3 ∧ (fun l : List Ln => l.length ≤ maxLen ∧ ∀ x ∈ l, (fun x : Ln => (fun n => (Lit.int .u8 n).wf = true) x.f0 ∧ (fun s : ByteArray => s.size ≤ reachBytes) x.f1 ∧ (fun _ => True) x.f2) x) x.f4) a0) (h1 : (Lit.int .u8 a2).wf = true) (h2 : (Lit.int .i64 a3).wf = true) : ∃ k, redpenlaw20_ShowChecks.f k a0.f0 a0.f1 a0.f2 a0.f3 a0.f4 a1 a2 a3 = some true := by
  obtain ⟨p0, p1, p2, p3, l⟩ := a0
  have hr : reachBytes = 140737488351232 := by decide
  have hN : Nn l := by
    intro x hx
    obtain ⟨g1, g2, _⟩ := h0.2.2.2.2.2 x hx
    refine ⟨?_, by rw [← hr]; exact g2⟩
    have : (Lit.int .u8 x.f0).wf = true := g1
    simp [Lit.wf, IntKind.min, IntKind.max, IntKind.signed, IntKind.bits] at this
    omega
  clear h0 h1 h2
  refine Ev.rounds ?_
  unfold redpenlaw20_ShowChecks.f
  refine Ev.bind ⟨0, fun _ _ => show_awake⟩ ?_
  simp only [if_true]
  by_cases hl : (l.length : Int) > 100
  · simp only [if_pos hl]
    exact Ev.now _
  simp only [if_neg hl]
  obtain ⟨⟨a, b, c, d, L⟩, e, hL, hNL, _⟩ := tidied_ev p0 p1 p2 p3 l (by omega) hN a1
  refine Ev.bind e ?_
  dsimp only at hL hNL ⊢
  clear e
  have hl12 : L.length ≤ 12 := by rw [hL]; omega
  have hsz : ∀ x ∈ L, x.f1.size ≤ 1000000000000000 := fun x hx => Nat.le_trans (hNL x hx).2 (by omega)
  have hh : ∀ a b c d, Ev (fun k => (show_Check.f k a b c d L).bind fun t => (redpenref18_Check.f k a b c d L).bind fun u => some (t == u)) true := fun a b c d => both (by omega) hsz
  by_cases q0 : Int.tmod a2 10 = 0
  · simp only [if_pos q0]; exact hh _ _ _ _
  simp only [if_neg q0]
  by_cases q1 : Int.tmod a2 10 = 1
  · simp only [if_pos q1]; exact hh _ _ _ _
  simp only [if_neg q1]
  by_cases q2 : Int.tmod a2 10 = 2
  · simp only [if_pos q2]; exact hh _ _ _ _
  simp only [if_neg q2]
  by_cases q3 : Int.tmod a2 10 = 3
  · simp only [if_pos q3]; exact hh _ _ _ _
  simp only [if_neg q3]
  have hdiv : wrap64 ((L.length : Int) / 2) = ((L.length / 2 : Nat) : Int) := by rw [w64' (by omega) (by omega)]; omega
  by_cases q4 : Int.tmod a2 10 = 4
  · simp only [if_pos q4]
    by_cases hp : (L.length : Int) > 0
    · simp only [if_pos hp, if_pos (show 0 < (L.length : Int) by omega), Option.bind_some]
      refine both (by rw [List.length_set]; omega) (sz_set hsz _ ?_)
      have hm0 := hsz _ (rd_mem L 0 (by omega))
      exact hm0
    · simp only [if_neg hp]; exact hh _ _ _ _
  simp only [if_neg q4]
  by_cases q5 : Int.tmod a2 10 = 5
  · simp only [if_pos q5]
    by_cases hp : (L.length : Int) > 0
    · have hm := hNL _ (rd_mem L (L.length / 2) (by omega))
      simp only [if_pos hp, hdiv, if_pos (show (0 : Int) ≤ ((L.length / 2 : Nat) : Int) by omega), if_pos (show ((L.length / 2 : Nat) : Int) < (L.length : Int) by omega)]
      simp only [if_pos (show (rd_T29 L ((L.length / 2 : Nat) : Int)).f1.size + 1 ≤ 9223372036854775807 by omega), Option.bind_some]
      refine both (by rw [List.length_set]; omega) (sz_set hsz _ ?_)
      show ((rd_T29 L ((L.length / 2 : Nat) : Int)).f1 ++ (⟨#[10]⟩ : ByteArray)).size ≤ _
      rw [ByteArray.size_append]
      have : (⟨#[10]⟩ : ByteArray).size = 1 := rfl
      omega
    · simp only [if_neg hp]; exact hh _ _ _ _
  simp only [if_neg q5]
  by_cases q6 : Int.tmod a2 10 = 6
  · simp only [if_pos q6]
    by_cases hp : (L.length : Int) > 0
    · have hm := hNL _ (rd_mem L (L.length / 2) (by omega))
      simp only [if_pos hp, hdiv, if_pos (show (0 : Int) ≤ ((L.length / 2 : Nat) : Int) by omega), if_pos (show ((L.length / 2 : Nat) : Int) < (L.length : Int) by omega), Option.bind_some]
      refine both (by rw [List.length_set]; omega) (sz_set hsz _ ?_)
      exact Nat.le_trans hm.2 (by omega)
    · simp only [if_neg hp]; exact hh _ _ _ _
  simp only [if_neg q6]
  exact hh _ _ _ _
end Go.Proofs.YtjabpbnlpljlkaaDoor.Pure
