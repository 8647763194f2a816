/- Words beside the print's: pointers to what is made once and then only read, told by what they lead to (a footprint), moved as the print's shared rows are. -/
import Derived.Test.YtnmngglfeiifaaaGreatDoorHM
import Derived.Deep.DeepMust
import Derived.Test.YtnmngglfeiifaaaGreatDoorWAll
namespace Go.Proofs.YtnmngglfeiifaaaGreatDoor.X
open Go.RowKit Go.Proofs.YtnmngglfeiifaaaGreatDoorW.PrintWords Go.Proofs.YtnmngglfeiifaaaGreatDoorW.PrintLast Go.Proofs.YtnmngglfeiifaaaGreatDoorW.PrintMore

/-- What a pointer leads to: a fact of a world, the value, the data. -/
abbrev Pd (α : Type) := World → Value → List α → Prop
namespace Kd
open Go.Proofs.YtnmngglfeiifaaaGreatDoorW.PrintWords.Kd
set_option linter.unusedVariables false
set_option linter.unusedSimpArgs false
/-- A pointer told by what it leads to, which lies in ok. e and base say nothing; they make it as the rows are. -/
def P {α : Type} (d : Pd α) (_e : Nat) (W : World) (_base : Nat) (ok : Nat → Prop) (v : Value) (xs : List α) : Prop := Foot (fun W' => d W' v xs) W ok
section
variable {α : Type} {d : Pd α} {e base base' g N' : Nat} {ok ok' S : Nat → Prop} {w W w1 : World} {u v v1 : Value} {xs : List α}
theorem P_now (h : P d e W base ok v xs) : d W v xs := Foot.now h
theorem P_mono (h : P d e W base ok v xs) (hok : ∀ k, ok k → ok' k) : P d e W base ok' v xs := Foot.mono h hok
theorem P_bound (h : P d e W base ok v xs) : P d e W base (fun k => ok k ∧ k < W.heap.size) v xs := Foot.bound h
theorem P_lower (h : P d e W base ok v xs) (_ : base' ≤ base) : P d e W base' ok v xs := h
theorem P_step (h : P d e W base ok v xs) (hm : ∀ k, ok k → k < W.heap.size → w1.heap[k]? = W.heap[k]?) : P d e w1 base ok v xs := Foot.step h hm
theorem P_below (h : P d e W base ok v xs) (hb : Below W.heap.size W w1) : P d e w1 base ok v xs := P_step h (fun k _ hlt => hb.block k hlt)
theorem P_alloc (h : P d e W base ok v xs) (o : Obj) : P d e (W.alloc o) base ok v xs := P_below h (below_alloc (Below.refl _ _) o)
theorem P_drew (h : P d e W base ok v xs) : P d e W.drew base ok v xs := P_below h (below_drew (Below.refl _ _))
theorem P_drewN (h : P d e W base ok v xs) (m : Nat) : P d e (W.drewN m) base ok v xs := P_below h (pw_below_drewN (Below.refl _ _) m)
theorem P_grown (h : P d e W base ok v xs) {row : Option Nat} (hg : W.grownBy w1 row) (hok : ∀ k, ok k → some k ≠ row) : P d e w1 base ok v xs := P_step h (fun k hk hlt => hg.block k hlt (hok k hk))
theorem P_far (h : P d e W base ok v xs) {p : Addr} (hok : ∀ k, ok k → k ≠ p.block) (u : Value) : P d e (W.setCell p u) base ok v xs := P_step h (fun k hk _ => Below.heap_setCell W p u k (hok k hk))
theorem P_after (h : P d e W base (fun k => ok k ∧ some k ≠ u.ownBlock) v xs) (hg : W.grownBy w1 u.ownBlock) (hat : v1.ownBlock = u.ownBlock ∨ ∃ b, v1.ownBlock = some b ∧ W.heap.size ≤ b) : P d e w1 base (fun k => ok k ∧ some k ≠ v1.ownBlock) v xs := by
  have h1 := P_grown (P_bound h) hg (fun k hk => hk.1.2)
  refine P_mono h1 (fun k hk => ⟨hk.1.1, ?_⟩)
  rcases hat with hat | ⟨b, hb, hle⟩
  · rw [hat]; exact hk.1.2
  · rw [hb]
    intro he
    injection he with he
    have := hk.2
    omega
theorem P_afterv (h : P d e W base (fun k => ok k ∧ some k ≠ v.ownBlock) u xs) (hg : W.grownBy w1 v.ownBlock) (hat : v1.ownBlock = v.ownBlock ∨ ∃ b, v1.ownBlock = some b ∧ W.heap.size ≤ b) : P d e w1 base (fun k => ok k ∧ some k ≠ v1.ownBlock) u xs := P_after h hg hat
theorem P_elder' (h : P d e W base ok v xs) (hbase : ∀ k, u.ownBlock = some k → W.heap.size ≤ k) (hb : Below W.heap.size W w1) : P d e w1 base (fun k => ok k ∧ some k ≠ u.ownBlock) v xs :=
  P_mono (P_below (P_bound h) hb) (fun k hk => ⟨hk.1, fun he => by have := hbase k he.symm; have := hk.2; omega⟩)
theorem P_elderB (h : P d e W base ok v xs) (a : Nat) (ha : W.heap.size ≤ a) : P d e W base (fun k => ok k ∧ k ≠ a) v xs := P_mono (P_bound h) (fun k hk => ⟨hk.1, by have := hk.2; omega⟩)
end
end Kd
end Go.Proofs.YtnmngglfeiifaaaGreatDoor.X
