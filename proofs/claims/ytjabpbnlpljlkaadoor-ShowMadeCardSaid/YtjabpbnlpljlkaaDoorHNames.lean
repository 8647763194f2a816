/- Walks of our own: strconv.Itoa of the least numbers; show.Name (a range over a string). -/
import Derived.Test.YtjabpbnlpljlkaaDoorProg
import Derived.Below
import Derived.Deep.Draws
import Derived.Deep.AppendLies
import Derived.Maps.AppendAt
import Derived.OwnWalk
import Derived.Laws.BytesArg
import Derived.Laws.MakeOwn
import Derived.Laws.OwnMore
import Derived.Deep.OwnRows
import Derived.Tactics
import Derived.Lib.ConvBytes
import Derived.Laws.Slices
import Derived.WalkKit
import Derived.KernelRfl
import Derived.RowKit3
import Derived.Deep.LoopGhost
import Derived.Deep.QuietTactic
import Derived.BigQuiet
import Derived.WideLaws
import Derived.Deep.DeepCutAuto
import Derived.Deep.CutBlock
import Derived.Deep.RegionHeld3
import Derived.Laws.Rows
import Derived.Lib.AppendStr
import Derived.ArgAppend
import Derived.Laws.IdiomCopy
import Derived.OrdersHeld
import Derived.Laws.BitsLemmas
import Derived.RowKit
import Derived.Test.YtjabpbnlpljlkaaDoorHM
import Derived.Laws.RangeAny
import Derived.Scope
import Derived.FnLit
import Derived.LoopTactic
import Derived.Laws.Strings
import Derived.Laws.Strings2
import Derived.Laws.Strings3
namespace Go.Proofs.YtjabpbnlpljlkaaDoor.H
open Go.RowKit Go.Proofs.YtjabpbnlpljlkaaDoorW.PrintWords Go.Proofs.YtjabpbnlpljlkaaDoorW.PrintLast
set_option linter.unusedVariables false
set_option linter.unusedSimpArgs false

/-- The byte at a place. -/
def at_ (s : ByteArray) (i : Nat) : Nat := (s.get! i).toNat
def badB (c : Nat) : Bool := c == 10 || c == 13
/-- Has a text a line's end from a place on? -/
def badN (s : ByteArray) : Nat → Nat → Bool
  | 0, _ => false
  | d + 1, i => badB (at_ s i) || badN s d (i + 1)
def nameF (s : ByteArray) : Option Bool := some (if badN s s.size 0 = true then false else if 0 < s.size then decide (s.size ≤ 64) else false)

theorem decode_spec (s : ByteArray) (pos : Nat) (h : pos < s.size) :
    (badB (at_ s pos) = true → (Utf8.decode s pos).1 = at_ s pos) ∧ (badB (at_ s pos) = false → (Utf8.decode s pos).1 ≠ 10 ∧ (Utf8.decode s pos).1 ≠ 13) ∧ 1 ≤ (Utf8.decode s pos).2 ∧ pos + (Utf8.decode s pos).2 ≤ s.size ∧ ∀ j, 1 ≤ j → j < (Utf8.decode s pos).2 → badB (at_ s (pos + j)) = false := by
  have e : at_ s pos = (s.get! (pos + 0)).toNat := rfl
  have nb : ∀ c : Nat, c / 64 = 2 → badB c = false := by
    intro c hc
    unfold badB
    rw [Bool.or_eq_false_iff, beq_eq_false_iff_ne, beq_eq_false_iff_ne]
    omega
  have nb2 : ∀ c : Nat, badB c = true → c = 10 ∨ c = 13 := by
    intro c hc
    unfold badB at hc
    simpa using hc
  have nb3 : ∀ c : Nat, badB c = false → c ≠ 10 ∧ c ≠ 13 := by
    intro c hc
    unfold badB at hc
    simpa using hc
  by_cases ha : (s.get! (pos + 0)).toNat < 128
  · have hd : Utf8.decode s pos = ((s.get! (pos + 0)).toNat, 1) := by simp only [Utf8.decode, ha, if_true]
    rw [hd]
    refine ⟨fun _ => e.symm, fun hb => ?_, Nat.le_refl _, by show pos + 1 ≤ s.size; omega, fun j h1 h2 => by simp only at h2; omega⟩
    have := nb3 _ hb
    rw [e] at this
    exact this
  · have hbad : badB (at_ s pos) = false := by
      unfold badB
      rw [e, Bool.or_eq_false_iff, beq_eq_false_iff_ne, beq_eq_false_iff_ne]
      omega
    have key : (Utf8.decode s pos).1 ≠ 10 ∧ (Utf8.decode s pos).1 ≠ 13 ∧ 1 ≤ (Utf8.decode s pos).2 ∧ pos + (Utf8.decode s pos).2 ≤ s.size ∧ ∀ j, 1 ≤ j → j < (Utf8.decode s pos).2 → badB (at_ s (pos + j)) = false := by
      have one : ∀ c : Nat, 128 ≤ c → (c ≠ 10 ∧ c ≠ 13 ∧ 1 ≤ 1 ∧ pos + 1 ≤ s.size ∧ ∀ j, 1 ≤ j → j < 1 → badB (at_ s (pos + j)) = false) := fun c hc => ⟨by omega, by omega, Nat.le_refl _, by omega, fun j h1 h2 => by omega⟩
      have r0 : 128 ≤ Utf8.runeError := by decide
      simp only [Utf8.decode, ha, if_false]
      split
      · rename_i hc
        simp only [Bool.and_eq_true, decide_eq_true_eq, beq_iff_eq] at hc
        split
        · rename_i hv
          refine ⟨?_, ?_, by show 1 ≤ 2; omega, by show pos + 2 ≤ s.size; omega, fun j h1 h2 => ?_⟩
          · show _ ≠ 10
            omega
          · show _ ≠ 13
            omega
          · have : j < 2 := h2
            obtain rfl : j = 1 := by omega
            exact nb _ hc.2.2
        · exact one _ r0
      split
      · rename_i hc
        simp only [Bool.and_eq_true, decide_eq_true_eq, beq_iff_eq] at hc
        split
        · rename_i hv
          rw [Bool.and_eq_true, decide_eq_true_eq] at hv
          refine ⟨?_, ?_, by show 1 ≤ 3; omega, by show pos + 3 ≤ s.size; omega, fun j h1 h2 => ?_⟩
          · show _ ≠ 10
            omega
          · show _ ≠ 13
            omega
          · have : j < 3 := h2
            rcases (show j = 1 ∨ j = 2 by omega) with rfl | rfl
            · exact nb _ hc.1.2.2
            · exact nb _ hc.2.2
        · exact one _ r0
      split
      · rename_i hc
        simp only [Bool.and_eq_true, decide_eq_true_eq, beq_iff_eq] at hc
        split
        · rename_i hv
          rw [Bool.and_eq_true, decide_eq_true_eq] at hv
          refine ⟨?_, ?_, by show 1 ≤ 4; omega, by show pos + 4 ≤ s.size; omega, fun j h1 h2 => ?_⟩
          · show _ ≠ 10
            omega
          · show _ ≠ 13
            omega
          · have : j < 4 := h2
            rcases (show j = 1 ∨ j = 2 ∨ j = 3 by omega) with rfl | rfl | rfl
            · exact nb _ hc.1.1.2.2
            · exact nb _ hc.1.2.2
            · exact nb _ hc.2.2
        · exact one _ r0
      · exact one _ r0
    exact ⟨fun hb => (by rw [hbad] at hb; cases hb), fun _ => ⟨key.1, key.2.1⟩, key.2.2⟩
theorem badN_skip (s : ByteArray) : ∀ (k d i : Nat), k ≤ d → (∀ j, j < k → badB (at_ s (i + j)) = false) → badN s d i = badN s (d - k) (i + k)
  | 0, d, i, _, _ => rfl
  | k + 1, 0, i, h, _ => by omega
  | k + 1, d + 1, i, h, hb => by
    have h0 := hb 0 (by omega)
    rw [Nat.add_zero] at h0
    have ih := badN_skip s k d (i + 1) (by omega) (fun j hj => by rw [show i + 1 + j = i + (j + 1) by omega]; exact hb (j + 1) (by omega))
    show (badB (at_ s i) || badN s d (i + 1)) = _
    rw [h0, Bool.false_or, ih, show d + 1 - (k + 1) = d - k by omega, show i + (k + 1) = i + 1 + k by omega]
set_option maxRecDepth 1000000 in
set_option maxHeartbeats 4000000 in
theorem name_at (s : ByteArray) (r : Bool) (w : World) (h : nameF s = some r) : Calls Tryd.prog 13 #[.string s] w fun e w' => e = .returned (.bool r) ∧ Below w.heap.size w w' := by
  unfold nameF at h
  obtain rfl := Option.some.inj h
  clear h
  have hB : ∀ pos, Below w.heap.size w (w.iter s pos) := fun pos => below_alloc (Below.refl _ _) _
  go_enter Tryd.func13, Tryd.ntmps13
  go_wp2
  go_loopw [4] (fun n w' => ∃ (pos : Nat), w' = w.iter s pos ∧ pos ≤ s.size ∧ badN s s.size 0 = badN s (s.size - pos) pos) (fun _ w' => s.size - w'.iterPos w.heap.size)
  case atStart => exact ⟨0, rfl, Nat.zero_le _, rfl⟩
  case round =>
    obtain ⟨pos, rfl, hle, hbad⟩ := hrel
    by_cases hp : pos < s.size
    · have hnx : ∀ ty, (Instr.next (.pointer (some ⟨w.heap.size, 0, none⟩)) true ty).run Tryd.prog (w.iter s pos) = _ := fun ty => run_next_any w s pos ty hp
      obtain ⟨d1, d2, d3, d4, d5⟩ := decode_spec s pos hp
      cases hb : badB (at_ s pos)
      · obtain ⟨n10, n13⟩ := d2 hb
        have i10 : (((Utf8.decode s pos).1 : Int) == 10) = false := beq_eq_false_iff_ne.2 (by omega)
        have i13 : (((Utf8.decode s pos).1 : Int) == 13) = false := beq_eq_false_iff_ne.2 (by omega)
        go_wp2
        go_roundw
        case rel =>
          refine ⟨pos + (Utf8.decode s pos).2, rfl, d4, ?_⟩
          rw [hbad, badN_skip s (Utf8.decode s pos).2 (s.size - pos) pos (by omega) (fun j hj => by
            rcases Nat.eq_zero_or_pos j with e | e
            · rw [e, Nat.add_zero]; exact hb
            · exact d5 j e hj), show s.size - pos - (Utf8.decode s pos).2 = s.size - (pos + (Utf8.decode s pos).2) by omega]
        case measure =>
          simp
          omega
      · have hd := d1 hb
        have hbn : badN s s.size 0 = true := by
          rw [hbad, show s.size - pos = (s.size - pos - 1) + 1 by omega]
          show (badB (at_ s pos) || _) = true
          rw [hb, Bool.true_or]
        have hc : at_ s pos = 10 ∨ at_ s pos = 13 := by
          unfold badB at hb
          simpa using hb
        rcases hc with hc | hc
        · have i10 : (((Utf8.decode s pos).1 : Int) == 10) = true := beq_iff_eq.2 (by omega)
          go_wp2
          go_ret
          exact ⟨by first | rfl | (simp [hbn]; done) | (simp_all; done), hB _⟩
        · have i13 : (((Utf8.decode s pos).1 : Int) == 13) = true := beq_iff_eq.2 (by omega)
          have i10 : (((Utf8.decode s pos).1 : Int) == 10) = false := beq_eq_false_iff_ne.2 (by omega)
          go_wp2
          go_ret
          exact ⟨by first | rfl | (simp [hbn]; done) | (simp_all; done), hB _⟩
    · have hnx : ∀ ty, (Instr.next (.pointer (some ⟨w.heap.size, 0, none⟩)) true ty).run Tryd.prog (w.iter s pos) = _ := fun ty => run_next_end w s pos ty hp
      have hbn : ¬ badN s s.size 0 = true := by
        rw [hbad, show s.size - pos = 0 by omega]
        simp [badN]
      by_cases h0 : 0 < s.size
      · have h0' : (s.size : Int) > 0 := by omega
        go_wp2
        go_ret
        exact ⟨by first | rfl | (simp [hbn, h0]; done) | (simp [hbn, h0]; omega) | (simp_all; omega), hB _⟩
      · have h0' : ¬ (s.size : Int) > 0 := by omega
        go_wp2
        go_ret
        exact ⟨by first | rfl | (simp [hbn, h0]; done) | (simp [hbn, h0]; omega) | (simp_all; omega), hB _⟩
end Go.Proofs.YtjabpbnlpljlkaaDoor.H
