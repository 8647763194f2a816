/- HunksGreat: more lines than are held against one another: all that differ at once. For any numbers. No condition beyond the statement's own. -/
import Derived.Test.YtokgkhndhlcfpaaBHunksHunksGreat
namespace Go.Proofs.Ytokgkhndhlcfpaa.Pure
open Go.RowKit Go.Proofs.Ytokgkhndhlcfpaa.PHunksGreat Go.Proofs.YtokgkhndhlcfpaaW.PrintWords Go.Proofs.YtokgkhndhlcfpaaW.PrintLast
open Go.Proofs.Ytokgkhndhlcfpaa.M Go.Proofs.Ytokgkhndhlcfpaa.X
set_option linter.unusedVariables false
set_option linter.unusedSimpArgs false

theorem hunks_awake : Ev (fun f => redpenlaw19_Awake.f f) true := Ev.of redpenlaw19_Awake.mono (k := 60) (by decide +kernel)
theorem lcs_apart (X Y : ByteArray) (h : X.toList ≠ Y.toList) : ∀ (d a b : Nat), a + b ≤ d → lcs (List.replicate a X) (List.replicate b Y) = 0
  | d, 0, b, _ => lcs_nil _
  | d, a + 1, 0, _ => lcs_nil' _
  | 0, a + 1, b + 1, hd => by omega
  | d + 1, a + 1, b + 1, hd => by
    have h1 := lcs_apart X Y h d a (b + 1) (by omega)
    have h2 := lcs_apart X Y h d (a + 1) b (by omega)
    rw [List.replicate_succ] at h1 h2
    rw [List.replicate_succ, List.replicate_succ, lcs_cons, if_neg h, ← List.replicate_succ, ← List.replicate_succ]
    rw [← List.replicate_succ] at h1 h2
    rw [h1, h2]
    rfl
theorem script_apart (X Y : ByteArray) (h : X.toList ≠ Y.toList) (b : Nat) : ∀ a : Nat, script (List.replicate a X) (List.replicate b Y) = List.replicate a .del ++ List.replicate b .ins
  | 0 => by
    induction b with
    | zero => exact script_nil
    | succ b ih =>
      rw [List.replicate_succ, show List.replicate 0 X = [] from rfl, script_ins]
      rw [show List.replicate 0 X = [] from rfl] at ih
      rw [ih, List.replicate_succ]
      rfl
  | a + 1 => by
    have ih := script_apart X Y h b a
    have key : script (List.replicate (a + 1) X) (List.replicate b Y) = .del :: script (List.replicate a X) (List.replicate b Y) := by
      cases b with
      | zero => rw [List.replicate_succ, show List.replicate 0 Y = [] from rfl, script_del]
      | succ b =>
        have h1 := lcs_apart X Y h _ a (b + 1) (Nat.le_refl _)
        have h2 := lcs_apart X Y h _ (a + 1) b (Nat.le_refl _)
        rw [List.replicate_succ, List.replicate_succ, script_cons, if_neg h, ← List.replicate_succ, ← List.replicate_succ, h1, h2, if_pos (Nat.le_refl _)]
    rw [key, ih, List.replicate_succ]
    rfl
theorem grp_dels (fr k : Int) (s : List Mv) : ∀ (a : Nat) (i : Int) (c : Ch), grp fr i k c (List.replicate a .del ++ s) = grp fr (i + a) k ⟨c.o, c.os + a, c.n, c.ns⟩ s
  | 0, i, c => by
    rw [show i + ((0 : Nat) : Int) = i by omega, show c.os + ((0 : Nat) : Int) = c.os by omega]
    rfl
  | a + 1, i, c => by
    rw [List.replicate_succ, List.cons_append, grp_del, grp_dels fr k s a]
    rw [show i + 1 + (a : Int) = i + ((a + 1 : Nat) : Int) by omega]
    simp only
    rw [show c.os + 1 + (a : Int) = c.os + ((a + 1 : Nat) : Int) by omega]
theorem grp_inss (fr i : Int) : ∀ (a : Nat) (k : Int) (c : Ch), grp fr i k c (List.replicate a .ins) = flushed ⟨c.o, c.os, c.n, c.ns + a⟩
  | 0, k, c => by
    rw [show c.ns + ((0 : Nat) : Int) = c.ns by omega]
    rfl
  | a + 1, k, c => by
    rw [List.replicate_succ, grp_ins, grp_inss fr i a]
    simp only
    rw [show c.ns + 1 + (a : Int) = c.ns + ((a + 1 : Nat) : Int) by omega]
theorem pre_rep (S X Y : ByteArray) (h : X.toList ≠ Y.toList) (n m : Nat) : ∀ k : Nat, pre (List.replicate k S ++ List.replicate n X) (List.replicate k S ++ List.replicate m Y) = k
  | 0 => by
    show pre (List.replicate n X) (List.replicate m Y) = 0
    cases n with
    | zero => exact pre_nil _
    | succ n =>
      cases m with
      | zero => exact pre_nil' _
      | succ m => rw [List.replicate_succ, List.replicate_succ, pre_cons, if_neg h]
  | k + 1 => by
    rw [List.replicate_succ, List.cons_append, List.cons_append, pre_cons, if_pos rfl, pre_rep S X Y h n m k]
theorem lastOf_rep (X : ByteArray) (n : Nat) (h : 0 < n) : lastOf (List.replicate n X) = X := by
  unfold lastOf
  rw [List.length_replicate, List.getD_eq_getElem?_getD, List.getElem?_replicate, if_pos (by omega)]
  rfl
theorem chgs_great (S X Y : ByteArray) (h : X.toList ≠ Y.toList) (k n m : Nat) (hn : 0 < n) : chgs (List.replicate k S ++ List.replicate n X) (List.replicate k S ++ List.replicate m Y) = [⟨k, n, k, m⟩] := by
  have hs : strip (List.replicate n X) (List.replicate m Y) = (List.replicate n X, List.replicate m Y) := by
    refine strip_neg _ _ (fun ⟨h1, h2, h3⟩ => h ?_)
    rw [List.length_replicate] at h1 h2
    rw [lastOf_rep X n h1, lastOf_rep Y m h2] at h3
    exact h3
  unfold chgs
  rw [pre_rep S X Y h n m k]
  simp only [List.drop_left' (List.length_replicate (n := k) (a := S)), hs, List.length_replicate]
  by_cases hb : n > 1000 ∨ m > 1000
  · rw [if_pos hb]
  · rw [if_neg hb, script_apart X Y h, grp_dels, grp_inss]
    unfold flushed
    simp only
    rw [if_pos (by omega), show (0 : Int) + (n : Int) = n by omega, show (0 : Int) + (m : Int) = m by omega]
section
variable (a0 a1 a2 : Int) (S X Y : ByteArray)
theorem great_l2 (k n m : Nat) (hS : S = ⟨#[115, 10]⟩) (hX : X = ⟨#[120, 10]⟩) (hY : Y = ⟨#[121, 10]⟩) (hk : Int.tmod a2 5 = (k : Int)) (hk5 : k < 5) (hn : 0 < n) (hn2 : n < 2000) (hm : m < 2000) : ∀ (d j : Nat), m - j = d → j ≤ m →
    Ev (fun f => redpenlaw19_HunksGreat.l2 f a2 (List.replicate k S ++ List.replicate n X) (List.replicate k S ++ List.replicate j Y) (n : Int) (m : Int) (m : Int) (j : Int)) true := by
  intro d
  induction d with
  | zero =>
    intro j hd hj
    obtain rfl : j = m := by omega
    have hne : X.toList ≠ Y.toList := by rw [hX, hY]; decide +kernel
    have main := changes_ev (List.replicate k S ++ List.replicate n X) (List.replicate k S ++ List.replicate j Y) (by rw [List.length_append, List.length_replicate, List.length_replicate]; omega) (by rw [List.length_append, List.length_replicate, List.length_replicate]; omega)
    rw [chgs_great S X Y hne k n j hn] at main
    refine Ev.step (fun f => ?_) (Ev.bind (f := fun _ t => if (t.length : Int) = 1 then (if 0 < (t.length : Int) then some (((rd_T39 t 0).f0) == (k : Int) && (((rd_T39 t 0).f1) == (n : Int) && (((rd_T39 t 0).f2) == (k : Int) && (((rd_T39 t 0).f3) == (j : Int))))) else none) else some false) main ⟨0, fun f _ => ?_⟩)
    · simp only [redpenlaw19_HunksGreat.l2]
      rw [if_neg (by omega), hk, w64 (x := (k : Int)) (by omega) (by omega)]
    · show some ((k : Int) == (k : Int) && ((n : Int) == (n : Int) && ((k : Int) == (k : Int) && ((j : Int) == (j : Int))))) = some true
      simp
  | succ d ih =>
    intro j hd hj
    refine Ev.step (fun f => ?_) (ih (j + 1) (by omega) (by omega))
    simp only [redpenlaw19_HunksGreat.l2]
    rw [if_pos (by omega), if_pos (by rw [List.length_append, List.length_replicate, List.length_replicate]; omega), hw64 ((j : Int) + 1) (j + 1) (by omega) (by omega), ← hY, List.append_assoc, List.replicate_succ']
theorem great_l1 (k n m : Nat) (hS : S = ⟨#[115, 10]⟩) (hX : X = ⟨#[120, 10]⟩) (hY : Y = ⟨#[121, 10]⟩) (hk : Int.tmod a2 5 = (k : Int)) (hk5 : k < 5) (hn : 0 < n) (hn2 : n < 2000) (hm : m < 2000) : ∀ (d j : Nat), n - j = d → j ≤ n →
    Ev (fun f => redpenlaw19_HunksGreat.l1 f a2 (List.replicate k S ++ List.replicate j X) (List.replicate k S) (n : Int) (m : Int) (n : Int) (j : Int)) true := by
  intro d
  induction d with
  | zero =>
    intro j hd hj
    obtain rfl : j = n := by omega
    have main := great_l2 a2 S X Y k j m hS hX hY hk hk5 hn hn2 hm _ 0 rfl (Nat.zero_le _)
    rw [show List.replicate 0 Y = [] from rfl, List.append_nil] at main
    refine Ev.step (fun f => ?_) main
    simp only [redpenlaw19_HunksGreat.l1]
    rw [if_neg (by omega)]
    rfl
  | succ d ih =>
    intro j hd hj
    refine Ev.step (fun f => ?_) (ih (j + 1) (by omega) (by omega))
    simp only [redpenlaw19_HunksGreat.l1]
    rw [if_pos (by omega), if_pos (by rw [List.length_append, List.length_replicate, List.length_replicate]; omega), hw64 ((j : Int) + 1) (j + 1) (by omega) (by omega), ← hX, List.append_assoc, List.replicate_succ']
theorem great_l0 (k n m : Nat) (hS : S = ⟨#[115, 10]⟩) (hX : X = ⟨#[120, 10]⟩) (hY : Y = ⟨#[121, 10]⟩) (hk : Int.tmod a2 5 = (k : Int)) (hk5 : k < 5) (hn : 0 < n) (hn2 : n < 2000) (hm : m < 2000)
    (e1 : wrap64 (995 + (wrap64 (Int.tmod a0 10))) = (n : Int)) (e2 : wrap64 (Int.tmod a1 1010) = (m : Int)) : ∀ (d j : Nat), k - j = d → j ≤ k →
    Ev (fun f => redpenlaw19_HunksGreat.l0 f a0 a1 a2 (List.replicate j S) (List.replicate j S) (k : Int) (j : Int)) true := by
  intro d
  induction d with
  | zero =>
    intro j hd hj
    obtain rfl : j = k := by omega
    have main := great_l1 a2 S X Y j n m hS hX hY hk hk5 hn hn2 hm _ 0 rfl (Nat.zero_le _)
    rw [show List.replicate 0 X = [] from rfl, List.append_nil] at main
    refine Ev.step (fun f => ?_) main
    simp only [redpenlaw19_HunksGreat.l0]
    rw [if_neg (by omega), e1, e2]
    rfl
  | succ d ih =>
    intro j hd hj
    clear e1 e2
    refine Ev.step (fun f => ?_) (ih (j + 1) (by omega) (by omega))
    simp only [redpenlaw19_HunksGreat.l0]
    rw [if_pos (by omega), if_pos (by rw [List.length_replicate]; omega), if_pos (by rw [List.length_replicate]; omega), ← hS, ← List.replicate_succ', show ((j : Int) + 1) % 256 = ((j + 1 : Nat) : Int) by omega]
end
theorem HunksGreat : redpenlaw19_HunksGreat.Pure := by
  intro a0 a1 a2 h0 h1 h2
  have b0 : 0 ≤ a0 ∧ a0 < 65536 := by simp [Lit.wf, IntKind.min, IntKind.max, IntKind.signed, IntKind.bits] at h0; omega
  have b1 : 0 ≤ a1 ∧ a1 < 65536 := by simp [Lit.wf, IntKind.min, IntKind.max, IntKind.signed, IntKind.bits] at h1; omega
  have b2 : 0 ≤ a2 ∧ a2 < 256 := by simp [Lit.wf, IntKind.min, IntKind.max, IntKind.signed, IntKind.bits] at h2; omega
  have t0 : Int.tmod a0 10 = a0 % 10 := Int.tmod_eq_emod_of_nonneg b0.1
  have t1 : Int.tmod a1 1010 = a1 % 1010 := Int.tmod_eq_emod_of_nonneg b1.1
  have t2 : Int.tmod a2 5 = a2 % 5 := Int.tmod_eq_emod_of_nonneg b2.1
  obtain ⟨n, hn⟩ : ∃ n : Nat, a0 % 10 = (n : Int) := ⟨(a0 % 10).toNat, by omega⟩
  obtain ⟨m, hm⟩ : ∃ m : Nat, a1 % 1010 = (m : Int) := ⟨(a1 % 1010).toNat, by omega⟩
  obtain ⟨k, hk⟩ : ∃ k : Nat, a2 % 5 = (k : Int) := ⟨(a2 % 5).toNat, by omega⟩
  have e0 : wrap64 (Int.tmod a0 10) = (n : Int) := hw64 _ _ (t0.trans hn) (by omega)
  have e1 : wrap64 (995 + wrap64 (Int.tmod a0 10)) = ((995 + n : Nat) : Int) := by rw [e0]; exact hw64 _ _ (by omega) (by omega)
  have e2 : wrap64 (Int.tmod a1 1010) = (m : Int) := hw64 _ _ (t1.trans hm) (by omega)
  have main := great_l0 a0 a1 a2 ⟨#[115, 10]⟩ ⟨#[120, 10]⟩ ⟨#[121, 10]⟩ k (995 + n) m rfl rfl rfl (t2.trans hk) (by omega) (by omega) (by omega) (by omega) e1 e2 _ 0 rfl (Nat.zero_le _)
  refine Ev.rounds (Ev.bind hunks_awake (Ev.congr (fun f => ?_) main))
  rw [if_pos rfl, t2.trans hk]
  rfl
end Go.Proofs.Ytokgkhndhlcfpaa.Pure
