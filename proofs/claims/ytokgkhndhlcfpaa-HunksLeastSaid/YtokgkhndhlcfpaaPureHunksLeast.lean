/- HunksLeast: changes rise, apart, with lines that stay between; done, they make the new lines; no fewer lines could go and come. For any bytes. No condition beyond the statement's own. -/
import Derived.Test.YtokgkhndhlcfpaaBCommHunksLeast
import Derived.Test.YtokgkhndhlcfpaaBTxHunksLeast
import Derived.Test.YtokgkhndhlcfpaaBRef01HunksLeast
import Derived.Test.YtokgkhndhlcfpaaMHunks2
namespace Go.Proofs.Ytokgkhndhlcfpaa.Pure
open Go.RowKit Go.Proofs.Ytokgkhndhlcfpaa.PHunksLeast Go.Proofs.YtokgkhndhlcfpaaW.PrintWords Go.Proofs.YtokgkhndhlcfpaaW.PrintLast
open Go.Proofs.Ytokgkhndhlcfpaa.M Go.Proofs.Ytokgkhndhlcfpaa.X
set_option linter.unusedVariables false
set_option linter.unusedSimpArgs false

theorem hunks_awake : Ev (fun f => redpenlaw19_Awake.f f) true := Ev.of redpenlaw19_Awake.mono (k := 60) (by decide +kernel)
theorem ln_at (p : List ByteArray) (i : Nat) : (rdOf ByteArray.empty p (i : Int)).toList = ln p i := by
  unfold rdOf ln
  rw [Int.toNat_natCast]
section
variable (p q : List ByteArray) (hp : p.length ≤ 1000) (hq : q.length ≤ 1000)
include hp hq
theorem least_l2 (m : Nat) (hm : m = p.length + q.length - 2 * lcs p q) : ∀ (d a b : Nat), p.length - a = d → a ≤ p.length → b ≤ q.length → p.length - a = q.length - b → Seg p q a b (p.length - a) →
    Ev (fun f => redpenlaw19_HunksLeast.l2 f p q (a : Int) (b : Int) (m : Int)) true := by
  have hlc := lcs_le p q
  have hmv := moves_script p q
  intro d
  induction d with
  | zero =>
    intro a b hd h1 h2 h3 h4
    refine Ev.step (fun f => ?_) (Ev.bind (f := fun _ t => some ((m : Int) == (wrap64 ((wrap64 ((p.length : Int) + (q.length : Int))) - (wrap64 (2 * t)))))) (common_ev p q (by omega) (by omega)) ⟨0, fun f _ => ?_⟩)
    · simp only [redpenlaw19_HunksLeast.l2]
      rw [if_neg (by omega)]
    · have e1 : ∀ _ : Unit, wrap64 ((p.length : Int) + (q.length : Int)) = ((p.length + q.length : Nat) : Int) := fun _ => hw64 _ _ (by omega) (by omega)
      have e2 : ∀ _ : Unit, wrap64 (2 * (lcs p q : Int)) = ((2 * lcs p q : Nat) : Int) := fun _ => hw64 _ _ (by omega) (by omega)
      show some ((m : Int) == _) = some true
      rw [e1 (), e2 (), hw64 _ m (by omega) (by omega)]
      simp
  | succ d ih =>
    intro a b hd h1 h2 h3 h4
    refine Ev.step (fun f => ?_) (ih (a + 1) (b + 1) (by omega) (by omega) (by omega) (by omega) (fun t ht => by
      have := h4 (t + 1) (by omega)
      rw [show a + 1 + t = a + (t + 1) by omega, show b + 1 + t = b + (t + 1) by omega]
      exact this))
    have h0 := h4 0 (by omega)
    rw [Nat.add_zero, Nat.add_zero] at h0
    have e1 : ∀ _ : Unit, wrap64 ((a : Int) + 1) = ((a + 1 : Nat) : Int) := fun _ => hw64 _ _ (by omega) (by omega)
    have e2 : ∀ _ : Unit, wrap64 ((b : Int) + 1) = ((b + 1 : Nat) : Int) := fun _ => hw64 _ _ (by omega) (by omega)
    simp only [redpenlaw19_HunksLeast.l2]
    rw [if_pos (by omega), if_pos (by omega), if_pos (by omega), if_pos (by omega), ln_at, ln_at, if_pos h0, e1 (), e2 ()]
theorem least_l1 (L : List S39) (i m o os n ns : Nat) (ho : o + os ≤ p.length) (hn : n + ns ≤ q.length) (hm : m ≤ 2000) (hi : i ≤ 10000)
    (cont : Ev (fun f => redpenlaw19_HunksLeast.l0 f p q ((o + os : Nat) : Int) ((n + ns : Nat) : Int) ((m + (os + ns) : Nat) : Int) L (L.length : Int) ((i + 1 : Nat) : Int)) true) :
    ∀ (d a b : Nat), o - a = d → a ≤ o → b ≤ n → o - a = n - b → Seg p q a b (o - a) →
    Ev (fun f => redpenlaw19_HunksLeast.l1 f p q (a : Int) (b : Int) (m : Int) L (L.length : Int) (i : Int) (o : Int) (os : Int) (n : Int) (ns : Int)) true := by
  intro d
  induction d with
  | zero =>
    intro a b hd h1 h2 h3 h4
    refine Ev.step (fun f => ?_) cont
    have e1 : ∀ _ : Unit, wrap64 ((o : Int) + (os : Int)) = ((o + os : Nat) : Int) := fun _ => hw64 _ _ (by omega) (by omega)
    have e2 : ∀ _ : Unit, wrap64 ((n : Int) + (ns : Int)) = ((n + ns : Nat) : Int) := fun _ => hw64 _ _ (by omega) (by omega)
    have e3 : ∀ _ : Unit, wrap64 ((os : Int) + (ns : Int)) = ((os + ns : Nat) : Int) := fun _ => hw64 _ _ (by omega) (by omega)
    have e4 : ∀ _ : Unit, wrap64 ((m : Int) + ((os + ns : Nat) : Int)) = ((m + (os + ns) : Nat) : Int) := fun _ => hw64 _ _ (by omega) (by omega)
    have e5 : ∀ _ : Unit, wrap64 ((i : Int) + 1) = ((i + 1 : Nat) : Int) := fun _ => hw64 _ _ (by omega) (by omega)
    simp only [redpenlaw19_HunksLeast.l1]
    rw [if_neg (by omega), e1 (), e2 (), e3 (), e4 (), e5 ()]
  | succ d ih =>
    intro a b hd h1 h2 h3 h4
    refine Ev.step (fun f => ?_) (ih (a + 1) (b + 1) (by omega) (by omega) (by omega) (by omega) (fun t ht => by
      have := h4 (t + 1) (by omega)
      rw [show a + 1 + t = a + (t + 1) by omega, show b + 1 + t = b + (t + 1) by omega]
      exact this))
    have h0 := h4 0 (by omega)
    rw [Nat.add_zero, Nat.add_zero] at h0
    have e1 : ∀ _ : Unit, wrap64 ((a : Int) + 1) = ((a + 1 : Nat) : Int) := fun _ => hw64 _ _ (by omega) (by omega)
    have e2 : ∀ _ : Unit, wrap64 ((b : Int) + 1) = ((b + 1 : Nat) : Int) := fun _ => hw64 _ _ (by omega) (by omega)
    simp only [redpenlaw19_HunksLeast.l1]
    rw [if_pos (by omega), if_pos (by omega), if_pos (by omega), if_pos (by omega), if_pos (by omega), ln_at, ln_at, if_pos h0, e1 (), e2 ()]
end
theorem rdS_at (L : List S39) (i : Nat) (c : S39) (cs : List S39) (h : L.drop i = c :: cs) : i < L.length ∧ rd_T39 L (i : Int) = c ∧ L.drop (i + 1) = cs := by
  have hl : i < L.length := by
    have := congrArg List.length h
    rw [List.length_drop, List.length_cons] at this
    omega
  rw [List.drop_eq_getElem_cons hl] at h
  injection h with h1 h2
  refine ⟨hl, ?_, h2⟩
  unfold rd_T39
  rw [Int.toNat_natCast, List.getD_eq_getElem?_getD, List.getElem?_eq_getElem hl, ← h1]
  rfl
theorem ite_dup {α : Type} (c : Prop) [Decidable c] (x : α) : (if c then x else x) = x := by split <;> rfl
set_option maxHeartbeats 1600000 in
theorem least_l0 (p q : List ByteArray) (hp : p.length ≤ 1000) (hq : q.length ≤ 1000) (L : List S39) (hL : L.length ≤ 5000) : ∀ (cs : List Ch) (i a b m : Nat) (fst : Bool), L.drop i = cs.map toS → i ≤ L.length → (fst = false ↔ 0 < i) → m ≤ a + b → GoodC p q fst a b m cs (p.length + q.length - 2 * lcs p q) →
    Ev (fun f => redpenlaw19_HunksLeast.l0 f p q (a : Int) (b : Int) (m : Int) L (L.length : Int) (i : Int)) true := by
  intro cs
  induction cs with
  | nil =>
    intro i a b m fst hd hi hf hm hG
    obtain ⟨h1, h2, h3, h4, h5⟩ := hG
    have hl : L.length ≤ i := by
      have := congrArg List.length hd
      rw [List.length_drop, List.map_nil, List.length_nil] at this
      omega
    refine Ev.step (fun f => ?_) (least_l2 p q hp hq m h5.symm _ a b rfl h1 h2 h3 h4)
    have e1 : ∀ _ : Unit, wrap64 ((p.length : Int) - (a : Int)) = ((p.length - a : Nat) : Int) := fun _ => hw64 _ _ (by omega) (by omega)
    have e2 : ∀ _ : Unit, wrap64 ((q.length : Int) - (b : Int)) = ((q.length - b : Nat) : Int) := fun _ => hw64 _ _ (by omega) (by omega)
    simp only [redpenlaw19_HunksLeast.l0]
    rw [if_neg (by omega), e1 (), e2 (), if_pos (by omega)]
  | cons c cs ih =>
    intro i a b m fst hd hi hf hm hG
    obtain ⟨o, os, n, ns, rfl, h1, h2, h3, h4, h5, h6, h7, h8, h9⟩ := hG
    obtain ⟨g1, g2, g3⟩ := rdS_at L i _ _ hd
    have cont := ih (i + 1) (o + os) (n + ns) (m + (os + ns)) false g3 (by omega) ⟨fun _ => by omega, fun _ => rfl⟩ (by omega) h9
    have main := least_l1 p q hp hq L i m o os n ns h6 h7 (by omega) (by omega) cont _ a b rfl h1 h2 h3 h8
    have e1 : ∀ _ : Unit, wrap64 ((o : Int) - (a : Int)) = ((o - a : Nat) : Int) := fun _ => hw64 _ _ (by omega) (by omega)
    have e2 : ∀ _ : Unit, wrap64 ((n : Int) - (b : Int)) = ((n - b : Nat) : Int) := fun _ => hw64 _ _ (by omega) (by omega)
    have e3 : ∀ _ : Unit, wrap64 ((os : Int) + (ns : Int)) = ((os + ns : Nat) : Int) := fun _ => hw64 _ _ (by omega) (by omega)
    have e4 : ∀ _ : Unit, wrap64 ((o : Int) + (os : Int)) = ((o + os : Nat) : Int) := fun _ => hw64 _ _ (by omega) (by omega)
    have e5 : ∀ _ : Unit, wrap64 ((n : Int) + (ns : Int)) = ((n + ns : Nat) : Int) := fun _ => hw64 _ _ (by omega) (by omega)
    have k0 : (rd_T39 L (i : Int)).f0 = (o : Int) := by rw [g2]; rfl
    have k1 : (rd_T39 L (i : Int)).f1 = (os : Int) := by rw [g2]; rfl
    have k2 : (rd_T39 L (i : Int)).f2 = (n : Int) := by rw [g2]; rfl
    have k3 : (rd_T39 L (i : Int)).f3 = (ns : Int) := by rw [g2]; rfl
    refine Ev.step (f := fun f => redpenlaw19_HunksLeast.j1 f p q (a : Int) (b : Int) (m : Int) L (L.length : Int) (i : Int) false (o : Int) (os : Int) (n : Int) (ns : Int)) (fun f => ?_) (Ev.step (fun f => ?_) main)
    · simp only [redpenlaw19_HunksLeast.l0]
      rw [k0, k1, k2, k3, e1 (), e2 (), e3 (), e4 (), e5 ()]
      rw [if_pos (by omega), if_pos (by omega), if_pos (by omega), if_pos (by omega), if_neg (by omega)]
      by_cases hi0 : (i : Int) > 0
      · have hao := h4 (hf.2 (by omega))
        rw [if_pos hi0, if_neg (by omega), if_neg (by omega), if_neg (by omega), if_neg (by omega), if_neg (by omega), decide_eq_false (by omega)]
      · rw [if_neg hi0, if_neg (by omega), if_neg (by omega), if_neg (by omega), if_neg (by omega), decide_eq_false (by omega)]
    · simp only [redpenlaw19_HunksLeast.j1]
      rw [if_neg (by simp)]
theorem HunksLeast : redpenlaw19_HunksLeast.Pure := by
  intro l0 l1 a2 a3 h0 h0' hB0 h1 h1' hB1
  obtain ⟨s, hs, hsB, hsl⟩ := text_ev l0 (tx_wf hB0) (by omega) a2
  obtain ⟨t, ht, htB, htl⟩ := text_ev l1 (tx_wf hB1) (by omega) a3
  have cs := ls_count s
  have ct := ls_count t
  have lp : ((ls s).map strOfNums).length ≤ 1000 := by rw [List.length_map]; omega
  have lq : ((ls t).map strOfNums).length ≤ 1000 := by rw [List.length_map]; omega
  have hP : Ev (fun f => redpenref01_Lines.f f s) ((ls s).map strOfNums) := ⟨s.length + 1, fun k hk => reflines_eq (by omega) (by omega)⟩
  have hQ : Ev (fun f => redpenref01_Lines.f f t) ((ls t).map strOfNums) := ⟨t.length + 1, fun k hk => reflines_eq (by omega) (by omega)⟩
  generalize (ls s).map strOfNums = P at *
  generalize (ls t).map strOfNums = Q at *
  have hC := changes_ev P Q (by omega) (by omega)
  have hG := chgs_good P Q lp lq
  have hlen : ((chgs P Q).map toS).length ≤ 5000 := by
    rw [List.length_map]
    have := chgs_len P Q
    omega
  have main := least_l0 P Q lp lq _ hlen (chgs P Q) 0 0 0 0 true rfl (Nat.zero_le _) ⟨fun h => (by cases h), fun h => (by omega)⟩ (Nat.zero_le _) hG
  refine Ev.rounds (Ev.bind hunks_awake ?_)
  simp only [if_true]
  exact Ev.bind hs (Ev.bind hP (Ev.bind ht (Ev.bind hQ (Ev.bind hC main))))
end Go.Proofs.Ytokgkhndhlcfpaa.Pure
