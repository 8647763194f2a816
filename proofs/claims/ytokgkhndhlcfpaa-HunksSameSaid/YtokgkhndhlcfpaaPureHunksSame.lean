/- HunksSame: no hunks just if nothing differs; each has a change, its numbers are its lines'; they rise, apart. For any bytes, and any context. No condition beyond the statement's own. -/
import Derived.Test.YtokgkhndhlcfpaaBMakeHunksSame
import Derived.Test.YtokgkhndhlcfpaaBTxHunksSame
namespace Go.Proofs.Ytokgkhndhlcfpaa.Pure
open Go.RowKit Go.Proofs.Ytokgkhndhlcfpaa.PHunksSame Go.Proofs.YtokgkhndhlcfpaaW.PrintWords Go.Proofs.YtokgkhndhlcfpaaW.PrintLast
open Go.Proofs.Ytokgkhndhlcfpaa.M Go.Proofs.Ytokgkhndhlcfpaa.X
set_option linter.unusedVariables false
set_option linter.unusedSimpArgs false

theorem hunks_awake : Ev (fun f => redpenlaw19_Awake.f f) true := Ev.of redpenlaw19_Awake.mono (k := 60) (by decide +kernel)
theorem chgs_self (P : List ByteArray) : chgs P P = [] := by
  have h : ∀ P : List ByteArray, pre P P = P.length := by
    intro P
    induction P with
    | nil => rfl
    | cons a t ih => rw [pre_cons, if_pos rfl, ih]; rfl
  unfold chgs
  simp only [h P, List.drop_length]
  rw [strip_neg [] [] (fun h => by have := h.1; simp at this)]
  simp only [List.length_nil]
  rw [if_neg (by omega), script_nil]
  show flushed _ = []
  unfold flushed
  exact if_neg (by simp)
theorem bytes_lines {p : List Int} (hp : BT p) : p = (((ls p).map strOfNums).map bytesOf).flatten := by
  have h : ((ls p).map strOfNums).map bytesOf = ls p := by
    rw [List.map_map]
    have : ∀ l ∈ ls p, (bytesOf ∘ strOfNums) l = id l := by
      intro l hl
      refine bytesOf_strOfNums (fun x hx => hp x ?_)
      rw [← ls_flat p]
      exact List.mem_flatten.2 ⟨l, hl, hx⟩
    rw [List.map_congr_left this, List.map_id]
  rw [h, ls_flat]
theorem chgs_none {p q : List Int} (hp : BT p) (hq : BT q) (lp : p.length ≤ 1000) (lq : q.length ≤ 1000) : chgs ((ls p).map strOfNums) ((ls q).map strOfNums) = [] ↔ p = q := by
  constructor
  · intro h
    have cp := ls_count p
    have cq := ls_count q
    have hG := chgs_good ((ls p).map strOfNums) ((ls q).map strOfNums) (by rw [List.length_map]; omega) (by rw [List.length_map]; omega)
    rw [h] at hG
    obtain ⟨g1, g2, g3, g4, g5⟩ := hG
    have key : (ls p).map strOfNums = (ls q).map strOfNums := by
      apply List.ext_getElem (by omega)
      intro i h1 h2
      have := g4 i (by omega)
      rw [Nat.zero_add] at this
      unfold ln at this
      rw [List.getD_eq_getElem?_getD, List.getD_eq_getElem?_getD, List.getElem?_eq_getElem h1, List.getElem?_eq_getElem h2] at this
      exact ba_ext this
    rw [bytes_lines hp, bytes_lines hq, key]
  · intro h
    subst h
    exact chgs_self _
section
variable (x11 x12 : List Int) (L S : List S53) (hfin : S = []) (ht : ((L.length : Int) == 0) == ((strOfNums x11).toList == (strOfNums x12).toList))
theorem same_l1 (a b g : Nat) (h : Hk) (o os n ns : Nat) (e1 : a ≤ o) (e2 : b ≤ n) (e3 : o - a = n - b) (e4 : o + os ≤ 10000) (e5 : n + ns ≤ 20000) (hg : g ≤ 100000) (hl : h.ls.length ≤ 20000)
    (cont : Ev (fun f => redpenlaw19_HunksSame.l0 f x11 x12 L 0 S 0 ((o + os : Nat) : Int) ((n + ns : Nat) : Int) L (L.length : Int) ((g + 1 : Nat) : Int)) true) :
    ∀ (d j u v w : Nat), h.ls.length - j = d → j ≤ h.ls.length → u + (h.ls.length - j) = cntM 43 (h.ls.drop j) + os → v + (h.ls.length - j) = cntM 45 (h.ls.drop j) + ns → 0 < w + cntM 43 (h.ls.drop j) + cntM 45 (h.ls.drop j) → u ≤ j → v ≤ j → w ≤ j →
    Ev (fun f => redpenlaw19_HunksSame.l1 f x11 x12 L 0 S 0 (a : Int) (b : Int) (u : Int) (v : Int) (w : Int) L (L.length : Int) (g : Int) (h.ls.map toL) ((h.ls.map toL).length : Int) (j : Int) (o : Int) (os : Int) (n : Int) (ns : Int) (h.ls.map toL)) true := by
  intro d
  induction d with
  | zero =>
    intro j u v w hd hj hu hv hw k1 k2 k3
    obtain rfl : j = h.ls.length := by omega
    rw [List.drop_length] at hu hv hw
    have z : ∀ sg, cntM sg ([] : List Ln) = 0 := fun sg => rfl
    rw [z] at hu hv
    rw [z, z] at hw
    have f1 : ∀ _ : Unit, wrap64 ((o : Int) - (a : Int)) = ((o - a : Nat) : Int) := fun _ => hw64 _ _ (by omega) (by omega)
    have f2 : ∀ _ : Unit, wrap64 ((n : Int) - (b : Int)) = ((n - b : Nat) : Int) := fun _ => hw64 _ _ (by omega) (by omega)
    have f3 : ∀ _ : Unit, wrap64 ((o : Int) + (os : Int)) = ((o + os : Nat) : Int) := fun _ => hw64 _ _ (by omega) (by omega)
    have f4 : ∀ _ : Unit, wrap64 ((n : Int) + (ns : Int)) = ((n + ns : Nat) : Int) := fun _ => hw64 _ _ (by omega) (by omega)
    have f5 : ∀ _ : Unit, wrap64 ((g : Int) + 1) = ((g + 1 : Nat) : Int) := fun _ => hw64 _ _ (by omega) (by omega)
    refine Ev.step (fun f => ?_) cont
    simp only [redpenlaw19_HunksSame.l1]
    rw [List.length_map, if_neg (by omega), if_pos (by omega), if_pos (by omega), if_neg (by omega), if_neg (by omega), if_neg (by omega), f1 (), f2 (), if_pos (by omega), f3 (), f4 (), f5 ()]
  | succ d ih =>
    intro j u v w hd hj hu hv hw k1 k2 k3
    have hlt : j < h.ls.length := by omega
    rw [List.drop_eq_getElem_cons hlt, cntM_cons] at hu hv
    rw [List.drop_eq_getElem_cons hlt, cntM_cons, cntM_cons] at hw
    have hr : (rd_T55 (h.ls.map toL) (j : Int)).f0 = h.ls[j].sg := by
      unfold rd_T55
      rw [Int.toNat_natCast, List.getD_eq_getElem?_getD, List.getElem?_map, List.getElem?_eq_getElem hlt]
      rfl
    have f1 : ∀ _ : Unit, wrap64 ((j : Int) + 1) = ((j + 1 : Nat) : Int) := fun _ => hw64 _ _ (by omega) (by omega)
    have f2 : ∀ _ : Unit, wrap64 ((u : Int) + 1) = ((u + 1 : Nat) : Int) := fun _ => hw64 _ _ (by omega) (by omega)
    have f3 : ∀ _ : Unit, wrap64 ((v : Int) + 1) = ((v + 1 : Nat) : Int) := fun _ => hw64 _ _ (by omega) (by omega)
    have f4 : ∀ _ : Unit, wrap64 ((w : Int) + 1) = ((w + 1 : Nat) : Int) := fun _ => hw64 _ _ (by omega) (by omega)
    by_cases h45 : h.ls[j].sg = 45
    · have h43 : ¬ h.ls[j].sg = 43 := by omega
      rw [if_neg h43] at hu hw
      rw [if_pos h45] at hv hw
      refine Ev.step (fun f => ?_) (ih (j + 1) (u + 1) v (w + 1) (by omega) (by omega) (by omega) (by omega) (by omega) (by omega) (by omega) (by omega))
      simp only [redpenlaw19_HunksSame.l1]
      rw [List.length_map, if_pos (by omega), if_pos (by omega), if_pos (by omega), hr, if_pos h45, f1 (), f2 (), f4 ()]
    · by_cases h43 : h.ls[j].sg = 43
      · rw [if_pos h43] at hu hw
        rw [if_neg h45] at hv hw
        refine Ev.step (fun f => ?_) (ih (j + 1) u (v + 1) (w + 1) (by omega) (by omega) (by omega) (by omega) (by omega) (by omega) (by omega) (by omega))
        simp only [redpenlaw19_HunksSame.l1]
        rw [List.length_map, if_pos (by omega), if_pos (by omega), if_pos (by omega), hr, if_neg h45, if_pos h43, f1 (), f3 (), f4 ()]
      · rw [if_neg h43] at hu hw
        rw [if_neg h45] at hv hw
        refine Ev.step (fun f => ?_) (ih (j + 1) (u + 1) (v + 1) w (by omega) (by omega) (by omega) (by omega) (by omega) (by omega) (by omega) (by omega))
        simp only [redpenlaw19_HunksSame.l1]
        rw [List.length_map, if_pos (by omega), if_pos (by omega), if_pos (by omega), hr, if_neg h45, if_neg h43, f1 (), f2 (), f3 ()]
include hfin ht
theorem same_l0 (hL : L.length ≤ 100000) : ∀ (hs : List Hk) (i a b : Nat), L.drop i = hs.map toH → i ≤ L.length → HkGood a b hs →
    Ev (fun f => redpenlaw19_HunksSame.l0 f x11 x12 L 0 S 0 (a : Int) (b : Int) L (L.length : Int) (i : Int)) true := by
  intro hs
  induction hs with
  | nil =>
    intro i a b hd hi hG
    have hl : L.length ≤ i := by
      have := congrArg List.length hd
      rw [List.length_drop, List.map_nil, List.length_nil] at this
      omega
    refine Ev.step (f := fun _ => some true) (fun f => ?_) (Ev.now _)
    simp only [redpenlaw19_HunksSame.l0]
    rw [if_neg (by omega), if_pos trivial, if_pos trivial, if_pos (by rw [hfin]; rfl), ht]
  | cons h hs ih =>
    intro i a b hd hi hG
    obtain ⟨o, os, n, ns, h1, h2, h3, h4, h5, h6, h7, h8, h9, h10, h11, h12, h13, h14⟩ := hG
    have hlt : i < L.length := by
      have := congrArg List.length hd
      rw [List.length_drop, List.map_cons, List.length_cons] at this
      omega
    have hget : L[i] = toH h ∧ L.drop (i + 1) = hs.map toH := by
      rw [List.drop_eq_getElem_cons hlt] at hd
      injection hd with d1 d2
      exact ⟨d1, d2⟩
    have hr : rd_T53 L (i : Int) = toH h := by
      unfold rd_T53
      rw [Int.toNat_natCast, List.getD_eq_getElem?_getD, List.getElem?_eq_getElem hlt, hget.1]
      rfl
    have main := same_l1 x11 x12 L S a b i h o os n ns h5 h6 h7 h12 h13 (by omega) h11 (ih (i + 1) (o + os) (n + ns) hget.2 (by omega) h14) _ 0 0 0 0 rfl (Nat.zero_le _) (by rw [List.drop_zero]; omega) (by rw [List.drop_zero]; omega) (by rw [List.drop_zero]; omega) (Nat.le_refl _) (Nat.le_refl _) (Nat.le_refl _)
    refine Ev.step (fun f => ?_) main
    simp only [redpenlaw19_HunksSame.l0]
    rw [if_pos (by omega), if_pos (by omega), if_pos (by omega), hr]
    simp only [toH]
    rw [h1, h2, h3, h4]
    rfl
end
theorem HunksSame : redpenlaw19_HunksSame.Pure := by
  intro l0 l1 a2 a3 a4 h0 h0' hB0 h1 h1' hB1 h4
  have b4 : 0 ≤ a4 ∧ a4 < 256 := by simp [Lit.wf, IntKind.min, IntKind.max, IntKind.signed, IntKind.bits] at h4; omega
  have t4 : Int.tmod a4 17 = a4 % 17 := Int.tmod_eq_emod_of_nonneg b4.1
  obtain ⟨c, hc, hc16⟩ : ∃ c : Nat, a4 % 17 = (c : Int) ∧ c ≤ 16 := ⟨(a4 % 17).toNat, by omega, by omega⟩
  have e4 : wrap64 (Int.tmod a4 17) = (c : Int) := hw64 _ _ (t4.trans hc) (by omega)
  clear t4 hc
  obtain ⟨p, hp, hpB, hpl⟩ := text_ev l0 (tx_wf hB0) (by omega) a2
  obtain ⟨q, hq, hqB, hql⟩ := text_ev l1 (tx_wf hB1) (by omega) a3
  have m1 := make_ev p q (by omega) (by omega) c hc16
  have m2 := make_ev p p (by omega) (by omega) c hc16
  have hno := chgs_none hpB hqB (by omega) (by omega)
  rw [chgs_self, makeM_nil, List.map_nil] at m2
  have cp := ls_count p
  have cq := ls_count q
  have lP : ((ls p).map strOfNums).length ≤ 1000 := by rw [List.length_map]; omega
  have lQ : ((ls q).map strOfNums).length ≤ 1000 := by rw [List.length_map]; omega
  generalize (ls p).map strOfNums = P at *
  generalize (ls q).map strOfNums = Q at *
  have hG := chgs_good P Q lP lQ
  have hk := make_good P Q lP lQ c hc16 _ (chgs P Q) true 0 0 0 _ 0 0 (Nat.le_refl _) hG (.inr ⟨rfl, rfl, rfl, rfl⟩)
  have hlen := makeM_len P Q c _ (chgs P Q) (Nat.le_refl _)
  have hcl := chgs_len P Q
  have hem := makeM_empty P Q c (chgs P Q)
  have ht : (((((makeM P Q c (chgs P Q)).map toH).length : Int) == 0) == ((strOfNums p).toList == (strOfNums q).toList)) = true := by
    rw [strOfNums_beq hpB hqB, List.length_map, beq_iff_eq, Bool.eq_iff_iff, beq_iff_eq, beq_iff_eq]
    rw [← hno, ← hem]
    constructor
    · intro h
      exact List.eq_nil_of_length_eq_zero (by omega)
    · intro h
      rw [h]; rfl
  have main := same_l0 p q ((makeM P Q c (chgs P Q)).map toH) [] rfl ht (by rw [List.length_map]; omega) (makeM P Q c (chgs P Q)) 0 0 0 rfl (Nat.zero_le _) hk
  refine Ev.rounds (Ev.bind hunks_awake ?_)
  simp only [if_true, e4]
  refine Ev.bind hp (Ev.bind hq (Ev.bind m1 ?_))
  simp only [Option.bind_some, List.nil_append]
  rw [show ([] : List Int).length + p.length = p.length from Nat.zero_add _]
  simp only [if_pos (show p.length < 140737488355328 by omega)]
  exact Ev.bind m2 main
end Go.Proofs.Ytokgkhndhlcfpaa.Pure
