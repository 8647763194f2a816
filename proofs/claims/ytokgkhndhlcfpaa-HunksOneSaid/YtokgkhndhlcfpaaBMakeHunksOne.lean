/- hunks.hunk and hunks.Make, as printed, tell the plain hunks. -/
import Derived.Test.YtokgkhndhlcfpaaBHunksHunksOne
import Derived.Test.YtokgkhndhlcfpaaBSplHunksOne
import Derived.Test.YtokgkhndhlcfpaaMHunks3
namespace Go.Proofs.Ytokgkhndhlcfpaa.Pure
open Go.RowKit Go.Proofs.Ytokgkhndhlcfpaa.PHunksOne Go.Proofs.YtokgkhndhlcfpaaW.PrintWords Go.Proofs.YtokgkhndhlcfpaaW.PrintLast Go.Proofs.YtokgkhndhlcfpaaW.PrintMore
open Go.Proofs.Ytokgkhndhlcfpaa.M Go.Proofs.Ytokgkhndhlcfpaa.X
set_option linter.unusedVariables false
set_option linter.unusedSimpArgs false

/-- Lines that are not too long. -/
def Short (P : List ByteArray) : Prop := ∀ i : Nat, (P.getD i ByteArray.empty).size ≤ 1000000
def toL (l : Ln) : S55 := ⟨l.sg, l.tx, l.br⟩
def toH (h : Hk) : S53 := ⟨h.o, h.os, h.n, h.ns, h.ls.map toL⟩
theorem line_eq (sg : Int) (s : ByteArray) (h : s.size ≤ 1000000) : hunks_line.f sg s = some ((lineM sg s).sg, (lineM sg s).tx, (lineM sg s).br) := by
  have e : (⟨#[10]⟩ : ByteArray).size = 1 := rfl
  have hs : stringslite_HasSuffix.f s (⟨#[10]⟩ : ByteArray) = some (nlEnd s) := by
    unfold stringslite_HasSuffix.f nlEnd
    rw [e]
    by_cases h1 : 1 ≤ s.size
    · have e1 : wrap64 ((s.size : Int) - ((1 : Nat) : Int)) = ((s.size - 1 : Nat) : Int) := hw64 _ _ (by omega) (by omega)
      rw [if_pos (by omega), e1, if_pos (by omega), if_pos (by omega), if_pos h1, Int.toNat_natCast]
    · rw [if_neg (by omega), if_neg h1]
  unfold hunks_line.f strings_CutSuffix.f stringslite_CutSuffix.f
  rw [hs]
  simp only [Option.bind_some]
  unfold lineM
  by_cases h2 : nlEnd s = true
  · have h1 : 1 ≤ s.size := by
      by_cases h1 : 1 ≤ s.size
      · exact h1
      · unfold nlEnd at h2; rw [if_neg h1] at h2; cases h2
    have e1 : wrap64 ((s.size : Int) - ((1 : Nat) : Int)) = ((s.size - 1 : Nat) : Int) := hw64 _ _ (by omega) (by omega)
    rw [if_pos h2, if_pos h2, e, e1, if_pos (by omega), if_pos (by omega), Int.toNat_natCast]
    rfl
  · rw [if_neg h2, if_neg h2]
    rfl
theorem piece_short {P : List ByteArray} (h : Short P) (a b : Nat) : Short (piece P a b) := by
  intro i
  unfold piece
  rw [List.getD_eq_getElem?_getD, List.getElem?_drop, List.getElem?_take]
  split
  · have := h (a + i)
    rw [List.getD_eq_getElem?_getD] at this
    exact this
  · show ByteArray.empty.size ≤ _
    exact Nat.zero_le _
theorem piece_eq (P : List ByteArray) (a b : Nat) : (P.take (b : Int).toNat).drop (a : Int).toNat = piece P a b := by
  rw [Int.toNat_natCast, Int.toNat_natCast]; rfl
theorem put_snoc (y : List ByteArray) (sg : Int) (acc : List S55) (i : Nat) (hi : i < y.length) (r : List S55) (h : r = acc ++ ((y.drop i).map (lineM sg)).map toL) : r = (acc ++ [(⟨(lineM sg y[i]).sg, (lineM sg y[i]).tx, (lineM sg y[i]).br⟩ : S55)]) ++ ((y.drop (i + 1)).map (lineM sg)).map toL := by
  rw [h, List.drop_eq_getElem_cons hi, List.map_cons, List.map_cons, List.append_assoc]
  rfl
theorem rdOf_short {y : List ByteArray} (h : Short y) (i : Nat) (hi : i < y.length) : y[i].size ≤ 1000000 := by
  have := h i
  rw [List.getD_eq_getElem?_getD, List.getElem?_eq_getElem hi] at this
  exact this
theorem cnt_from (sg : Int) (L : List Ln) (hL : L.length ≤ 1000000) : ∀ (d i c : Nat), L.length - i = d → i ≤ L.length → c ≤ i → Ev (fun f => hunks_count.l0 f sg (c : Int) (L.map toL) (L.length : Int) (i : Int)) ((c + cntM sg (L.drop i) : Nat) : Int) := by
  intro d
  induction d with
  | zero =>
    intro i c hd hi hc
    obtain rfl : i = L.length := by omega
    rw [List.drop_length]
    refine Ev.step (f := fun _ => some (c : Int)) (fun f => ?_) (Ev.now _)
    simp only [hunks_count.l0]
    rw [if_neg (by omega)]
  | succ d ih =>
    intro i c hd hi hc
    have hlt : i < L.length := by omega
    have e1 : ∀ _ : Unit, wrap64 ((i : Int) + 1) = ((i + 1 : Nat) : Int) := fun _ => hw64 _ _ (by omega) (by omega)
    have e2 : ∀ _ : Unit, wrap64 ((c : Int) + 1) = ((c + 1 : Nat) : Int) := fun _ => hw64 _ _ (by omega) (by omega)
    have hr : (rd_T55 (L.map toL) (i : Int)).f0 = L[i].sg := by
      unfold rd_T55
      rw [Int.toNat_natCast, List.getD_eq_getElem?_getD, List.getElem?_map, List.getElem?_eq_getElem hlt]
      rfl
    rw [List.drop_eq_getElem_cons hlt]
    by_cases h : L[i].sg = sg
    · have := ih (i + 1) (c + 1) (by omega) (by omega) (by omega)
      rw [show c + cntM sg (L[i] :: L.drop (i + 1)) = c + 1 + cntM sg (L.drop (i + 1)) by rw [cntM_cons, if_pos h]; omega]
      refine Ev.step (fun f => ?_) this
      simp only [hunks_count.l0]
      rw [if_pos (by omega), if_pos (by omega), if_pos (by rw [List.length_map]; omega), hr, if_pos h, e1 (), e2 ()]
    · have := ih (i + 1) c (by omega) (by omega) (by omega)
      rw [show c + cntM sg (L[i] :: L.drop (i + 1)) = c + cntM sg (L.drop (i + 1)) by rw [cntM_cons, if_neg h]]
      refine Ev.step (fun f => ?_) this
      simp only [hunks_count.l0]
      rw [if_pos (by omega), if_pos (by omega), if_pos (by rw [List.length_map]; omega), hr, if_neg h, e1 ()]
theorem count_ev (sg : Int) (L : List Ln) (hL : L.length ≤ 1000000) : Ev (fun f => hunks_count.f f (L.map toL) sg) (cntM sg L : Int) := by
  have := cnt_from sg L hL _ 0 0 rfl (Nat.zero_le _) (Nat.le_refl _)
  rw [List.drop_zero, Nat.zero_add] at this
  refine Ev.congr (fun f => ?_) this
  unfold hunks_count.f
  rw [List.length_map]
  rfl
theorem hunk_l4 (P Q : List ByteArray) (hP : P.length ≤ 10000) (hQ : Q.length ≤ 10000) (sP : Short P) (sQ : Short Q) (ctx : Nat) (hctx : ctx ≤ 16) (h0 h2 : Int) (y : List ByteArray) (hy : y.length ≤ 10000) (sy : Short y) (L : List Ln) (hL : L.length ≤ 100000) : ∀ (d i : Nat) (acc : List S55), y.length - i = d → i ≤ y.length → acc.length ≤ 60000 + i → L.map toL = acc ++ ((y.drop i).map (lineM 32)).map toL →
    Ev (fun f => hunks_hunk.l4 f y (y.length : Int) (i : Int) h0 0 h2 0 acc) (h0, (L.length : Int) - (cntM 43 L : Int), h2, (L.length : Int) - (cntM 45 L : Int), L.map toL) := by
  intro d
  induction d with
  | zero =>
    intro i acc hd hi ha he
    obtain rfl : i = y.length := by omega
    rw [List.drop_length, List.map_nil, List.map_nil, List.append_nil] at he
    subst he
    have c1 := cntM_le 43 L
    have c2 := cntM_le 45 L
    have g1 := count_ev 43 L (by omega)
    have g2 := count_ev 45 L (by omega)
    refine Ev.step (fun f => ?_) (Ev.bind (f := fun f t => (hunks_count.f f (L.map toL) 45).bind fun t2 => some (h0, wrap64 (((L.map toL).length : Int) - t), h2, wrap64 (((L.map toL).length : Int) - t2), L.map toL)) g1 (Ev.bind g2 ⟨0, fun f _ => ?_⟩))
    · simp only [hunks_hunk.l4]
      rw [if_neg (by omega)]
    · simp only
      rw [List.length_map, w64 (by omega) (by omega), w64 (by omega) (by omega)]
  | succ d ih =>
    intro i acc hd hi ha he
    have hlt : i < y.length := by omega
    have e1 : ∀ _ : Unit, wrap64 ((i : Int) + 1) = ((i + 1 : Nat) : Int) := fun _ => hw64 _ _ (by omega) (by omega)
    refine Ev.step (fun f => ?_) (ih (i + 1) (acc ++ [(⟨(lineM 32 y[i]).sg, (lineM 32 y[i]).tx, (lineM 32 y[i]).br⟩ : S55)]) (by omega) (by omega) (by rw [List.length_append, List.length_singleton]; omega) (put_snoc y 32 acc i hlt _ he))
    simp only [hunks_hunk.l4]
    rw [if_pos (by omega), if_pos (by omega), if_pos (by omega), rdOf_at y i hlt, line_eq 32 y[i] (rdOf_short sy i hlt), e1 ()]
    simp only [Option.bind_some]
    rw [if_pos (by omega)]
set_option maxHeartbeats 800000 in
theorem hunk_l3 (P Q : List ByteArray) (hP : P.length ≤ 10000) (hQ : Q.length ≤ 10000) (sP : Short P) (sQ : Short Q) (ctx : Nat) (hctx : ctx ≤ 16) (h0 h2 : Int) (G : List S39) (gl : Int) (g o os n ns : Nat) (hg : g ≤ 100000) (ho : o ≤ 100000) (h3 : o + os ≤ P.length) (h4 : n + ns ≤ Q.length) (hz : 0 ≤ ctx) {r : Int × Int × Int × Int × List S55} (y : List ByteArray) (hy : y.length ≤ 10000) (sy : Short y) {acc0 : List S55}
    (cont : Ev (fun f => hunks_hunk.l0 f P Q (ctx : Int) ((o + os : Nat) : Int) G gl ((g + 1 : Nat) : Int) h0 0 h2 0 (acc0 ++ (y.map (lineM 43)).map toL)) r) : ∀ (d i : Nat) (_ : y.length - i = d) (_ : i ≤ y.length) (acc : List S55) (_ : acc.length ≤ 60000 + i) (_ : acc0 ++ (y.map (lineM 43)).map toL = acc ++ ((y.drop i).map (lineM 43)).map toL),
    Ev (fun f => hunks_hunk.l3 f P Q (ctx : Int) G gl (g : Int) y (y.length : Int) (i : Int) h0 0 h2 0 acc (o : Int) (os : Int) (n : Int) (ns : Int)) r := by
  intro d
  induction d with
  | zero =>
    intro i hd hi acc ha he
    obtain rfl : i = y.length := by omega
    rw [List.drop_length, List.map_nil, List.map_nil, List.append_nil] at he
    have e4 : ∀ _ : Unit, wrap64 ((o : Int) + (os : Int)) = ((o + os : Nat) : Int) := fun _ => hw64 _ _ (by omega) (by omega)
    have e5 : ∀ _ : Unit, wrap64 ((n : Int) + (ns : Int)) = ((n + ns : Nat) : Int) := fun _ => hw64 _ _ (by omega) (by omega)
    have e6 : ∀ _ : Unit, wrap64 ((g : Int) + 1) = ((g + 1 : Nat) : Int) := fun _ => hw64 _ _ (by omega) (by omega)
    refine Ev.step (fun f => ?_) cont
    · simp only [hunks_hunk.l3]
      rw [if_neg (by omega), e4 (), e6 (), ← he]
  | succ d ih =>
    intro i hd hi acc ha he
    have hlt : i < y.length := by omega
    have e1 : ∀ _ : Unit, wrap64 ((i : Int) + 1) = ((i + 1 : Nat) : Int) := fun _ => hw64 _ _ (by omega) (by omega)
    refine Ev.step (fun f => ?_) (ih (i + 1) (by omega) (by omega) (acc ++ [(⟨(lineM 43 y[i]).sg, (lineM 43 y[i]).tx, (lineM 43 y[i]).br⟩ : S55)]) (by rw [List.length_append, List.length_singleton]; omega) (put_snoc y 43 acc i hlt _ he))
    simp only [hunks_hunk.l3]
    rw [if_pos (by omega), if_pos (by omega), if_pos (by omega), rdOf_at y i hlt, line_eq 43 y[i] (rdOf_short sy i hlt), e1 ()]
    simp only [Option.bind_some]
    rw [if_pos (by omega)]
set_option maxHeartbeats 800000 in
theorem hunk_l2 (P Q : List ByteArray) (hP : P.length ≤ 10000) (hQ : Q.length ≤ 10000) (sP : Short P) (sQ : Short Q) (ctx : Nat) (hctx : ctx ≤ 16) (h0 h2 : Int) (G : List S39) (gl : Int) (g o os n ns : Nat) (hg : g ≤ 100000) (ho : o ≤ 100000) (h3 : o + os ≤ P.length) (h4 : n + ns ≤ Q.length) (hz : 0 ≤ ctx) {r : Int × Int × Int × Int × List S55} (y : List ByteArray) (hy : y.length ≤ 10000) (sy : Short y) {acc0 : List S55}
    (cont : Ev (fun f => hunks_hunk.l3 f P Q (ctx : Int) G gl (g : Int) (piece Q n (n + ns)) ((piece Q n (n + ns)).length : Int) ((0 : Nat) : Int) h0 0 h2 0 (acc0 ++ (y.map (lineM 45)).map toL) (o : Int) (os : Int) (n : Int) (ns : Int)) r) : ∀ (d i : Nat) (_ : y.length - i = d) (_ : i ≤ y.length) (acc : List S55) (_ : acc.length ≤ 60000 + i) (_ : acc0 ++ (y.map (lineM 45)).map toL = acc ++ ((y.drop i).map (lineM 45)).map toL),
    Ev (fun f => hunks_hunk.l2 f P Q (ctx : Int) G gl (g : Int) y (y.length : Int) (i : Int) h0 0 h2 0 acc (o : Int) (os : Int) (n : Int) (ns : Int)) r := by
  intro d
  induction d with
  | zero =>
    intro i hd hi acc ha he
    obtain rfl : i = y.length := by omega
    rw [List.drop_length, List.map_nil, List.map_nil, List.append_nil] at he
    have e4 : ∀ _ : Unit, wrap64 ((o : Int) + (os : Int)) = ((o + os : Nat) : Int) := fun _ => hw64 _ _ (by omega) (by omega)
    have e5 : ∀ _ : Unit, wrap64 ((n : Int) + (ns : Int)) = ((n + ns : Nat) : Int) := fun _ => hw64 _ _ (by omega) (by omega)
    have e6 : ∀ _ : Unit, wrap64 ((g : Int) + 1) = ((g + 1 : Nat) : Int) := fun _ => hw64 _ _ (by omega) (by omega)
    refine Ev.step (fun f => ?_) cont
    · simp only [hunks_hunk.l2]
      rw [if_neg (by omega), e5 (), if_pos (by omega), if_pos (by omega), if_pos (by omega), piece_eq, ← he]
      rfl
  | succ d ih =>
    intro i hd hi acc ha he
    have hlt : i < y.length := by omega
    have e1 : ∀ _ : Unit, wrap64 ((i : Int) + 1) = ((i + 1 : Nat) : Int) := fun _ => hw64 _ _ (by omega) (by omega)
    refine Ev.step (fun f => ?_) (ih (i + 1) (by omega) (by omega) (acc ++ [(⟨(lineM 45 y[i]).sg, (lineM 45 y[i]).tx, (lineM 45 y[i]).br⟩ : S55)]) (by rw [List.length_append, List.length_singleton]; omega) (put_snoc y 45 acc i hlt _ he))
    simp only [hunks_hunk.l2]
    rw [if_pos (by omega), if_pos (by omega), if_pos (by omega), rdOf_at y i hlt, line_eq 45 y[i] (rdOf_short sy i hlt), e1 ()]
    simp only [Option.bind_some]
    rw [if_pos (by omega)]
set_option maxHeartbeats 800000 in
theorem hunk_l1 (P Q : List ByteArray) (hP : P.length ≤ 10000) (hQ : Q.length ≤ 10000) (sP : Short P) (sQ : Short Q) (ctx : Nat) (hctx : ctx ≤ 16) (h0 h2 : Int) (G : List S39) (gl : Int) (g o os n ns : Nat) (hg : g ≤ 100000) (ho : o ≤ 100000) (h3 : o + os ≤ P.length) (h4 : n + ns ≤ Q.length) (hz : 0 ≤ ctx) {r : Int × Int × Int × Int × List S55} (y : List ByteArray) (hy : y.length ≤ 10000) (sy : Short y) {acc0 : List S55}
    (cont : Ev (fun f => hunks_hunk.l2 f P Q (ctx : Int) G gl (g : Int) (piece P o (o + os)) ((piece P o (o + os)).length : Int) ((0 : Nat) : Int) h0 0 h2 0 (acc0 ++ (y.map (lineM 32)).map toL) (o : Int) (os : Int) (n : Int) (ns : Int)) r) : ∀ (d i : Nat) (_ : y.length - i = d) (_ : i ≤ y.length) (acc : List S55) (_ : acc.length ≤ 60000 + i) (_ : acc0 ++ (y.map (lineM 32)).map toL = acc ++ ((y.drop i).map (lineM 32)).map toL),
    Ev (fun f => hunks_hunk.l1 f P Q (ctx : Int) G gl (g : Int) y (y.length : Int) (i : Int) h0 0 h2 0 acc (o : Int) (os : Int) (n : Int) (ns : Int)) r := by
  intro d
  induction d with
  | zero =>
    intro i hd hi acc ha he
    obtain rfl : i = y.length := by omega
    rw [List.drop_length, List.map_nil, List.map_nil, List.append_nil] at he
    have e4 : ∀ _ : Unit, wrap64 ((o : Int) + (os : Int)) = ((o + os : Nat) : Int) := fun _ => hw64 _ _ (by omega) (by omega)
    have e5 : ∀ _ : Unit, wrap64 ((n : Int) + (ns : Int)) = ((n + ns : Nat) : Int) := fun _ => hw64 _ _ (by omega) (by omega)
    have e6 : ∀ _ : Unit, wrap64 ((g : Int) + 1) = ((g + 1 : Nat) : Int) := fun _ => hw64 _ _ (by omega) (by omega)
    refine Ev.step (fun f => ?_) cont
    · simp only [hunks_hunk.l1]
      rw [if_neg (by omega), e4 (), if_pos (by omega), if_pos (by omega), if_pos (by omega), piece_eq, ← he]
      rfl
  | succ d ih =>
    intro i hd hi acc ha he
    have hlt : i < y.length := by omega
    have e1 : ∀ _ : Unit, wrap64 ((i : Int) + 1) = ((i + 1 : Nat) : Int) := fun _ => hw64 _ _ (by omega) (by omega)
    refine Ev.step (fun f => ?_) (ih (i + 1) (by omega) (by omega) (acc ++ [(⟨(lineM 32 y[i]).sg, (lineM 32 y[i]).tx, (lineM 32 y[i]).br⟩ : S55)]) (by rw [List.length_append, List.length_singleton]; omega) (put_snoc y 32 acc i hlt _ he))
    simp only [hunks_hunk.l1]
    rw [if_pos (by omega), if_pos (by omega), if_pos (by omega), rdOf_at y i hlt, line_eq 32 y[i] (rdOf_short sy i hlt), e1 ()]
    simp only [Option.bind_some]
    rw [if_pos (by omega)]
theorem hunk_l0 (P Q : List ByteArray) (hP : P.length ≤ 10000) (hQ : Q.length ≤ 10000) (sP : Short P) (sQ : Short Q) (ctx : Nat) (hctx : ctx ≤ 16) (h0 h2 : Int) (L : List Ln) (hL : L.length ≤ 40000) (G : List Ch) (hG : G.length ≤ 10000) : ∀ (cs : List Ch) (g a : Nat) (acc : List S55), G.drop g = cs → Fit P Q a cs → a ≤ P.length → acc.length ≤ 40000 →
    L.map toL = acc ++ (bodyM P Q a cs ++ (piece P (endM a cs) (min (endM a cs + ctx) P.length)).map (lineM 32)).map toL →
    Ev (fun f => hunks_hunk.l0 f P Q (ctx : Int) (a : Int) (G.map toS) (G.length : Int) (g : Int) h0 0 h2 0 acc) (h0, (L.length : Int) - (cntM 43 L : Int), h2, (L.length : Int) - (cntM 45 L : Int), L.map toL) := by
  intro cs
  induction cs with
  | nil =>
    intro g a acc hd hF ha hacc he
    have hl : G.length ≤ g := by
      have := congrArg List.length hd
      rw [List.length_drop, List.length_nil] at this
      omega
    have e1 : ∀ _ : Unit, wrap64 ((a : Int) + (ctx : Int)) = ((a + ctx : Nat) : Int) := fun _ => hw64 _ _ (by omega) (by omega)
    have e2 : mn ((a + ctx : Nat) : Int) (P.length : Int) = ((min (a + ctx) P.length : Nat) : Int) := by unfold mn; split <;> omega
    have he' : L.map toL = acc ++ (((piece P a (min (a + ctx) P.length)).drop 0).map (lineM 32)).map toL := he
    have pl := piece_len P a (min (a + ctx) P.length) (by omega)
    refine Ev.step (fun f => ?_) (hunk_l4 P Q hP hQ sP sQ ctx hctx h0 h2 (piece P a (min (a + ctx) P.length)) (by omega) (piece_short sP _ _) L (by omega) _ 0 acc rfl (Nat.zero_le _) (by omega) he')
    simp only [hunks_hunk.l0]
    rw [if_neg (by omega), e1 (), e2, if_pos (by omega), if_pos (by omega), if_pos (by omega), piece_eq]
    rfl
  | cons c cs ih =>
    intro g a acc hd hF ha hacc he
    obtain ⟨o, os, n, ns, rfl, h1, h3, h4, h5⟩ := hF
    have hg : g < G.length := by
      have := congrArg List.length hd
      rw [List.length_drop, List.length_cons] at this
      omega
    have hget : G[g] = ⟨o, os, n, ns⟩ ∧ G.drop (g + 1) = cs := by
      rw [List.drop_eq_getElem_cons hg] at hd
      injection hd with d1 d2
      exact ⟨d1, d2⟩
    have hr : rd_T39 (G.map toS) (g : Int) = ⟨(o : Int), (os : Int), (n : Int), (ns : Int)⟩ := by
      unfold rd_T39
      rw [Int.toNat_natCast, List.getD_eq_getElem?_getD, List.getElem?_map, List.getElem?_eq_getElem hg, hget.1]
      rfl
    have t1 : ((o : Int) + (os : Int)).toNat = o + os := by omega
    have t2 : ((n : Int) + (ns : Int)).toNat = n + ns := by omega
    have he2 : L.map toL = ((acc ++ ((piece P a o).map (lineM 32)).map toL) ++ ((piece P o (o + os)).map (lineM 45)).map toL) ++ ((piece Q n (n + ns)).map (lineM 43)).map toL ++ (bodyM P Q (o + os) cs ++ (piece P (endM (o + os) cs) (min (endM (o + os) cs + ctx) P.length)).map (lineM 32)).map toL := by
      rw [he]
      simp only [bodyM_cons, endM_cons, Int.toNat_natCast, t1, t2, List.map_append, List.append_assoc]
    have hlen := congrArg List.length he2
    simp only [List.length_append, List.length_map] at hlen
    have p1 := piece_len P a o (by omega)
    have p2 := piece_len P o (o + os) h3
    have p3 := piece_len Q n (n + ns) h4
    have main := ih (g + 1) (o + os) _ hget.2 h5 h3 (by simp only [List.length_append, List.length_map]; omega) he2
    have s3 := hunk_l3 P Q hP hQ sP sQ ctx hctx h0 h2 (G.map toS) (G.length : Int) g o os n ns (by omega) (by omega) (by omega) (by omega) (by omega) (piece Q n (n + ns)) (by omega) (piece_short sQ _ _) main _ 0 rfl (Nat.zero_le _) (acc ++ ((piece P a o).map (lineM 32)).map toL ++ ((piece P o (o + os)).map (lineM 45)).map toL) (by simp only [List.length_append, List.length_map]; omega) rfl
    have s2 := hunk_l2 P Q hP hQ sP sQ ctx hctx h0 h2 (G.map toS) (G.length : Int) g o os n ns (by omega) (by omega) h3 h4 (by omega) (piece P o (o + os)) (by omega) (piece_short sP _ _) s3 _ 0 rfl (Nat.zero_le _) (acc ++ ((piece P a o).map (lineM 32)).map toL) (by simp only [List.length_append, List.length_map]; omega) rfl
    have s1 := hunk_l1 P Q hP hQ sP sQ ctx hctx h0 h2 (G.map toS) (G.length : Int) g o os n ns (by omega) (by omega) h3 h4 (by omega) (piece P a o) (by omega) (piece_short sP _ _) s2 _ 0 rfl (Nat.zero_le _) acc (by omega) rfl
    refine Ev.step (fun f => ?_) s1
    simp only [hunks_hunk.l0]
    rw [hr]
    simp only
    rw [if_pos (by omega), if_pos (by omega), if_pos (by rw [List.length_map]; omega), if_pos (by omega), if_pos (by omega), if_pos (by omega), piece_eq]
    rfl
theorem hunk_ev (P Q : List ByteArray) (hP : P.length ≤ 10000) (hQ : Q.length ≤ 10000) (sP : Short P) (sQ : Short Q) (ctx : Nat) (hctx : ctx ≤ 16) (c : Ch) (cs : List Ch) (hG : (c :: cs).length ≤ 10000) (hF : Fit P Q 0 (c :: cs)) (hL : (linesM P Q ctx (c.o.toNat - min ctx c.o.toNat) (c :: cs)).length ≤ 40000) :
    Ev (fun f => hunks_hunk.f f P Q ((c :: cs).map toS) (ctx : Int)) ((hunkM P Q ctx c cs).o, (hunkM P Q ctx c cs).os, (hunkM P Q ctx c cs).n, (hunkM P Q ctx c cs).ns, (hunkM P Q ctx c cs).ls.map toL) := by
  obtain ⟨o, os, n, ns, rfl, h1, h3, h4, h5⟩ := hF
  have hr : rd_T39 (((⟨o, os, n, ns⟩ : Ch) :: cs).map toS) 0 = ⟨(o : Int), (os : Int), (n : Int), (ns : Int)⟩ := rfl
  have e1 : mn (ctx : Int) (o : Int) = ((min ctx o : Nat) : Int) := by unfold mn; split <;> omega
  have e2 : ∀ _ : Unit, wrap64 ((o : Int) - ((min ctx o : Nat) : Int)) = ((o - min ctx o : Nat) : Int) := fun _ => hw64 _ _ (by omega) (by omega)
  have e3 : ∀ _ : Unit, wrap64 ((n : Int) - ((min ctx o : Nat) : Int)) = (n : Int) - ((min ctx o : Nat) : Int) := fun _ => w64 (by omega) (by omega)
  have main := hunk_l0 P Q hP hQ sP sQ ctx hctx ((o - min ctx o : Nat) : Int) ((n : Int) - ((min ctx o : Nat) : Int)) (linesM P Q ctx (o - min ctx o) (⟨o, os, n, ns⟩ :: cs)) hL (⟨o, os, n, ns⟩ :: cs) hG (⟨o, os, n, ns⟩ :: cs) 0 (o - min ctx o) [] rfl ⟨o, os, n, ns, rfl, by omega, h3, h4, h5⟩ (by omega) (by simp) rfl
  refine Ev.congr (fun f => ?_) main
  unfold hunks_hunk.f
  rw [hr]
  simp only
  rw [if_pos (by rw [List.length_map, List.length_cons]; omega), e1, e2 (), e3 (), List.length_map]
  rfl
theorem rdS_map (l : List Ch) (i : Nat) (hi : i < l.length) : rd_T39 (l.map toS) (i : Int) = toS l[i] := by
  unfold rd_T39
  rw [Int.toNat_natCast, List.getD_eq_getElem?_getD, List.getElem?_map, List.getElem?_eq_getElem hi]
  rfl
theorem fit_get {P Q : List ByteArray} : ∀ {l : List Ch} {a : Nat} (i : Nat) (hi : i < l.length), Fit P Q a l → ∃ o os n ns : Nat, l[i] = ⟨o, os, n, ns⟩ ∧ o + os ≤ P.length ∧ n + ns ≤ Q.length
  | _ :: _, _, 0, _, ⟨o, os, n, ns, h1, h2, h3, h4, h5⟩ => ⟨o, os, n, ns, h1, h3, h4⟩
  | _ :: l, _, i + 1, hi, ⟨o, os, n, ns, h1, h2, h3, h4, h5⟩ => by
    obtain ⟨o', os', n', ns', g1, g2, g3⟩ := fit_get (l := l) i (by simpa using hi) h5
    exact ⟨o', os', n', ns', by rw [List.getElem_cons_succ]; exact g1, g2, g3⟩
set_option maxHeartbeats 1600000 in
theorem make_l1 (P Q : List ByteArray) (hP : P.length ≤ 10000) (ctx : Nat) (hctx : ctx ≤ 16) (c : Ch) (cs : List Ch) (hF : Fit P Q 0 (c :: cs)) (hl : (c :: cs).length ≤ 10000) (acc : List S53) (hacc : acc.length ≤ 100000)
    {r : List S53 × Int} {h1 h2 h3 h4 : Int} {h5 : List S55} (hh : Ev (fun f => hunks_hunk.f f P Q ((c :: cs.take (nearM ctx c cs)).map toS) (ctx : Int)) (h1, h2, h3, h4, h5))
    (cont : Ev (fun f => hunks_Make.l0 f (ctx : Int) P Q (acc ++ [(⟨h1, h2, h3, h4, h5⟩ : S53)]) ((cs.drop (nearM ctx c cs)).map toS)) r) :
    ∀ (d j : Nat) (p : Ch), nearM ctx c cs - j = d → (hj : j < (c :: cs).length) → (c :: cs)[j] = p → j + nearM ctx p (cs.drop j) = nearM ctx c cs → Ev (fun f => hunks_Make.l1 f (ctx : Int) P Q acc ((c :: cs).map toS) ((j + 1 : Nat) : Int)) r := by
  have fin : ∀ j : Nat, j = nearM ctx c cs → j < (c :: cs).length → Ev (fun f => (hunks_hunk.f f P Q (((c :: cs).map toS).take ((j + 1 : Nat) : Int).toNat) (ctx : Int)).bind fun bt => (if acc.length < 2513169434916 then (hunks_Make.l0 f (ctx : Int) P Q (acc ++ [(⟨bt.1, bt.2.1, bt.2.2.1, bt.2.2.2.1, bt.2.2.2.2⟩ : S53)]) (((c :: cs).map toS).drop ((j + 1 : Nat) : Int).toNat)) else none)) r := by
    intro j hj hlt
    subst hj
    refine Ev.bind (a := (h1, h2, h3, h4, h5)) ?_ ?_
    · rw [Int.toNat_natCast, ← List.map_take]
      exact hh
    · simp only [if_pos (show acc.length < 2513169434916 by omega), Int.toNat_natCast, ← List.map_drop, List.drop_succ_cons]
      exact cont
  intro d
  induction d with
  | zero =>
    intro j p hd hj hp hn
    have h0 : nearM ctx p (cs.drop j) = 0 := by omega
    have hjm : j = nearM ctx c cs := by omega
    have main := fin j hjm hj
    obtain ⟨o, os, n, ns, g1, g2, g3⟩ := fit_get j hj hF
    have r1 := rdS_map (c :: cs) j hj
    rw [g1] at r1
    by_cases hlast : j + 1 < (c :: cs).length
    · obtain ⟨o', os', n', ns', k1, k2, k3⟩ := fit_get (j + 1) hlast hF
      have r2 := rdS_map (c :: cs) (j + 1) hlast
      rw [k1] at r2
      have q0 : (rd_T39 ((c :: cs).map toS) (j : Int)).f0 = (o : Int) := by rw [r1]; rfl
      have q1 : (rd_T39 ((c :: cs).map toS) (j : Int)).f1 = (os : Int) := by rw [r1]; rfl
      have q2 : (rd_T39 ((c :: cs).map toS) ((j + 1 : Nat) : Int)).f0 = (o' : Int) := by rw [r2]; rfl
      have hdj : cs.drop j = ⟨o', os', n', ns'⟩ :: cs.drop (j + 1) := by
        have hl' : j < cs.length := by rw [List.length_cons] at hlast; omega
        rw [List.drop_eq_getElem_cons hl']
        rw [List.getElem_cons_succ] at k1
        rw [k1]
      rw [hdj, ← hp, g1] at h0
      have hgap : ¬ ((o' : Int) - ((o : Int) + (os : Int)) ≤ 2 * (ctx : Int)) := by
        intro hle
        unfold nearM at h0
        rw [if_pos hle] at h0
        omega
      have e1 : ∀ _ : Unit, wrap64 (((j + 1 : Nat) : Int) - 1) = (j : Int) := fun _ => hw64 _ _ (by omega) (by rw [List.length_cons] at hl hj; omega)
      have e2 : ∀ _ : Unit, wrap64 ((o : Int) + (os : Int)) = (o : Int) + (os : Int) := fun _ => w64 (by omega) (by omega)
      have e3 : ∀ _ : Unit, wrap64 ((o' : Int) - ((o : Int) + (os : Int))) = (o' : Int) - ((o : Int) + (os : Int)) := fun _ => w64 (by omega) (by omega)
      have e4 : ∀ _ : Unit, wrap64 (2 * (ctx : Int)) = 2 * (ctx : Int) := fun _ => w64 (by omega) (by omega)
      refine Ev.step (fun f => ?_) main
      simp only [hunks_Make.l1]
      rw [e1 (), q0, q1, q2, List.length_map, e2 (), e3 (), e4 (), if_pos (by omega), if_pos (by omega), if_pos (by omega), if_pos (by omega), if_neg hgap, if_pos (by omega)]
    · refine Ev.step (fun f => ?_) main
      simp only [hunks_Make.l1]
      rw [List.length_map, if_neg (by omega), if_pos (by omega), if_pos (by omega)]
  | succ d ih =>
    intro j p hd hj hp hn
    have h0 : nearM ctx p (cs.drop j) ≠ 0 := by omega
    obtain ⟨o, os, n, ns, g1, g2, g3⟩ := fit_get j hj hF
    have r1 := rdS_map (c :: cs) j hj
    rw [g1] at r1
    have hlast : j + 1 < (c :: cs).length := by
      have := nearM_le ctx (cs.drop j) p
      rw [List.length_drop] at this
      rw [List.length_cons]
      omega
    obtain ⟨o', os', n', ns', k1, k2, k3⟩ := fit_get (j + 1) hlast hF
    have r2 := rdS_map (c :: cs) (j + 1) hlast
    rw [k1] at r2
    have q0 : (rd_T39 ((c :: cs).map toS) (j : Int)).f0 = (o : Int) := by rw [r1]; rfl
    have q1 : (rd_T39 ((c :: cs).map toS) (j : Int)).f1 = (os : Int) := by rw [r1]; rfl
    have q2 : (rd_T39 ((c :: cs).map toS) ((j + 1 : Nat) : Int)).f0 = (o' : Int) := by rw [r2]; rfl
    have hdj : cs.drop j = ⟨o', os', n', ns'⟩ :: cs.drop (j + 1) := by
      have hl' : j < cs.length := by rw [List.length_cons] at hlast; omega
      rw [List.drop_eq_getElem_cons hl']
      rw [List.getElem_cons_succ] at k1
      rw [k1]
    have hn2 := hn
    rw [hdj, ← hp, g1] at h0 hn2
    have hgap : (o' : Int) - ((o : Int) + (os : Int)) ≤ 2 * (ctx : Int) := by
      apply Decidable.byContradiction
      intro hle
      unfold nearM at h0
      rw [if_neg hle] at h0
      exact h0 rfl
    have hn3 : j + 1 + nearM ctx ⟨o', os', n', ns'⟩ (cs.drop (j + 1)) = nearM ctx c cs := by
      have e : nearM ctx ⟨o, os, n, ns⟩ (⟨o', os', n', ns'⟩ :: cs.drop (j + 1)) = nearM ctx ⟨o', os', n', ns'⟩ (cs.drop (j + 1)) + 1 := by
        conv => lhs; unfold nearM
        exact if_pos hgap
      omega
    have e1 : ∀ _ : Unit, wrap64 (((j + 1 : Nat) : Int) - 1) = (j : Int) := fun _ => hw64 _ _ (by omega) (by rw [List.length_cons] at hl hj; omega)
    have e2 : ∀ _ : Unit, wrap64 ((o : Int) + (os : Int)) = (o : Int) + (os : Int) := fun _ => w64 (by omega) (by omega)
    have e3 : ∀ _ : Unit, wrap64 ((o' : Int) - ((o : Int) + (os : Int))) = (o' : Int) - ((o : Int) + (os : Int)) := fun _ => w64 (by omega) (by omega)
    have e4 : ∀ _ : Unit, wrap64 (2 * (ctx : Int)) = 2 * (ctx : Int) := fun _ => w64 (by omega) (by omega)
    have e5 : ∀ _ : Unit, wrap64 (((j + 1 : Nat) : Int) + 1) = ((j + 1 + 1 : Nat) : Int) := fun _ => hw64 _ _ (by omega) (by rw [List.length_cons] at hl hj; omega)
    refine Ev.step (fun f => ?_) (ih (j + 1) ⟨o', os', n', ns'⟩ (by omega) hlast k1 hn3)
    simp only [hunks_Make.l1]
    rw [e1 (), q0, q1, q2, List.length_map, e2 (), e3 (), e4 (), e5 (), if_pos (by omega), if_pos (by omega), if_pos (by omega), if_pos (by omega), if_pos hgap]
theorem make_l0 (P Q : List ByteArray) (hP : P.length ≤ 1000) (hQ : Q.length ≤ 1000) (sP : Short P) (sQ : Short Q) (ctx : Nat) (hctx : ctx ≤ 16) : ∀ (k : Nat) (l : List Ch) (fst : Bool) (a b m tot : Nat) (acc : List S53), l.length ≤ k → k ≤ 5000 → acc.length + k ≤ 10000 → GoodC P Q fst a b m l tot → St ctx a b l →
    Ev (fun f => hunks_Make.l0 f (ctx : Int) P Q acc (l.map toS)) (acc ++ (makeM P Q ctx l).map toH, 0) := by
  intro k
  induction k with
  | zero =>
    intro l fst a b m tot acc hl hk hacc hG hs
    cases l with
    | nil =>
      rw [makeM_nil, show ([] : List Hk).map toH = [] from rfl, List.append_nil]
      refine Ev.step (f := fun _ => some (acc, 0)) (fun f => ?_) (Ev.now _)
      simp only [hunks_Make.l0]
      rw [if_neg (by simp)]
    | cons c cs => simp at hl
  | succ k ih =>
    intro l fst a b m tot acc hl hk hacc hG hs
    cases l with
    | nil =>
      rw [makeM_nil, show ([] : List Hk).map toH = [] from rfl, List.append_nil]
      refine Ev.step (f := fun _ => some (acc, 0)) (fun f => ?_) (Ev.now _)
      simp only [hunks_Make.l0]
      rw [if_neg (by simp)]
    | cons c cs =>
      have hF := hG.fit
      have hng := near_gap P Q ctx cs c a hF
      obtain ⟨m', hR⟩ := hG.rest1 (nearM ctx c cs)
      have hnl := nearM_le ctx cs c
      rw [List.length_cons] at hl
      have hlen : (linesM P Q ctx (c.o.toNat - min ctx c.o.toNat) (c :: cs.take (nearM ctx c cs))).length ≤ 40000 := by
        have hG0 := hG
        obtain ⟨o, os, n, ns, rfl, h1, h2, h3, h4, h5, h6, h7, h8, h9⟩ := hG
        obtain ⟨s1, _⟩ := hG0.start hs
        have s1' : GoodC P Q true (o - min ctx o) (n - min ctx o) m ((⟨o, os, n, ns⟩ :: cs.take (nearM ctx ⟨o, os, n, ns⟩ cs)) ++ cs.drop (nearM ctx ⟨o, os, n, ns⟩ cs)) tot := by rw [List.cons_append, List.take_append_drop]; exact s1
        have hx := (hunk_lines (ctx := ctx) _ _ s1').2.2
        simp only [Int.toNat_natCast]
        omega
      have hF0 : Fit P Q 0 (c :: cs) := hF.mono (Nat.zero_le _)
      have hh := hunk_ev P Q (by omega) (by omega) sP sQ ctx hctx c (cs.take (nearM ctx c cs)) (by rw [List.length_cons, List.length_take]; omega) (by have := hF0.take (nearM ctx c cs + 1); rw [List.take_succ_cons] at this; exact this) hlen
      have cont := ih (cs.drop (nearM ctx c cs)) false _ _ m' tot (acc ++ [toH (hunkM P Q ctx c (cs.take (nearM ctx c cs)))]) (by rw [List.length_drop]; omega) (by omega) (by rw [List.length_append, List.length_singleton]; omega) hR (.inl hng)
      have main := make_l1 P Q (by omega) ctx hctx c cs hF0 (by rw [List.length_cons]; omega) acc (by omega) hh cont _ 0 c rfl (by simp) rfl (by rw [List.drop_zero, Nat.zero_add])
      rw [makeM_cons, List.map_cons]
      rw [List.append_assoc] at main
      refine Ev.step (fun f => ?_) main
      simp only [hunks_Make.l0]
      rw [if_pos (by simp only [List.length_map, List.length_cons]; omega)]
      rfl
/-- hunks.Make. -/
theorem make_ev (p q : List Int) (hp : p.length ≤ 1000) (hq : q.length ≤ 1000) (ctx : Nat) (hctx : ctx ≤ 16) :
    Ev (fun f => hunks_Make.f f p q (ctx : Int)) ((makeM ((ls p).map strOfNums) ((ls q).map strOfNums) ctx (chgs ((ls p).map strOfNums) ((ls q).map strOfNums))).map toH, 0) := by
  have short : ∀ b : List Int, b.length ≤ 1000 → Short ((ls b).map strOfNums) := by
    intro b hb i
    rw [List.getD_eq_getElem?_getD, List.getElem?_map]
    by_cases hi : i < (ls b).length
    · rw [List.getElem?_eq_getElem hi]
      show (strOfNums (ls b)[i]).size ≤ _
      rw [strOfNums_size]
      have h1 := off_succ (ls b) i hi
      have h2 := off_le (ls b) (i + 1)
      rw [ls_flat] at h2
      rw [List.getD_eq_getElem?_getD, List.getElem?_eq_getElem hi] at h1
      have h3 : off (ls b) (i + 1) = off (ls b) i + (ls b)[i].length := h1
      omega
    · rw [List.getElem?_eq_none (by omega)]
      exact Nat.zero_le _
  have sP := short p hp
  have sQ := short q hq
  have cp := ls_count p
  have cq := ls_count q
  have hP : Ev (fun f => lines_Split.f f p) ((ls p).map strOfNums) := ⟨p.length + 1, fun k hk => split_eq (by omega) (by omega)⟩
  have hQ : Ev (fun f => lines_Split.f f q) ((ls q).map strOfNums) := ⟨q.length + 1, fun k hk => split_eq (by omega) (by omega)⟩
  have lP : ((ls p).map strOfNums).length ≤ 1000 := by rw [List.length_map]; omega
  have lQ : ((ls q).map strOfNums).length ≤ 1000 := by rw [List.length_map]; omega
  generalize (ls p).map strOfNums = P at *
  generalize (ls q).map strOfNums = Q at *
  have hC := changes_ev P Q (by omega) (by omega)
  have hG := chgs_good P Q lP lQ
  have hl := chgs_len P Q
  have main := make_l0 P Q lP lQ sP sQ ctx hctx (chgs P Q).length (chgs P Q) true 0 0 0 _ [] (Nat.le_refl _) (by omega) (by simp; omega) hG (.inr ⟨rfl, rfl⟩)
  rw [List.nil_append] at main
  refine Ev.congr (f := fun f => hunks_Make.j0 f p q (ctx : Int) false) (fun f => ?_) (Ev.step (fun f => ?_) (Ev.bind (f := fun f t => (lines_Split.f f q).bind fun t2 => (hunks_Changes.f f t t2).bind fun t3 => hunks_Make.l0 f (ctx : Int) t t2 [] t3) hP (Ev.bind (f := fun f t2 => (hunks_Changes.f f P t2).bind fun t3 => hunks_Make.l0 f (ctx : Int) P t2 [] t3) hQ (Ev.bind (f := fun f t3 => hunks_Make.l0 f (ctx : Int) P Q [] t3) hC main))))
  · unfold hunks_Make.f
    rw [if_neg (by omega), decide_eq_false (by omega)]
  · simp only [hunks_Make.j0]
    rw [if_neg (by simp)]
end Go.Proofs.Ytokgkhndhlcfpaa.Pure
