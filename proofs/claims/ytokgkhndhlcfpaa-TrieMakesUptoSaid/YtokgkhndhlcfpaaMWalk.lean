/- The words of a trie, walked in their order; plain facts, no program's walk in sight. -/
import Derived.Test.YtokgkhndhlcfpaaMTrie
import Derived.Test.YtokgkhndhlcfpaaMLess
namespace Go.Proofs.Ytokgkhndhlcfpaa.X
open Go.RowKit Go.Proofs.YtokgkhndhlcfpaaW.PrintWords Go.Proofs.YtokgkhndhlcfpaaW.PrintLast
open Go.Proofs.Ytokgkhndhlcfpaa.M
set_option linter.unusedVariables false
set_option linter.unusedSimpArgs false

/-- The walk: at a node (true), or at its children from one on (false); T: the signs' text. -/
def walkF (T : List Int → Option ByteArray) : Nat → List Nd → Bool → Int → List Int → List ByteArray → Option (List ByteArray)
  | 0, _, _, _, _, _ => none
  | f + 1, ns, true, a, l, out => if 0 ≤ a then (if a < (ns.length : Int) then (if (ndAt ns a).e = true then (T l).bind fun s => if out.length < 1000000000000 then walkF T f ns false (ndAt ns a).kid l (out ++ [s]) else none
      else walkF T f ns false (ndAt ns a).kid l out) else none) else none
  | f + 1, ns, false, a, l, out => if 0 < a then (if a < (ns.length : Int) then (if l.length < 1000000000000 then (walkF T f ns true a (l ++ [(ndAt ns a).r]) out).bind fun o => walkF T f ns false (ndAt ns a).oth l o else none) else none) else some out
theorem walkF_mono {T T' : List Int → Option ByteArray} (hT : ∀ l, LeO (T l) (T' l)) : ∀ (f : Nat) (ns : List Nd) (b : Bool) (a : Int) (l : List Int) (o : List ByteArray), LeO (walkF T f ns b a l o) (walkF T' (f + 1) ns b a l o)
  | 0 => fun _ _ _ _ _ r h => by simp [walkF] at h
  | f + 1 => by
    intro ns b a l o
    cases b
    · simp only [walkF]
      exact LeO.ite (LeO.ite (LeO.ite (LeO.bind (walkF_mono hT f _ _ _ _ _) (fun _ => walkF_mono hT f _ _ _ _ _)) (LeO.refl _)) (LeO.refl _)) (LeO.refl _)
    · simp only [walkF]
      exact LeO.ite (LeO.ite (LeO.ite (LeO.bind (hT _) (fun _ => LeO.ite (walkF_mono hT f _ _ _ _ _) (LeO.refl _))) (walkF_mono hT f _ _ _ _ _)) (LeO.refl _)) (LeO.refl _)
/-- The same without a bound on how many words there are. -/
def walkU (T : List Int → Option ByteArray) : Nat → List Nd → Bool → Int → List Int → List ByteArray → Option (List ByteArray)
  | 0, _, _, _, _, _ => none
  | f + 1, ns, true, a, l, out => if 0 ≤ a then (if a < (ns.length : Int) then (if (ndAt ns a).e = true then (T l).bind fun s => walkU T f ns false (ndAt ns a).kid l (out ++ [s])
      else walkU T f ns false (ndAt ns a).kid l out) else none) else none
  | f + 1, ns, false, a, l, out => if 0 < a then (if a < (ns.length : Int) then (if l.length < 1000000000000 then (walkU T f ns true a (l ++ [(ndAt ns a).r]) out).bind fun o => walkU T f ns false (ndAt ns a).oth l o else none) else none) else some out
theorem walkU_to (T : List Int → Option ByteArray) : ∀ (f : Nat) (ns : List Nd) (b : Bool) (a : Int) (l : List Int) (out res : List ByteArray), walkU T f ns b a l out = some res → out.length ≤ res.length ∧ (res.length < 1000000000000 → walkF T f ns b a l out = some res)
  | 0, _, _, _, _, _, _, h => by simp [walkU] at h
  | f + 1, ns, true, a, l, out, res, h => by
    simp only [walkU] at h
    by_cases h0 : 0 ≤ a
    · rw [if_pos h0] at h
      by_cases h1 : a < (ns.length : Int)
      · rw [if_pos h1] at h
        by_cases h2 : (ndAt ns a).e = true
        · rw [if_pos h2] at h
          obtain ⟨s, hs, h⟩ := Option.bind_eq_some_iff.mp h
          obtain ⟨q1, q2⟩ := walkU_to T f _ _ _ _ _ _ h
          simp only [List.length_append, List.length_singleton] at q1
          refine ⟨by omega, fun hr => ?_⟩
          simp only [walkF]
          rw [if_pos h0, if_pos h1, if_pos h2, hs]
          show (if out.length < 1000000000000 then _ else _) = _
          rw [if_pos (by omega)]
          exact q2 hr
        · rw [if_neg h2] at h
          obtain ⟨q1, q2⟩ := walkU_to T f _ _ _ _ _ _ h
          refine ⟨q1, fun hr => ?_⟩
          simp only [walkF]
          rw [if_pos h0, if_pos h1, if_neg h2]
          exact q2 hr
      · rw [if_neg h1] at h; cases h
    · rw [if_neg h0] at h; cases h
  | f + 1, ns, false, a, l, out, res, h => by
    simp only [walkU] at h
    by_cases h0 : 0 < a
    · rw [if_pos h0] at h
      by_cases h1 : a < (ns.length : Int)
      · rw [if_pos h1] at h
        by_cases h2 : l.length < 1000000000000
        · rw [if_pos h2] at h
          obtain ⟨o, ho, h⟩ := Option.bind_eq_some_iff.mp h
          obtain ⟨q1, q2⟩ := walkU_to T f _ _ _ _ _ _ ho
          obtain ⟨q3, q4⟩ := walkU_to T f _ _ _ _ _ _ h
          refine ⟨by omega, fun hr => ?_⟩
          simp only [walkF]
          rw [if_pos h0, if_pos h1, if_pos h2, q2 (by omega)]
          exact q4 hr
        · rw [if_neg h2] at h; cases h
      · rw [if_neg h1] at h; cases h
    · rw [if_neg h0] at h
      injection h with h
      subst h
      refine ⟨Nat.le_refl _, fun _ => ?_⟩
      simp only [walkF]
      rw [if_neg h0]
/-- Paths in their order: by signs. -/
def Lx (p q : List Int) : Prop := (∃ x t, q = p ++ x :: t) ∨ ∃ c x y s t, p = c ++ x :: s ∧ q = c ++ y :: t ∧ x < y
section
variable {ns : List Nd} {P W : List (List Int)} (h : TrI ns P W) {T : Nat → List Int → Option ByteArray} {tx : List Int → ByteArray} {K0 : Nat} (hT : ∀ k, K0 ≤ k → ∀ p ∈ P, T k p = some (tx p)) {D : Nat} (hD : ∀ p ∈ P, p.length ≤ D) (hDD : D < 1000000000000)
include h hT hD hDD
theorem walk_from : ∀ (d a : Nat) (p : List Int) (out : List ByteArray), P[a]? = some p → D + 1 - p.length ≤ d →
    ∃ res : List (List Int), (∃ F, ∀ f, F ≤ f → ∀ k, K0 ≤ k → walkU (T k) f ns true (a : Int) p out = some (out ++ res.map tx)) ∧ res.Pairwise Lx ∧ ∀ q, q ∈ res ↔ q ∈ W ∧ p <+: q := by
  intro d
  induction d with
  | zero =>
    intro a p out ha hd
    have := hD p (List.mem_of_getElem? ha)
    omega
  | succ d ih =>
    intro a p out ha hd
    have hpD := hD p (List.mem_of_getElem? ha)
    have hal : a < ns.length := by rw [← h.len]; exact lt_of_get ha
    obtain ⟨ks, c1, c2, c3⟩ := h.kids a p ha
    have hkp : ∀ j ∈ ks, P[j]? = some (p ++ [(nd ns j).r]) := by
      intro j hj
      have hjl := (Chain.lt c1 j hj).2
      obtain ⟨q, hq⟩ : ∃ q, P[j]? = some q := ⟨_, List.getElem?_eq_getElem (by rw [h.len]; exact hjl)⟩
      obtain ⟨x, rfl⟩ := (c3 j q hq).1 hj
      rw [hq, (h.child hq).1]
    have loop : ∀ (ks : List Nat) (k0 : Int) (out : List ByteArray), Chain ns k0 ks → ks.Pairwise (fun i j => (nd ns i).r < (nd ns j).r) → (∀ j ∈ ks, P[j]? = some (p ++ [(nd ns j).r])) →
        ∃ res : List (List Int), (∃ F, ∀ f, F ≤ f → ∀ k, K0 ≤ k → walkU (T k) f ns false k0 p out = some (out ++ res.map tx)) ∧ res.Pairwise Lx ∧ ∀ q, q ∈ res ↔ q ∈ W ∧ ∃ j ∈ ks, (p ++ [(nd ns j).r]) <+: q := by
      intro ks
      induction ks with
      | nil =>
        intro k0 out hc _ _
        have : k0 = 0 := hc
        subst this
        refine ⟨[], ⟨1, fun f hf k hk => ?_⟩, List.Pairwise.nil, fun q => by simp⟩
        obtain ⟨f, rfl⟩ : ∃ m, f = m + 1 := ⟨f - 1, by omega⟩
        simp [walkU]
      | cons j ks ihk =>
        intro k0 out hc hp hm
        obtain ⟨rfl, j0, j1, j2⟩ := hc
        rw [List.pairwise_cons] at hp
        obtain ⟨r1, ⟨F1, e1⟩, p1, m1⟩ := ih j (p ++ [(nd ns j).r]) out (hm j List.mem_cons_self) (by rw [List.length_append, List.length_singleton]; omega)
        obtain ⟨r2, ⟨F2, e2⟩, p2, m2⟩ := ihk (nd ns j).oth (out ++ r1.map tx) j2 hp.2 (fun i hi => hm i (List.mem_cons_of_mem _ hi))
        refine ⟨r1 ++ r2, ⟨max F1 F2 + 1, fun f hf k hk => ?_⟩, ?_, fun q => ?_⟩
        · obtain ⟨f, rfl⟩ : ∃ m, f = m + 1 := ⟨f - 1, by omega⟩
          simp only [walkU]
          rw [if_pos (by omega), if_pos (by omega), if_pos (by omega), ndAt_nat, e1 f (by omega) k hk]
          show walkU (T k) f ns false (nd ns j).oth p (out ++ r1.map tx) = _
          rw [e2 f (by omega) k hk, List.map_append, List.append_assoc]
        · rw [List.pairwise_append]
          refine ⟨p1, p2, fun x hx y hy => ?_⟩
          obtain ⟨_, s, hs⟩ := (m1 x).1 hx
          obtain ⟨_, i, hi, t, ht⟩ := (m2 y).1 hy
          exact .inr ⟨p, (nd ns j).r, (nd ns i).r, s, t, by rw [← hs]; simp, by rw [← ht]; simp, hp.1 i hi⟩
        · rw [List.mem_append, m1, m2]
          constructor
          · rintro (⟨q1, q2⟩ | ⟨q1, i, hi, q2⟩)
            · exact ⟨q1, j, List.mem_cons_self, q2⟩
            · exact ⟨q1, i, List.mem_cons_of_mem _ hi, q2⟩
          · rintro ⟨q1, i, hi, q2⟩
            rcases List.mem_cons.1 hi with rfl | hi
            · exact .inl ⟨q1, q2⟩
            · exact .inr ⟨q1, i, hi, q2⟩
    have hsplit : ∀ q, q ∈ W → p <+: q → q = p ∨ ∃ j ∈ ks, (p ++ [(nd ns j).r]) <+: q := by
      rintro q hq ⟨t, rfl⟩
      rcases t with _ | ⟨x, t⟩
      · exact .inl (by simp)
      · right
        have hm : p ++ [x] ∈ P := TrI.closed h _ t rfl (by rw [List.append_assoc]; exact h.words _ hq)
        obtain ⟨j, hj, he⟩ := List.mem_iff_getElem.1 hm
        have hj' : P[j]? = some (p ++ [x]) := by rw [List.getElem?_eq_getElem hj, he]
        refine ⟨j, (c3 j _ hj').2 ⟨x, rfl⟩, t, ?_⟩
        rw [(h.child hj').1]
        simp
    by_cases hw : p ∈ W
    · obtain ⟨res, ⟨F, e⟩, p1, m1⟩ := loop ks _ (out ++ [tx p]) c1 c2 hkp
      refine ⟨p :: res, ⟨F + 1, fun f hf k hk => ?_⟩, ?_, fun q => ?_⟩
      · obtain ⟨f, rfl⟩ : ∃ m, f = m + 1 := ⟨f - 1, by omega⟩
        simp only [walkU]
        rw [if_pos (by omega), if_pos (by omega), ndAt_nat, if_pos ((h.ends a p ha).2 hw), hT k hk p (List.mem_of_getElem? ha)]
        show walkU (T k) f ns false (nd ns a).kid p (out ++ [tx p]) = _
        rw [e f (by omega) k hk]
        simp
      · rw [List.pairwise_cons]
        refine ⟨fun q hq => ?_, p1⟩
        obtain ⟨_, j, _, t, ht⟩ := (m1 q).1 hq
        exact .inl ⟨(nd ns j).r, t, by rw [← ht]; simp⟩
      · rw [List.mem_cons, m1]
        constructor
        · rintro (rfl | ⟨q1, j, hj, t, ht⟩)
          · exact ⟨hw, List.prefix_refl _⟩
          · exact ⟨q1, (nd ns j).r :: t, by rw [← ht]; simp⟩
        · rintro ⟨q1, q2⟩
          rcases hsplit q q1 q2 with rfl | hj
          · exact .inl rfl
          · exact .inr ⟨q1, hj⟩
    · obtain ⟨res, ⟨F, e⟩, p1, m1⟩ := loop ks _ out c1 c2 hkp
      refine ⟨res, ⟨F + 1, fun f hf k hk => ?_⟩, p1, fun q => ?_⟩
      · obtain ⟨f, rfl⟩ : ∃ m, f = m + 1 := ⟨f - 1, by omega⟩
        simp only [walkU]
        rw [if_pos (by omega), if_pos (by omega), ndAt_nat, if_neg (fun e => hw ((h.ends a p ha).1 e))]
        exact e f (by omega) k hk
      · rw [m1]
        constructor
        · rintro ⟨q1, j, hj, t, ht⟩
          exact ⟨q1, (nd ns j).r :: t, by rw [← ht]; simp⟩
        · rintro ⟨q1, q2⟩
          rcases hsplit q q1 q2 with rfl | hj
          · exact absurd q1 hw
          · exact ⟨q1, hj⟩
/-- All words, in their order. -/
theorem walk_all (hW : ∀ res : List (List Int), res.Pairwise Lx → (∀ q, q ∈ res ↔ q ∈ W) → res.length < 1000000000000) : ∃ res : List (List Int), Ev (fun k => walkF (T k) k ns true 0 [] []) (res.map tx) ∧ res.Pairwise Lx ∧ ∀ q, q ∈ res ↔ q ∈ W := by
  obtain ⟨res, ⟨F, e⟩, p1, m1⟩ := walk_from h hT hD hDD (D + 1) 0 [] [] h.root (by simp)
  have m2 : ∀ q, q ∈ res ↔ q ∈ W := fun q => (m1 q).trans ⟨fun x => x.1, fun x => ⟨x, q, by simp⟩⟩
  refine ⟨res, ⟨max F K0, fun k hk => ?_⟩, p1, m2⟩
  have h1 := e k (by omega) k (by omega)
  rw [List.nil_append] at h1
  exact (walkU_to _ _ _ _ _ _ _ _ h1).2 (by rw [List.length_map]; exact hW res p1 m2)
end
theorem Lx.ne {p q : List Int} (h : Lx p q) : p ≠ q := by
  rintro rfl
  rcases h with ⟨x, t, e⟩ | ⟨c, x, y, s, t, e1, e2, hlt⟩
  · have := congrArg List.length e
    simp at this
  · rw [e1] at e2
    have := (List.append_cancel_left e2)
    injection this with h1 h2
    omega
/-! ### signs' order is bytes' order -/
theorem bl_app : ∀ (c a b : List UInt8), Op.bytesLess (c ++ a) (c ++ b) = Op.bytesLess a b
  | [], _, _ => rfl
  | x :: c, a, b => by
    have := bl_app c a b
    simp [Op.bytesLess, this]
abbrev u8s (l : List Int) : List UInt8 := l.map fun x => UInt8.ofNat x.toNat
theorem strOf_u8s (l : List Int) : (strOfNums l).toList = u8s l := by rw [toList_eq_data, strOfNums_data]
theorem bl_first {x y : Int} (h0 : 0 ≤ x) (h : x < y) (hy : y < 256) (s t : List Int) : Op.bytesLess (u8s (x :: s)) (u8s (y :: t)) = true := by
  have : UInt8.ofNat x.toNat < UInt8.ofNat y.toNat := by
    rw [UInt8.lt_iff_toNat_lt, UInt8.toNat_ofNat', UInt8.toNat_ofNat']
    omega
  simp [Op.bytesLess, this]
theorem bl_more (l : List Int) {m : List Int} (hm : m ≠ []) : Op.bytesLess (u8s l) (u8s (l ++ m)) = true := by
  rw [u8s, u8s, List.map_append]
  have := bl_app (u8s l) [] (u8s m)
  rw [List.append_nil] at this
  rw [this]
  cases m with
  | nil => exact absurd rfl hm
  | cons x m => simp [Op.bytesLess]
theorem bl_cut (c a b : List Int) (h : Op.bytesLess (u8s a) (u8s b) = true) : Op.bytesLess (u8s (c ++ a)) (u8s (c ++ b)) = true := by
  rw [u8s, u8s, List.map_append, List.map_append, bl_app]
  exact h
theorem enc_lt {x y : Int} (hx : okR x = true) (hy : okR y = true) (h : x < y) (s t : List Int) : Op.bytesLess (u8s (enc x ++ s)) (u8s (enc y ++ t)) = true := by
  rw [okR_iff] at hx hy
  have go : ∀ (c : List Int) (u v : Int) (s' t' : List Int), enc x = c ++ u :: s' → enc y = c ++ v :: t' → 0 ≤ u → u < v → v < 256 → Op.bytesLess (u8s (enc x ++ s)) (u8s (enc y ++ t)) = true := by
    intro c u v s' t' e1 e2 g0 g1 g2
    rw [e1, e2, List.append_assoc, List.append_assoc]
    exact bl_cut c _ _ (bl_first g0 g1 g2 _ _)
  unfold enc at go ⊢
  by_cases a1 : x < 128
  · rw [if_pos a1] at go ⊢
    by_cases b1 : y < 128
    · rw [if_pos b1] at go ⊢
      exact go [] x y [] [] rfl rfl (by omega) (by omega) (by omega)
    rw [if_neg b1] at go ⊢
    by_cases b2 : y < 2048
    · rw [if_pos b2] at go ⊢
      exact go [] x _ [] _ rfl rfl (by omega) (by omega) (by omega)
    rw [if_neg b2] at go ⊢
    by_cases b3 : y < 65536
    · rw [if_pos b3] at go ⊢
      exact go [] x _ [] _ rfl rfl (by omega) (by omega) (by omega)
    · rw [if_neg b3] at go ⊢
      exact go [] x _ [] _ rfl rfl (by omega) (by omega) (by omega)
  rw [if_neg a1, if_neg (show ¬ y < 128 by omega)] at go ⊢
  by_cases a2 : x < 2048
  · rw [if_pos a2] at go ⊢
    by_cases b2 : y < 2048
    · rw [if_pos b2] at go ⊢
      by_cases e : x / 64 = y / 64
      · exact go [192 + x / 64] (128 + x % 64) (128 + y % 64) [] [] rfl (by rw [e]; rfl) (by omega) (by omega) (by omega)
      · exact go [] _ _ _ _ rfl rfl (by omega) (by omega) (by omega)
    rw [if_neg b2] at go ⊢
    by_cases b3 : y < 65536
    · rw [if_pos b3] at go ⊢
      exact go [] _ _ _ _ rfl rfl (by omega) (by omega) (by omega)
    · rw [if_neg b3] at go ⊢
      exact go [] _ _ _ _ rfl rfl (by omega) (by omega) (by omega)
  rw [if_neg a2, if_neg (show ¬ y < 2048 by omega)] at go ⊢
  by_cases a3 : x < 65536
  · rw [if_pos a3] at go ⊢
    by_cases b3 : y < 65536
    · rw [if_pos b3] at go ⊢
      by_cases e : x / 4096 = y / 4096
      · by_cases e2 : x / 64 % 64 = y / 64 % 64
        · exact go [224 + x / 4096, 128 + x / 64 % 64] (128 + x % 64) (128 + y % 64) [] [] rfl (by rw [e, e2]; rfl) (by omega) (by omega) (by omega)
        · exact go [224 + x / 4096] (128 + x / 64 % 64) (128 + y / 64 % 64) [128 + x % 64] [128 + y % 64] rfl (by rw [e]; rfl) (by omega) (by omega) (by omega)
      · exact go [] _ _ _ _ rfl rfl (by omega) (by omega) (by omega)
    · rw [if_neg b3] at go ⊢
      exact go [] _ _ _ _ rfl rfl (by omega) (by omega) (by omega)
  · rw [if_neg a3, if_neg (show ¬ y < 65536 by omega)] at go ⊢
    by_cases e : x / 262144 = y / 262144
    · by_cases e1 : x / 4096 % 64 = y / 4096 % 64
      · by_cases e2 : x / 64 % 64 = y / 64 % 64
        · exact go [240 + x / 262144, 128 + x / 4096 % 64, 128 + x / 64 % 64] (128 + x % 64) (128 + y % 64) [] [] rfl (by rw [e, e1, e2]; rfl) (by omega) (by omega) (by omega)
        · exact go [240 + x / 262144, 128 + x / 4096 % 64] (128 + x / 64 % 64) (128 + y / 64 % 64) [128 + x % 64] [128 + y % 64] rfl (by rw [e, e1]; rfl) (by omega) (by omega) (by omega)
      · exact go [240 + x / 262144] (128 + x / 4096 % 64) (128 + y / 4096 % 64) [128 + x / 64 % 64, 128 + x % 64] [128 + y / 64 % 64, 128 + y % 64] rfl (by rw [e]; rfl) (by omega) (by omega) (by omega)
    · exact go [] _ _ _ _ rfl rfl (by omega) (by omega) (by omega)
theorem encL_app (a b : List Int) : encL (a ++ b) = encL a ++ encL b := by
  induction a with
  | nil => rfl
  | cons x a ih => simp only [List.cons_append, encL, ih, List.append_assoc]
theorem Lx.less {p q : List Int} (h : Lx p q) (hp : ∀ x ∈ p, okR x = true) (hq : ∀ x ∈ q, okR x = true) : Less (strOfNums (encL p)) (strOfNums (encL q)) := by
  unfold Less
  rw [strOf_u8s, strOf_u8s]
  rcases h with ⟨x, t, rfl⟩ | ⟨c, x, y, s, t, rfl, rfl, hlt⟩
  · rw [encL_app]
    refine bl_more _ ?_
    simp only [encL, hq x (by simp), if_true]
    intro e
    have := enc_len x
    have h2 := congrArg List.length e
    rw [List.length_append, List.length_nil] at h2
    omega
  · rw [encL_app, encL_app]
    refine bl_cut _ _ _ ?_
    simp only [encL, hp x (by simp), hq y (by simp), if_true]
    exact enc_lt (hp x (by simp)) (hq y (by simp)) hlt _ _
/-- What rises strictly and has the same members is the same. -/
theorem rise_eq : ∀ {a b : List ByteArray}, a.Pairwise Less → b.Pairwise Less → (∀ x, x ∈ a ↔ x ∈ b) → a = b
  | [], [], _, _, _ => rfl
  | [], y :: b, _, _, h => absurd ((h y).2 List.mem_cons_self) (by simp)
  | x :: a, [], _, _, h => absurd ((h x).1 List.mem_cons_self) (by simp)
  | x :: a, y :: b, ha, hb, h => by
    rw [List.pairwise_cons] at ha hb
    have hxy : x = y := by
      rcases List.mem_cons.1 ((h x).1 List.mem_cons_self) with e | hx
      · exact e
      · rcases List.mem_cons.1 ((h y).2 List.mem_cons_self) with e | hy
        · exact e.symm
        · exact absurd ((ha.1 y hy).trans (hb.1 x hx)) (Less.irrefl x)
    subst hxy
    congr 1
    refine rise_eq ha.2 hb.2 (fun z => ?_)
    constructor
    · intro hz
      rcases List.mem_cons.1 ((h z).1 (List.mem_cons_of_mem _ hz)) with rfl | hz'
      · exact absurd (ha.1 z hz) (Less.irrefl z)
      · exact hz'
    · intro hz
      rcases List.mem_cons.1 ((h z).2 (List.mem_cons_of_mem _ hz)) with rfl | hz'
      · exact absurd (hb.1 z hz) (Less.irrefl z)
      · exact hz'
end Go.Proofs.Ytokgkhndhlcfpaa.X
