/- PragmaPlain: a file that asks nothing is left alone nowhere, and knows nothing. The tables of Go's library lie as their texts lay them. -/
import Derived.Test.YtkflgnhcfhmkdaaDoorBPragPragmaPlain
import Derived.Test.YtkflgnhcfhmkdaaDoorBFdPragmaPlain
namespace Go.Proofs.YtkflgnhcfhmkdaaDoor.Pure
open Go.RowKit Go.Proofs.YtkflgnhcfhmkdaaDoor.PPragmaPlain Go.Proofs.YtkflgnhcfhmkdaaDoorW.PrintWords Go.Proofs.YtkflgnhcfhmkdaaDoorW.PrintLast
open Go.Proofs.YtkflgnhcfhmkdaaDoor.M Go.Proofs.YtkflgnhcfhmkdaaDoor.X Go.Proofs.YtkflgnhcfhmkdaaDoor.H
set_option linter.unusedVariables false
set_option linter.unusedSimpArgs false

theorem prag_awake : Ev (fun k => redpenlaw17_Awake.f k) true := Ev.of redpenlaw17_Awake.mono (k := 60) (by decide +kernel)
theorem asks_none {s : ByteArray} (h : ∀ x ∈ s.data.toList, x ≠ (58 : UInt8)) (f : Nat) : asksM f s = [] := by
  cases f with
  | zero => rfl
  | succ f =>
    unfold asksM
    rw [if_neg]
    intro hc
    unfold cutB Lib.cut at hc
    split at hc
    · rename_i hi
      rcases Lib.index_spec s.data.toList mk.data.toList with ⟨h1, _⟩ | ⟨i, h1, h2, h3, _⟩
      · omega
      · unfold Lib.occAt at h3
        have hm : (58 : UInt8) ∈ mk.data.toList := by decide
        have hp := List.isPrefixOf_iff_prefix.1 h3
        exact h _ (List.mem_of_mem_drop (hp.subset hm)) rfl
    · cases hc
theorem plain_l1 (a1 : ByteArray) (ha : a1.size ≤ 200) (n : Nat) (hn : n ≤ 1000) : ∀ (d i : Nat), n - i = d → i ≤ n → Ev (fun k => redpenlaw17_PragmaPlain.l1 k a1 [⟨[], []⟩] (n : Int) (i : Int)) true := by
  intro d
  induction d with
  | zero =>
    intro i hd hi
    have hf := foldB_size a1
    have hk : Ev (fun k => pragma_Rules_Knows.f k [⟨[], []⟩] a1) false := by
      refine Ev.bind (f := fun k s => if s.size ≤ 140737488351232 then some (hasW [] s) else none) (fold_ev a1 (by omega)) ?_
      rw [if_pos (by omega)]
      exact Ev.now _
    refine Ev.step (f := fun k => (pragma_Rules_Knows.f k [⟨[], []⟩] a1).bind fun t => some (!t)) (fun k => ?_) (Ev.bind hk (Ev.now _))
    simp only [redpenlaw17_PragmaPlain.l1]
    rw [if_neg (by omega)]
    rfl
  | succ d ih =>
    intro i hd hi
    refine Ev.step (fun k => ?_) (ih (i + 1) (by omega) (by omega))
    simp only [redpenlaw17_PragmaPlain.l1]
    rw [if_pos (by omega), hw ((i : Int) + 1) (i + 1) (by omega) (by omega)]
    rfl
/-- No colon stays. -/
def strike (b : List Int) : List Int := b.map fun c => if c = 58 then 59 else c
theorem set_len (A B : List Int) (x y : Int) : (A ++ x :: B).set A.length y = A ++ y :: B := by
  rw [List.set_append_right _ _ (Nat.le_refl _), Nat.sub_self]
  rfl
theorem plain_l0 (a1 : ByteArray) {b : List Int} (hb : b.length ≤ 1000) (main : Ev (fun k => (pragma_Read.f k (strike b)).bind fun t => redpenlaw17_PragmaPlain.l1 k a1 t ((strike b).length : Int) 0) true) :
    ∀ (t A : List Int), b = A ++ t → Ev (fun k => redpenlaw17_PragmaPlain.l0 k a1 (strike A ++ t) (b.length : Int) (A.length : Int)) true := by
  intro t
  induction t with
  | nil =>
    intro A e
    rw [List.append_nil] at e
    subst e
    rw [List.append_nil]
    refine Ev.step (fun k => ?_) main
    simp only [redpenlaw17_PragmaPlain.l0]
    rw [if_neg (by omega)]
  | cons c t ih =>
    intro A e
    have hl : b.length = A.length + (t.length + 1) := by rw [e, List.length_append, List.length_cons]
    have hs : (strike A).length = A.length := by unfold strike; rw [List.length_map]
    have hr : rd (strike A ++ c :: t) (A.length : Int) = c := by
      unfold rd
      rw [Int.toNat_natCast, List.getD_eq_getElem?_getD, List.getElem?_append_right (by omega), hs, Nat.sub_self]
      rfl
    have hn := ih (A ++ [c]) (by rw [e, List.append_assoc]; rfl)
    have e1 : strike (A ++ [c]) = strike A ++ [if c = 58 then 59 else c] := by unfold strike; rw [List.map_append]; rfl
    rw [e1, List.append_assoc, List.length_append, List.length_singleton] at hn
    have hlen : (strike A ++ c :: t).length = b.length := by rw [List.length_append, hs, List.length_cons]; omega
    have ew : ∀ _ : Unit, wrap64 ((A.length : Int) + 1) = ((A.length + 1 : Nat) : Int) := fun _ => hw _ _ (by omega) (by omega)
    have hset := set_len (strike A) t c 59
    rw [hs] at hset
    by_cases hc : c = 58
    · rw [if_pos hc] at hn
      refine Ev.step (fun k => ?_) hn
      simp only [redpenlaw17_PragmaPlain.l0]
      rw [if_pos (by omega), if_pos (by omega), if_pos (by omega), hr, if_pos hc, ew (), Int.toNat_natCast, hset]
      rfl
    · rw [if_neg hc] at hn
      refine Ev.step (fun k => ?_) hn
      simp only [redpenlaw17_PragmaPlain.l0]
      rw [if_pos (by omega), if_pos (by omega), if_pos (by omega), hr, if_neg hc, ew ()]
      rfl
theorem offsQ_none : ∀ (L : List (List Int)) (p : Nat), offsQ (fun _ => []) L p false false = []
  | [], _ => rfl
  | l :: t, p => by
    unfold offsQ
    show [] ++ offsQ (fun _ => []) t (p + l.length) false false = []
    rw [List.nil_append]
    exact offsQ_none t _
theorem read_none {b : List Int} (hB : BT b) (hb : b.length ≤ 1000) (h : ∀ x ∈ b, x ≠ 58) : Ev (fun k => pragma_Read.f k b) [⟨[], []⟩] := by
  have := read_quiet b (by omega) (fun _ => []) (fun l hl => ?_)
  · rw [offsQ_none] at this
    exact this
  · have hm : ∀ x ∈ l, x ∈ b := fun x hx => by rw [← ls_flat b]; exact List.mem_flatten.2 ⟨l, hl, hx⟩
    have hll : l.length ≤ b.length := by
      have := (List.sublist_flatten_of_mem hl).length_le
      rw [ls_flat] at this
      exact this
    refine ⟨?_, fun a ha => (by cases ha), by simp⟩
    have h1 := asks_ev (strOfNums l) (by rw [strOfNums_size]; omega)
    rw [asks_none] at h1
    · exact h1
    · intro x hx e
      rw [strOfNums_data] at hx
      obtain ⟨c, hc, e2⟩ := List.mem_map.1 hx
      have hc1 := hB c (hm c hc)
      have hc2 := h c (hm c hc)
      rw [e] at e2
      have := congrArg UInt8.toNat e2
      rw [UInt8.toNat_ofNat'] at this
      have e3 : (58 : UInt8).toNat = 58 := rfl
      rw [e3] at this
      omega
theorem PragmaPlain (l0 : List Int) (a1 : ByteArray) (h0 : l0.length * 1 ≤ 140737488351232) (h1 : ∀ x ∈ l0, (fun n => (Lit.int .u8 n).wf = true) x) (h2 : a1.size ≤ 140737488351232) : ∃ k, redpenlaw17_PragmaPlain.f k l0 a1 = some true := by
  have hB : BT l0 := by
    intro x hx
    have := h1 x hx
    simp [Lit.wf, IntKind.min, IntKind.max, IntKind.signed, IntKind.bits] at this
    omega
  refine Ev.rounds (Ev.bind prag_awake ?_)
  simp only [if_true]
  by_cases c1 : (l0.length : Int) > 500
  · simp only [if_pos c1]
    refine Ev.step (f := fun _ => some true) (fun k => ?_) (Ev.now _)
    simp only [redpenlaw17_PragmaPlain.j0]
    rw [if_pos trivial]
  · simp only [if_neg c1]
    by_cases c2 : (a1.size : Int) > 200
    · rw [decide_eq_true c2]
      refine Ev.step (f := fun _ => some true) (fun k => ?_) (Ev.now _)
      simp only [redpenlaw17_PragmaPlain.j0]
      rw [if_pos trivial]
    · rw [decide_eq_false c2]
      have hsl : (strike l0).length = l0.length := by unfold strike; rw [List.length_map]
      have hsB : BT (strike l0) := by
        intro x hx
        obtain ⟨c, hc, rfl⟩ := List.mem_map.1 hx
        have := hB c hc
        split <;> omega
      have hs58 : ∀ x ∈ strike l0, x ≠ 58 := by
        intro x hx
        obtain ⟨c, hc, rfl⟩ := List.mem_map.1 hx
        split <;> omega
      have hr := read_none hsB (by omega) hs58
      have main : Ev (fun k => (pragma_Read.f k (strike l0)).bind fun t => redpenlaw17_PragmaPlain.l1 k a1 t ((strike l0).length : Int) 0) true := by
        refine Ev.bind hr ?_
        rw [hsl]
        exact plain_l1 a1 (by omega) l0.length (by omega) _ 0 rfl (Nat.zero_le _)
      have h := plain_l0 a1 (b := l0) (by omega) main l0 [] rfl
      refine Ev.step (fun k => ?_) h
      simp only [redpenlaw17_PragmaPlain.j0]
      rw [if_neg (by simp)]
      simp only [Option.bind_some, List.nil_append, List.length_nil, Nat.zero_add]
      rw [if_pos (by omega)]
      rfl
end Go.Proofs.YtkflgnhcfhmkdaaDoor.Pure
