/- The order of texts by their bytes; lists that rise. -/
import Derived.Test.YtokgkhndhlcfpaaMStr
import Derived.Laws.Strings
namespace Go.Proofs.Ytokgkhndhlcfpaa.M
open Go.RowKit
set_option linter.unusedVariables false
set_option linter.unusedSimpArgs false

theorem bl_irrefl : ∀ a : List UInt8, Op.bytesLess a a = false
  | [] => rfl
  | x :: a => by simp [Op.bytesLess, bl_irrefl a]
theorem bl_trans : ∀ a b c : List UInt8, Op.bytesLess a b = true → Op.bytesLess b c = true → Op.bytesLess a c = true
  | [], [], _, h, _ => by simp [Op.bytesLess] at h
  | [], _ :: _, [], _, h => by simp [Op.bytesLess] at h
  | [], _ :: _, _ :: _, _, _ => by simp [Op.bytesLess]
  | _ :: _, [], _, h, _ => by simp [Op.bytesLess] at h
  | _ :: _, _ :: _, [], _, h => by simp [Op.bytesLess] at h
  | x :: a, y :: b, z :: c, h, k => by
    simp only [Op.bytesLess, Bool.or_eq_true, Bool.and_eq_true, decide_eq_true_eq, beq_iff_eq] at h k ⊢
    rcases h with h | ⟨rfl, h⟩ <;> rcases k with k | ⟨rfl, k⟩
    · exact .inl (UInt8.lt_trans h k)
    · exact .inl h
    · exact .inl k
    · exact .inr ⟨rfl, bl_trans a b c h k⟩
theorem bl_total : ∀ a b : List UInt8, Op.bytesLess a b = false → a ≠ b → Op.bytesLess b a = true
  | [], [], _, h => absurd rfl h
  | [], _ :: _, h, _ => by simp [Op.bytesLess] at h
  | _ :: _, [], _, _ => by simp [Op.bytesLess]
  | x :: a, y :: b, h, k => by
    simp only [Op.bytesLess, Bool.or_eq_false_iff, Bool.and_eq_false_iff, decide_eq_false_iff_not, beq_eq_false_iff_ne] at h
    simp only [Op.bytesLess, Bool.or_eq_true, Bool.and_eq_true, decide_eq_true_eq, beq_iff_eq]
    rcases Nat.lt_trichotomy x.toNat y.toNat with h1 | h1 | h1
    · exact absurd (UInt8.lt_iff_toNat_lt.2 h1) h.1
    · obtain rfl := UInt8.toNat_inj.1 h1
      refine .inr ⟨rfl, bl_total a b ?_ (fun e => k (by rw [e]))⟩
      rcases h.2 with h2 | h2
      · exact absurd rfl h2
      · exact h2
    · exact .inl (UInt8.lt_iff_toNat_lt.2 h1)
theorem bl_le (a b : List UInt8) : (Op.bytesLess a b || a == b) = !(Op.bytesLess b a) := by
  cases h : Op.bytesLess b a with
  | true =>
    have h1 : Op.bytesLess a b = false := by
      cases h2 : Op.bytesLess a b with
      | false => rfl
      | true =>
        have := bl_trans _ _ _ h h2
        rw [bl_irrefl] at this
        cases this
    have h2 : (a == b) = false := by
      rw [beq_eq_false_iff_ne]
      rintro rfl
      rw [bl_irrefl] at h
      cases h
    simp [h1, h2]
  | false =>
    by_cases e : a = b
    · simp [e]
    · have := bl_total b a h (fun x => e x.symm)
      simp [this]
/-- Texts in their order. -/
def Less (a b : ByteArray) : Prop := Op.bytesLess a.toList b.toList = true
theorem Less.irrefl (a : ByteArray) : ¬ Less a a := fun h => by
  unfold Less at h
  rw [bl_irrefl] at h
  cases h
theorem Less.trans {a b c : ByteArray} (h : Less a b) (k : Less b c) : Less a c := bl_trans _ _ _ h k
theorem Less.ne {a b : ByteArray} (h : Less a b) : a ≠ b := fun e => Less.irrefl b (e ▸ h)
theorem Less.total {a b : ByteArray} (h : ¬ Less a b) (hne : a ≠ b) : Less b a := bl_total _ _ (eq_false_of_ne_true h) (fun e => hne (ba_ext e))
/-- A text put where it belongs: what rises, rises. -/
theorem rise_put {l : List ByteArray} {s : ByteArray} {k : Nat} (hk : k ≤ l.length) (h : l.Pairwise Less) (h1 : ∀ x ∈ l.take k, Less x s) (h2 : ∀ x ∈ l.drop k, Less s x) : (l.take k ++ [s] ++ l.drop k).Pairwise Less := by
  have hl : l = l.take k ++ l.drop k := (List.take_append_drop k l).symm
  rw [hl] at h
  obtain ⟨p1, p2, p3⟩ := List.pairwise_append.1 h
  rw [List.append_assoc, List.pairwise_append]
  refine ⟨p1, ?_, ?_⟩
  · rw [List.singleton_append, List.pairwise_cons]
    exact ⟨h2, p2⟩
  · intro x hx y hy
    rcases List.mem_cons.1 hy with rfl | hy
    · exact h1 x hx
    · exact p3 x hx y hy
/-- The first place where a text isn't less. -/
theorem rise_place {l : List ByteArray} {s : ByteArray} {k : Nat} (hk : k < l.length) (h : l.Pairwise Less) (hge : ¬ Less (l.getD k ByteArray.empty) s) (hne : l.getD k ByteArray.empty ≠ s) : ∀ x ∈ l.drop k, Less s x := by
  intro x hx
  have hd := List.drop_eq_getElem_cons hk
  have e : l.getD k ByteArray.empty = l[k] := by rw [List.getD_eq_getElem?_getD, List.getElem?_eq_getElem hk]; rfl
  rw [e] at hge hne
  have h0 : Less s l[k] := Less.total hge hne
  rw [hd] at hx
  rcases List.mem_cons.1 hx with rfl | hx
  · exact h0
  · have : (l[k] :: l.drop (k + 1)).Pairwise Less := by
      rw [← hd]
      exact h.sublist (List.drop_sublist _ _)
    exact h0.trans ((List.pairwise_cons.1 this).1 x hx)
end Go.Proofs.Ytokgkhndhlcfpaa.M
