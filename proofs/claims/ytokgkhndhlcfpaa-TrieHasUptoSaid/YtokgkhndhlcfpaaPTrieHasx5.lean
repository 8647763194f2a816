-- Laid by a program of ours (the kit's print with words and contracts of our own beside it).
import Derived.Test.YtokgkhndhlcfpaaPTrieHasx0
import Derived.Test.YtokgkhndhlcfpaaPTrieHasx2
import Derived.Test.YtokgkhndhlcfpaaPTrieHasx4
namespace Go.Proofs.Ytokgkhndhlcfpaa.PTrieHas
open Go.RowKit Go.Proofs.Ytokgkhndhlcfpaa.X Go.Proofs.YtokgkhndhlcfpaaW.PrintWords Go.Proofs.YtokgkhndhlcfpaaW.PrintLast Go.Proofs.YtokgkhndhlcfpaaW.PrintMore
attribute [local go_sem] max2_int min2_int max_two min_two max_three min_three max_four min_four   -- for this text's walks alone
set_option linter.unusedVariables false
set_option linter.unusedSimpArgs false

/-! ### redpenlaw07_TrieHas_1: function 27 -/
def redpenlaw07_TrieHas_1.l0 : Nat → ByteArray → List ByteArray → Int → Int → Option (Bool)
 | 0, _, _, _, _ => none
 | k + 1, x0, x6, x7, x8 => if x8 < x7 then (if 0 ≤ x8 then (if x8 < (x6.length : Int) then (if (rdOf ByteArray.empty x6 x8).toList = x0.toList then (some true) else (redpenlaw07_TrieHas_1.l0 k x0 x6 x7 (wrap64 (x8 + 1)))) else (none)) else (none)) else (some false)
def redpenlaw07_TrieHas_1.f (k : Nat) (a0 : ByteArray) (l1 : List ByteArray) : Option (Bool) := redpenlaw07_TrieHas_1.l0 k a0 l1 (l1.length : Int) 0
theorem redpenlaw07_TrieHas_1.mono_l : ∀ k, (∀ y0 y1 y2 y3, LeO (redpenlaw07_TrieHas_1.l0 k y0 y1 y2 y3) (redpenlaw07_TrieHas_1.l0 (k + 1) y0 y1 y2 y3))
 | 0 => fun _ _ _ _ r h => by simp [redpenlaw07_TrieHas_1.l0] at h
 | k + 1 => by
  have ih0 := redpenlaw07_TrieHas_1.mono_l k
  ·intro y0 y1 y2 y3
   unfold redpenlaw07_TrieHas_1.l0
   repeat' first
   | (with_reducible exact ih0 _ _ _ _)
   | (with_reducible exact LeO.refl _)
   | (with_reducible exact LeO.none _)
   | (with_reducible refine LeO.ite ?_ ?_)
   | (with_reducible refine LeO.bind ?_ (fun _ => ?_))
   | exact ih0 _ _ _ _
   | exact LeO.none _
   | refine LeO.ite ?_ ?_
   | refine LeO.bind ?_ (fun _ => ?_)
theorem redpenlaw07_TrieHas_1.mono : ∀ a0 a1 k, LeO (redpenlaw07_TrieHas_1.f k a0 a1) (redpenlaw07_TrieHas_1.f (k + 1) a0 a1) := by
 intro a0 a1 k
 have ih0 := redpenlaw07_TrieHas_1.mono_l k
 unfold redpenlaw07_TrieHas_1.f
 repeat' first
   | (with_reducible exact ih0 _ _ _ _)
   | (with_reducible exact LeO.refl _)
   | (with_reducible exact LeO.none _)
   | (with_reducible refine LeO.ite ?_ ?_)
   | (with_reducible refine LeO.bind ?_ (fun _ => ?_))
   | exact ih0 _ _ _ _
   | exact LeO.none _
   | refine LeO.ite ?_ ?_
   | refine LeO.bind ?_ (fun _ => ?_)
set_option maxHeartbeats 8000000 in
set_option maxRecDepth 100000 in
theorem redpenlaw07_TrieHas_1.calls {gx_ : Nat} (k : Nat) (a0 : ByteArray) (A1 : Option Addr) (c1 : Nat) (l1 : List ByteArray) (r : Bool) (w : World) (hr1 : Kd.C Kd.string w A1 l1.length l1) (hc1 : l1.length ≤ c1) (h : redpenlaw07_TrieHas_1.f k a0 l1 = some r) (hx_ : w.cell? ⟨gx_, 0, none⟩ = some (.slice A1 l1.length c1)) :
  Calls Try.prog 27 #[.string a0, .pointer (some ⟨gx_, 0, none⟩)] w fun e w' => e = .returned (.bool r) ∧ Drawn0 w w' := by
 have HR1 := Aside0.mk hr1
 have HC1 := Aside0.mk hc1
 clear hr1 hc1
 have H : (redpenlaw07_TrieHas_1.l0 k a0 l1 (l1.length : Int) 0) = some r := h
 clear h
 have H' := Aside0.mk H
 clear H
 go_enter Try.func27, Try.ntmps27
 go_wp2
 go_loopg [8] k (fun kq v8 w' => ∃ (x8_1 : Int), v8 = .int .i64 x8_1 ∧ Aside0 (redpenlaw07_TrieHas_1.l0 kq a0 l1 (l1.length : Int) x8_1 = some r) ∧ Aside0 (kq ≤ k) ∧ Drawn0 w w')
 case atStart => exact ⟨(0), (by first | rfl | (simp; done) | (simp [*]; done) | (simp [wrap64, wrap32]; done)), H', ⟨Nat.le_refl _⟩, by repeat (first | exact Drawn0.refl _ | apply Drawn0.step)⟩
 case round =>
  clear H'
  try clear c1
  try clear c2
  try clear p2
  obtain ⟨x8_1, rfl, HA, HK1, ⟨m1, rfl⟩⟩ := hrel
  cases gk with
  | zero => exact absurd HA.out (by simp [redpenlaw07_TrieHas_1.l0])
  | succ k1 =>
   have H := HA.out
   clear HA
   simp only [redpenlaw07_TrieHas_1.l0] at H
   by_cases c3 : x8_1 < (l1.length : Int)
   ·rw [if_pos c3] at H
    have c3b0 : decide (x8_1 < (l1.length : Int)) = true := decide_eq_true c3
    clear c3
    by_cases c4 : 0 ≤ x8_1
    ·rw [if_pos c4] at H
     have c4b0 : decide (0 ≤ x8_1) = true := decide_eq_true c4
     clear c4
     by_cases c5 : x8_1 < (l1.length : Int)
     ·rw [if_pos c5] at H
      have c5b0 : decide (x8_1 < (l1.length : Int)) = true := decide_eq_true c5
      clear c5
      by_cases c6 : (rdOf ByteArray.empty l1 x8_1).toList = a0.toList
      ·rw [if_pos c6] at H
       have c6b0 : ((rdOf ByteArray.empty l1 x8_1).toList == a0.toList) = true := beq_iff_eq.mpr c6
       have c6b1 : ((rdOf ByteArray.empty l1 x8_1).toList != a0.toList) = false := bne_eq_false_iff_eq.mpr c6
       clear c6
       obtain rfl := Option.some.inj H
       have p273 : 0 ≤ (x8_1 : Int) := of_decide_eq_true (by first | (with_reducible assumption) | assumption)
       have q273 : x8_1 < (l1.length : Int) := of_decide_eq_true (by first | (with_reducible assumption) | assumption)
       obtain ⟨ad273, e273, hx273_0⟩ := Kd.at_string HR1.out x8_1 p273 q273
       cases e273
       replace p273 := eq_true p273
       replace q273 := eq_true q273
       go_wp2
       go_ret
       exact ⟨by first | rfl | (simp; done) | (simp [*]; done) | (simp [wrap64, wrap32]; done), by repeat (first | exact Drawn0.refl _ | apply Drawn0.step)⟩
      ·rw [if_neg c6] at H
       have c6b0 : ((rdOf ByteArray.empty l1 x8_1).toList == a0.toList) = false := beq_eq_false_iff_ne.mpr c6
       have c6b1 : ((rdOf ByteArray.empty l1 x8_1).toList != a0.toList) = true := bne_iff_ne.mpr c6
       have H' := Aside0.mk H
       clear H
       have p273 : 0 ≤ (x8_1 : Int) := of_decide_eq_true (by first | (with_reducible assumption) | assumption)
       have q273 : x8_1 < (l1.length : Int) := of_decide_eq_true (by first | (with_reducible assumption) | assumption)
       obtain ⟨ad273, e273, hx273_0⟩ := Kd.at_string HR1.out x8_1 p273 q273
       cases e273
       replace p273 := eq_true p273
       replace q273 := eq_true q273
       go_wp2
       go_roundg k1
       case measure => have := HK1.out; omega
       case rel => exact ⟨(wrap64 (x8_1 + 1)), (by first | rfl | (simp; done) | (simp [*]; done) | (simp [wrap64, wrap32]; done)), H', ⟨by have := HK1.out; omega⟩, by repeat (first | exact Drawn0.refl _ | apply Drawn0.step)⟩
     ·rw [if_neg c5] at H
      exact absurd H (by simp)
    ·rw [if_neg c4] at H
     exact absurd H (by simp)
   ·rw [if_neg c3] at H
    have c3b0 : decide (x8_1 < (l1.length : Int)) = false := decide_eq_false c3
    clear c3
    obtain rfl := Option.some.inj H
    go_wp2
    go_ret
    exact ⟨by first | rfl | (simp; done) | (simp [*]; done) | (simp [wrap64, wrap32]; done), by repeat (first | exact Drawn0.refl _ | apply Drawn0.step)⟩


/-! ### redpenlaw07_TrieHas: function 10 -/
mutual
def redpenlaw07_TrieHas.j0 : Nat → List (TrT) → Int → List ByteArray → List ByteArray → Option (Bool)
 | 0, _, _, _, _ => none
 | k + 1, x9, x10, x12, x275000 => redpenlaw07_TrieHas.l0 k x9 x10 x12 (x12.length : Int) 0 x275000
def redpenlaw07_TrieHas.l0 : Nat → List (TrT) → Int → List ByteArray → Int → Int → List ByteArray → Option (Bool)
 | 0, _, _, _, _, _, _ => none
 | k + 1, x9, x10, x56, x57, x58, x275000 => if x58 < x57 then (if 0 ≤ x58 then (if x58 < (x56.length : Int) then (if ((rdOf ByteArray.empty x56 x58).size : Int) < 500 then ((trie_Trie_Has.f k x9 (rdOf ByteArray.empty x56 x58)).bind fun t294 => ((redpenlaw07_TrieHas_1.f k (rdOf ByteArray.empty x56 x58) x275000).bind fun t295 => (if (t294 != t295) = true then (some false) else (redpenlaw07_TrieHas.l0 k x9 x10 x56 x57 (wrap64 (x58 + 1)) x275000)))) else (redpenlaw07_TrieHas.l0 k x9 x10 x56 x57 (wrap64 (x58 + 1)) x275000)) else (none)) else (none)) else (some (x10 == 0))
end
def redpenlaw07_TrieHas.f (k : Nat) (l0 : List ByteArray) (a1 : ByteArray) (a2 : Int) (a3 : Int) : Option (Bool) := (redpenlaw07_Awake.f k).bind fun t275 => (if t275 = true then ((redpenlaw07_Sorted.f k l0).bind fun t276 => ((trie_Make.f k t276).bind fun bt279 => ((some (([a1, (⟨#[]⟩ : ByteArray)] : List ByteArray) : List ByteArray)).bind fun y283 => (if (t276.length : Int) > 0 then (if (t276.length : Int) = 0 then (none) else (if 0 ≤ (Int.tmod (wrap64 (a2)) (t276.length : Int)) then (if (Int.tmod (wrap64 (a2)) (t276.length : Int)) < (t276.length : Int) then (if (wrap64 (((rdOf ByteArray.empty t276 (Int.tmod (wrap64 (a2)) (t276.length : Int))).size : Int) + 1)) = 0 then (none) else (if 0 ≤ (Int.tmod (wrap64 (a3)) (wrap64 (((rdOf ByteArray.empty t276 (Int.tmod (wrap64 (a2)) (t276.length : Int))).size : Int) + 1))) then (if (Int.tmod (wrap64 (a3)) (wrap64 (((rdOf ByteArray.empty t276 (Int.tmod (wrap64 (a2)) (t276.length : Int))).size : Int) + 1))) ≤ ((rdOf ByteArray.empty t276 (Int.tmod (wrap64 (a2)) (t276.length : Int))).size : Int) then (if (rdOf ByteArray.empty t276 (Int.tmod (wrap64 (a2)) (t276.length : Int))).size + a1.size ≤ 9223372036854775807 then (if (rdOf ByteArray.empty t276 (Int.tmod (wrap64 (a2)) (t276.length : Int))).size + 1 ≤ 9223372036854775807 then ((some (([rdOf ByteArray.empty t276 (Int.tmod (wrap64 (a2)) (t276.length : Int)), (rdOf ByteArray.empty t276 (Int.tmod (wrap64 (a2)) (t276.length : Int))).extract 0 ((Int.tmod (wrap64 (a3)) (wrap64 (((rdOf ByteArray.empty t276 (Int.tmod (wrap64 (a2)) (t276.length : Int))).size : Int) + 1))) : Int).toNat, (rdOf ByteArray.empty t276 (Int.tmod (wrap64 (a2)) (t276.length : Int))) ++ a1, (rdOf ByteArray.empty t276 (Int.tmod (wrap64 (a2)) (t276.length : Int))) ++ (⟨#[97]⟩ : ByteArray)] : List ByteArray) : List ByteArray)).bind fun y287 => (if y283.length + y287.length < 8796093022208 then (redpenlaw07_TrieHas.j0 k bt279.1 bt279.2 (y283 ++ y287) t276) else (none))) else (none)) else (none)) else (none)) else (none))) else (none)) else (none))) else (redpenlaw07_TrieHas.j0 k bt279.1 bt279.2 y283 t276))))) else (some false))
theorem redpenlaw07_TrieHas.mono_l : ∀ k, (∀ y0 y1 y2 y3, LeO (redpenlaw07_TrieHas.j0 k y0 y1 y2 y3) (redpenlaw07_TrieHas.j0 (k + 1) y0 y1 y2 y3)) ∧ (∀ y0 y1 y2 y3 y4 y5, LeO (redpenlaw07_TrieHas.l0 k y0 y1 y2 y3 y4 y5) (redpenlaw07_TrieHas.l0 (k + 1) y0 y1 y2 y3 y4 y5))
 | 0 => ⟨fun _ _ _ _ r h => by simp [redpenlaw07_TrieHas.j0] at h, fun _ _ _ _ _ _ r h => by simp [redpenlaw07_TrieHas.l0] at h⟩
 | k + 1 => by
  obtain ⟨ih0, ih1⟩ := redpenlaw07_TrieHas.mono_l k
  refine ⟨?_, ?_⟩
  ·intro y0 y1 y2 y3
   unfold redpenlaw07_TrieHas.j0
   repeat' first
   | (with_reducible exact ih0 _ _ _ _)
   | (with_reducible exact ih1 _ _ _ _ _ _)
   | (with_reducible exact redpenlaw07_Awake.mono _)
   | (with_reducible exact redpenlaw07_Sorted.mono _ _)
   | (with_reducible exact redpenlaw07_TrieHas_1.mono _ _ _)
   | (with_reducible exact trie_Make.mono _ _)
   | (with_reducible exact trie_Trie_Has.mono _ _ _)
   | (with_reducible exact LeO.refl _)
   | (with_reducible exact LeO.none _)
   | (with_reducible refine LeO.ite ?_ ?_)
   | (with_reducible refine LeO.bind ?_ (fun _ => ?_))
   | exact ih0 _ _ _ _
   | exact ih1 _ _ _ _ _ _
   | exact redpenlaw07_Awake.mono _
   | exact redpenlaw07_Sorted.mono _ _
   | exact redpenlaw07_TrieHas_1.mono _ _ _
   | exact trie_Make.mono _ _
   | exact trie_Trie_Has.mono _ _ _
   | exact LeO.none _
   | refine LeO.ite ?_ ?_
   | refine LeO.bind ?_ (fun _ => ?_)
  ·intro y0 y1 y2 y3 y4 y5
   unfold redpenlaw07_TrieHas.l0
   repeat' first
   | (with_reducible exact ih0 _ _ _ _)
   | (with_reducible exact ih1 _ _ _ _ _ _)
   | (with_reducible exact redpenlaw07_Awake.mono _)
   | (with_reducible exact redpenlaw07_Sorted.mono _ _)
   | (with_reducible exact redpenlaw07_TrieHas_1.mono _ _ _)
   | (with_reducible exact trie_Make.mono _ _)
   | (with_reducible exact trie_Trie_Has.mono _ _ _)
   | (with_reducible exact LeO.refl _)
   | (with_reducible exact LeO.none _)
   | (with_reducible refine LeO.ite ?_ ?_)
   | (with_reducible refine LeO.bind ?_ (fun _ => ?_))
   | exact ih0 _ _ _ _
   | exact ih1 _ _ _ _ _ _
   | exact redpenlaw07_Awake.mono _
   | exact redpenlaw07_Sorted.mono _ _
   | exact redpenlaw07_TrieHas_1.mono _ _ _
   | exact trie_Make.mono _ _
   | exact trie_Trie_Has.mono _ _ _
   | exact LeO.none _
   | refine LeO.ite ?_ ?_
   | refine LeO.bind ?_ (fun _ => ?_)
theorem redpenlaw07_TrieHas.mono : ∀ a0 a1 a2 a3 k, LeO (redpenlaw07_TrieHas.f k a0 a1 a2 a3) (redpenlaw07_TrieHas.f (k + 1) a0 a1 a2 a3) := by
 intro a0 a1 a2 a3 k
 obtain ⟨ih0, ih1⟩ := redpenlaw07_TrieHas.mono_l k
 unfold redpenlaw07_TrieHas.f
 repeat' first
   | (with_reducible exact ih0 _ _ _ _)
   | (with_reducible exact ih1 _ _ _ _ _ _)
   | (with_reducible exact redpenlaw07_Awake.mono _)
   | (with_reducible exact redpenlaw07_Sorted.mono _ _)
   | (with_reducible exact redpenlaw07_TrieHas_1.mono _ _ _)
   | (with_reducible exact trie_Make.mono _ _)
   | (with_reducible exact trie_Trie_Has.mono _ _ _)
   | (with_reducible exact LeO.refl _)
   | (with_reducible exact LeO.none _)
   | (with_reducible refine LeO.ite ?_ ?_)
   | (with_reducible refine LeO.bind ?_ (fun _ => ?_))
   | exact ih0 _ _ _ _
   | exact ih1 _ _ _ _ _ _
   | exact redpenlaw07_Awake.mono _
   | exact redpenlaw07_Sorted.mono _ _
   | exact redpenlaw07_TrieHas_1.mono _ _ _
   | exact trie_Make.mono _ _
   | exact trie_Trie_Has.mono _ _ _
   | exact LeO.none _
   | refine LeO.ite ?_ ?_
   | refine LeO.bind ?_ (fun _ => ?_)
set_option maxHeartbeats 8000000 in
set_option maxRecDepth 100000 in
theorem redpenlaw07_TrieHas.calls (k : Nat) (A0 : Option Addr) (c0 : Nat) (l0 : List ByteArray) (a1 : ByteArray) (a2 : Int) (a3 : Int) (r : Bool) (w : World) (hr0 : Kd.C Kd.string w A0 l0.length l0) (hc0 : l0.length ≤ c0) (h : redpenlaw07_TrieHas.f k l0 a1 a2 a3 = some r) (hr_ : r = true) :
  Calls Try.prog 10 #[.slice A0 l0.length c0, .string a1, .int .u8 a2, .int .u8 a3] w fun e w' => e = .returned (.bool r) ∧ Below w.heap.size w w' := by
 have HR0 := Aside0.mk hr0
 have HC0 := Aside0.mk hc0
 clear hr0 hc0
 have HB := Aside0.mk (Below.refl w.heap.size w)
 have H : ((redpenlaw07_Awake.f k).bind fun t275 => (if t275 = true then ((redpenlaw07_Sorted.f k l0).bind fun t276 => ((trie_Make.f k t276).bind fun bt279 => ((some (([a1, (⟨#[]⟩ : ByteArray)] : List ByteArray) : List ByteArray)).bind fun y283 => (if (t276.length : Int) > 0 then (if (t276.length : Int) = 0 then (none) else (if 0 ≤ (Int.tmod (wrap64 (a2)) (t276.length : Int)) then (if (Int.tmod (wrap64 (a2)) (t276.length : Int)) < (t276.length : Int) then (if (wrap64 (((rdOf ByteArray.empty t276 (Int.tmod (wrap64 (a2)) (t276.length : Int))).size : Int) + 1)) = 0 then (none) else (if 0 ≤ (Int.tmod (wrap64 (a3)) (wrap64 (((rdOf ByteArray.empty t276 (Int.tmod (wrap64 (a2)) (t276.length : Int))).size : Int) + 1))) then (if (Int.tmod (wrap64 (a3)) (wrap64 (((rdOf ByteArray.empty t276 (Int.tmod (wrap64 (a2)) (t276.length : Int))).size : Int) + 1))) ≤ ((rdOf ByteArray.empty t276 (Int.tmod (wrap64 (a2)) (t276.length : Int))).size : Int) then (if (rdOf ByteArray.empty t276 (Int.tmod (wrap64 (a2)) (t276.length : Int))).size + a1.size ≤ 9223372036854775807 then (if (rdOf ByteArray.empty t276 (Int.tmod (wrap64 (a2)) (t276.length : Int))).size + 1 ≤ 9223372036854775807 then ((some (([rdOf ByteArray.empty t276 (Int.tmod (wrap64 (a2)) (t276.length : Int)), (rdOf ByteArray.empty t276 (Int.tmod (wrap64 (a2)) (t276.length : Int))).extract 0 ((Int.tmod (wrap64 (a3)) (wrap64 (((rdOf ByteArray.empty t276 (Int.tmod (wrap64 (a2)) (t276.length : Int))).size : Int) + 1))) : Int).toNat, (rdOf ByteArray.empty t276 (Int.tmod (wrap64 (a2)) (t276.length : Int))) ++ a1, (rdOf ByteArray.empty t276 (Int.tmod (wrap64 (a2)) (t276.length : Int))) ++ (⟨#[97]⟩ : ByteArray)] : List ByteArray) : List ByteArray)).bind fun y287 => (if y283.length + y287.length < 8796093022208 then (redpenlaw07_TrieHas.j0 k bt279.1 bt279.2 (y283 ++ y287) t276) else (none))) else (none)) else (none)) else (none)) else (none))) else (none)) else (none))) else (redpenlaw07_TrieHas.j0 k bt279.1 bt279.2 y283 t276))))) else (some false))) = some r := h
 clear h
 replace H := Option.bind_eq_some_iff.mp H
 obtain ⟨t275, A50, H⟩ := H
 replace H : (if t275 = true then ((redpenlaw07_Sorted.f k l0).bind fun t276 => ((trie_Make.f k t276).bind fun bt279 => ((some (([a1, (⟨#[]⟩ : ByteArray)] : List ByteArray) : List ByteArray)).bind fun y283 => (if (t276.length : Int) > 0 then (if (t276.length : Int) = 0 then (none) else (if 0 ≤ (Int.tmod (wrap64 (a2)) (t276.length : Int)) then (if (Int.tmod (wrap64 (a2)) (t276.length : Int)) < (t276.length : Int) then (if (wrap64 (((rdOf ByteArray.empty t276 (Int.tmod (wrap64 (a2)) (t276.length : Int))).size : Int) + 1)) = 0 then (none) else (if 0 ≤ (Int.tmod (wrap64 (a3)) (wrap64 (((rdOf ByteArray.empty t276 (Int.tmod (wrap64 (a2)) (t276.length : Int))).size : Int) + 1))) then (if (Int.tmod (wrap64 (a3)) (wrap64 (((rdOf ByteArray.empty t276 (Int.tmod (wrap64 (a2)) (t276.length : Int))).size : Int) + 1))) ≤ ((rdOf ByteArray.empty t276 (Int.tmod (wrap64 (a2)) (t276.length : Int))).size : Int) then (if (rdOf ByteArray.empty t276 (Int.tmod (wrap64 (a2)) (t276.length : Int))).size + a1.size ≤ 9223372036854775807 then (if (rdOf ByteArray.empty t276 (Int.tmod (wrap64 (a2)) (t276.length : Int))).size + 1 ≤ 9223372036854775807 then ((some (([rdOf ByteArray.empty t276 (Int.tmod (wrap64 (a2)) (t276.length : Int)), (rdOf ByteArray.empty t276 (Int.tmod (wrap64 (a2)) (t276.length : Int))).extract 0 ((Int.tmod (wrap64 (a3)) (wrap64 (((rdOf ByteArray.empty t276 (Int.tmod (wrap64 (a2)) (t276.length : Int))).size : Int) + 1))) : Int).toNat, (rdOf ByteArray.empty t276 (Int.tmod (wrap64 (a2)) (t276.length : Int))) ++ a1, (rdOf ByteArray.empty t276 (Int.tmod (wrap64 (a2)) (t276.length : Int))) ++ (⟨#[97]⟩ : ByteArray)] : List ByteArray) : List ByteArray)).bind fun y287 => (if y283.length + y287.length < 8796093022208 then (redpenlaw07_TrieHas.j0 k bt279.1 bt279.2 (y283 ++ y287) t276) else (none))) else (none)) else (none)) else (none)) else (none))) else (none)) else (none))) else (redpenlaw07_TrieHas.j0 k bt279.1 bt279.2 y283 t276))))) else (some false)) = some r := H
 have A5 := Aside0.mk A50
 clear A50
 by_cases c6 : t275 = true
 ·subst c6
  have H1 : ((redpenlaw07_Sorted.f k l0).bind fun t276 => ((trie_Make.f k t276).bind fun bt279 => ((some (([a1, (⟨#[]⟩ : ByteArray)] : List ByteArray) : List ByteArray)).bind fun y283 => (if (t276.length : Int) > 0 then (if (t276.length : Int) = 0 then (none) else (if 0 ≤ (Int.tmod (wrap64 (a2)) (t276.length : Int)) then (if (Int.tmod (wrap64 (a2)) (t276.length : Int)) < (t276.length : Int) then (if (wrap64 (((rdOf ByteArray.empty t276 (Int.tmod (wrap64 (a2)) (t276.length : Int))).size : Int) + 1)) = 0 then (none) else (if 0 ≤ (Int.tmod (wrap64 (a3)) (wrap64 (((rdOf ByteArray.empty t276 (Int.tmod (wrap64 (a2)) (t276.length : Int))).size : Int) + 1))) then (if (Int.tmod (wrap64 (a3)) (wrap64 (((rdOf ByteArray.empty t276 (Int.tmod (wrap64 (a2)) (t276.length : Int))).size : Int) + 1))) ≤ ((rdOf ByteArray.empty t276 (Int.tmod (wrap64 (a2)) (t276.length : Int))).size : Int) then (if (rdOf ByteArray.empty t276 (Int.tmod (wrap64 (a2)) (t276.length : Int))).size + a1.size ≤ 9223372036854775807 then (if (rdOf ByteArray.empty t276 (Int.tmod (wrap64 (a2)) (t276.length : Int))).size + 1 ≤ 9223372036854775807 then ((some (([rdOf ByteArray.empty t276 (Int.tmod (wrap64 (a2)) (t276.length : Int)), (rdOf ByteArray.empty t276 (Int.tmod (wrap64 (a2)) (t276.length : Int))).extract 0 ((Int.tmod (wrap64 (a3)) (wrap64 (((rdOf ByteArray.empty t276 (Int.tmod (wrap64 (a2)) (t276.length : Int))).size : Int) + 1))) : Int).toNat, (rdOf ByteArray.empty t276 (Int.tmod (wrap64 (a2)) (t276.length : Int))) ++ a1, (rdOf ByteArray.empty t276 (Int.tmod (wrap64 (a2)) (t276.length : Int))) ++ (⟨#[97]⟩ : ByteArray)] : List ByteArray) : List ByteArray)).bind fun y287 => (if y283.length + y287.length < 8796093022208 then (redpenlaw07_TrieHas.j0 k bt279.1 bt279.2 (y283 ++ y287) t276) else (none))) else (none)) else (none)) else (none)) else (none))) else (none)) else (none))) else (redpenlaw07_TrieHas.j0 k bt279.1 bt279.2 y283 t276))))) = some r := by rw [if_pos rfl] at H; exact H
  clear H
  have H := H1
  clear H1
  replace H := Option.bind_eq_some_iff.mp H
  obtain ⟨t276, A70, H⟩ := H
  replace H : ((trie_Make.f k t276).bind fun bt279 => ((some (([a1, (⟨#[]⟩ : ByteArray)] : List ByteArray) : List ByteArray)).bind fun y283 => (if (t276.length : Int) > 0 then (if (t276.length : Int) = 0 then (none) else (if 0 ≤ (Int.tmod (wrap64 (a2)) (t276.length : Int)) then (if (Int.tmod (wrap64 (a2)) (t276.length : Int)) < (t276.length : Int) then (if (wrap64 (((rdOf ByteArray.empty t276 (Int.tmod (wrap64 (a2)) (t276.length : Int))).size : Int) + 1)) = 0 then (none) else (if 0 ≤ (Int.tmod (wrap64 (a3)) (wrap64 (((rdOf ByteArray.empty t276 (Int.tmod (wrap64 (a2)) (t276.length : Int))).size : Int) + 1))) then (if (Int.tmod (wrap64 (a3)) (wrap64 (((rdOf ByteArray.empty t276 (Int.tmod (wrap64 (a2)) (t276.length : Int))).size : Int) + 1))) ≤ ((rdOf ByteArray.empty t276 (Int.tmod (wrap64 (a2)) (t276.length : Int))).size : Int) then (if (rdOf ByteArray.empty t276 (Int.tmod (wrap64 (a2)) (t276.length : Int))).size + a1.size ≤ 9223372036854775807 then (if (rdOf ByteArray.empty t276 (Int.tmod (wrap64 (a2)) (t276.length : Int))).size + 1 ≤ 9223372036854775807 then ((some (([rdOf ByteArray.empty t276 (Int.tmod (wrap64 (a2)) (t276.length : Int)), (rdOf ByteArray.empty t276 (Int.tmod (wrap64 (a2)) (t276.length : Int))).extract 0 ((Int.tmod (wrap64 (a3)) (wrap64 (((rdOf ByteArray.empty t276 (Int.tmod (wrap64 (a2)) (t276.length : Int))).size : Int) + 1))) : Int).toNat, (rdOf ByteArray.empty t276 (Int.tmod (wrap64 (a2)) (t276.length : Int))) ++ a1, (rdOf ByteArray.empty t276 (Int.tmod (wrap64 (a2)) (t276.length : Int))) ++ (⟨#[97]⟩ : ByteArray)] : List ByteArray) : List ByteArray)).bind fun y287 => (if y283.length + y287.length < 8796093022208 then (redpenlaw07_TrieHas.j0 k bt279.1 bt279.2 (y283 ++ y287) t276) else (none))) else (none)) else (none)) else (none)) else (none))) else (none)) else (none))) else (redpenlaw07_TrieHas.j0 k bt279.1 bt279.2 y283 t276)))) = some r := H
  have A7 := Aside0.mk A70
  clear A70
  replace H := Option.bind_eq_some_iff.mp H
  obtain ⟨⟨t279, t282⟩, A80, H⟩ := H
  replace H : ((some (([a1, (⟨#[]⟩ : ByteArray)] : List ByteArray) : List ByteArray)).bind fun y283 => (if (t276.length : Int) > 0 then (if (t276.length : Int) = 0 then (none) else (if 0 ≤ (Int.tmod (wrap64 (a2)) (t276.length : Int)) then (if (Int.tmod (wrap64 (a2)) (t276.length : Int)) < (t276.length : Int) then (if (wrap64 (((rdOf ByteArray.empty t276 (Int.tmod (wrap64 (a2)) (t276.length : Int))).size : Int) + 1)) = 0 then (none) else (if 0 ≤ (Int.tmod (wrap64 (a3)) (wrap64 (((rdOf ByteArray.empty t276 (Int.tmod (wrap64 (a2)) (t276.length : Int))).size : Int) + 1))) then (if (Int.tmod (wrap64 (a3)) (wrap64 (((rdOf ByteArray.empty t276 (Int.tmod (wrap64 (a2)) (t276.length : Int))).size : Int) + 1))) ≤ ((rdOf ByteArray.empty t276 (Int.tmod (wrap64 (a2)) (t276.length : Int))).size : Int) then (if (rdOf ByteArray.empty t276 (Int.tmod (wrap64 (a2)) (t276.length : Int))).size + a1.size ≤ 9223372036854775807 then (if (rdOf ByteArray.empty t276 (Int.tmod (wrap64 (a2)) (t276.length : Int))).size + 1 ≤ 9223372036854775807 then ((some (([rdOf ByteArray.empty t276 (Int.tmod (wrap64 (a2)) (t276.length : Int)), (rdOf ByteArray.empty t276 (Int.tmod (wrap64 (a2)) (t276.length : Int))).extract 0 ((Int.tmod (wrap64 (a3)) (wrap64 (((rdOf ByteArray.empty t276 (Int.tmod (wrap64 (a2)) (t276.length : Int))).size : Int) + 1))) : Int).toNat, (rdOf ByteArray.empty t276 (Int.tmod (wrap64 (a2)) (t276.length : Int))) ++ a1, (rdOf ByteArray.empty t276 (Int.tmod (wrap64 (a2)) (t276.length : Int))) ++ (⟨#[97]⟩ : ByteArray)] : List ByteArray) : List ByteArray)).bind fun y287 => (if y283.length + y287.length < 8796093022208 then (redpenlaw07_TrieHas.j0 k t279 t282 (y283 ++ y287) t276) else (none))) else (none)) else (none)) else (none)) else (none))) else (none)) else (none))) else (redpenlaw07_TrieHas.j0 k t279 t282 y283 t276))) = some r := H
  have A8 := Aside0.mk A80
  clear A80
  obtain ⟨y283, hy283⟩ : ∃ y_ : List ByteArray, y_ = (([a1, (⟨#[]⟩ : ByteArray)] : List ByteArray)) := ⟨_, rfl⟩
  replace H : (if (t276.length : Int) > 0 then (if (t276.length : Int) = 0 then (none) else (if 0 ≤ (Int.tmod (wrap64 (a2)) (t276.length : Int)) then (if (Int.tmod (wrap64 (a2)) (t276.length : Int)) < (t276.length : Int) then (if (wrap64 (((rdOf ByteArray.empty t276 (Int.tmod (wrap64 (a2)) (t276.length : Int))).size : Int) + 1)) = 0 then (none) else (if 0 ≤ (Int.tmod (wrap64 (a3)) (wrap64 (((rdOf ByteArray.empty t276 (Int.tmod (wrap64 (a2)) (t276.length : Int))).size : Int) + 1))) then (if (Int.tmod (wrap64 (a3)) (wrap64 (((rdOf ByteArray.empty t276 (Int.tmod (wrap64 (a2)) (t276.length : Int))).size : Int) + 1))) ≤ ((rdOf ByteArray.empty t276 (Int.tmod (wrap64 (a2)) (t276.length : Int))).size : Int) then (if (rdOf ByteArray.empty t276 (Int.tmod (wrap64 (a2)) (t276.length : Int))).size + a1.size ≤ 9223372036854775807 then (if (rdOf ByteArray.empty t276 (Int.tmod (wrap64 (a2)) (t276.length : Int))).size + 1 ≤ 9223372036854775807 then ((some (([rdOf ByteArray.empty t276 (Int.tmod (wrap64 (a2)) (t276.length : Int)), (rdOf ByteArray.empty t276 (Int.tmod (wrap64 (a2)) (t276.length : Int))).extract 0 ((Int.tmod (wrap64 (a3)) (wrap64 (((rdOf ByteArray.empty t276 (Int.tmod (wrap64 (a2)) (t276.length : Int))).size : Int) + 1))) : Int).toNat, (rdOf ByteArray.empty t276 (Int.tmod (wrap64 (a2)) (t276.length : Int))) ++ a1, (rdOf ByteArray.empty t276 (Int.tmod (wrap64 (a2)) (t276.length : Int))) ++ (⟨#[97]⟩ : ByteArray)] : List ByteArray) : List ByteArray)).bind fun y287 => (if y283.length + y287.length < 8796093022208 then (redpenlaw07_TrieHas.j0 k t279 t282 (y283 ++ y287) t276) else (none))) else (none)) else (none)) else (none)) else (none))) else (none)) else (none))) else (redpenlaw07_TrieHas.j0 k t279 t282 y283 t276)) = some r := by first | (rw [hy283]; with_reducible exact H) | (have H2_ := (Option.bind_some _ _).symm.trans H; rw [hy283]; with_reducible exact H2_) | (have H2_ := (Option.bind_some _ _).symm.trans H; with_reducible exact H2_) | with_reducible exact H | (rw [hy283]; exact H) | exact H
  have Ny283 := Aside0.mk hy283
  clear hy283
  have HC9 := Aside0.mk H
  clear H
  go_enter Try.func10, Try.ntmps10
  go_upto_if 30 with (first | ((with_reducible refine gate_dst (N := 4) rfl ?_); refine box_event ?hg (N := 4) ?hd (cs := #[.slice A0 l0.length c0]) (t := 29) ?hr ?_; (case hd => rfl); (case hg => rfl); (case hr => first | (go_simp; done) | (go_simp; rfl)); intro gb274 hg w10 hbox hb; have n0_ := Aside0.mk (below_step (by repeat (first | (with_reducible first | exact HB.out | apply below_alloc | apply pw_below_drewN | apply below_drew1) | exact HB.out)) hb); have n1_ := Aside0.mk (hbox); have n2_ := Aside0.mk ((by rw [hg]; exact (below_size (by repeat (first | (with_reducible first | exact HB.out | apply below_alloc | apply pw_below_drewN | apply below_drew1) | exact HB.out))) : w.heap.size ≤ gb274)); have n3_ := Aside0.mk ((by rw [hg]; exact (below_size (by repeat (first | (with_reducible first | exact HB.out | apply below_alloc | apply pw_below_drewN | apply below_drew1) | exact HB.out))) : w.heap.size ≤ gb274)); clear HB; have HB := n0_; have BK274 := n1_; have GW274 := n2_; have GE274 := n3_; clear n0_ n1_ n2_ n3_; clear hb hbox hg) | (go_at_call 14; (with_reducible refine (redpenlaw07_Awake.calls k  true _ A5.out).mono ?_); rintro e w11 ⟨rfl, hb⟩; have n0_ := Aside0.mk (blk_below (g := gb274) (o := .cells #[.slice A0 l0.length c0] 29 (0, 0)) (by (with_reducible repeat (first | refine blk_drewN ?_ _ | refine blk_drew ?_ | refine blk_alloc ?_ _)); exact BK274.out) hb); have n1_ := Aside0.mk (below_step (by repeat (first | (with_reducible first | exact HB.out | apply below_alloc | apply pw_below_drewN | apply below_drew1 | refine below_set ?_ GE274.out) | exact HB.out)) hb); clear BK274; clear HB; have BK274 := n0_; have HB := n1_; clear n0_ n1_; (try clear hb); (try clear hb2); (try clear hk); (try clear hi); have hcy_0 : w11.cell? ⟨gb274, 0, none⟩ = some (.slice A0 l0.length c0) := (blk_cell BK274.out 0).trans rfl) | (go_at_call 26; (with_reducible refine (redpenlaw07_Sorted.calls k _ _ l0 t276 _ ?side1 ?side2 A7.out).mono ?_); (case side1 => repeat (first | exact (Kd.C_below HR0.out HB.out) | (with_reducible refine Kd.C_alloc ?_ _) | (with_reducible refine Kd.C_drewN ?_ _) | (with_reducible refine Kd.C_drew ?_))); (case side2 => exact HC0.out); rintro e w12 ⟨v277, rfl, ho0, hb⟩; have n0_ := Aside0.mk (Kd.R_lower ho0 (below_size (by repeat (first | (with_reducible first | exact HB.out | apply below_alloc | apply pw_below_drewN | apply below_drew1 | refine below_set ?_ GE274.out) | exact HB.out)))); have n1_ := Aside0.mk (blk_below (g := gb274) (o := .cells #[.slice A0 l0.length c0] 29 (0, 0)) (by (with_reducible repeat (first | refine blk_drewN ?_ _ | refine blk_drew ?_ | refine blk_alloc ?_ _)); exact BK274.out) hb); have n2_ := Aside0.mk (below_step (by repeat (first | (with_reducible first | exact HB.out | apply below_alloc | apply pw_below_drewN | apply below_drew1 | refine below_set ?_ GE274.out) | exact HB.out)) hb); clear BK274; clear HB; have HO278 := n0_; have BK274 := n1_; have HB := n2_; clear n0_ n1_ n2_; (try clear hb); (try clear hb2); (try clear hk); (try clear hi); (try clear ho0); obtain ⟨Ao13, co13, eo13⟩ := Kd.R_slice HO278.out; subst eo13; have hcz14_0 : w12.cell? ⟨gb274, 0, none⟩ = some (.slice A0 l0.length c0) := (blk_cell BK274.out 0).trans rfl; have hfz14_0 := blk_frozen BK274.out 0) | (go_at_call 15; (with_reducible refine (trie_Make.calls k _ _ t276 t279 t282 _ ?side1 ?side2 A8.out).mono ?_); (case side1 => refine (Kd.R_reads' (e := 9) (base := w.heap.size) (ok := fun k_ => True) (n := t276.length) (c := co13) ?_).2.2; exact (by (with_reducible repeat (first | apply Kd.R_alloc | apply Kd.R_drewN | apply Kd.R_drew)); exact (Kd.R_mono (Kd.R_far (p := ⟨gb274, 0, none⟩) (Kd.R_types HO278.out BK274.out (by decide)) (fun _ hk => hk.2) (.slice Ao13 t276.length co13)) (fun _ h_ => h_.1)))); (case side2 => exact (Kd.R_reads' HO278.out).2.1); rintro e w15 ⟨v280, rfl, ho0, hb⟩; have n0_ := Aside0.mk (Kd.R_below (by (with_reducible repeat (first | apply Kd.R_alloc | apply Kd.R_drewN | apply Kd.R_drew)); exact (Kd.R_mono (Kd.R_far (p := ⟨gb274, 0, none⟩) (Kd.R_types HO278.out BK274.out (by decide)) (fun _ hk => hk.2) (.slice Ao13 t276.length co13)) (fun _ h_ => h_.1))) hb); have n1_ := Aside0.mk (Kd.P_lower (Kd.P_mono (ok' := fun k_ => some k_ ≠ (.slice Ao13 t276.length co13 : Value).ownBlock ∧ k_ ≠ gb274) ho0 (fun k_ hk_ => ⟨(Kd.fresh' (Kd.R_lt (by (with_reducible repeat (first | apply Kd.R_alloc | apply Kd.R_drewN | apply Kd.R_drew)); exact (Kd.R_mono (Kd.R_far (p := ⟨gb274, 0, none⟩) (Kd.R_types HO278.out BK274.out (by decide)) (fun _ hk => hk.2) (.slice Ao13 t276.length co13)) (fun _ h_ => h_.1)))) k_ hk_), (Kd.freshB (g := gb274) (o := .cells #[.slice Ao13 t276.length co13] 29 (0, 0)) (by (with_reducible repeat (first | refine blk_drewN ?_ _ | refine blk_drew ?_ | refine blk_alloc ?_ _)); refine blk_put (cs := #[.slice A0 l0.length c0]) ?_ 0 _ rfl; (with_reducible repeat (first | refine blk_drewN ?_ _ | refine blk_drew ?_ | refine blk_alloc ?_ _)); exact BK274.out) k_ hk_)⟩)) (below_size (by repeat (first | (with_reducible first | exact HB.out | apply below_alloc | apply pw_below_drewN | apply below_drew1 | refine below_set ?_ GE274.out) | exact HB.out)))); have n2_ := Aside0.mk (blk_below (g := gb274) (o := .cells #[.slice Ao13 t276.length co13] 29 (0, 0)) (by (with_reducible repeat (first | refine blk_drewN ?_ _ | refine blk_drew ?_ | refine blk_alloc ?_ _)); refine blk_put (cs := #[.slice A0 l0.length c0]) ?_ 0 _ rfl; (with_reducible repeat (first | refine blk_drewN ?_ _ | refine blk_drew ?_ | refine blk_alloc ?_ _)); exact BK274.out) hb); have n3_ := Aside0.mk (below_step (by repeat (first | (with_reducible first | exact HB.out | apply below_alloc | apply pw_below_drewN | apply below_drew1 | refine below_set ?_ GE274.out) | exact HB.out)) hb); clear HO278; clear BK274; clear HB; have HO278 := n0_; have HO281 := n1_; have BK274 := n2_; have HB := n3_; clear n0_ n1_ n2_ n3_; (try clear hb); (try clear hb2); (try clear hk); (try clear hi); (try clear ho0)) | ((with_reducible refine gate_dst (N := 27) rfl ?_); refine Kd.R_lit Kd.string _ 9 ?hg (N := 27) ?hd (xs := ([a1, (⟨#[]⟩ : ByteArray)] : List ByteArray)) (inner := [.string a1, .string (⟨#[]⟩ : ByteArray)]) (ok := fun _ => True) (okp := fun _ => True) ?hr ?hp (fun _ hk => hk) trivial (Below.refl _ _) (Nat.le_refl _) (by simp) ?_; (case hd => rfl); (case hg => rfl); (case hr => first | (go_simp; done) | (go_simp; rfl)); (case hp => exact (Reps.one (show Kd.M Kd.string _ _ _ a1 [.string a1] from rfl) (Reps.one (show Kd.M Kd.string _ _ _ (⟨#[]⟩ : ByteArray) [.string (⟨#[]⟩ : ByteArray)] from rfl) (Reps.none _ _)))); intro v284 w16 ho17 hb hg_ hnew_; clear hg_ hnew_; (first | rw [← Ny283.out] at ho17 | (simp only [Int.reduceToNat] at ho17; rw [← Ny283.out] at ho17)); have n0_ := Aside0.mk (Kd.R_elder' (by (with_reducible repeat (first | apply Kd.R_alloc | apply Kd.R_drewN | apply Kd.R_drew)); exact HO278.out) (Kd.R_base ho17) hb); have n1_ := Aside0.mk (Kd.P_elder' (by (with_reducible repeat (first | apply Kd.P_alloc | apply Kd.P_drewN | apply Kd.P_drew)); exact HO281.out) (Kd.R_base ho17) hb); have n2_ := Aside0.mk (Kd.R_lower (Kd.R_new' ho17 (Kd.R_lt (by (with_reducible repeat (first | apply Kd.R_alloc | apply Kd.R_drewN | apply Kd.R_drew)); exact HO278.out))) (below_size (by repeat (first | (with_reducible first | exact HB.out | apply below_alloc | apply pw_below_drewN | apply below_drew1 | refine below_set ?_ GE274.out) | exact HB.out)))); have n3_ := Aside0.mk (blk_below (g := gb274) (o := .cells #[.slice Ao13 t276.length co13] 29 (0, 0)) (by (with_reducible repeat (first | refine blk_drewN ?_ _ | refine blk_drew ?_ | refine blk_alloc ?_ _)); exact BK274.out) hb); have n4_ := Aside0.mk (below_step (by repeat (first | (with_reducible first | exact HB.out | apply below_alloc | apply pw_below_drewN | apply below_drew1 | refine below_set ?_ GE274.out) | exact HB.out)) hb); clear HO278; clear HO281; clear BK274; clear HB; have HO278 := n0_; have HO281 := n1_; have HO285 := n2_; have BK274 := n3_; have HB := n4_; clear n0_ n1_ n2_ n3_ n4_; clear hb ho17; have hcz18_0 : w16.cell? ⟨gb274, 0, none⟩ = some (.slice Ao13 t276.length co13) := (blk_cell BK274.out 0).trans rfl; have hfz18_0 := blk_frozen BK274.out 0))
  repeat (go_quiet (first | ((with_reducible refine gate_dst (N := 4) rfl ?_); refine box_event ?hg (N := 4) ?hd (cs := #[.slice A0 l0.length c0]) (t := 29) ?hr ?_; (case hd => rfl); (case hg => rfl); (case hr => first | (go_simp; done) | (go_simp; rfl)); intro gb274 hg w10 hbox hb; have n0_ := Aside0.mk (below_step (by repeat (first | (with_reducible first | exact HB.out | apply below_alloc | apply pw_below_drewN | apply below_drew1) | exact HB.out)) hb); have n1_ := Aside0.mk (hbox); have n2_ := Aside0.mk ((by rw [hg]; exact (below_size (by repeat (first | (with_reducible first | exact HB.out | apply below_alloc | apply pw_below_drewN | apply below_drew1) | exact HB.out))) : w.heap.size ≤ gb274)); have n3_ := Aside0.mk ((by rw [hg]; exact (below_size (by repeat (first | (with_reducible first | exact HB.out | apply below_alloc | apply pw_below_drewN | apply below_drew1) | exact HB.out))) : w.heap.size ≤ gb274)); clear HB; have HB := n0_; have BK274 := n1_; have GW274 := n2_; have GE274 := n3_; clear n0_ n1_ n2_ n3_; clear hb hbox hg) | (go_at_call 14; (with_reducible refine (redpenlaw07_Awake.calls k  true _ A5.out).mono ?_); rintro e w11 ⟨rfl, hb⟩; have n0_ := Aside0.mk (blk_below (g := gb274) (o := .cells #[.slice A0 l0.length c0] 29 (0, 0)) (by (with_reducible repeat (first | refine blk_drewN ?_ _ | refine blk_drew ?_ | refine blk_alloc ?_ _)); exact BK274.out) hb); have n1_ := Aside0.mk (below_step (by repeat (first | (with_reducible first | exact HB.out | apply below_alloc | apply pw_below_drewN | apply below_drew1 | refine below_set ?_ GE274.out) | exact HB.out)) hb); clear BK274; clear HB; have BK274 := n0_; have HB := n1_; clear n0_ n1_; (try clear hb); (try clear hb2); (try clear hk); (try clear hi); have hcy_0 : w11.cell? ⟨gb274, 0, none⟩ = some (.slice A0 l0.length c0) := (blk_cell BK274.out 0).trans rfl) | (go_at_call 26; (with_reducible refine (redpenlaw07_Sorted.calls k _ _ l0 t276 _ ?side1 ?side2 A7.out).mono ?_); (case side1 => repeat (first | exact (Kd.C_below HR0.out HB.out) | (with_reducible refine Kd.C_alloc ?_ _) | (with_reducible refine Kd.C_drewN ?_ _) | (with_reducible refine Kd.C_drew ?_))); (case side2 => exact HC0.out); rintro e w12 ⟨v277, rfl, ho0, hb⟩; have n0_ := Aside0.mk (Kd.R_lower ho0 (below_size (by repeat (first | (with_reducible first | exact HB.out | apply below_alloc | apply pw_below_drewN | apply below_drew1 | refine below_set ?_ GE274.out) | exact HB.out)))); have n1_ := Aside0.mk (blk_below (g := gb274) (o := .cells #[.slice A0 l0.length c0] 29 (0, 0)) (by (with_reducible repeat (first | refine blk_drewN ?_ _ | refine blk_drew ?_ | refine blk_alloc ?_ _)); exact BK274.out) hb); have n2_ := Aside0.mk (below_step (by repeat (first | (with_reducible first | exact HB.out | apply below_alloc | apply pw_below_drewN | apply below_drew1 | refine below_set ?_ GE274.out) | exact HB.out)) hb); clear BK274; clear HB; have HO278 := n0_; have BK274 := n1_; have HB := n2_; clear n0_ n1_ n2_; (try clear hb); (try clear hb2); (try clear hk); (try clear hi); (try clear ho0); obtain ⟨Ao13, co13, eo13⟩ := Kd.R_slice HO278.out; subst eo13; have hcz14_0 : w12.cell? ⟨gb274, 0, none⟩ = some (.slice A0 l0.length c0) := (blk_cell BK274.out 0).trans rfl; have hfz14_0 := blk_frozen BK274.out 0) | (go_at_call 15; (with_reducible refine (trie_Make.calls k _ _ t276 t279 t282 _ ?side1 ?side2 A8.out).mono ?_); (case side1 => refine (Kd.R_reads' (e := 9) (base := w.heap.size) (ok := fun k_ => True) (n := t276.length) (c := co13) ?_).2.2; exact (by (with_reducible repeat (first | apply Kd.R_alloc | apply Kd.R_drewN | apply Kd.R_drew)); exact (Kd.R_mono (Kd.R_far (p := ⟨gb274, 0, none⟩) (Kd.R_types HO278.out BK274.out (by decide)) (fun _ hk => hk.2) (.slice Ao13 t276.length co13)) (fun _ h_ => h_.1)))); (case side2 => exact (Kd.R_reads' HO278.out).2.1); rintro e w15 ⟨v280, rfl, ho0, hb⟩; have n0_ := Aside0.mk (Kd.R_below (by (with_reducible repeat (first | apply Kd.R_alloc | apply Kd.R_drewN | apply Kd.R_drew)); exact (Kd.R_mono (Kd.R_far (p := ⟨gb274, 0, none⟩) (Kd.R_types HO278.out BK274.out (by decide)) (fun _ hk => hk.2) (.slice Ao13 t276.length co13)) (fun _ h_ => h_.1))) hb); have n1_ := Aside0.mk (Kd.P_lower (Kd.P_mono (ok' := fun k_ => some k_ ≠ (.slice Ao13 t276.length co13 : Value).ownBlock ∧ k_ ≠ gb274) ho0 (fun k_ hk_ => ⟨(Kd.fresh' (Kd.R_lt (by (with_reducible repeat (first | apply Kd.R_alloc | apply Kd.R_drewN | apply Kd.R_drew)); exact (Kd.R_mono (Kd.R_far (p := ⟨gb274, 0, none⟩) (Kd.R_types HO278.out BK274.out (by decide)) (fun _ hk => hk.2) (.slice Ao13 t276.length co13)) (fun _ h_ => h_.1)))) k_ hk_), (Kd.freshB (g := gb274) (o := .cells #[.slice Ao13 t276.length co13] 29 (0, 0)) (by (with_reducible repeat (first | refine blk_drewN ?_ _ | refine blk_drew ?_ | refine blk_alloc ?_ _)); refine blk_put (cs := #[.slice A0 l0.length c0]) ?_ 0 _ rfl; (with_reducible repeat (first | refine blk_drewN ?_ _ | refine blk_drew ?_ | refine blk_alloc ?_ _)); exact BK274.out) k_ hk_)⟩)) (below_size (by repeat (first | (with_reducible first | exact HB.out | apply below_alloc | apply pw_below_drewN | apply below_drew1 | refine below_set ?_ GE274.out) | exact HB.out)))); have n2_ := Aside0.mk (blk_below (g := gb274) (o := .cells #[.slice Ao13 t276.length co13] 29 (0, 0)) (by (with_reducible repeat (first | refine blk_drewN ?_ _ | refine blk_drew ?_ | refine blk_alloc ?_ _)); refine blk_put (cs := #[.slice A0 l0.length c0]) ?_ 0 _ rfl; (with_reducible repeat (first | refine blk_drewN ?_ _ | refine blk_drew ?_ | refine blk_alloc ?_ _)); exact BK274.out) hb); have n3_ := Aside0.mk (below_step (by repeat (first | (with_reducible first | exact HB.out | apply below_alloc | apply pw_below_drewN | apply below_drew1 | refine below_set ?_ GE274.out) | exact HB.out)) hb); clear HO278; clear BK274; clear HB; have HO278 := n0_; have HO281 := n1_; have BK274 := n2_; have HB := n3_; clear n0_ n1_ n2_ n3_; (try clear hb); (try clear hb2); (try clear hk); (try clear hi); (try clear ho0)) | ((with_reducible refine gate_dst (N := 27) rfl ?_); refine Kd.R_lit Kd.string _ 9 ?hg (N := 27) ?hd (xs := ([a1, (⟨#[]⟩ : ByteArray)] : List ByteArray)) (inner := [.string a1, .string (⟨#[]⟩ : ByteArray)]) (ok := fun _ => True) (okp := fun _ => True) ?hr ?hp (fun _ hk => hk) trivial (Below.refl _ _) (Nat.le_refl _) (by simp) ?_; (case hd => rfl); (case hg => rfl); (case hr => first | (go_simp; done) | (go_simp; rfl)); (case hp => exact (Reps.one (show Kd.M Kd.string _ _ _ a1 [.string a1] from rfl) (Reps.one (show Kd.M Kd.string _ _ _ (⟨#[]⟩ : ByteArray) [.string (⟨#[]⟩ : ByteArray)] from rfl) (Reps.none _ _)))); intro v284 w16 ho17 hb hg_ hnew_; clear hg_ hnew_; (first | rw [← Ny283.out] at ho17 | (simp only [Int.reduceToNat] at ho17; rw [← Ny283.out] at ho17)); have n0_ := Aside0.mk (Kd.R_elder' (by (with_reducible repeat (first | apply Kd.R_alloc | apply Kd.R_drewN | apply Kd.R_drew)); exact HO278.out) (Kd.R_base ho17) hb); have n1_ := Aside0.mk (Kd.P_elder' (by (with_reducible repeat (first | apply Kd.P_alloc | apply Kd.P_drewN | apply Kd.P_drew)); exact HO281.out) (Kd.R_base ho17) hb); have n2_ := Aside0.mk (Kd.R_lower (Kd.R_new' ho17 (Kd.R_lt (by (with_reducible repeat (first | apply Kd.R_alloc | apply Kd.R_drewN | apply Kd.R_drew)); exact HO278.out))) (below_size (by repeat (first | (with_reducible first | exact HB.out | apply below_alloc | apply pw_below_drewN | apply below_drew1 | refine below_set ?_ GE274.out) | exact HB.out)))); have n3_ := Aside0.mk (blk_below (g := gb274) (o := .cells #[.slice Ao13 t276.length co13] 29 (0, 0)) (by (with_reducible repeat (first | refine blk_drewN ?_ _ | refine blk_drew ?_ | refine blk_alloc ?_ _)); exact BK274.out) hb); have n4_ := Aside0.mk (below_step (by repeat (first | (with_reducible first | exact HB.out | apply below_alloc | apply pw_below_drewN | apply below_drew1 | refine below_set ?_ GE274.out) | exact HB.out)) hb); clear HO278; clear HO281; clear BK274; clear HB; have HO278 := n0_; have HO281 := n1_; have HO285 := n2_; have BK274 := n3_; have HB := n4_; clear n0_ n1_ n2_ n3_ n4_; clear hb ho17; have hcz18_0 : w16.cell? ⟨gb274, 0, none⟩ = some (.slice Ao13 t276.length co13) := (blk_cell BK274.out 0).trans rfl; have hfz18_0 := blk_frozen BK274.out 0)); go_upto_if 30 with (first | ((with_reducible refine gate_dst (N := 4) rfl ?_); refine box_event ?hg (N := 4) ?hd (cs := #[.slice A0 l0.length c0]) (t := 29) ?hr ?_; (case hd => rfl); (case hg => rfl); (case hr => first | (go_simp; done) | (go_simp; rfl)); intro gb274 hg w10 hbox hb; have n0_ := Aside0.mk (below_step (by repeat (first | (with_reducible first | exact HB.out | apply below_alloc | apply pw_below_drewN | apply below_drew1) | exact HB.out)) hb); have n1_ := Aside0.mk (hbox); have n2_ := Aside0.mk ((by rw [hg]; exact (below_size (by repeat (first | (with_reducible first | exact HB.out | apply below_alloc | apply pw_below_drewN | apply below_drew1) | exact HB.out))) : w.heap.size ≤ gb274)); have n3_ := Aside0.mk ((by rw [hg]; exact (below_size (by repeat (first | (with_reducible first | exact HB.out | apply below_alloc | apply pw_below_drewN | apply below_drew1) | exact HB.out))) : w.heap.size ≤ gb274)); clear HB; have HB := n0_; have BK274 := n1_; have GW274 := n2_; have GE274 := n3_; clear n0_ n1_ n2_ n3_; clear hb hbox hg) | (go_at_call 14; (with_reducible refine (redpenlaw07_Awake.calls k  true _ A5.out).mono ?_); rintro e w11 ⟨rfl, hb⟩; have n0_ := Aside0.mk (blk_below (g := gb274) (o := .cells #[.slice A0 l0.length c0] 29 (0, 0)) (by (with_reducible repeat (first | refine blk_drewN ?_ _ | refine blk_drew ?_ | refine blk_alloc ?_ _)); exact BK274.out) hb); have n1_ := Aside0.mk (below_step (by repeat (first | (with_reducible first | exact HB.out | apply below_alloc | apply pw_below_drewN | apply below_drew1 | refine below_set ?_ GE274.out) | exact HB.out)) hb); clear BK274; clear HB; have BK274 := n0_; have HB := n1_; clear n0_ n1_; (try clear hb); (try clear hb2); (try clear hk); (try clear hi); have hcy_0 : w11.cell? ⟨gb274, 0, none⟩ = some (.slice A0 l0.length c0) := (blk_cell BK274.out 0).trans rfl) | (go_at_call 26; (with_reducible refine (redpenlaw07_Sorted.calls k _ _ l0 t276 _ ?side1 ?side2 A7.out).mono ?_); (case side1 => repeat (first | exact (Kd.C_below HR0.out HB.out) | (with_reducible refine Kd.C_alloc ?_ _) | (with_reducible refine Kd.C_drewN ?_ _) | (with_reducible refine Kd.C_drew ?_))); (case side2 => exact HC0.out); rintro e w12 ⟨v277, rfl, ho0, hb⟩; have n0_ := Aside0.mk (Kd.R_lower ho0 (below_size (by repeat (first | (with_reducible first | exact HB.out | apply below_alloc | apply pw_below_drewN | apply below_drew1 | refine below_set ?_ GE274.out) | exact HB.out)))); have n1_ := Aside0.mk (blk_below (g := gb274) (o := .cells #[.slice A0 l0.length c0] 29 (0, 0)) (by (with_reducible repeat (first | refine blk_drewN ?_ _ | refine blk_drew ?_ | refine blk_alloc ?_ _)); exact BK274.out) hb); have n2_ := Aside0.mk (below_step (by repeat (first | (with_reducible first | exact HB.out | apply below_alloc | apply pw_below_drewN | apply below_drew1 | refine below_set ?_ GE274.out) | exact HB.out)) hb); clear BK274; clear HB; have HO278 := n0_; have BK274 := n1_; have HB := n2_; clear n0_ n1_ n2_; (try clear hb); (try clear hb2); (try clear hk); (try clear hi); (try clear ho0); obtain ⟨Ao13, co13, eo13⟩ := Kd.R_slice HO278.out; subst eo13; have hcz14_0 : w12.cell? ⟨gb274, 0, none⟩ = some (.slice A0 l0.length c0) := (blk_cell BK274.out 0).trans rfl; have hfz14_0 := blk_frozen BK274.out 0) | (go_at_call 15; (with_reducible refine (trie_Make.calls k _ _ t276 t279 t282 _ ?side1 ?side2 A8.out).mono ?_); (case side1 => refine (Kd.R_reads' (e := 9) (base := w.heap.size) (ok := fun k_ => True) (n := t276.length) (c := co13) ?_).2.2; exact (by (with_reducible repeat (first | apply Kd.R_alloc | apply Kd.R_drewN | apply Kd.R_drew)); exact (Kd.R_mono (Kd.R_far (p := ⟨gb274, 0, none⟩) (Kd.R_types HO278.out BK274.out (by decide)) (fun _ hk => hk.2) (.slice Ao13 t276.length co13)) (fun _ h_ => h_.1)))); (case side2 => exact (Kd.R_reads' HO278.out).2.1); rintro e w15 ⟨v280, rfl, ho0, hb⟩; have n0_ := Aside0.mk (Kd.R_below (by (with_reducible repeat (first | apply Kd.R_alloc | apply Kd.R_drewN | apply Kd.R_drew)); exact (Kd.R_mono (Kd.R_far (p := ⟨gb274, 0, none⟩) (Kd.R_types HO278.out BK274.out (by decide)) (fun _ hk => hk.2) (.slice Ao13 t276.length co13)) (fun _ h_ => h_.1))) hb); have n1_ := Aside0.mk (Kd.P_lower (Kd.P_mono (ok' := fun k_ => some k_ ≠ (.slice Ao13 t276.length co13 : Value).ownBlock ∧ k_ ≠ gb274) ho0 (fun k_ hk_ => ⟨(Kd.fresh' (Kd.R_lt (by (with_reducible repeat (first | apply Kd.R_alloc | apply Kd.R_drewN | apply Kd.R_drew)); exact (Kd.R_mono (Kd.R_far (p := ⟨gb274, 0, none⟩) (Kd.R_types HO278.out BK274.out (by decide)) (fun _ hk => hk.2) (.slice Ao13 t276.length co13)) (fun _ h_ => h_.1)))) k_ hk_), (Kd.freshB (g := gb274) (o := .cells #[.slice Ao13 t276.length co13] 29 (0, 0)) (by (with_reducible repeat (first | refine blk_drewN ?_ _ | refine blk_drew ?_ | refine blk_alloc ?_ _)); refine blk_put (cs := #[.slice A0 l0.length c0]) ?_ 0 _ rfl; (with_reducible repeat (first | refine blk_drewN ?_ _ | refine blk_drew ?_ | refine blk_alloc ?_ _)); exact BK274.out) k_ hk_)⟩)) (below_size (by repeat (first | (with_reducible first | exact HB.out | apply below_alloc | apply pw_below_drewN | apply below_drew1 | refine below_set ?_ GE274.out) | exact HB.out)))); have n2_ := Aside0.mk (blk_below (g := gb274) (o := .cells #[.slice Ao13 t276.length co13] 29 (0, 0)) (by (with_reducible repeat (first | refine blk_drewN ?_ _ | refine blk_drew ?_ | refine blk_alloc ?_ _)); refine blk_put (cs := #[.slice A0 l0.length c0]) ?_ 0 _ rfl; (with_reducible repeat (first | refine blk_drewN ?_ _ | refine blk_drew ?_ | refine blk_alloc ?_ _)); exact BK274.out) hb); have n3_ := Aside0.mk (below_step (by repeat (first | (with_reducible first | exact HB.out | apply below_alloc | apply pw_below_drewN | apply below_drew1 | refine below_set ?_ GE274.out) | exact HB.out)) hb); clear HO278; clear BK274; clear HB; have HO278 := n0_; have HO281 := n1_; have BK274 := n2_; have HB := n3_; clear n0_ n1_ n2_ n3_; (try clear hb); (try clear hb2); (try clear hk); (try clear hi); (try clear ho0)) | ((with_reducible refine gate_dst (N := 27) rfl ?_); refine Kd.R_lit Kd.string _ 9 ?hg (N := 27) ?hd (xs := ([a1, (⟨#[]⟩ : ByteArray)] : List ByteArray)) (inner := [.string a1, .string (⟨#[]⟩ : ByteArray)]) (ok := fun _ => True) (okp := fun _ => True) ?hr ?hp (fun _ hk => hk) trivial (Below.refl _ _) (Nat.le_refl _) (by simp) ?_; (case hd => rfl); (case hg => rfl); (case hr => first | (go_simp; done) | (go_simp; rfl)); (case hp => exact (Reps.one (show Kd.M Kd.string _ _ _ a1 [.string a1] from rfl) (Reps.one (show Kd.M Kd.string _ _ _ (⟨#[]⟩ : ByteArray) [.string (⟨#[]⟩ : ByteArray)] from rfl) (Reps.none _ _)))); intro v284 w16 ho17 hb hg_ hnew_; clear hg_ hnew_; (first | rw [← Ny283.out] at ho17 | (simp only [Int.reduceToNat] at ho17; rw [← Ny283.out] at ho17)); have n0_ := Aside0.mk (Kd.R_elder' (by (with_reducible repeat (first | apply Kd.R_alloc | apply Kd.R_drewN | apply Kd.R_drew)); exact HO278.out) (Kd.R_base ho17) hb); have n1_ := Aside0.mk (Kd.P_elder' (by (with_reducible repeat (first | apply Kd.P_alloc | apply Kd.P_drewN | apply Kd.P_drew)); exact HO281.out) (Kd.R_base ho17) hb); have n2_ := Aside0.mk (Kd.R_lower (Kd.R_new' ho17 (Kd.R_lt (by (with_reducible repeat (first | apply Kd.R_alloc | apply Kd.R_drewN | apply Kd.R_drew)); exact HO278.out))) (below_size (by repeat (first | (with_reducible first | exact HB.out | apply below_alloc | apply pw_below_drewN | apply below_drew1 | refine below_set ?_ GE274.out) | exact HB.out)))); have n3_ := Aside0.mk (blk_below (g := gb274) (o := .cells #[.slice Ao13 t276.length co13] 29 (0, 0)) (by (with_reducible repeat (first | refine blk_drewN ?_ _ | refine blk_drew ?_ | refine blk_alloc ?_ _)); exact BK274.out) hb); have n4_ := Aside0.mk (below_step (by repeat (first | (with_reducible first | exact HB.out | apply below_alloc | apply pw_below_drewN | apply below_drew1 | refine below_set ?_ GE274.out) | exact HB.out)) hb); clear HO278; clear HO281; clear BK274; clear HB; have HO278 := n0_; have HO281 := n1_; have HO285 := n2_; have BK274 := n3_; have HB := n4_; clear n0_ n1_ n2_ n3_ n4_; clear hb ho17; have hcz18_0 : w16.cell? ⟨gb274, 0, none⟩ = some (.slice Ao13 t276.length co13) := (blk_cell BK274.out 0).trans rfl; have hfz18_0 := blk_frozen BK274.out 0)))
  (try simp only [Act.put, List.setIfInBounds_toArray, List.set_cons_zero, List.set_cons_succ])
  go_cut [12] (fun v12 wc => ∃ (kq : Nat) (x12_8 : List ByteArray), Aside0 (redpenlaw07_TrieHas.j0 kq t279 t282 x12_8 t276 = some r) ∧ Aside0 (kq ≤ k) ∧ Aside0 (Kd.P TrP 900025 wc w.heap.size (fun k_ => some k_ ≠ (v12 : Value).ownBlock ∧ some k_ ≠ ((.slice Ao13 t276.length co13) : Value).ownBlock ∧ k_ ≠ gb274) v280 t279) ∧ Aside0 (Kd.R Kd.string 9 wc w.heap.size (fun k_ => some k_ ≠ ((.slice Ao13 t276.length co13) : Value).ownBlock) v12 x12_8) ∧ Aside0 (Kd.R Kd.string 9 wc w.heap.size (fun k_ => some k_ ≠ (v12 : Value).ownBlock) (.slice Ao13 t276.length co13) t276) ∧ Aside0 (wc.heap[gb274]? = some (.cells #[(.slice Ao13 t276.length co13)] 29 (0, 0))) ∧ Aside0 (Below w.heap.size w wc))
  case first =>
   have H := HC9.out
   clear HC9
   by_cases c19 : (t276.length : Int) > 0
   ·rw [if_pos c19] at H
    have c19b0 : decide (0 < (t276.length : Int)) = true := decide_eq_true c19
    have c19b1 : decide (0 < t276.length) = true := decide_eq_true (by omega)
    clear c19
    (first | rw [c19b0] | rw [c19b1] | (simp only [i64_w, i32_w]; rw [c19b0]) | skip)
    by_cases c20 : (t276.length : Int) = 0
    ·rw [if_pos c20] at H
     exact absurd H (by simp)
    ·rw [if_neg c20] at H
     have c20b0 : ((t276.length : Int) == 0) = false := beq_eq_false_iff_ne.mpr c20
     have c20b1 : ((t276.length : Int) != 0) = true := bne_iff_ne.mpr c20
     have c20b2 : ¬ (t276 = []) := fun h_ => c20 (by rw [h_]; rfl)
     obtain ⟨ji21, hji21⟩ : ∃ j_ : Int, (Int.tmod (wrap64 (a2)) (t276.length : Int)) = j_ := ⟨_, rfl⟩
     replace H : (if 0 ≤ (ji21) then (if (ji21) < (t276.length : Int) then (if (wrap64 (((rdOf ByteArray.empty t276 (ji21)).size : Int) + 1)) = 0 then (none) else (if 0 ≤ (Int.tmod (wrap64 (a3)) (wrap64 (((rdOf ByteArray.empty t276 (ji21)).size : Int) + 1))) then (if (Int.tmod (wrap64 (a3)) (wrap64 (((rdOf ByteArray.empty t276 (ji21)).size : Int) + 1))) ≤ ((rdOf ByteArray.empty t276 (ji21)).size : Int) then (if (rdOf ByteArray.empty t276 (ji21)).size + a1.size ≤ 9223372036854775807 then (if (rdOf ByteArray.empty t276 (ji21)).size + 1 ≤ 9223372036854775807 then ((some (([rdOf ByteArray.empty t276 (ji21), (rdOf ByteArray.empty t276 (ji21)).extract 0 ((Int.tmod (wrap64 (a3)) (wrap64 (((rdOf ByteArray.empty t276 (ji21)).size : Int) + 1))) : Int).toNat, (rdOf ByteArray.empty t276 (ji21)) ++ a1, (rdOf ByteArray.empty t276 (ji21)) ++ (⟨#[97]⟩ : ByteArray)] : List ByteArray) : List ByteArray)).bind fun y287 => (if y283.length + y287.length < 8796093022208 then (redpenlaw07_TrieHas.j0 k t279 t282 (y283 ++ y287) t276) else (none))) else (none)) else (none)) else (none)) else (none))) else (none)) else (none)) = some r := by first | (rw [hji21] at H; exact H) | (simp only [hji21] at H ⊢; exact H)
     by_cases c22 : 0 ≤ (ji21)
     ·rw [if_pos c22] at H
      have c22b0 : decide (0 ≤ (ji21)) = true := decide_eq_true c22
      clear c22
      by_cases c23 : (ji21) < (t276.length : Int)
      ·rw [if_pos c23] at H
       have c23b0 : decide ((ji21) < (t276.length : Int)) = true := decide_eq_true c23
       clear c23
       by_cases c24 : (wrap64 (((rdOf ByteArray.empty t276 (ji21)).size : Int) + 1)) = 0
       ·rw [if_pos c24] at H
        exact absurd H (by simp)
       ·rw [if_neg c24] at H
        have c24b0 : ((wrap64 (((rdOf ByteArray.empty t276 (ji21)).size : Int) + 1)) == 0) = false := beq_eq_false_iff_ne.mpr c24
        have c24b1 : ((wrap64 (((rdOf ByteArray.empty t276 (ji21)).size : Int) + 1)) != 0) = true := bne_iff_ne.mpr c24
        obtain ⟨ji25, hji25⟩ : ∃ j_ : Int, (Int.tmod (wrap64 (a3)) (wrap64 (((rdOf ByteArray.empty t276 (ji21)).size : Int) + 1))) = j_ := ⟨_, rfl⟩
        replace H : (if 0 ≤ (ji25) then (if (ji25) ≤ ((rdOf ByteArray.empty t276 (ji21)).size : Int) then (if (rdOf ByteArray.empty t276 (ji21)).size + a1.size ≤ 9223372036854775807 then (if (rdOf ByteArray.empty t276 (ji21)).size + 1 ≤ 9223372036854775807 then ((some (([rdOf ByteArray.empty t276 (ji21), (rdOf ByteArray.empty t276 (ji21)).extract 0 ((ji25) : Int).toNat, (rdOf ByteArray.empty t276 (ji21)) ++ a1, (rdOf ByteArray.empty t276 (ji21)) ++ (⟨#[97]⟩ : ByteArray)] : List ByteArray) : List ByteArray)).bind fun y287 => (if y283.length + y287.length < 8796093022208 then (redpenlaw07_TrieHas.j0 k t279 t282 (y283 ++ y287) t276) else (none))) else (none)) else (none)) else (none)) else (none)) = some r := by first | (rw [hji25] at H; exact H) | (simp only [hji25] at H ⊢; exact H)
        by_cases c26 : 0 ≤ (ji25)
        ·rw [if_pos c26] at H
         have c26b0 := eq_true c26
         have c26b1 : decide (0 ≤ (ji25)) = true := decide_eq_true c26
         clear c26
         by_cases c27 : (ji25) ≤ ((rdOf ByteArray.empty t276 (ji21)).size : Int)
         ·rw [if_pos c27] at H
          have c27b0 := eq_true c27
          have c27b1 : decide ((ji25) ≤ ((rdOf ByteArray.empty t276 (ji21)).size : Int)) = true := decide_eq_true c27
          clear c27
          by_cases c28 : (rdOf ByteArray.empty t276 (ji21)).size + a1.size ≤ 9223372036854775807
          ·rw [if_pos c28] at H
           have c28b0 := eq_true c28
           have c28b1 : decide ((rdOf ByteArray.empty t276 (ji21)).size + a1.size ≤ 9223372036854775807) = true := decide_eq_true c28
           try have c28b2 : (9223372036854775807 < (rdOf ByteArray.empty t276 (ji21)).size + a1.size) = False := eq_false (Nat.not_lt.2 c28)
           by_cases c29 : (rdOf ByteArray.empty t276 (ji21)).size + 1 ≤ 9223372036854775807
           ·rw [if_pos c29] at H
            have c29b0 := eq_true c29
            have c29b1 : decide ((rdOf ByteArray.empty t276 (ji21)).size + 1 ≤ 9223372036854775807) = true := decide_eq_true c29
            try have c29b2 : (9223372036854775807 < (rdOf ByteArray.empty t276 (ji21)).size + 1) = False := eq_false (Nat.not_lt.2 c29)
            obtain ⟨y287, hy287⟩ : ∃ y_ : List ByteArray, y_ = (([rdOf ByteArray.empty t276 (ji21), (rdOf ByteArray.empty t276 (ji21)).extract 0 ((ji25) : Int).toNat, (rdOf ByteArray.empty t276 (ji21)) ++ a1, (rdOf ByteArray.empty t276 (ji21)) ++ (⟨#[97]⟩ : ByteArray)] : List ByteArray)) := ⟨_, rfl⟩
            replace H : (if y283.length + y287.length < 8796093022208 then (redpenlaw07_TrieHas.j0 k t279 t282 (y283 ++ y287) t276) else (none)) = some r := by first | (rw [hy287]; with_reducible exact H) | (have H2_ := (Option.bind_some _ _).symm.trans H; rw [hy287]; with_reducible exact H2_) | (have H2_ := (Option.bind_some _ _).symm.trans H; with_reducible exact H2_) | with_reducible exact H | (rw [hy287]; exact H) | exact H
            have Ny287 := Aside0.mk hy287
            clear hy287
            by_cases c30 : y283.length + y287.length < 8796093022208
            ·rw [if_pos c30] at H
             have LMc30 := Aside0.mk c30
             clear c30
             obtain ⟨y290, hy290⟩ : ∃ y_ : List ByteArray, y_ = (y283 ++ y287) := ⟨_, rfl⟩
             replace H : (redpenlaw07_TrieHas.j0 k t279 t282 y290 t276) = some r := by first | (rw [hy290]; with_reducible exact H) | (have H2_ := (Option.bind_some _ _).symm.trans H; rw [hy290]; with_reducible exact H2_) | (have H2_ := (Option.bind_some _ _).symm.trans H; with_reducible exact H2_) | with_reducible exact H | (rw [hy290]; exact H) | exact H
             have Ny290 := Aside0.mk hy290
             clear hy290
             have H' := Aside0.mk H
             clear H
             have hcz31_0 : w16.cell? ⟨gb274, 0, none⟩ = some (.slice Ao13 t276.length co13) := (blk_cell BK274.out 0).trans rfl
             have hfz31_0 := blk_frozen BK274.out 0
             have p286 : 0 ≤ ((ji21) : Int) := of_decide_eq_true (by first | (with_reducible assumption) | assumption)
             have q286 : (ji21) < (t276.length : Int) := of_decide_eq_true (by first | (with_reducible assumption) | assumption)
             obtain ⟨ad286, e286, hx286_0⟩ := Kd.at_string (Kd.R_reads' HO278.out).2.2 (ji21) p286 q286
             cases e286
             replace p286 := eq_true p286
             replace q286 := eq_true q286
             have hjw_ : Int.tmod (wrap64 a3) (((rdOf ByteArray.empty t276 (ji21)).size : Int) + 1) = ji25 := by rw [← hji25, show wrap64 (((rdOf ByteArray.empty t276 (ji21)).size : Int) + 1) = ((rdOf ByteArray.empty t276 (ji21)).size : Int) + 1 from by have := Nat.not_lt.1 (of_eq_false c29b2); unfold wrap64; omega]
             go_wp2_with (first | ((with_reducible refine gate_dst (N := 54) rfl ?_); refine Kd.R_lit Kd.string _ 9 ?hg (N := 54) ?hd (xs := ([rdOf ByteArray.empty t276 (ji21), (rdOf ByteArray.empty t276 (ji21)).extract 0 ((ji25) : Int).toNat, (rdOf ByteArray.empty t276 (ji21)) ++ a1, (rdOf ByteArray.empty t276 (ji21)) ++ (⟨#[97]⟩ : ByteArray)] : List ByteArray)) (inner := [.string (rdOf ByteArray.empty t276 (ji21)), .string ((rdOf ByteArray.empty t276 (ji21)).extract 0 ((ji25) : Int).toNat), .string ((rdOf ByteArray.empty t276 (ji21)) ++ a1), .string ((rdOf ByteArray.empty t276 (ji21)) ++ (⟨#[97]⟩ : ByteArray))]) (ok := fun _ => True) (okp := fun _ => True) ?hr ?hp (fun _ hk => hk) trivial (Below.refl _ _) (Nat.le_refl _) (by simp) ?_; (case hd => rfl); (case hg => rfl); (case hr => first | (go_simp; done) | (go_simp; rfl)); (case hp => exact (Reps.one (show Kd.M Kd.string _ _ _ (rdOf ByteArray.empty t276 (ji21)) [.string (rdOf ByteArray.empty t276 (ji21))] from rfl) (Reps.one (show Kd.M Kd.string _ _ _ ((rdOf ByteArray.empty t276 (ji21)).extract 0 ((ji25) : Int).toNat) [.string ((rdOf ByteArray.empty t276 (ji21)).extract 0 ((ji25) : Int).toNat)] from rfl) (Reps.one (show Kd.M Kd.string _ _ _ ((rdOf ByteArray.empty t276 (ji21)) ++ a1) [.string ((rdOf ByteArray.empty t276 (ji21)) ++ a1)] from rfl) (Reps.one (show Kd.M Kd.string _ _ _ ((rdOf ByteArray.empty t276 (ji21)) ++ (⟨#[97]⟩ : ByteArray)) [.string ((rdOf ByteArray.empty t276 (ji21)) ++ (⟨#[97]⟩ : ByteArray))] from rfl) (Reps.none _ _)))))); intro v288 w32 ho33 hb hg_ hnew_; clear hg_ hnew_; (first | rw [← Ny287.out] at ho33 | (simp only [Int.reduceToNat] at ho33; rw [← Ny287.out] at ho33)); have n0_ := Aside0.mk (Kd.R_elder' (by (with_reducible repeat (first | apply Kd.R_alloc | apply Kd.R_drewN | apply Kd.R_drew)); exact HO278.out) (Kd.R_base ho33) hb); have n1_ := Aside0.mk (Kd.P_elder' (by (with_reducible repeat (first | apply Kd.P_alloc | apply Kd.P_drewN | apply Kd.P_drew)); exact HO281.out) (Kd.R_base ho33) hb); have n2_ := Aside0.mk (Kd.R_elder' (by (with_reducible repeat (first | apply Kd.R_alloc | apply Kd.R_drewN | apply Kd.R_drew)); exact HO285.out) (Kd.R_base ho33) hb); have n3_ := Aside0.mk (Kd.R_lower (Kd.R_new' (Kd.R_new' ho33 (Kd.R_lt (by (with_reducible repeat (first | apply Kd.R_alloc | apply Kd.R_drewN | apply Kd.R_drew)); exact HO278.out))) (Kd.R_lt (by (with_reducible repeat (first | apply Kd.R_alloc | apply Kd.R_drewN | apply Kd.R_drew)); exact HO285.out))) (below_size (by repeat (first | (with_reducible first | exact HB.out | apply below_alloc | apply pw_below_drewN | apply below_drew1 | refine below_set ?_ GE274.out) | exact HB.out)))); have n4_ := Aside0.mk (blk_below (g := gb274) (o := .cells #[.slice (some ad286) t276.length co13] 29 (0, 0)) (by (with_reducible repeat (first | refine blk_drewN ?_ _ | refine blk_drew ?_ | refine blk_alloc ?_ _)); exact BK274.out) hb); have n5_ := Aside0.mk (below_step (by repeat (first | (with_reducible first | exact HB.out | apply below_alloc | apply pw_below_drewN | apply below_drew1 | refine below_set ?_ GE274.out) | exact HB.out)) hb); clear HO278; clear HO281; clear HO285; clear BK274; clear HB; have HO278 := n0_; have HO281 := n1_; have HO285 := n2_; have HO289 := n3_; have BK274 := n4_; have HB := n5_; clear n0_ n1_ n2_ n3_ n4_ n5_; clear hb ho33; obtain ⟨Ao35, co35, eo35⟩ := Kd.R_slice HO289.out; subst eo35) | ((with_reducible refine gate_builtin (b := .append) (xs := #[.tmp 39, .tmp 54]) rfl ?_); at_builtin; refine Kd.R_append_rows Kd.string (w0 := w) w.heap.size rfl (.tmp 39) (.tmp 54) 29 9 (.string ⟨#[]⟩) 16 rfl Try.underlying29 info9 rfl (by decide) (by omega) v284 y283 y287 _ _ _ (fun k_ => some k_ ≠ (.slice (some ad286) t276.length co13 : Value).ownBlock ∧ some k_ ≠ (.slice Ao35 y287.length co35 : Value).ownBlock) (fun _ => False) rfl rfl ?aO ?aR (fun _ _ h => h) (fun _ h => h.elim) ?aF ?aB ?aS ?aL ?_; (case aR => repeat (first | exact (Kd.R_reads' HO289.out).2.2 | (with_reducible refine Kd.C_alloc ?_ _) | (with_reducible refine Kd.C_drewN ?_ _) | (with_reducible refine Kd.C_drew ?_))); (case aB => exact (by repeat (first | (with_reducible first | exact HB.out | apply below_alloc | apply pw_below_drewN | apply below_drew1 | refine below_set ?_ GE274.out) | exact HB.out))); (case aF => exact (fun k_ hk => ⟨Kd.fresh' (Kd.R_lt (by (with_reducible repeat (first | apply Kd.R_alloc | apply Kd.R_drewN | apply Kd.R_drew)); exact HO278.out)) k_ hk, Kd.fresh' (Kd.R_lt (by (with_reducible repeat (first | apply Kd.R_alloc | apply Kd.R_drewN | apply Kd.R_drew)); exact HO289.out)) k_ hk⟩)); (case aO => exact (by (with_reducible repeat (first | apply Kd.R_alloc | apply Kd.R_drewN | apply Kd.R_drew)); exact Kd.R_mono HO285.out (fun _ hk => ⟨hk.1.2, hk.2⟩))); (case aS => exact (below_size (by repeat (first | (with_reducible first | exact HB.out | apply below_alloc | apply pw_below_drewN | apply below_drew1 | refine below_set ?_ GE274.out) | exact HB.out)))); (case aL => have := LMc30.out; omega); intro v291 w34 ho hb hg hat; rw [← Ny290.out] at ho; have n0_ := Aside0.mk (blk_grown (g := gb274) (o := .cells #[.slice (some ad286) t276.length co13] 29 (0, 0)) (by (with_reducible repeat (first | refine blk_drewN ?_ _ | refine blk_drew ?_ | refine blk_alloc ?_ _)); exact BK274.out) hg (Kd.R_ne HO285.out BK274.out (by decide))); have n1_ := Aside0.mk (Kd.R_after (ok := (fun k_ => some k_ ≠ (.slice Ao35 y287.length co35 : Value).ownBlock)) (by (with_reducible repeat (first | apply Kd.R_alloc | apply Kd.R_drewN | apply Kd.R_drew)); exact Kd.R_mono HO278.out (fun _ hk => ⟨hk.2, hk.1.2⟩)) hg hat); have n2_ := Aside0.mk (Kd.P_afterv (ok := (fun k_ => some k_ ≠ (.slice (some ad286) t276.length co13 : Value).ownBlock ∧ some k_ ≠ (.slice Ao35 y287.length co35 : Value).ownBlock ∧ k_ ≠ gb274)) (by (with_reducible repeat (first | apply Kd.P_alloc | apply Kd.P_drewN | apply Kd.P_drew)); exact Kd.P_mono HO281.out (fun _ hk => ⟨⟨hk.1.1.1, ⟨hk.2, hk.1.1.2⟩⟩, hk.1.2⟩)) hg hat); have n3_ := Aside0.mk (Kd.R_after (ok := (fun k_ => some k_ ≠ (.slice (some ad286) t276.length co13 : Value).ownBlock)) (by (with_reducible repeat (first | apply Kd.R_alloc | apply Kd.R_drewN | apply Kd.R_drew)); exact Kd.R_mono HO289.out (fun _ hk => ⟨hk.1.2, hk.2⟩)) hg hat); have n4_ := Aside0.mk (hb); have n5_ := Aside0.mk (ho); clear BK274; clear HO278; clear HO281; clear HO289; clear HB; clear HO285; have BK274 := n0_; have HO278 := n1_; have HO281 := n2_; have HO289 := n3_; have HB := n4_; have HO292 := n5_; clear n0_ n1_ n2_ n3_ n4_ n5_; clear ho hb hg hat))
             repeat (go_quiet (first | ((with_reducible refine gate_dst (N := 54) rfl ?_); refine Kd.R_lit Kd.string _ 9 ?hg (N := 54) ?hd (xs := ([rdOf ByteArray.empty t276 (ji21), (rdOf ByteArray.empty t276 (ji21)).extract 0 ((ji25) : Int).toNat, (rdOf ByteArray.empty t276 (ji21)) ++ a1, (rdOf ByteArray.empty t276 (ji21)) ++ (⟨#[97]⟩ : ByteArray)] : List ByteArray)) (inner := [.string (rdOf ByteArray.empty t276 (ji21)), .string ((rdOf ByteArray.empty t276 (ji21)).extract 0 ((ji25) : Int).toNat), .string ((rdOf ByteArray.empty t276 (ji21)) ++ a1), .string ((rdOf ByteArray.empty t276 (ji21)) ++ (⟨#[97]⟩ : ByteArray))]) (ok := fun _ => True) (okp := fun _ => True) ?hr ?hp (fun _ hk => hk) trivial (Below.refl _ _) (Nat.le_refl _) (by simp) ?_; (case hd => rfl); (case hg => rfl); (case hr => first | (go_simp; done) | (go_simp; rfl)); (case hp => exact (Reps.one (show Kd.M Kd.string _ _ _ (rdOf ByteArray.empty t276 (ji21)) [.string (rdOf ByteArray.empty t276 (ji21))] from rfl) (Reps.one (show Kd.M Kd.string _ _ _ ((rdOf ByteArray.empty t276 (ji21)).extract 0 ((ji25) : Int).toNat) [.string ((rdOf ByteArray.empty t276 (ji21)).extract 0 ((ji25) : Int).toNat)] from rfl) (Reps.one (show Kd.M Kd.string _ _ _ ((rdOf ByteArray.empty t276 (ji21)) ++ a1) [.string ((rdOf ByteArray.empty t276 (ji21)) ++ a1)] from rfl) (Reps.one (show Kd.M Kd.string _ _ _ ((rdOf ByteArray.empty t276 (ji21)) ++ (⟨#[97]⟩ : ByteArray)) [.string ((rdOf ByteArray.empty t276 (ji21)) ++ (⟨#[97]⟩ : ByteArray))] from rfl) (Reps.none _ _)))))); intro v288 w32 ho33 hb hg_ hnew_; clear hg_ hnew_; (first | rw [← Ny287.out] at ho33 | (simp only [Int.reduceToNat] at ho33; rw [← Ny287.out] at ho33)); have n0_ := Aside0.mk (Kd.R_elder' (by (with_reducible repeat (first | apply Kd.R_alloc | apply Kd.R_drewN | apply Kd.R_drew)); exact HO278.out) (Kd.R_base ho33) hb); have n1_ := Aside0.mk (Kd.P_elder' (by (with_reducible repeat (first | apply Kd.P_alloc | apply Kd.P_drewN | apply Kd.P_drew)); exact HO281.out) (Kd.R_base ho33) hb); have n2_ := Aside0.mk (Kd.R_elder' (by (with_reducible repeat (first | apply Kd.R_alloc | apply Kd.R_drewN | apply Kd.R_drew)); exact HO285.out) (Kd.R_base ho33) hb); have n3_ := Aside0.mk (Kd.R_lower (Kd.R_new' (Kd.R_new' ho33 (Kd.R_lt (by (with_reducible repeat (first | apply Kd.R_alloc | apply Kd.R_drewN | apply Kd.R_drew)); exact HO278.out))) (Kd.R_lt (by (with_reducible repeat (first | apply Kd.R_alloc | apply Kd.R_drewN | apply Kd.R_drew)); exact HO285.out))) (below_size (by repeat (first | (with_reducible first | exact HB.out | apply below_alloc | apply pw_below_drewN | apply below_drew1 | refine below_set ?_ GE274.out) | exact HB.out)))); have n4_ := Aside0.mk (blk_below (g := gb274) (o := .cells #[.slice (some ad286) t276.length co13] 29 (0, 0)) (by (with_reducible repeat (first | refine blk_drewN ?_ _ | refine blk_drew ?_ | refine blk_alloc ?_ _)); exact BK274.out) hb); have n5_ := Aside0.mk (below_step (by repeat (first | (with_reducible first | exact HB.out | apply below_alloc | apply pw_below_drewN | apply below_drew1 | refine below_set ?_ GE274.out) | exact HB.out)) hb); clear HO278; clear HO281; clear HO285; clear BK274; clear HB; have HO278 := n0_; have HO281 := n1_; have HO285 := n2_; have HO289 := n3_; have BK274 := n4_; have HB := n5_; clear n0_ n1_ n2_ n3_ n4_ n5_; clear hb ho33; obtain ⟨Ao35, co35, eo35⟩ := Kd.R_slice HO289.out; subst eo35) | ((with_reducible refine gate_builtin (b := .append) (xs := #[.tmp 39, .tmp 54]) rfl ?_); at_builtin; refine Kd.R_append_rows Kd.string (w0 := w) w.heap.size rfl (.tmp 39) (.tmp 54) 29 9 (.string ⟨#[]⟩) 16 rfl Try.underlying29 info9 rfl (by decide) (by omega) v284 y283 y287 _ _ _ (fun k_ => some k_ ≠ (.slice (some ad286) t276.length co13 : Value).ownBlock ∧ some k_ ≠ (.slice Ao35 y287.length co35 : Value).ownBlock) (fun _ => False) rfl rfl ?aO ?aR (fun _ _ h => h) (fun _ h => h.elim) ?aF ?aB ?aS ?aL ?_; (case aR => repeat (first | exact (Kd.R_reads' HO289.out).2.2 | (with_reducible refine Kd.C_alloc ?_ _) | (with_reducible refine Kd.C_drewN ?_ _) | (with_reducible refine Kd.C_drew ?_))); (case aB => exact (by repeat (first | (with_reducible first | exact HB.out | apply below_alloc | apply pw_below_drewN | apply below_drew1 | refine below_set ?_ GE274.out) | exact HB.out))); (case aF => exact (fun k_ hk => ⟨Kd.fresh' (Kd.R_lt (by (with_reducible repeat (first | apply Kd.R_alloc | apply Kd.R_drewN | apply Kd.R_drew)); exact HO278.out)) k_ hk, Kd.fresh' (Kd.R_lt (by (with_reducible repeat (first | apply Kd.R_alloc | apply Kd.R_drewN | apply Kd.R_drew)); exact HO289.out)) k_ hk⟩)); (case aO => exact (by (with_reducible repeat (first | apply Kd.R_alloc | apply Kd.R_drewN | apply Kd.R_drew)); exact Kd.R_mono HO285.out (fun _ hk => ⟨hk.1.2, hk.2⟩))); (case aS => exact (below_size (by repeat (first | (with_reducible first | exact HB.out | apply below_alloc | apply pw_below_drewN | apply below_drew1 | refine below_set ?_ GE274.out) | exact HB.out)))); (case aL => have := LMc30.out; omega); intro v291 w34 ho hb hg hat; rw [← Ny290.out] at ho; have n0_ := Aside0.mk (blk_grown (g := gb274) (o := .cells #[.slice (some ad286) t276.length co13] 29 (0, 0)) (by (with_reducible repeat (first | refine blk_drewN ?_ _ | refine blk_drew ?_ | refine blk_alloc ?_ _)); exact BK274.out) hg (Kd.R_ne HO285.out BK274.out (by decide))); have n1_ := Aside0.mk (Kd.R_after (ok := (fun k_ => some k_ ≠ (.slice Ao35 y287.length co35 : Value).ownBlock)) (by (with_reducible repeat (first | apply Kd.R_alloc | apply Kd.R_drewN | apply Kd.R_drew)); exact Kd.R_mono HO278.out (fun _ hk => ⟨hk.2, hk.1.2⟩)) hg hat); have n2_ := Aside0.mk (Kd.P_afterv (ok := (fun k_ => some k_ ≠ (.slice (some ad286) t276.length co13 : Value).ownBlock ∧ some k_ ≠ (.slice Ao35 y287.length co35 : Value).ownBlock ∧ k_ ≠ gb274)) (by (with_reducible repeat (first | apply Kd.P_alloc | apply Kd.P_drewN | apply Kd.P_drew)); exact Kd.P_mono HO281.out (fun _ hk => ⟨⟨hk.1.1.1, ⟨hk.2, hk.1.1.2⟩⟩, hk.1.2⟩)) hg hat); have n3_ := Aside0.mk (Kd.R_after (ok := (fun k_ => some k_ ≠ (.slice (some ad286) t276.length co13 : Value).ownBlock)) (by (with_reducible repeat (first | apply Kd.R_alloc | apply Kd.R_drewN | apply Kd.R_drew)); exact Kd.R_mono HO289.out (fun _ hk => ⟨hk.1.2, hk.2⟩)) hg hat); have n4_ := Aside0.mk (hb); have n5_ := Aside0.mk (ho); clear BK274; clear HO278; clear HO281; clear HO289; clear HB; clear HO285; have BK274 := n0_; have HO278 := n1_; have HO281 := n2_; have HO289 := n3_; have HB := n4_; have HO292 := n5_; clear n0_ n1_ n2_ n3_ n4_ n5_; clear ho hb hg hat)); try go_wp2_with (first | ((with_reducible refine gate_dst (N := 54) rfl ?_); refine Kd.R_lit Kd.string _ 9 ?hg (N := 54) ?hd (xs := ([rdOf ByteArray.empty t276 (ji21), (rdOf ByteArray.empty t276 (ji21)).extract 0 ((ji25) : Int).toNat, (rdOf ByteArray.empty t276 (ji21)) ++ a1, (rdOf ByteArray.empty t276 (ji21)) ++ (⟨#[97]⟩ : ByteArray)] : List ByteArray)) (inner := [.string (rdOf ByteArray.empty t276 (ji21)), .string ((rdOf ByteArray.empty t276 (ji21)).extract 0 ((ji25) : Int).toNat), .string ((rdOf ByteArray.empty t276 (ji21)) ++ a1), .string ((rdOf ByteArray.empty t276 (ji21)) ++ (⟨#[97]⟩ : ByteArray))]) (ok := fun _ => True) (okp := fun _ => True) ?hr ?hp (fun _ hk => hk) trivial (Below.refl _ _) (Nat.le_refl _) (by simp) ?_; (case hd => rfl); (case hg => rfl); (case hr => first | (go_simp; done) | (go_simp; rfl)); (case hp => exact (Reps.one (show Kd.M Kd.string _ _ _ (rdOf ByteArray.empty t276 (ji21)) [.string (rdOf ByteArray.empty t276 (ji21))] from rfl) (Reps.one (show Kd.M Kd.string _ _ _ ((rdOf ByteArray.empty t276 (ji21)).extract 0 ((ji25) : Int).toNat) [.string ((rdOf ByteArray.empty t276 (ji21)).extract 0 ((ji25) : Int).toNat)] from rfl) (Reps.one (show Kd.M Kd.string _ _ _ ((rdOf ByteArray.empty t276 (ji21)) ++ a1) [.string ((rdOf ByteArray.empty t276 (ji21)) ++ a1)] from rfl) (Reps.one (show Kd.M Kd.string _ _ _ ((rdOf ByteArray.empty t276 (ji21)) ++ (⟨#[97]⟩ : ByteArray)) [.string ((rdOf ByteArray.empty t276 (ji21)) ++ (⟨#[97]⟩ : ByteArray))] from rfl) (Reps.none _ _)))))); intro v288 w32 ho33 hb hg_ hnew_; clear hg_ hnew_; (first | rw [← Ny287.out] at ho33 | (simp only [Int.reduceToNat] at ho33; rw [← Ny287.out] at ho33)); have n0_ := Aside0.mk (Kd.R_elder' (by (with_reducible repeat (first | apply Kd.R_alloc | apply Kd.R_drewN | apply Kd.R_drew)); exact HO278.out) (Kd.R_base ho33) hb); have n1_ := Aside0.mk (Kd.P_elder' (by (with_reducible repeat (first | apply Kd.P_alloc | apply Kd.P_drewN | apply Kd.P_drew)); exact HO281.out) (Kd.R_base ho33) hb); have n2_ := Aside0.mk (Kd.R_elder' (by (with_reducible repeat (first | apply Kd.R_alloc | apply Kd.R_drewN | apply Kd.R_drew)); exact HO285.out) (Kd.R_base ho33) hb); have n3_ := Aside0.mk (Kd.R_lower (Kd.R_new' (Kd.R_new' ho33 (Kd.R_lt (by (with_reducible repeat (first | apply Kd.R_alloc | apply Kd.R_drewN | apply Kd.R_drew)); exact HO278.out))) (Kd.R_lt (by (with_reducible repeat (first | apply Kd.R_alloc | apply Kd.R_drewN | apply Kd.R_drew)); exact HO285.out))) (below_size (by repeat (first | (with_reducible first | exact HB.out | apply below_alloc | apply pw_below_drewN | apply below_drew1 | refine below_set ?_ GE274.out) | exact HB.out)))); have n4_ := Aside0.mk (blk_below (g := gb274) (o := .cells #[.slice (some ad286) t276.length co13] 29 (0, 0)) (by (with_reducible repeat (first | refine blk_drewN ?_ _ | refine blk_drew ?_ | refine blk_alloc ?_ _)); exact BK274.out) hb); have n5_ := Aside0.mk (below_step (by repeat (first | (with_reducible first | exact HB.out | apply below_alloc | apply pw_below_drewN | apply below_drew1 | refine below_set ?_ GE274.out) | exact HB.out)) hb); clear HO278; clear HO281; clear HO285; clear BK274; clear HB; have HO278 := n0_; have HO281 := n1_; have HO285 := n2_; have HO289 := n3_; have BK274 := n4_; have HB := n5_; clear n0_ n1_ n2_ n3_ n4_ n5_; clear hb ho33; obtain ⟨Ao35, co35, eo35⟩ := Kd.R_slice HO289.out; subst eo35) | ((with_reducible refine gate_builtin (b := .append) (xs := #[.tmp 39, .tmp 54]) rfl ?_); at_builtin; refine Kd.R_append_rows Kd.string (w0 := w) w.heap.size rfl (.tmp 39) (.tmp 54) 29 9 (.string ⟨#[]⟩) 16 rfl Try.underlying29 info9 rfl (by decide) (by omega) v284 y283 y287 _ _ _ (fun k_ => some k_ ≠ (.slice (some ad286) t276.length co13 : Value).ownBlock ∧ some k_ ≠ (.slice Ao35 y287.length co35 : Value).ownBlock) (fun _ => False) rfl rfl ?aO ?aR (fun _ _ h => h) (fun _ h => h.elim) ?aF ?aB ?aS ?aL ?_; (case aR => repeat (first | exact (Kd.R_reads' HO289.out).2.2 | (with_reducible refine Kd.C_alloc ?_ _) | (with_reducible refine Kd.C_drewN ?_ _) | (with_reducible refine Kd.C_drew ?_))); (case aB => exact (by repeat (first | (with_reducible first | exact HB.out | apply below_alloc | apply pw_below_drewN | apply below_drew1 | refine below_set ?_ GE274.out) | exact HB.out))); (case aF => exact (fun k_ hk => ⟨Kd.fresh' (Kd.R_lt (by (with_reducible repeat (first | apply Kd.R_alloc | apply Kd.R_drewN | apply Kd.R_drew)); exact HO278.out)) k_ hk, Kd.fresh' (Kd.R_lt (by (with_reducible repeat (first | apply Kd.R_alloc | apply Kd.R_drewN | apply Kd.R_drew)); exact HO289.out)) k_ hk⟩)); (case aO => exact (by (with_reducible repeat (first | apply Kd.R_alloc | apply Kd.R_drewN | apply Kd.R_drew)); exact Kd.R_mono HO285.out (fun _ hk => ⟨hk.1.2, hk.2⟩))); (case aS => exact (below_size (by repeat (first | (with_reducible first | exact HB.out | apply below_alloc | apply pw_below_drewN | apply below_drew1 | refine below_set ?_ GE274.out) | exact HB.out)))); (case aL => have := LMc30.out; omega); intro v291 w34 ho hb hg hat; rw [← Ny290.out] at ho; have n0_ := Aside0.mk (blk_grown (g := gb274) (o := .cells #[.slice (some ad286) t276.length co13] 29 (0, 0)) (by (with_reducible repeat (first | refine blk_drewN ?_ _ | refine blk_drew ?_ | refine blk_alloc ?_ _)); exact BK274.out) hg (Kd.R_ne HO285.out BK274.out (by decide))); have n1_ := Aside0.mk (Kd.R_after (ok := (fun k_ => some k_ ≠ (.slice Ao35 y287.length co35 : Value).ownBlock)) (by (with_reducible repeat (first | apply Kd.R_alloc | apply Kd.R_drewN | apply Kd.R_drew)); exact Kd.R_mono HO278.out (fun _ hk => ⟨hk.2, hk.1.2⟩)) hg hat); have n2_ := Aside0.mk (Kd.P_afterv (ok := (fun k_ => some k_ ≠ (.slice (some ad286) t276.length co13 : Value).ownBlock ∧ some k_ ≠ (.slice Ao35 y287.length co35 : Value).ownBlock ∧ k_ ≠ gb274)) (by (with_reducible repeat (first | apply Kd.P_alloc | apply Kd.P_drewN | apply Kd.P_drew)); exact Kd.P_mono HO281.out (fun _ hk => ⟨⟨hk.1.1.1, ⟨hk.2, hk.1.1.2⟩⟩, hk.1.2⟩)) hg hat); have n3_ := Aside0.mk (Kd.R_after (ok := (fun k_ => some k_ ≠ (.slice (some ad286) t276.length co13 : Value).ownBlock)) (by (with_reducible repeat (first | apply Kd.R_alloc | apply Kd.R_drewN | apply Kd.R_drew)); exact Kd.R_mono HO289.out (fun _ hk => ⟨hk.1.2, hk.2⟩)) hg hat); have n4_ := Aside0.mk (hb); have n5_ := Aside0.mk (ho); clear BK274; clear HO278; clear HO281; clear HO289; clear HB; clear HO285; have BK274 := n0_; have HO278 := n1_; have HO281 := n2_; have HO289 := n3_; have HB := n4_; have HO292 := n5_; clear n0_ n1_ n2_ n3_ n4_ n5_; clear ho hb hg hat)))
             go_meet
             case rel => exact ⟨_, (y290), H', ⟨by first | omega | exact Nat.le_refl _⟩, ⟨by (with_reducible repeat (first | apply Kd.P_alloc | apply Kd.P_drewN | apply Kd.P_drew)); exact Kd.P_mono HO281.out (fun _ hk => ⟨hk.2, ⟨hk.1.1, hk.1.2.2⟩⟩)⟩, ⟨by (with_reducible repeat (first | apply Kd.R_alloc | apply Kd.R_drewN | apply Kd.R_drew)); exact Kd.R_mono HO292.out (fun _ hk => hk.1)⟩, ⟨by (with_reducible repeat (first | apply Kd.R_alloc | apply Kd.R_drewN | apply Kd.R_drew)); exact Kd.R_mono HO278.out (fun _ hk => hk.2)⟩, ⟨by (with_reducible repeat (first | refine blk_drewN ?_ _ | refine blk_drew ?_ | refine blk_alloc ?_ _)); exact BK274.out⟩, ⟨by repeat (first | (with_reducible first | exact HB.out | apply below_alloc | apply pw_below_drewN | apply below_drew1 | refine below_set ?_ GE274.out) | exact HB.out)⟩⟩
            ·rw [if_neg c30] at H
             exact absurd H (by simp)
           ·rw [if_neg c29] at H
            exact absurd H (by simp)
          ·rw [if_neg c28] at H
           exact absurd H (by simp)
         ·rw [if_neg c27] at H
          exact absurd H (by simp)
        ·rw [if_neg c26] at H
         exact absurd H (by simp)
      ·rw [if_neg c23] at H
       exact absurd H (by simp)
     ·rw [if_neg c22] at H
      exact absurd H (by simp)
   ·rw [if_neg c19] at H
    have c19b0 : decide (0 < (t276.length : Int)) = false := decide_eq_false c19
    have c19b1 : decide (0 < t276.length) = false := decide_eq_false (by omega)
    clear c19
    (first | rw [c19b0] | rw [c19b1] | (simp only [i64_w, i32_w]; rw [c19b0]) | skip)
    have H' := Aside0.mk H
    clear H
    go_wp2
    repeat (go_quiet (fail); try go_wp2)
    go_meet
    case rel => exact ⟨_, (y283), H', ⟨by first | omega | exact Nat.le_refl _⟩, ⟨by (with_reducible repeat (first | apply Kd.P_alloc | apply Kd.P_drewN | apply Kd.P_drew)); exact Kd.P_mono HO281.out (fun _ hk => ⟨hk.2, ⟨hk.1.1, hk.1.2⟩⟩)⟩, ⟨by (with_reducible repeat (first | apply Kd.R_alloc | apply Kd.R_drewN | apply Kd.R_drew)); exact Kd.R_mono HO285.out (fun _ hk => hk.2)⟩, ⟨by (with_reducible repeat (first | apply Kd.R_alloc | apply Kd.R_drewN | apply Kd.R_drew)); exact Kd.R_mono HO278.out (fun _ hk => hk.2)⟩, ⟨by (with_reducible repeat (first | refine blk_drewN ?_ _ | refine blk_drew ?_ | refine blk_alloc ?_ _)); exact BK274.out⟩, ⟨by repeat (first | (with_reducible first | exact HB.out | apply below_alloc | apply pw_below_drewN | apply below_drew1 | refine below_set ?_ GE274.out) | exact HB.out)⟩⟩
  case rest =>
   clear HC9
   try clear c1
   try clear c2
   try clear p2
   try clear q2
   try clear hx2
   try clear c3
   try clear c6
   try clear p6
   try clear c10
   try clear c19
   try clear c19b0
   try clear c19b1
   try clear c20
   try clear c20b0
   try clear c20b1
   try clear c20b2
   try clear c22
   try clear c22b0
   try clear c23
   try clear c23b0
   try clear c24
   try clear c24b0
   try clear c24b1
   try clear c26
   try clear c26b0
   try clear c26b1
   try clear c27
   try clear c27b0
   try clear c27b1
   try clear c28
   try clear c28b0
   try clear c28b1
   try clear c28b2
   try clear p28
   try clear q28
   try clear hx28
   try clear c29
   try clear c29b0
   try clear c29b1
   try clear c29b2
   try clear c30
   try clear hcz14_0
   try clear hcz18_0
   try clear hcz31_0
   try clear hfz14_0
   try clear hfz18_0
   try clear hfz31_0
   try clear hx286_0
   try clear p286
   try clear q286
   obtain ⟨kq, x12_8, HA, HJ8, HO_9, HO_12, HO_275000, BK274, HB⟩ := hcut
   cases kq with
   | zero => exact absurd HA.out (by simp [redpenlaw07_TrieHas.j0])
   | succ kj8 =>
    have H := HA.out
    clear HA
    simp only [redpenlaw07_TrieHas.j0] at H
    have H' := Aside0.mk H
    clear H
    obtain ⟨Ao36, co36, eo36⟩ := Kd.R_slice HO_12.out
    subst eo36
    go_wp2
    repeat (go_quiet (fail); try go_wp2)
    go_loopg [58] kj8 (fun kq v58 w' => ∃ (x58_2 : Int), v58 = .int .i64 x58_2 ∧ Aside0 (redpenlaw07_TrieHas.l0 kq t279 t282 x12_8 (x12_8.length : Int) x58_2 t276 = some r) ∧ Aside0 (kq ≤ kj8) ∧ Aside0 (Kd.P TrP 900025 w' w.heap.size (fun k_ => some k_ ≠ ((.slice Ao36 x12_8.length co36) : Value).ownBlock ∧ some k_ ≠ ((.slice Ao13 t276.length co13) : Value).ownBlock ∧ k_ ≠ gb274) v280 t279) ∧ Aside0 (Kd.R Kd.string 9 w' w.heap.size (fun k_ => some k_ ≠ ((.slice Ao13 t276.length co13) : Value).ownBlock) (.slice Ao36 x12_8.length co36) x12_8) ∧ Aside0 (Kd.R Kd.string 9 w' w.heap.size (fun k_ => some k_ ≠ ((.slice Ao36 x12_8.length co36) : Value).ownBlock) (.slice Ao13 t276.length co13) t276) ∧ Aside0 (w'.heap[gb274]? = some (.cells #[(.slice Ao13 t276.length co13)] 29 (0, 0))) ∧ Aside0 (Below w.heap.size w w'))
    case atStart => exact ⟨(0), (by first | rfl | (simp; done) | (simp [*]; done) | (simp [wrap64, wrap32]; done)), H', ⟨Nat.le_refl _⟩, ⟨by (with_reducible repeat (first | apply Kd.P_alloc | apply Kd.P_drewN | apply Kd.P_drew)); exact HO_9.out⟩, ⟨by (with_reducible repeat (first | apply Kd.R_alloc | apply Kd.R_drewN | apply Kd.R_drew)); exact HO_12.out⟩, ⟨by (with_reducible repeat (first | apply Kd.R_alloc | apply Kd.R_drewN | apply Kd.R_drew)); exact HO_275000.out⟩, ⟨by (with_reducible repeat (first | refine blk_drewN ?_ _ | refine blk_drew ?_ | refine blk_alloc ?_ _)); exact BK274.out⟩, ⟨by repeat (first | (with_reducible first | exact HB.out | apply below_alloc | apply pw_below_drewN | apply below_drew1 | refine below_set ?_ GE274.out) | exact HB.out)⟩⟩
    case round =>
     clear H'
     try clear c1
     try clear c2
     try clear p2
     try clear q2
     try clear hx2
     try clear c3
     try clear c6
     try clear p6
     try clear c10
     try clear c19
     try clear c19b0
     try clear c19b1
     try clear c20
     try clear c20b0
     try clear c20b1
     try clear c20b2
     try clear c22
     try clear c22b0
     try clear c23
     try clear c23b0
     try clear c24
     try clear c24b0
     try clear c24b1
     try clear c26
     try clear c26b0
     try clear c26b1
     try clear c27
     try clear c27b0
     try clear c27b1
     try clear c28
     try clear c28b0
     try clear c28b1
     try clear c28b2
     try clear p28
     try clear q28
     try clear hx28
     try clear c29
     try clear c29b0
     try clear c29b1
     try clear c29b2
     try clear c30
     try clear hcz14_0
     try clear hcz18_0
     try clear hcz31_0
     try clear hfz14_0
     try clear hfz18_0
     try clear hfz31_0
     try clear hx286_0
     try clear p2
     try clear p28
     try clear p286
     try clear p6
     try clear q2
     try clear q28
     try clear q286
     obtain ⟨x58_2, rfl, HA, HK2, HO_9, HO_56, HO_275000, BK274, HB⟩ := hrel
     cases gk with
     | zero => exact absurd HA.out (by simp [redpenlaw07_TrieHas.l0])
     | succ k2 =>
      have H := HA.out
      clear HA
      simp only [redpenlaw07_TrieHas.l0] at H
      by_cases c37 : x58_2 < (x12_8.length : Int)
      ·rw [if_pos c37] at H
       have c37b0 : decide (x58_2 < (x12_8.length : Int)) = true := decide_eq_true c37
       clear c37
       by_cases c38 : 0 ≤ x58_2
       ·rw [if_pos c38] at H
        have c38b0 : decide (0 ≤ x58_2) = true := decide_eq_true c38
        clear c38
        by_cases c39 : x58_2 < (x12_8.length : Int)
        ·rw [if_pos c39] at H
         have c39b0 : decide (x58_2 < (x12_8.length : Int)) = true := decide_eq_true c39
         clear c39
         by_cases c40 : ((rdOf ByteArray.empty x12_8 x58_2).size : Int) < 500
         ·rw [if_pos c40] at H
          have c40b0 : decide (((rdOf ByteArray.empty x12_8 x58_2).size : Int) < 500) = true := decide_eq_true c40
          have c40b1 : decide ((rdOf ByteArray.empty x12_8 x58_2).size < 500) = true := decide_eq_true (by omega)
          clear c40
          replace H := Option.bind_eq_some_iff.mp H
          obtain ⟨t294, A410, H⟩ := H
          replace H : ((redpenlaw07_TrieHas_1.f k2 (rdOf ByteArray.empty x12_8 x58_2) t276).bind fun t295 => (if (t294 != t295) = true then (some false) else (redpenlaw07_TrieHas.l0 k2 t279 t282 x12_8 (x12_8.length : Int) (wrap64 (x58_2 + 1)) t276))) = some r := H
          have A41 := Aside0.mk A410
          clear A410
          replace H := Option.bind_eq_some_iff.mp H
          obtain ⟨t295, A420, H⟩ := H
          replace H : (if (t294 != t295) = true then (some false) else (redpenlaw07_TrieHas.l0 k2 t279 t282 x12_8 (x12_8.length : Int) (wrap64 (x58_2 + 1)) t276)) = some r := H
          have A42 := Aside0.mk A420
          clear A420
          by_cases c43 : (t294 != t295) = true
          ·rw [if_pos c43] at H
           have c43b0 : (t294 != t295) = true := c43
           (try (have c43b1 : decide (t294 = t295) = false := by simpa using c43))
           (try (have c43b2 : (t294 == t295) = false := by simpa using c43))
           (try (have c43b3 : ¬ (t294 = t295) := by simpa using c43))
           clear c43
           have hf_ := Option.some.inj H
           rw [hr_] at hf_
           cases hf_
          ·rw [if_neg c43] at H
           have c43b0 : (t294 != t295) = false := by simpa using c43
           (try (have c43b1 : decide (t294 = t295) = true := by simpa using c43))
           (try (have c43b2 : (t294 == t295) = true := by simpa using c43))
           clear c43
           have H' := Aside0.mk H
           clear H
           have p293 : 0 ≤ (x58_2 : Int) := of_decide_eq_true (by first | (with_reducible assumption) | assumption)
           have q293 : x58_2 < (x12_8.length : Int) := of_decide_eq_true (by first | (with_reducible assumption) | assumption)
           obtain ⟨ad293, e293, hx293_0⟩ := Kd.at_string (Kd.R_reads' HO_56.out).2.2 x58_2 p293 q293
           cases e293
           replace p293 := eq_true p293
           replace q293 := eq_true q293
           go_wp2_with (first | (go_at_call 28; (with_reducible refine (trie_Trie_Has.calls k2 _ t279 (rdOf ByteArray.empty x12_8 x58_2) t294 _ ?side1 A41.out).mono ?_); (case side1 => exact Kd.P_now (by (with_reducible repeat (first | apply Kd.P_alloc | apply Kd.P_drewN | apply Kd.P_drew)); exact HO_9.out)); rintro e w44 ⟨rfl, hb⟩; have n0_ := Aside0.mk (Kd.P_below (by (with_reducible repeat (first | apply Kd.P_alloc | apply Kd.P_drewN | apply Kd.P_drew)); exact HO_9.out) hb); have n1_ := Aside0.mk (Kd.R_below (by (with_reducible repeat (first | apply Kd.R_alloc | apply Kd.R_drewN | apply Kd.R_drew)); exact HO_56.out) hb); have n2_ := Aside0.mk (Kd.R_below (by (with_reducible repeat (first | apply Kd.R_alloc | apply Kd.R_drewN | apply Kd.R_drew)); exact HO_275000.out) hb); have n3_ := Aside0.mk (blk_below (g := gb274) (o := .cells #[.slice Ao13 t276.length co13] 29 (0, 0)) (by (with_reducible repeat (first | refine blk_drewN ?_ _ | refine blk_drew ?_ | refine blk_alloc ?_ _)); exact BK274.out) hb); have n4_ := Aside0.mk (below_step (by repeat (first | (with_reducible first | exact HB.out | apply below_alloc | apply pw_below_drewN | apply below_drew1 | refine below_set ?_ GE274.out) | exact HB.out)) hb); clear HO_9; clear HO_56; clear HO_275000; clear BK274; clear HB; have HO_9 := n0_; have HO_56 := n1_; have HO_275000 := n2_; have BK274 := n3_; have HB := n4_; clear n0_ n1_ n2_ n3_ n4_; (try clear hb); (try clear hb2); (try clear hk); (try clear hi); have hcz45_0 : w44.cell? ⟨gb274, 0, none⟩ = some (.slice Ao13 t276.length co13) := (blk_cell BK274.out 0).trans rfl; have hfz45_0 := blk_frozen BK274.out 0) | (go_at_call 27; (with_reducible refine (redpenlaw07_TrieHas_1.calls k2 (rdOf ByteArray.empty x12_8 x58_2) _ _ t276 t295 _ ?side1 ?side2 A42.out ((blk_cell BK274.out 0).trans rfl)).mono ?_); (case side1 => repeat (first | exact (Kd.R_reads' HO_275000.out).2.2 | (with_reducible refine Kd.C_alloc ?_ _) | (with_reducible refine Kd.C_drewN ?_ _) | (with_reducible refine Kd.C_drew ?_))); (case side2 => exact (Kd.R_reads' HO_275000.out).2.1); rintro e w' ⟨rfl, ⟨nd, rfl⟩⟩; (try first | exact ⟨rfl, _, World.drewN_drewN _ _ _⟩ | exact ⟨rfl, _, Eq.trans (World.drewN_drewN _ _ _) (congrArg (World.drewN _) (Nat.add_assoc _ _ _))⟩)))
           repeat (go_quiet (first | (go_at_call 28; (with_reducible refine (trie_Trie_Has.calls k2 _ t279 (rdOf ByteArray.empty x12_8 x58_2) t294 _ ?side1 A41.out).mono ?_); (case side1 => exact Kd.P_now (by (with_reducible repeat (first | apply Kd.P_alloc | apply Kd.P_drewN | apply Kd.P_drew)); exact HO_9.out)); rintro e w44 ⟨rfl, hb⟩; have n0_ := Aside0.mk (Kd.P_below (by (with_reducible repeat (first | apply Kd.P_alloc | apply Kd.P_drewN | apply Kd.P_drew)); exact HO_9.out) hb); have n1_ := Aside0.mk (Kd.R_below (by (with_reducible repeat (first | apply Kd.R_alloc | apply Kd.R_drewN | apply Kd.R_drew)); exact HO_56.out) hb); have n2_ := Aside0.mk (Kd.R_below (by (with_reducible repeat (first | apply Kd.R_alloc | apply Kd.R_drewN | apply Kd.R_drew)); exact HO_275000.out) hb); have n3_ := Aside0.mk (blk_below (g := gb274) (o := .cells #[.slice Ao13 t276.length co13] 29 (0, 0)) (by (with_reducible repeat (first | refine blk_drewN ?_ _ | refine blk_drew ?_ | refine blk_alloc ?_ _)); exact BK274.out) hb); have n4_ := Aside0.mk (below_step (by repeat (first | (with_reducible first | exact HB.out | apply below_alloc | apply pw_below_drewN | apply below_drew1 | refine below_set ?_ GE274.out) | exact HB.out)) hb); clear HO_9; clear HO_56; clear HO_275000; clear BK274; clear HB; have HO_9 := n0_; have HO_56 := n1_; have HO_275000 := n2_; have BK274 := n3_; have HB := n4_; clear n0_ n1_ n2_ n3_ n4_; (try clear hb); (try clear hb2); (try clear hk); (try clear hi); have hcz45_0 : w44.cell? ⟨gb274, 0, none⟩ = some (.slice Ao13 t276.length co13) := (blk_cell BK274.out 0).trans rfl; have hfz45_0 := blk_frozen BK274.out 0) | (go_at_call 27; (with_reducible refine (redpenlaw07_TrieHas_1.calls k2 (rdOf ByteArray.empty x12_8 x58_2) _ _ t276 t295 _ ?side1 ?side2 A42.out ((blk_cell BK274.out 0).trans rfl)).mono ?_); (case side1 => repeat (first | exact (Kd.R_reads' HO_275000.out).2.2 | (with_reducible refine Kd.C_alloc ?_ _) | (with_reducible refine Kd.C_drewN ?_ _) | (with_reducible refine Kd.C_drew ?_))); (case side2 => exact (Kd.R_reads' HO_275000.out).2.1); rintro e w' ⟨rfl, ⟨nd, rfl⟩⟩; (try first | exact ⟨rfl, _, World.drewN_drewN _ _ _⟩ | exact ⟨rfl, _, Eq.trans (World.drewN_drewN _ _ _) (congrArg (World.drewN _) (Nat.add_assoc _ _ _))⟩))); try go_wp2_with (first | (go_at_call 28; (with_reducible refine (trie_Trie_Has.calls k2 _ t279 (rdOf ByteArray.empty x12_8 x58_2) t294 _ ?side1 A41.out).mono ?_); (case side1 => exact Kd.P_now (by (with_reducible repeat (first | apply Kd.P_alloc | apply Kd.P_drewN | apply Kd.P_drew)); exact HO_9.out)); rintro e w44 ⟨rfl, hb⟩; have n0_ := Aside0.mk (Kd.P_below (by (with_reducible repeat (first | apply Kd.P_alloc | apply Kd.P_drewN | apply Kd.P_drew)); exact HO_9.out) hb); have n1_ := Aside0.mk (Kd.R_below (by (with_reducible repeat (first | apply Kd.R_alloc | apply Kd.R_drewN | apply Kd.R_drew)); exact HO_56.out) hb); have n2_ := Aside0.mk (Kd.R_below (by (with_reducible repeat (first | apply Kd.R_alloc | apply Kd.R_drewN | apply Kd.R_drew)); exact HO_275000.out) hb); have n3_ := Aside0.mk (blk_below (g := gb274) (o := .cells #[.slice Ao13 t276.length co13] 29 (0, 0)) (by (with_reducible repeat (first | refine blk_drewN ?_ _ | refine blk_drew ?_ | refine blk_alloc ?_ _)); exact BK274.out) hb); have n4_ := Aside0.mk (below_step (by repeat (first | (with_reducible first | exact HB.out | apply below_alloc | apply pw_below_drewN | apply below_drew1 | refine below_set ?_ GE274.out) | exact HB.out)) hb); clear HO_9; clear HO_56; clear HO_275000; clear BK274; clear HB; have HO_9 := n0_; have HO_56 := n1_; have HO_275000 := n2_; have BK274 := n3_; have HB := n4_; clear n0_ n1_ n2_ n3_ n4_; (try clear hb); (try clear hb2); (try clear hk); (try clear hi); have hcz45_0 : w44.cell? ⟨gb274, 0, none⟩ = some (.slice Ao13 t276.length co13) := (blk_cell BK274.out 0).trans rfl; have hfz45_0 := blk_frozen BK274.out 0) | (go_at_call 27; (with_reducible refine (redpenlaw07_TrieHas_1.calls k2 (rdOf ByteArray.empty x12_8 x58_2) _ _ t276 t295 _ ?side1 ?side2 A42.out ((blk_cell BK274.out 0).trans rfl)).mono ?_); (case side1 => repeat (first | exact (Kd.R_reads' HO_275000.out).2.2 | (with_reducible refine Kd.C_alloc ?_ _) | (with_reducible refine Kd.C_drewN ?_ _) | (with_reducible refine Kd.C_drew ?_))); (case side2 => exact (Kd.R_reads' HO_275000.out).2.1); rintro e w' ⟨rfl, ⟨nd, rfl⟩⟩; (try first | exact ⟨rfl, _, World.drewN_drewN _ _ _⟩ | exact ⟨rfl, _, Eq.trans (World.drewN_drewN _ _ _) (congrArg (World.drewN _) (Nat.add_assoc _ _ _))⟩))))
           go_roundg k2
           case measure => have := HJ8.out; have := HK2.out; omega
           case rel => exact ⟨(wrap64 (x58_2 + 1)), (by first | rfl | (simp; done) | (simp [*]; done) | (simp [wrap64, wrap32]; done)), H', ⟨by have := HJ8.out; have := HK2.out; omega⟩, ⟨by (with_reducible repeat (first | apply Kd.P_alloc | apply Kd.P_drewN | apply Kd.P_drew)); exact HO_9.out⟩, ⟨by (with_reducible repeat (first | apply Kd.R_alloc | apply Kd.R_drewN | apply Kd.R_drew)); exact HO_56.out⟩, ⟨by (with_reducible repeat (first | apply Kd.R_alloc | apply Kd.R_drewN | apply Kd.R_drew)); exact HO_275000.out⟩, ⟨by (with_reducible repeat (first | refine blk_drewN ?_ _ | refine blk_drew ?_ | refine blk_alloc ?_ _)); exact BK274.out⟩, ⟨by repeat (first | (with_reducible first | exact HB.out | apply below_alloc | apply pw_below_drewN | apply below_drew1 | refine below_set ?_ GE274.out) | exact HB.out)⟩⟩
         ·rw [if_neg c40] at H
          have c40b0 : decide (((rdOf ByteArray.empty x12_8 x58_2).size : Int) < 500) = false := decide_eq_false c40
          have c40b1 : decide ((rdOf ByteArray.empty x12_8 x58_2).size < 500) = false := decide_eq_false (by omega)
          clear c40
          have H' := Aside0.mk H
          clear H
          have p293 : 0 ≤ (x58_2 : Int) := of_decide_eq_true (by first | (with_reducible assumption) | assumption)
          have q293 : x58_2 < (x12_8.length : Int) := of_decide_eq_true (by first | (with_reducible assumption) | assumption)
          obtain ⟨ad293, e293, hx293_0⟩ := Kd.at_string (Kd.R_reads' HO_56.out).2.2 x58_2 p293 q293
          cases e293
          replace p293 := eq_true p293
          replace q293 := eq_true q293
          go_wp2
          repeat (go_quiet (fail); try go_wp2)
          go_roundg k2
          case measure => have := HJ8.out; have := HK2.out; omega
          case rel => exact ⟨(wrap64 (x58_2 + 1)), (by first | rfl | (simp; done) | (simp [*]; done) | (simp [wrap64, wrap32]; done)), H', ⟨by have := HJ8.out; have := HK2.out; omega⟩, ⟨by (with_reducible repeat (first | apply Kd.P_alloc | apply Kd.P_drewN | apply Kd.P_drew)); exact HO_9.out⟩, ⟨by (with_reducible repeat (first | apply Kd.R_alloc | apply Kd.R_drewN | apply Kd.R_drew)); exact HO_56.out⟩, ⟨by (with_reducible repeat (first | apply Kd.R_alloc | apply Kd.R_drewN | apply Kd.R_drew)); exact HO_275000.out⟩, ⟨by (with_reducible repeat (first | refine blk_drewN ?_ _ | refine blk_drew ?_ | refine blk_alloc ?_ _)); exact BK274.out⟩, ⟨by repeat (first | (with_reducible first | exact HB.out | apply below_alloc | apply pw_below_drewN | apply below_drew1 | refine below_set ?_ GE274.out) | exact HB.out)⟩⟩
        ·rw [if_neg c39] at H
         exact absurd H (by simp)
       ·rw [if_neg c38] at H
        exact absurd H (by simp)
      ·rw [if_neg c37] at H
       have c37b0 : decide (x58_2 < (x12_8.length : Int)) = false := decide_eq_false c37
       clear c37
       obtain rfl := Option.some.inj H
       go_wp2
       repeat (go_quiet (fail); try go_wp2)
       go_ret
       exact ⟨by first | rfl | (simp [errW_none, errW_some] <;> rfl) | (simp [*, errW_none, errW_some] <;> rfl), by repeat (first | (with_reducible first | exact HB.out | apply below_alloc | apply pw_below_drewN | apply below_drew1 | refine below_set ?_ GE274.out) | exact HB.out)⟩
 ·replace c6 := Bool.eq_false_iff.mpr c6
  subst c6
  have H1 : (some false) = some r := by rw [if_neg (show ¬ (false = true) by decide)] at H; exact H
  clear H
  have H := H1
  clear H1
  have hf_ := Option.some.inj H
  rw [hr_] at hf_
  cases hf_


end Go.Proofs.Ytokgkhndhlcfpaa.PTrieHas
