/- LinesSplit: any bytes as lines: how many, which, where. For all bytes (up to 3000 are looked at) and each line number. No condition beyond the statement's own. -/
import Derived.Test.YtgjnelloegkicaaBRLinesLinesSplit
import Derived.Test.YtgjnelloegkicaaBSplitLinesSplit
namespace Go.Proofs.Ytgjnelloegkicaa.Pure
open Go.RowKit Go.Proofs.Ytgjnelloegkicaa.PLinesSplit Go.Proofs.YtgjnelloegkicaaW.PrintWords Go.Proofs.YtgjnelloegkicaaW.PrintLast
open Go.Proofs.Ytgjnelloegkicaa.M Go.Proofs.Ytgjnelloegkicaa.X

theorem last_part {b : List Int} (hb : b.length ≤ 3000) (a : Int) {r : Option Bool} (h : some true = r) : ((lines_Index_Span.f [b] a).bind fun bt178 => (if a ≥ 1 then (if ((bt178.2.2 == 0) == (decide (a ≤ (((ls b).map strOfNums).length : Int)))) = true then (if bt178.2.2 = 0 then (some true) else (if bt178.2.2 = 2 then (some (bt178.1 == 0 && (bt178.2.1 == 0))) else (some false))) else (some false)) else (if ((bt178.2.2 == 0) == false) = true then (if bt178.2.2 = 0 then (some true) else (if bt178.2.2 = 2 then (some (bt178.1 == 0 && (bt178.2.1 == 0))) else (some false))) else (some false)))) = r := by
  subst h
  rw [List.length_map]
  by_cases h1 : 1 ≤ a ∧ a ≤ ((ls b).length : Int)
  · obtain ⟨j, rfl⟩ : ∃ j : Nat, a = (j : Int) + 1 := ⟨(a - 1).toNat, by omega⟩
    refine ob (span_in (by omega) j (by omega)) ?_
    simp only
    rw [if_pos (by omega), decide_eq_true (by omega), if_pos (by decide), if_pos trivial]
  · refine ob (span_out (by omega) a (by omega)) ?_
    simp only
    by_cases h2 : a ≥ 1
    · rw [if_pos h2, decide_eq_false (by omega)]
      decide
    · rw [if_neg h2]
      decide
theorem spans_from {b : List Int} (hB : BT b) (hb : b.length ≤ 3000) (a : Int) : ∀ (d k j : Nat), (ls b).length - j = d → j ≤ (ls b).length → d < k →
    redpenlaw03_LinesSplit.l0 k a [b] ((ls b).map strOfNums) (off (ls b) j : Int) ((ls b).map strOfNums) (((ls b).map strOfNums).length : Int) j = some true := by
  have hn := ls_count b
  intro d
  induction d with
  | zero =>
    intro k j hd hj hk
    obtain ⟨k, rfl⟩ : ∃ m, k = m + 1 := ⟨k - 1, by omega⟩
    simp only [redpenlaw03_LinesSplit.l0]
    rw [if_neg (by rw [List.length_map]; omega)]
    exact last_part hb a rfl
  | succ d ih =>
    intro k j hd hj hk
    obtain ⟨k, rfl⟩ : ∃ m, k = m + 1 := ⟨k - 1, by omega⟩
    have hlt : j < (ls b).length := by omega
    have ew : wrap64 ((j : Int) + 1) = ((j + 1 : Nat) : Int) := by rw [w64 (by omega) (by omega)]; omega
    have hs := span_in (b := b) (by omega) j hlt
    have ho := off_succ (ls b) j hlt
    have ho2 := off_le (ls b) (j + 1)
    rw [ls_flat] at ho2
    have hr := ih k (j + 1) (by omega) (by omega) (by omega)
    have hsz : ((rdOf ByteArray.empty ((ls b).map strOfNums) (j : Int)).size : Int) = (((ls b).getD j []).length : Int) := by
      rw [str_at _ _ hlt, str_size (ls_BT hB j hlt)]
    have e2 : wrap64 ((off (ls b) j : Int) + (((ls b).getD j []).length : Int)) = (off (ls b) (j + 1) : Int) := by rw [w64 (by omega) (by omega)]; omega
    have g1 : (j : Int) < (((ls b).map strOfNums).length : Int) := by rw [List.length_map]; omega
    have g2 : (0 : Int) ≤ (j : Int) := by omega
    rw [show ((j : Int) + 1) = ((j + 1 : Nat) : Int) by omega] at hs
    simp only [redpenlaw03_LinesSplit.l0]
    rw [if_pos g1, if_pos g2, if_pos g1, ew, hsz, e2]
    refine ob hs ?_
    rw [hr]
    simp
theorem LinesSplit : redpenlaw03_LinesSplit.Pure := by
  intro b a _ _ hw _
  have hB := BT_of_wf hw
  obtain ⟨k, hk⟩ : ∃ k : Nat, 5000 ≤ k := ⟨5000, Nat.le_refl _⟩
  refine ⟨k, ?_⟩
  unfold redpenlaw03_LinesSplit.f
  refine ob (lines_awake (by omega)) ?_
  rw [if_pos rfl]
  by_cases hbig : (b.length : Int) > 3000
  · rw [if_pos hbig]
  have hb : b.length ≤ 3000 := by omega
  have hn := ls_count b
  rw [if_neg hbig]
  refine ob (new_eq (by omega)) ?_
  refine ob (reflines_eq (by omega) (by omega)) ?_
  refine ob (nlines_eq (by omega)) ?_
  rw [if_pos (by rw [List.length_map])]
  refine ob (split_eq (by omega) (by omega)) ?_
  refine ob (same_eq _ (by rw [List.length_map]; omega) (by rw [List.length_map]; omega)) ?_
  obtain ⟨k, rfl⟩ : ∃ m, k = m + 1 := ⟨k - 1, by omega⟩
  simp only [redpenlaw03_LinesSplit.j0]
  rw [if_neg (by decide)]
  have := spans_from hB hb a (ls b).length k 0 (by omega) (by omega) (by omega)
  rw [off_zero] at this
  exact this
end Go.Proofs.Ytgjnelloegkicaa.Pure
