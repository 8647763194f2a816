/- HunksOne: one line changed: one hunk, with as many lines about it as are wanted, and are there. For any numbers. No condition beyond the statement's own. -/
import Derived.Test.YtokgkhndhlcfpaaBMakeHunksOne
namespace Go.Proofs.Ytokgkhndhlcfpaa.Pure
open Go.RowKit Go.Proofs.Ytokgkhndhlcfpaa.PHunksOne Go.Proofs.YtokgkhndhlcfpaaW.PrintWords Go.Proofs.YtokgkhndhlcfpaaW.PrintLast Go.Proofs.YtokgkhndhlcfpaaW.PrintMore
open Go.Proofs.Ytokgkhndhlcfpaa.M Go.Proofs.Ytokgkhndhlcfpaa.X
set_option linter.unusedVariables false
set_option linter.unusedSimpArgs false

theorem hunks_awake : Ev (fun f => redpenlaw19_Awake.f f) true := Ev.of redpenlaw19_Awake.mono (k := 60) (by decide +kernel)
/-- Lines, each ended by a newline, one behind the other. -/
def txt (W : Nat → List Int) : Nat → List Int
  | 0 => []
  | n + 1 => txt W n ++ (W n ++ [10])
theorem linesOf_line (t : List Int) : ∀ (w cur : List Int), (10 : Int) ∉ w → linesOf cur (w ++ (10 :: t)) = (cur ++ w ++ [10]) :: linesOf [] t
  | [], cur, _ => by
    rw [List.nil_append, List.append_nil]
    conv => lhs; unfold linesOf
    rw [if_pos rfl]
  | c :: w, cur, h => by
    rw [List.cons_append]
    conv => lhs; unfold linesOf
    rw [if_neg (fun e => h (by rw [e]; exact List.mem_cons_self)), linesOf_line t w (cur ++ [c]) (fun e => h (List.mem_cons_of_mem _ e))]
    simp
theorem linesOf_last : ∀ (w cur : List Int), (10 : Int) ∉ w → cur ++ w ≠ [] → linesOf cur w = [cur ++ w]
  | [], cur, _, h => by
    rw [List.append_nil] at h ⊢
    unfold linesOf
    rw [if_neg h]
  | c :: w, cur, h, hn => by
    conv => lhs; unfold linesOf
    rw [if_neg (fun e => h (by rw [e]; exact List.mem_cons_self)), linesOf_last w (cur ++ [c]) (fun e => h (List.mem_cons_of_mem _ e)) (by simp)]
    simp
theorem ls_txt (W : Nat → List Int) (hW : ∀ i, (10 : Int) ∉ W i) : ∀ (n : Nat) (t : List Int), ls (txt W n ++ t) = (List.range n).map (fun i => W i ++ [10]) ++ ls t
  | 0, t => rfl
  | n + 1, t => by
    show ls (txt W n ++ (W n ++ [10]) ++ t) = _
    rw [List.append_assoc, ls_txt W hW n, List.append_assoc, List.range_succ, List.map_append, List.append_assoc]
    congr 1
    unfold ls
    rw [show [(10 : Int)] ++ t = 10 :: t from rfl, linesOf_line t (W n) [] (hW n)]
    rfl
theorem ls_bare (W : Nat → List Int) (hW : ∀ i, (10 : Int) ∉ W i) (n : Nat) (h : W n ≠ []) : ls (txt W n ++ W n) = (List.range n).map (fun i => W i ++ [10]) ++ [W n] := by
  rw [ls_txt W hW n]
  congr 1
  unfold ls
  rw [linesOf_last (W n) [] (hW n) (by simpa using h)]
  rfl
/-- The lines of a text of so many, the last one with or without a newline. -/
def lin (W : Nat → List Int) (n : Nat) (bare : Bool) (i : Nat) : List Int := if bare = true ∧ i + 1 = n then W i else W i ++ [10]
def whole (W : Nat → List Int) (n : Nat) (bare : Bool) : List Int := if bare = true then (txt W n).take ((txt W n).length - 1) else txt W n
theorem ls_whole (W : Nat → List Int) (hW : ∀ i, (10 : Int) ∉ W i) (hne : ∀ i, W i ≠ []) (n : Nat) (hn : 0 < n) (bare : Bool) : ls (whole W n bare) = (List.range n).map (lin W n bare) := by
  unfold whole
  cases bare with
  | false =>
    rw [if_neg (by simp)]
    have := ls_txt W hW n []
    rw [List.append_nil] at this
    rw [this, show ls [] = [] from rfl, List.append_nil]
    exact List.map_congr_left fun i _ => by unfold lin; rw [if_neg (by simp)]
  | true =>
    obtain ⟨m, rfl⟩ : ∃ m, n = m + 1 := ⟨n - 1, by omega⟩
    rw [if_pos rfl, show txt W (m + 1) = (txt W m ++ W m) ++ [10] by rw [List.append_assoc]; rfl, List.length_append, List.length_singleton, Nat.add_sub_cancel, List.take_left', ls_bare W hW m (hne m), List.range_succ, List.map_append]
    · congr 1
      · exact List.map_congr_left fun i hi => by
          have := List.mem_range.1 hi
          unfold lin
          rw [if_neg (by omega)]
      · show [W m] = [lin W (m + 1) true m]
        unfold lin
        rw [if_pos ⟨rfl, rfl⟩]
    · rfl
/-- The same lines at both ends are stripped. -/
theorem strip_append : ∀ (k : Nat) (s x y : List ByteArray), s.length = k → strip (x ++ s) (y ++ s) = strip x y
  | 0, s, x, y, h => by rw [List.eq_nil_of_length_eq_zero h, List.append_nil, List.append_nil]
  | k + 1, s, x, y, h => by
    have h0 : 0 < s.length := by omega
    have hs := take_last s h0
    have l1 : ∀ z : List ByteArray, lastOf (z ++ s) = lastOf s := by
      intro z
      unfold lastOf
      rw [List.getD_eq_getElem?_getD, List.getD_eq_getElem?_getD, List.length_append, List.getElem?_append_right (by omega)]
      congr 2
      omega
    have t1 : ∀ z : List ByteArray, (z ++ s).take ((z ++ s).length - 1) = z ++ s.take (s.length - 1) := by
      intro z
      rw [List.length_append, List.take_append, List.take_of_length_le (by omega)]
      congr 2
      omega
    rw [strip_pos _ _ ⟨by rw [List.length_append]; omega, by rw [List.length_append]; omega, by rw [l1, l1]⟩, t1, t1]
    exact strip_append k (s.take (s.length - 1)) x y (by rw [List.length_take]; omega)
theorem pre_append : ∀ (s x y : List ByteArray), pre (s ++ x) (s ++ y) = s.length + pre x y
  | [], x, y => by rw [List.nil_append, List.nil_append, List.length_nil, Nat.zero_add]
  | a :: s, x, y => by rw [List.cons_append, List.cons_append, pre_cons, if_pos rfl, pre_append s x y, List.length_cons]; omega
theorem chgs_one (A B : List ByteArray) (a b : ByteArray) (h : a.toList ≠ b.toList) : chgs (A ++ (a :: B)) (A ++ (b :: B)) = [⟨A.length, 1, A.length, 1⟩] := by
  have hp : pre (A ++ (a :: B)) (A ++ (b :: B)) = A.length := by rw [pre_append, pre_cons, if_neg h]; rfl
  have hs : strip (a :: B) (b :: B) = ([a], [b]) := by
    have := strip_append B.length B [a] [b] rfl
    rw [List.singleton_append, List.singleton_append] at this
    rw [this]
    exact strip_neg _ _ (fun hh => h hh.2.2)
  unfold chgs
  simp only [hp, List.drop_left, hs, List.length_singleton]
  rw [if_neg (by omega), script_cons, if_neg h, if_pos (by rw [lcs_nil, lcs_nil']; exact Nat.le_refl _), script_ins, script_nil, grp_del, grp_ins]
  show flushed _ = _
  unfold flushed
  simp only
  rw [if_pos (by omega)]
  rfl
/-- The hunk of one line changed. -/
theorem hunk_one (P Q : List ByteArray) (c k n : Nat) (hP : P.length = n) (hQ : Q.length = n) (hk : k < n) :
    let h := hunkM P Q c ⟨k, 1, k, 1⟩ []
    h.o = (k : Int) - (min c k : Nat) ∧ h.n = (k : Int) - (min c k : Nat) ∧ h.os = ((min c k + 1 + min c (n - 1 - k) : Nat) : Int) ∧ h.ns = ((min c k + 1 + min c (n - 1 - k) : Nat) : Int) ∧ h.ls.length = min c k + 2 + min c (n - 1 - k) ∧
      h.ls[min c k]? = some (lineM 45 (P.getD k ByteArray.empty)) ∧ h.ls[min c k + 1]? = some (lineM 43 (Q.getD k ByteArray.empty)) := by
  have hl : linesM P Q c (k - min c k) [⟨k, 1, k, 1⟩] = (piece P (k - min c k) k).map (lineM 32) ++ ([lineM 45 (P.getD k ByteArray.empty)] ++ ([lineM 43 (Q.getD k ByteArray.empty)] ++ (piece P (k + 1) (min (k + 1 + c) n)).map (lineM 32))) := by
    have p1 : ∀ (R : List ByteArray), R.length = n → piece R k (k + 1) = [R.getD k ByteArray.empty] := by
      intro R hR
      unfold piece
      rw [List.take_succ_eq_append_getElem (by omega), List.drop_append_of_le_length (by rw [List.length_take]; omega), List.drop_eq_nil_of_le (by rw [List.length_take]; omega), List.getD_eq_getElem?_getD, List.getElem?_eq_getElem (by omega)]
      rfl
    have t1 : ((k : Int) + 1).toNat = k + 1 := by omega
    unfold linesM
    rw [bodyM_cons, endM_cons]
    simp only [Int.toNat_natCast, t1]
    rw [p1 P hP, p1 Q hQ, hP, show bodyM P Q (k + 1) [] = [] from rfl, List.append_nil, show endM (k + 1) [] = k + 1 from rfl, List.append_assoc, List.append_assoc]
    rfl
  have q1 := piece_len P (k - min c k) k (by omega)
  have q2 := piece_len P (k + 1) (min (k + 1 + c) n) (by omega)
  intro h
  have hL : h.ls = (piece P (k - min c k) k).map (lineM 32) ++ ([lineM 45 (P.getD k ByteArray.empty)] ++ ([lineM 43 (Q.getD k ByteArray.empty)] ++ (piece P (k + 1) (min (k + 1 + c) n)).map (lineM 32))) := by
    rw [← hl]
    rfl
  have hlen : h.ls.length = min c k + 2 + min c (n - 1 - k) := by
    rw [hL]
    simp only [List.length_append, List.length_map, List.length_singleton]
    omega
  have c43 : cntM 43 h.ls = 1 := by
    rw [hL]
    simp only [cntM_append, cntM_map, show ¬ ((32 : Int) = 43) by decide, if_false, cntM_cons, lineM_sg, if_true, show ¬ ((45 : Int) = 43) by decide]
    rfl
  have c45 : cntM 45 h.ls = 1 := by
    rw [hL]
    simp only [cntM_append, cntM_map, show ¬ ((32 : Int) = 45) by decide, if_false, cntM_cons, lineM_sg, if_true, show ¬ ((43 : Int) = 45) by decide]
    rfl
  refine ⟨?_, rfl, ?_, ?_, hlen, ?_, ?_⟩
  · show (((k : Int).toNat - min c (k : Int).toNat : Nat) : Int) = _
    rw [Int.toNat_natCast]; omega
  · have e : h.os = (h.ls.length : Int) - (cntM 43 h.ls : Int) := rfl
    rw [e, hlen, c43]; omega
  · have e : h.ns = (h.ls.length : Int) - (cntM 45 h.ls : Int) := rfl
    rw [e, hlen, c45]; omega
  · rw [hL, List.getElem?_append_right (by rw [List.length_map]; omega), List.length_map, show min c k - (piece P (k - min c k) k).length = 0 by omega]
    rfl
  · rw [hL, List.getElem?_append_right (by rw [List.length_map]; omega), List.length_map, show min c k + 1 - (piece P (k - min c k) k).length = 1 by omega]
    rfl
/-- The lines of the old text, and of the new one. -/
def Wa (i : Nat) : List Int := [((97 + i % 26 : Nat) : Int), ((97 + (i / 26) % 100 : Nat) : Int)]
def Wb (k i : Nat) : List Int := if i = k then [99, 104, 97, 110, 103, 101, 100] else Wa i
theorem Wa_in (i : Nat) : (10 : Int) ∉ Wa i ∧ Wa i ≠ [] ∧ (Wa i).length ≤ 7 ∧ BT (Wa i) := by
  refine ⟨fun h => ?_, by unfold Wa; simp, by unfold Wa; simp, fun x hx => ?_⟩
  · unfold Wa at h
    simp only [List.mem_cons, List.not_mem_nil, or_false] at h
    omega
  · unfold Wa at hx
    simp only [List.mem_cons, List.not_mem_nil, or_false] at hx
    omega
theorem Wb_in (k i : Nat) : (10 : Int) ∉ Wb k i ∧ Wb k i ≠ [] ∧ (Wb k i).length ≤ 7 := by
  unfold Wb
  split
  · exact ⟨by decide, by simp, by simp⟩
  · exact ⟨(Wa_in i).1, (Wa_in i).2.1, (Wa_in i).2.2.1⟩
theorem txt_len (W : Nat → List Int) (h : ∀ i, (W i).length ≤ 7) : ∀ n : Nat, (txt W n).length ≤ 8 * n
  | 0 => Nat.le_refl _
  | n + 1 => by
    show (txt W n ++ (W n ++ [10])).length ≤ _
    have := txt_len W h n
    have := h n
    rw [List.length_append, List.length_append, List.length_singleton]
    omega
theorem map_range_split {α : Type} (f : Nat → α) (n k : Nat) (h : k < n) : (List.range n).map f = (List.range k).map f ++ (f k :: (List.range (n - 1 - k)).map (fun i => f (k + 1 + i))) := by
  apply List.ext_getElem?
  intro i
  by_cases h1 : i < k
  · rw [List.getElem?_append_left (by rw [List.length_map, List.length_range]; exact h1), List.getElem?_map, List.getElem?_map, List.getElem?_range (by omega), List.getElem?_range h1]
  · rw [List.getElem?_append_right (by rw [List.length_map, List.length_range]; omega), List.length_map, List.length_range]
    by_cases h2 : i = k
    · subst h2
      rw [Nat.sub_self, List.getElem?_map, List.getElem?_range h]
      rfl
    · obtain ⟨j, rfl⟩ : ∃ j, i = k + 1 + j := ⟨i - k - 1, by omega⟩
      rw [show k + 1 + j - k = j + 1 by omega, List.getElem?_cons_succ, List.getElem?_map, List.getElem?_map]
      by_cases h3 : k + 1 + j < n
      · rw [List.getElem?_range h3, List.getElem?_range (by omega)]; rfl
      · rw [List.getElem?_eq_none (by rw [List.length_range]; omega), List.getElem?_eq_none (by rw [List.length_range]; omega)]; rfl
/-- What Make tells of both texts. -/
theorem one_make (n k c : Nat) (bare : Bool) (hk : k < n) (hn : n ≤ 40) (hc : c ≤ 16) : ∃ h : Hk, Ev (fun f => hunks_Make.f f (whole Wa n bare) (whole (Wb k) n bare) (c : Int)) ([toH h], 0) ∧
    h.o = (k : Int) - (min c k : Nat) ∧ h.n = (k : Int) - (min c k : Nat) ∧ h.os = ((min c k + 1 + min c (n - 1 - k) : Nat) : Int) ∧ h.ns = ((min c k + 1 + min c (n - 1 - k) : Nat) : Int) ∧ h.ls.length = min c k + 2 + min c (n - 1 - k) ∧
      (∃ l, h.ls[min c k]? = some l ∧ l.sg = 45) ∧ (∃ l, h.ls[min c k + 1]? = some l ∧ l.sg = 43 ∧ l.tx.toList = [99, 104, 97, 110, 103, 101, 100] ∧ l.br = (bare && decide (k + 1 = n))) := by
  have wl : ∀ W : Nat → List Int, (∀ i, (W i).length ≤ 7) → (whole W n bare).length ≤ 1000 := by
    intro W hW
    have := txt_len W hW n
    unfold whole
    split
    · rw [List.length_take]; omega
    · omega
  have main := make_ev (whole Wa n bare) (whole (Wb k) n bare) (wl _ fun i => (Wa_in i).2.2.1) (wl _ fun i => (Wb_in k i).2.2) c hc
  rw [ls_whole Wa (fun i => (Wa_in i).1) (fun i => (Wa_in i).2.1) n (by omega) bare, ls_whole (Wb k) (fun i => (Wb_in k i).1) (fun i => (Wb_in k i).2.1) n (by omega) bare, List.map_map, List.map_map] at main
  have same : ∀ i, i ≠ k → lin (Wb k) n bare i = lin Wa n bare i := by
    intro i hi
    unfold lin Wb
    rw [if_neg hi]
  have d1 := map_range_split (strOfNums ∘ lin Wa n bare) n k hk
  have d2 := map_range_split (strOfNums ∘ lin (Wb k) n bare) n k hk
  have ea : (List.range k).map (strOfNums ∘ lin (Wb k) n bare) = (List.range k).map (strOfNums ∘ lin Wa n bare) := List.map_congr_left fun i hi => by
    have := List.mem_range.1 hi
    show strOfNums _ = strOfNums _
    rw [same i (by omega)]
  have eb : (List.range (n - 1 - k)).map (fun i => (strOfNums ∘ lin (Wb k) n bare) (k + 1 + i)) = (List.range (n - 1 - k)).map (fun i => (strOfNums ∘ lin Wa n bare) (k + 1 + i)) := List.map_congr_left fun i _ => by
    show strOfNums _ = strOfNums _
    rw [same (k + 1 + i) (by omega)]
  rw [ea, eb] at d2
  have hne : ((strOfNums ∘ lin Wa n bare) k).toList ≠ ((strOfNums ∘ lin (Wb k) n bare) k).toList := by
    intro he
    have h2 := congrArg ByteArray.size (ba_ext he)
    simp only [Function.comp_apply, strOfNums_size] at h2
    unfold lin Wb Wa at h2
    rw [if_pos rfl] at h2
    split at h2 <;> simp at h2
  have hch := chgs_one ((List.range k).map (strOfNums ∘ lin Wa n bare)) ((List.range (n - 1 - k)).map (fun i => (strOfNums ∘ lin Wa n bare) (k + 1 + i))) _ _ hne
  rw [← d1, ← d2, List.length_map, List.length_range] at hch
  rw [hch, makeM_cons] at main
  simp only [show nearM c ⟨(k : Int), 1, (k : Int), 1⟩ [] = 0 from rfl, List.take_nil, List.drop_nil, makeM_nil, List.map_cons, List.map_nil] at main
  have hm : ((List.range n).map (strOfNums ∘ lin Wa n bare)).getD k ByteArray.empty = strOfNums (lin Wa n bare k) := by
    rw [List.getD_eq_getElem?_getD, List.getElem?_map, List.getElem?_range hk]; rfl
  have hm2 : ((List.range n).map (strOfNums ∘ lin (Wb k) n bare)).getD k ByteArray.empty = strOfNums (lin (Wb k) n bare k) := by
    rw [List.getD_eq_getElem?_getD, List.getElem?_map, List.getElem?_range hk]; rfl
  have key := hunk_one ((List.range n).map (strOfNums ∘ lin Wa n bare)) ((List.range n).map (strOfNums ∘ lin (Wb k) n bare)) c k n (by simp) (by simp) hk
  rw [hm, hm2] at key
  obtain ⟨k1, k2, k3, k4, k5, k6, k7⟩ := key
  refine ⟨_, main, k1, k2, k3, k4, k5, ⟨_, k6, lineM_sg _ _⟩, ⟨_, k7, lineM_sg _ _, ?_⟩⟩
  have hw : Wb k k = [99, 104, 97, 110, 103, 101, 100] := if_pos rfl
  unfold lin
  rw [hw]
  cases bare with
  | false =>
    rw [if_neg (by simp), Bool.false_and]
    exact ⟨by decide +kernel, by decide +kernel⟩
  | true =>
    by_cases hkn : k + 1 = n
    · rw [if_pos ⟨rfl, hkn⟩, decide_eq_true hkn]
      exact ⟨by decide +kernel, by decide +kernel⟩
    · rw [if_neg (fun h => hkn h.2), decide_eq_false hkn]
      exact ⟨by decide +kernel, by decide +kernel⟩
theorem rdL_some (L : List Ln) (j : Nat) (l : Ln) (h : L[j]? = some l) : rd_T55 (L.map toL) (j : Int) = toL l := by
  unfold rd_T55
  rw [Int.toNat_natCast, List.getD_eq_getElem?_getD, List.getElem?_map, h]
  rfl
theorem Wa_val (i : Nat) (h : i < 40) : [(97 + ((Int.tmod (i : Int) 26) % 256)) % 256, (97 + ((wrap64 (Int.tdiv (i : Int) 26)) % 256)) % 256] = Wa i := by
  have a1 : Int.tmod (i : Int) 26 = (i : Int) % 26 := Int.tmod_eq_emod_of_nonneg (by omega)
  have a2 : Int.tdiv (i : Int) 26 = (i : Int) / 26 := Int.tdiv_eq_ediv_of_nonneg (by omega)
  rw [a1, a2, w64 (by omega) (by omega)]
  clear a1 a2
  unfold Wa
  have g1 : (97 + ((i : Int) % 26 % 256)) % 256 = ((97 + i % 26 : Nat) : Int) := by omega
  have g2 : (97 + ((i : Int) / 26 % 256)) % 256 = ((97 + (i / 26) % 100 : Nat) : Int) := by omega
  rw [g1, g2]
set_option maxHeartbeats 1600000 in
theorem one_l0 (a2 : Int) (a3 : Bool) (n k c : Nat) (hk : k < n) (hn : n ≤ 40) (hc : c ≤ 16) (ec : ∀ _ : Unit, wrap64 (Int.tmod a2 17) = (c : Int)) : ∀ (d i : Nat), n - i = d → i ≤ n →
    Ev (fun f => redpenlaw19_HunksOne.l0 f a2 a3 (n : Int) (k : Int) (txt Wa i) (txt (Wb k) i) (n : Int) (i : Int)) true := by
  intro d
  induction d with
  | zero =>
    intro i hd hi
    obtain rfl : i = n := by omega
    obtain ⟨h, main, k1, k2, k3, k4, k5, ⟨l, k6, k7⟩, ⟨m, k8, k9, k10, k11⟩⟩ := one_make i k c a3 hk hn hc
    have ta : 1 ≤ (txt Wa i).length := by
      obtain ⟨j, rfl⟩ : ∃ j, i = j + 1 := ⟨i - 1, by omega⟩
      show 1 ≤ (txt Wa j ++ (Wa j ++ [10])).length
      rw [List.length_append, List.length_append, List.length_singleton]; omega
    have tb : 1 ≤ (txt (Wb k) i).length := by
      obtain ⟨j, rfl⟩ : ∃ j, i = j + 1 := ⟨i - 1, by omega⟩
      show 1 ≤ (txt (Wb k) j ++ (Wb k j ++ [10])).length
      rw [List.length_append, List.length_append, List.length_singleton]; omega
    have ua := txt_len Wa (fun i => (Wa_in i).2.2.1) i
    have ub := txt_len (Wb k) (fun i => (Wb_in k i).2.2) i
    have e1 : ∀ _ : Unit, wrap64 (((txt Wa i).length : Int) - 1) = (((txt Wa i).length - 1 : Nat) : Int) := fun _ => hw64 _ _ (by omega) (by omega)
    have e2 : ∀ _ : Unit, wrap64 (((txt (Wb k) i).length : Int) - 1) = (((txt (Wb k) i).length - 1 : Nat) : Int) := fun _ => hw64 _ _ (by omega) (by omega)
    have m1 : mn (c : Int) (k : Int) = ((min c k : Nat) : Int) := by unfold mn; split <;> omega
    have w1 : ∀ _ : Unit, wrap64 ((k : Int) - ((min c k : Nat) : Int)) = (k : Int) - ((min c k : Nat) : Int) := fun _ => w64 (by omega) (by omega)
    have w2 : ∀ _ : Unit, wrap64 (((min c k : Nat) : Int) + 1) = ((min c k + 1 : Nat) : Int) := fun _ => hw64 _ _ (by omega) (by omega)
    have w3 : ∀ _ : Unit, wrap64 (((min c k : Nat) : Int) + 2) = ((min c k + 2 : Nat) : Int) := fun _ => hw64 _ _ (by omega) (by omega)
    have w4 : ∀ _ : Unit, wrap64 ((i : Int) - 1) = ((i - 1 : Nat) : Int) := fun _ => hw64 _ _ (by omega) (by omega)
    have w5 : ∀ _ : Unit, wrap64 (((i - 1 : Nat) : Int) - (k : Int)) = ((i - 1 - k : Nat) : Int) := fun _ => hw64 _ _ (by omega) (by omega)
    have m2 : mn (c : Int) ((i - 1 - k : Nat) : Int) = ((min c (i - 1 - k) : Nat) : Int) := by unfold mn; split <;> omega
    have w6 : ∀ _ : Unit, wrap64 (((min c k + 1 : Nat) : Int) + ((min c (i - 1 - k) : Nat) : Int)) = ((min c k + 1 + min c (i - 1 - k) : Nat) : Int) := fun _ => hw64 _ _ (by omega) (by omega)
    have w7 : ∀ _ : Unit, wrap64 (((min c k + 2 : Nat) : Int) + ((min c (i - 1 - k) : Nat) : Int)) = ((min c k + 2 + min c (i - 1 - k) : Nat) : Int) := fun _ => hw64 _ _ (by omega) (by omega)
    have f0 : (rd_T53 [toH h] 0).f0 = (k : Int) - ((min c k : Nat) : Int) := k1
    have f1 : (rd_T53 [toH h] 0).f1 = ((min c k + 1 + min c (i - 1 - k) : Nat) : Int) := k3
    have f2 : (rd_T53 [toH h] 0).f2 = (k : Int) - ((min c k : Nat) : Int) := k2
    have f3 : (rd_T53 [toH h] 0).f3 = ((min c k + 1 + min c (i - 1 - k) : Nat) : Int) := k4
    have f4 : (rd_T53 [toH h] 0).f4 = h.ls.map toL := rfl
    have g1 := rdL_some h.ls _ l k6
    have g2 := rdL_some h.ls _ m k8
    have hlen : (([toH h] : List S53).length : Int) = 1 := rfl
    cases a3 with
    | true =>
      have st : ∃ F : Nat → (List S53 × Int) → Option Bool, (∀ f, redpenlaw19_HunksOne.l0 (f + 1) a2 true (i : Int) (k : Int) (txt Wa i) (txt (Wb k) i) (i : Int) (i : Int) = (hunks_Make.f f (whole Wa i true) (whole (Wb k) i true) (c : Int)).bind (F f)) ∧ ∀ f, F f ([toH h], 0) = some true := by
       refine ⟨?F1, fun f => ?h1, fun f => ?h2⟩
       case h1 =>
        simp only [redpenlaw19_HunksOne.l0]
        rw [if_neg (by omega), if_pos trivial, e1 (), e2 (), if_pos (by omega), if_pos (by omega), if_pos (by omega), if_pos (by omega), ec ()]
        rfl
       case h2 =>
        simp only [hlen, f0, f1, f2, f3, f4, List.length_map]
        rw [m1, w1 (), w2 (), w3 (), w4 (), w5 (), m2, w6 (), w7 (), k5, g1, g2]
        simp only [toL, k7, k9, k10, k11]
        rw [if_pos trivial, if_pos trivial, if_pos (by omega), if_pos trivial, if_pos trivial, if_pos trivial, if_pos trivial, if_pos trivial, if_pos (by omega), if_pos (by omega), if_pos trivial, if_pos (by omega), if_pos (by omega)]
        by_cases hki : k + 1 = i
        · rw [decide_eq_true hki, show ((k : Int) == ((i - 1 : Nat) : Int)) = true from beq_iff_eq.2 (by omega)]; simp
        · rw [decide_eq_false hki, show ((k : Int) == ((i - 1 : Nat) : Int)) = false from beq_eq_false_iff_ne.2 (by omega)]; simp
      obtain ⟨F, s1, s2⟩ := st
      exact Ev.step s1 (Ev.bind main ⟨0, fun f _ => s2 f⟩)
    | false =>
      have st : ∃ F : Nat → (List S53 × Int) → Option Bool, (∀ f, redpenlaw19_HunksOne.l0 (f + 1) a2 false (i : Int) (k : Int) (txt Wa i) (txt (Wb k) i) (i : Int) (i : Int) = (hunks_Make.f f (whole Wa i false) (whole (Wb k) i false) (c : Int)).bind (F f)) ∧ ∀ f, F f ([toH h], 0) = some true := by
       refine ⟨?F2, fun f => ?h1, fun f => ?h2⟩
       case h1 =>
        simp only [redpenlaw19_HunksOne.l0]
        rw [if_neg (by omega), if_neg (by simp), ec ()]
        rfl
       case h2 =>
        simp only [hlen, f0, f1, f2, f3, f4, List.length_map]
        rw [m1, w1 (), w2 (), w3 (), w4 (), w5 (), m2, w6 (), w7 (), k5, g1, g2]
        simp only [toL, k7, k9, k10, k11]
        rw [if_pos trivial, if_pos trivial, if_pos (by omega), if_pos trivial, if_pos trivial, if_pos trivial, if_pos trivial, if_pos trivial, if_pos (by omega), if_pos (by omega), if_pos trivial, if_pos (by omega), if_pos (by omega)]
        simp
      obtain ⟨F, s1, s2⟩ := st
      exact Ev.step s1 (Ev.bind main ⟨0, fun f _ => s2 f⟩)
  | succ d ih =>
    intro i hd hi
    have hlt : i < n := by omega
    have ua := txt_len Wa (fun i => (Wa_in i).2.2.1) i
    have ub := txt_len (Wb k) (fun i => (Wb_in k i).2.2) i
    have e1 : ∀ _ : Unit, wrap64 ((i : Int) + 1) = ((i + 1 : Nat) : Int) := fun _ => hw64 _ _ (by omega) (by omega)
    have hy := Wa_val i (by omega)
    have step := ih (i + 1) (by omega) (by omega)
    have lWa : (Wa i).length = 2 := rfl
    have ea : txt Wa i ++ Wa i ++ [10] = txt Wa (i + 1) := List.append_assoc ..
    have eb : txt (Wb k) i ++ Wb k i ++ [10] = txt (Wb k) (i + 1) := List.append_assoc ..
    refine Ev.step (fun f => ?_) step
    simp only [redpenlaw19_HunksOne.l0]
    rw [if_pos (by omega), hy]
    simp only [Option.bind_some]
    rw [if_pos (by rw [lWa]; omega), if_pos (by rw [List.length_append, lWa]; omega), ea, e1 ()]
    by_cases hik : i = k
    · have hw : Wb k i = [99, 104, 97, 110, 103, 101, 100] := if_pos hik
      rw [hw] at eb
      rw [if_pos (by omega), show const_bytes.f ([99, 104, 97, 110, 103, 101, 100] : List Int) = some [99, 104, 97, 110, 103, 101, 100] from rfl]
      simp only [Option.bind_some]
      rw [if_pos (by simp only [List.length_cons, List.length_nil]; omega), if_pos (by simp only [List.length_append, List.length_cons, List.length_nil]; omega), eb]
    · have hw : Wb k i = Wa i := if_neg hik
      rw [hw] at eb
      rw [if_neg (by omega), if_pos (by rw [lWa]; omega), if_pos (by rw [List.length_append, lWa]; omega), eb]
theorem HunksOne : redpenlaw19_HunksOne.Pure := by
  intro a0 a1 a2 a3 h0 h1 h2
  have b0 : 0 ≤ a0 ∧ a0 < 256 := by simp [Lit.wf, IntKind.min, IntKind.max, IntKind.signed, IntKind.bits] at h0; omega
  have b1 : 0 ≤ a1 ∧ a1 < 256 := by simp [Lit.wf, IntKind.min, IntKind.max, IntKind.signed, IntKind.bits] at h1; omega
  have b2 : 0 ≤ a2 ∧ a2 < 256 := by simp [Lit.wf, IntKind.min, IntKind.max, IntKind.signed, IntKind.bits] at h2; omega
  obtain ⟨c, hc, hc16⟩ : ∃ c : Nat, a2 % 17 = (c : Int) ∧ c ≤ 16 := ⟨(a2 % 17).toNat, by omega, by omega⟩
  obtain ⟨m, hm, hm40⟩ : ∃ m : Nat, a0 % 40 = (m : Int) ∧ m < 40 := ⟨(a0 % 40).toNat, by omega, by omega⟩
  have ec : ∀ _ : Unit, wrap64 (Int.tmod a2 17) = (c : Int) := fun _ => hw64 _ _ (by rw [Int.tmod_eq_emod_of_nonneg b2.1]; exact hc) (by omega)
  have em : ∀ _ : Unit, wrap64 (Int.tmod a0 40) = (m : Int) := fun _ => hw64 _ _ (by rw [Int.tmod_eq_emod_of_nonneg b0.1]; exact hm) (by omega)
  have en : ∀ _ : Unit, wrap64 (1 + wrap64 (Int.tmod a0 40)) = ((m + 1 : Nat) : Int) := fun _ => by rw [em ()]; exact hw64 _ _ (by omega) (by omega)
  obtain ⟨k, hk, hkm⟩ : ∃ k : Nat, Int.tmod (wrap64 a1) ((m + 1 : Nat) : Int) = (k : Int) ∧ k < m + 1 := by
    rw [w64 (by omega) (by omega), Int.tmod_eq_emod_of_nonneg b1.1]
    have g1 := Int.emod_nonneg a1 (show ((m + 1 : Nat) : Int) ≠ 0 by omega)
    have g2 := Int.emod_lt_of_pos a1 (show (0 : Int) < ((m + 1 : Nat) : Int) by omega)
    exact ⟨(a1 % ((m + 1 : Nat) : Int)).toNat, by omega, by omega⟩
  have main := one_l0 a2 a3 (m + 1) k c hkm (by omega) hc16 ec _ 0 rfl (Nat.zero_le _)
  refine Ev.rounds (Ev.bind hunks_awake (Ev.congr (fun f => ?_) main))
  rw [if_pos rfl, en (), hk, if_neg (by omega)]
  rfl
end Go.Proofs.Ytokgkhndhlcfpaa.Pure
