/- TrieLimits: words of any length, and number: a word of 1 to 64 bytes is let in, others not; up to 4096 words are let in. For all numbers. -/
import Derived.Test.YtokgkhndhlcfpaaBTMakeTrieLimits
namespace Go.Proofs.Ytokgkhndhlcfpaa.Pure
open Go.RowKit Go.Proofs.Ytokgkhndhlcfpaa.PTrieLimits Go.Proofs.YtokgkhndhlcfpaaW.PrintWords Go.Proofs.YtokgkhndhlcfpaaW.PrintLast
open Go.Proofs.Ytokgkhndhlcfpaa.M Go.Proofs.Ytokgkhndhlcfpaa.X
set_option linter.unusedVariables false
set_option linter.unusedSimpArgs false

theorem trie_awake : Ev (fun f => redpenlaw07_Awake.f f) true := Ev.of redpenlaw07_Awake.mono (k := 60) (by decide +kernel)
/-- ASCII. -/
def Asc (l : List Int) : Prop := ∀ x ∈ l, 0 ≤ x ∧ x < 128
theorem Asc.BT {l : List Int} (h : Asc l) : BT l := fun x hx => by have := h x hx; omega
theorem encL_asc : ∀ {l : List Int}, Asc l → encL l = l
  | [], _ => rfl
  | r :: l, h => by
    have hr := h r List.mem_cons_self
    have hk : okR r = true := (okR_iff r).2 (by omega)
    have he : enc r = [r] := by unfold enc; rw [if_pos (by omega)]
    show (if okR r = true then enc r else []) ++ encL l = r :: l
    rw [if_pos hk, he, encL_asc (fun x hx => h x (List.mem_cons_of_mem _ hx))]
    rfl
theorem rns_asc {l : List Int} (h : Asc l) : rns (strOfNums l) = l := by
  unfold rns
  rw [bytesOf_strOfNums h.BT]
  have := rs_encL l []
  rw [List.append_nil, rs_nil, List.append_nil, encL_asc h] at this
  rw [this, List.filter_eq_self]
  intro x hx
  have := h x hx
  exact (okR_iff x).2 (by omega)
theorem asc_good {l : List Int} (h : Asc l) (h0 : l ≠ []) (h1 : l.length ≤ 64) : GoodT (strOfNums l) := by
  refine ⟨?_, by rw [strOfNums_size]; exact h1, ?_⟩
  · intro e
    have : (strOfNums l).toList.length = 0 := by rw [e]; rfl
    rw [toList_eq_data, strOfNums_data, List.length_map] at this
    exact h0 (List.length_eq_zero_iff.1 this)
  · rw [rns_asc h]
    intro hm
    have := h _ hm
    omega
theorem u8_lt {x y : Int} (h0 : 0 ≤ x) (h : x < y) (h1 : y < 128) : UInt8.ofNat x.toNat < UInt8.ofNat y.toNat := by
  rw [UInt8.lt_iff_toNat_lt, UInt8.toNat_ofNat', UInt8.toNat_ofNat']
  omega
/-- The word of a number. -/
def wd (i : Nat) : List Int := [97 + ((i / 676 % 26 : Nat) : Int), 97 + ((i / 26 % 26 : Nat) : Int), 97 + ((i % 26 : Nat) : Int)]
theorem wd_asc (i : Nat) : Asc (wd i) := by
  intro x hx
  simp only [wd, List.mem_cons, List.not_mem_nil, or_false] at hx
  have h1 : i / 676 % 26 < 26 := Nat.mod_lt _ (by omega)
  have h2 : i / 26 % 26 < 26 := Nat.mod_lt _ (by omega)
  have h3 : i % 26 < 26 := Nat.mod_lt _ (by omega)
  rcases hx with rfl | rfl | rfl <;> omega
theorem wd_less {i j : Nat} (h : i < j) (hj : j < 17576) : Less (strOfNums (wd i)) (strOfNums (wd j)) := by
  unfold Less
  have hi1 : i / 676 % 26 = i / 676 := Nat.mod_eq_of_lt (by omega)
  have hj1 : j / 676 % 26 = j / 676 := Nat.mod_eq_of_lt (by omega)
  rw [toList_eq_data, toList_eq_data, strOfNums_data, strOfNums_data]
  simp only [wd, List.map_cons, List.map_nil, Op.bytesLess, Bool.or_eq_true, Bool.and_eq_true, decide_eq_true_eq, beq_iff_eq]
  rw [hi1, hj1]
  by_cases ha : i / 676 < j / 676
  · exact .inl (u8_lt (by omega) (by omega) (by omega))
  · have ea : i / 676 = j / 676 := by omega
    refine .inr ⟨by rw [ea], ?_⟩
    by_cases hb : i / 26 % 26 < j / 26 % 26
    · exact .inl (u8_lt (by omega) (by omega) (by omega))
    · have eb : i / 26 % 26 = j / 26 % 26 := by omega
      refine .inr ⟨by rw [eb], ?_⟩
      exact .inl (u8_lt (by omega) (by omega) (by omega))
def wds (m : Nat) : List ByteArray := (List.range m).map fun i => strOfNums (wd i)
theorem wds_good (m : Nat) : ∀ s ∈ wds m, GoodT s := by
  intro s hs
  obtain ⟨i, _, rfl⟩ := List.mem_map.1 hs
  exact asc_good (wd_asc i) (by simp [wd]) (by simp [wd])
theorem wds_rise {m : Nat} (hm : m ≤ 17576) : (wds m).Pairwise Less := by
  unfold wds
  rw [List.pairwise_map]
  refine List.Pairwise.imp_of_mem (fun {a b} ha hb h => wd_less h ?_) List.pairwise_lt_range
  have := List.mem_range.1 hb
  omega
theorem wds_len (m : Nat) : (wds m).length = m := by simp [wds]
theorem limits_l1 (T : List TrT) (e : Int) (b : Bool) (h1 : (e == 0) = b) (h2 : (!(List.isEmpty T)) = b) (m : Nat) (hm : m ≤ 5000) : ∀ (d i : Nat), m - i = d → i ≤ m → Ev (fun k => redpenlaw07_TrieLimits.l1 k T e b (wds i) (m : Int) (i : Int)) true := by
  intro d
  induction d with
  | zero =>
    intro i hd hi
    obtain rfl : i = m := by omega
    have hlen := wds_len i
    by_cases h4 : i ≤ 4096
    · obtain ⟨ns, P, W, eM, hO⟩ := make_spec (wds i) (wds_good i) (wds_rise (by omega)) (by omega)
      refine Ev.step (f := fun k => (trie_Make.f k (wds i)).bind fun bt166 => (if ((bt166.2 == 0) == (decide (((wds i).length : Int) ≤ 4096))) = true then (if bt166.2 = 0 then ((trie_Trie_Len.f bt166.1).bind fun t170 => (some (t170 == ((wds i).length : Int)))) else (if bt166.2 = 4 then (if (List.isEmpty bt166.1) = true then (some true) else (some false)) else (some false))) else (some false))) (fun k => ?_) (Ev.bind eM ?_)
      · simp only [redpenlaw07_TrieLimits.l1]
        rw [if_neg (by omega)]
        simp only [h1, h2, beq_self_eq_true, if_true]
      · rw [decide_eq_true (show ((wds i).length : Int) ≤ 4096 by omega)]
        simp only [beq_self_eq_true, if_true]
        refine Ev.bind (a := ((wds i).length : Int)) ⟨0, fun _ _ => rfl⟩ ?_
        simp only [beq_self_eq_true]
        exact Ev.now _
    · have eM := make_many (wds i) (wds_good i) (wds_rise (by omega)) (by omega) (by omega)
      refine Ev.step (f := fun k => (trie_Make.f k (wds i)).bind fun bt166 => (if ((bt166.2 == 0) == (decide (((wds i).length : Int) ≤ 4096))) = true then (if bt166.2 = 0 then ((trie_Trie_Len.f bt166.1).bind fun t170 => (some (t170 == ((wds i).length : Int)))) else (if bt166.2 = 4 then (if (List.isEmpty bt166.1) = true then (some true) else (some false)) else (some false))) else (some false))) (fun k => ?_) (Ev.bind eM ?_)
      · simp only [redpenlaw07_TrieLimits.l1]
        rw [if_neg (by omega)]
        simp only [h1, h2, beq_self_eq_true, if_true]
      · rw [decide_eq_false (show ¬ ((wds i).length : Int) ≤ 4096 by omega)]
        exact Ev.now _
  | succ d ih =>
    intro i hd hi
    have ew : wrap64 ((i : Int) + 1) = ((i + 1 : Nat) : Int) := by rw [w64 (by omega) (by omega)]; omega
    have q1 : wrap64 (Int.tdiv (i : Int) 676) = ((i / 676 : Nat) : Int) := by
      rw [show Int.tdiv (i : Int) 676 = ((i / 676 : Nat) : Int) from rfl]
      exact w64 (by omega) (by omega)
    have q2 : wrap64 (Int.tdiv (i : Int) 26) = ((i / 26 : Nat) : Int) := by
      rw [show Int.tdiv (i : Int) 26 = ((i / 26 : Nat) : Int) from rfl]
      exact w64 (by omega) (by omega)
    have md : ∀ a : Nat, (97 + ((Int.tmod (a : Int) 26) % 256)) % 256 = 97 + ((a % 26 : Nat) : Int) := by
      intro a
      rw [show Int.tmod (a : Int) 26 = ((a % 26 : Nat) : Int) from rfl]
      omega
    have hs : wds (i + 1) = wds i ++ [strOfNums (wd i)] := by
      unfold wds
      rw [List.range_succ, List.map_append]
      rfl
    refine Ev.step (fun k => ?_) (ih (i + 1) (by omega) (by omega))
    simp only [redpenlaw07_TrieLimits.l1]
    rw [if_pos (by omega), if_pos (by rw [wds_len]; omega), ew, q1, q2, md, md, md, hs]
    rfl
theorem limits_l0 (a0 a1 a2 : Int) (n : Nat) (hn : a0 = (n : Int)) (hn2 : n < 256) (ha1 : 0 ≤ a1 ∧ a1 < 256) (ha2 : 0 ≤ a2 ∧ a2 < 65536) : ∀ (d i : Nat), n - i = d → i ≤ n →
    Ev (fun k => redpenlaw07_TrieLimits.l0 k a0 a1 a2 (List.replicate i (97 + a1 % 26) ++ List.replicate (n - i) 0) (n : Int) (i : Int)) true := by
  have hc : (97 + Int.tmod a1 26) % 256 = 97 + a1 % 26 := by
    obtain ⟨b, rfl⟩ := Int.eq_ofNat_of_zero_le ha1.1
    rw [show Int.tmod (b : Int) 26 = ((b % 26 : Nat) : Int) from rfl]
    omega
  intro d
  induction d with
  | zero =>
    intro i hd hi
    obtain rfl : i = n := by omega
    rw [Nat.sub_self, List.replicate_zero, List.append_nil]
    have hasc : Asc (List.replicate i (97 + a1 % 26)) := by
      intro x hx
      rw [(List.mem_replicate.1 hx).2]
      omega
    obtain ⟨m, hm, hm2⟩ : ∃ m : Nat, wrap64 (4000 + wrap64 (Int.tmod a2 200)) = (m : Int) ∧ m ≤ 5000 := by
      obtain ⟨b, rfl⟩ := Int.eq_ofNat_of_zero_le ha2.1
      refine ⟨4000 + b % 200, ?_, by omega⟩
      rw [show Int.tmod (b : Int) 200 = ((b % 200 : Nat) : Int) from rfl, w64 (x := ((b % 200 : Nat) : Int)) (by omega) (by omega), w64 (by omega) (by omega)]
      omega
    have hj : ∀ (T : List TrT) (e : Int) (b : Bool), (e == 0) = b → (!(List.isEmpty T)) = b → Ev (fun k => redpenlaw07_TrieLimits.j1 k a2 T e b) true := by
      intro T e b h1 h2
      refine Ev.step (fun k => ?_) (limits_l1 T e b h1 h2 m hm2 _ 0 rfl (by omega))
      simp only [redpenlaw07_TrieLimits.j1]
      rw [hm]
      rfl
    have go : ∀ (T : List TrT) (e : Int), Ev (fun k => trie_Make.f k [strOfNums (List.replicate i (97 + a1 % 26))]) (T, e) → (e == 0) = (decide (0 < i) && decide (i ≤ 64)) → (!(List.isEmpty T)) = (decide (0 < i) && decide (i ≤ 64)) →
        Ev (fun k => redpenlaw07_TrieLimits.l0 k a0 a1 a2 (List.replicate i (97 + a1 % 26)) (i : Int) (i : Int)) true := by
      intro T e hM h1 h2
      refine Ev.step (f := fun k => (trie_Make.f k (([strOfNums (List.replicate i (97 + a1 % 26))] : List ByteArray))).bind fun bt156 => (if a0 > 0 then (redpenlaw07_TrieLimits.j1 k a2 bt156.1 bt156.2 (decide (a0 ≤ 64))) else (redpenlaw07_TrieLimits.j1 k a2 bt156.1 bt156.2 false))) (fun k => ?_) (Ev.bind hM ?_)
      · simp only [redpenlaw07_TrieLimits.l0]
        rw [if_neg (by omega)]
      · by_cases h0 : 0 < i
        · simp only [if_pos (show a0 > 0 by omega)]
          have e64 : decide (a0 ≤ 64) = decide (i ≤ 64) := by rw [decide_eq_decide]; omega
          rw [e64]
          rw [decide_eq_true h0, Bool.true_and] at h1 h2
          exact hj T e _ h1 h2
        · simp only [if_neg (show ¬ a0 > 0 by omega)]
          rw [decide_eq_false h0, Bool.false_and] at h1 h2
          exact hj T e _ h1 h2
    have hsz : (strOfNums (List.replicate i (97 + a1 % 26))).size = i := by rw [strOfNums_size, List.length_replicate]
    by_cases h0 : 0 < i
    · have hne : List.replicate i (97 + a1 % 26) ≠ [] := fun e => by rw [List.replicate_eq_nil_iff] at e; omega
      by_cases h64 : i ≤ 64
      · obtain ⟨ns, P, W, eM, _⟩ := make_spec [strOfNums (List.replicate i (97 + a1 % 26))] (fun s hs => by rw [List.mem_singleton.1 hs]; exact asc_good hasc hne (by rw [List.length_replicate]; exact h64)) (by simp) (by simp)
        refine go _ _ eM ?_ ?_
        · rw [decide_eq_true h0, decide_eq_true h64]; rfl
        · rw [decide_eq_true h0, decide_eq_true h64]; rfl
      · refine go [] 3 ?_ ?_ ?_
        · refine Ev.congr (fun k => ?_) (Ev.now _)
          unfold trie_Make.f
          rw [if_pos (by simp)]
          simp only [trie_Make.lp]
          rw [if_neg ?_, if_neg (by omega), if_pos (by omega)]
          intro e
          have : (strOfNums (List.replicate i (97 + a1 % 26))).toList.length = 0 := by rw [e]; rfl
          rw [toList_eq_data, strOfNums_data, List.length_map, List.length_replicate] at this
          omega
        · rw [decide_eq_false h64, Bool.and_false]; rfl
        · rw [decide_eq_false h64, Bool.and_false]; rfl
    · obtain rfl : i = 0 := by omega
      refine go [] 5 ?_ rfl rfl
      refine Ev.congr (fun k => ?_) (Ev.now _)
      unfold trie_Make.f
      rw [if_pos (by simp)]
      simp only [trie_Make.lp]
      rw [if_pos]
      rw [toList_eq_data, strOfNums_data]
      rfl
  | succ d ih =>
    intro i hd hi
    have hlt : i < n := by omega
    refine Ev.step (fun k => ?_) (ih (i + 1) (by omega) (by omega))
    simp only [redpenlaw07_TrieLimits.l0]
    have hset : (List.replicate i (97 + a1 % 26) ++ List.replicate (n - i) 0).set i (97 + a1 % 26) = List.replicate (i + 1) (97 + a1 % 26) ++ List.replicate (n - (i + 1)) 0 := by
      rw [List.set_append_right _ _ (by simp), List.length_replicate, Nat.sub_self, show n - i = (n - (i + 1)) + 1 by omega, List.replicate_succ, List.set_cons_zero, List.replicate_succ', List.append_assoc]
      rfl
    rw [if_pos (by omega), if_pos (by omega), if_pos (by simp; omega), Int.toNat_natCast, hc, hset, show wrap64 ((i : Int) + 1) = ((i + 1 : Nat) : Int) by rw [w64 (by omega) (by omega)]; omega]
theorem TrieLimits : redpenlaw07_TrieLimits.Pure := by
  intro a0 a1 a2 h0 h1 h2
  have b0 : 0 ≤ a0 ∧ a0 < 256 := by
    simp [Lit.wf, IntKind.min, IntKind.max, IntKind.bits, IntKind.signed] at h0
    omega
  have b1 : 0 ≤ a1 ∧ a1 < 256 := by
    simp [Lit.wf, IntKind.min, IntKind.max, IntKind.bits, IntKind.signed] at h1
    omega
  have b2 : 0 ≤ a2 ∧ a2 < 65536 := by
    simp [Lit.wf, IntKind.min, IntKind.max, IntKind.bits, IntKind.signed] at h2
    omega
  obtain ⟨n, rfl⟩ := Int.eq_ofNat_of_zero_le b0.1
  refine Ev.rounds ?_
  unfold redpenlaw07_TrieLimits.f
  refine Ev.bind trie_awake ?_
  have h := limits_l0 (n : Int) a1 a2 n rfl (by omega) b1 b2 _ 0 rfl (by omega)
  simp only [if_true, if_pos b0.1, if_pos (show ((n : Int)).toNat ≤ 281474976710656 by omega)]
  refine Ev.bind (Ev.now _) ?_
  rw [Int.toNat_natCast, List.length_replicate]
  rw [List.replicate_zero, List.nil_append, Nat.sub_zero] at h
  exact h
end Go.Proofs.Ytokgkhndhlcfpaa.Pure
