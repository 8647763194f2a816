-- Laid by a program of ours (the kit's print with words and contracts of our own beside it).
import Derived.Test.YtokgkhndhlcfpaaPTrieMakesx0
import Derived.Test.YtokgkhndhlcfpaaPTrieMakesx1
namespace Go.Proofs.Ytokgkhndhlcfpaa.PTrieMakes
open Go.RowKit Go.Proofs.Ytokgkhndhlcfpaa.X Go.Proofs.YtokgkhndhlcfpaaW.PrintWords Go.Proofs.YtokgkhndhlcfpaaW.PrintLast Go.Proofs.YtokgkhndhlcfpaaW.PrintMore
attribute [local go_sem] max2_int min2_int max_two min_two max_three min_three max_four min_four   -- for this text's walks alone
set_option linter.unusedVariables false
set_option linter.unusedSimpArgs false

/-! ### slices_Index_rune_rune: function 50 -/
def slices_Index_rune_rune.l0 : Nat → List Int → Int → Int → Int → Option (Int)
 | 0, _, _, _, _ => none
 | k + 1, x0, x1, x7, x8 => if x8 < x7 then (if 0 ≤ x8 then (if x8 < (x0.length : Int) then (if x1 = (rd x0 x8) then (some x8) else (slices_Index_rune_rune.l0 k x0 x1 x7 (wrap64 (x8 + 1)))) else (none)) else (none)) else (some (-1))
def slices_Index_rune_rune.f (k : Nat) (l0 : List Int) (a1 : Int) : Option (Int) := slices_Index_rune_rune.l0 k l0 a1 (l0.length : Int) 0
theorem slices_Index_rune_rune.mono_l : ∀ k, (∀ y0 y1 y2 y3, LeO (slices_Index_rune_rune.l0 k y0 y1 y2 y3) (slices_Index_rune_rune.l0 (k + 1) y0 y1 y2 y3))
 | 0 => fun _ _ _ _ r h => by simp [slices_Index_rune_rune.l0] at h
 | k + 1 => by
  have ih0 := slices_Index_rune_rune.mono_l k
  ·intro y0 y1 y2 y3
   unfold slices_Index_rune_rune.l0
   repeat' first
   | (with_reducible exact ih0 _ _ _ _)
   | (with_reducible exact LeO.refl _)
   | (with_reducible exact LeO.none _)
   | (with_reducible refine LeO.ite ?_ ?_)
   | (with_reducible refine LeO.bind ?_ (fun _ => ?_))
   | exact ih0 _ _ _ _
   | exact LeO.none _
   | refine LeO.ite ?_ ?_
   | refine LeO.bind ?_ (fun _ => ?_)
theorem slices_Index_rune_rune.mono : ∀ a0 a1 k, LeO (slices_Index_rune_rune.f k a0 a1) (slices_Index_rune_rune.f (k + 1) a0 a1) := by
 intro a0 a1 k
 have ih0 := slices_Index_rune_rune.mono_l k
 unfold slices_Index_rune_rune.f
 repeat' first
   | (with_reducible exact ih0 _ _ _ _)
   | (with_reducible exact LeO.refl _)
   | (with_reducible exact LeO.none _)
   | (with_reducible refine LeO.ite ?_ ?_)
   | (with_reducible refine LeO.bind ?_ (fun _ => ?_))
   | exact ih0 _ _ _ _
   | exact LeO.none _
   | refine LeO.ite ?_ ?_
   | refine LeO.bind ?_ (fun _ => ?_)
set_option maxHeartbeats 8000000 in
set_option maxRecDepth 100000 in
theorem slices_Index_rune_rune.calls (k : Nat) (A0 : Option Addr) (c0 : Nat) (l0 : List Int) (a1 : Int) (r : Int) (w : World) (hr0 : Kd.C (Kd.int .i32) w A0 l0.length l0) (hc0 : l0.length ≤ c0) (h : slices_Index_rune_rune.f k l0 a1 = some r) :
  Calls Try.prog 50 #[.slice A0 l0.length c0, .int .i32 a1] w fun e w' => e = .returned (.int .i64 r) ∧ Drawn0 w w' := by
 have HR0 := Aside0.mk hr0
 have HC0 := Aside0.mk hc0
 clear hr0 hc0
 have H : (slices_Index_rune_rune.l0 k l0 a1 (l0.length : Int) 0) = some r := h
 clear h
 have H' := Aside0.mk H
 clear H
 go_enter Try.func50, Try.ntmps50
 go_wp2
 go_loopg [8] k (fun kq v8 w' => ∃ (x8_1 : Int), v8 = .int .i64 x8_1 ∧ Aside0 (slices_Index_rune_rune.l0 kq l0 a1 (l0.length : Int) x8_1 = some r) ∧ Aside0 (kq ≤ k) ∧ Drawn0 w w')
 case atStart => exact ⟨(0), (by first | rfl | (simp; done) | (simp [*]; done) | (simp [wrap64, wrap32]; done)), H', ⟨Nat.le_refl _⟩, by repeat (first | exact Drawn0.refl _ | apply Drawn0.step)⟩
 case round =>
  clear H'
  try clear p2
  obtain ⟨x8_1, rfl, HA, HK1, ⟨m1, rfl⟩⟩ := hrel
  cases gk with
  | zero => exact absurd HA.out (by simp [slices_Index_rune_rune.l0])
  | succ k1 =>
   have H := HA.out
   clear HA
   simp only [slices_Index_rune_rune.l0] at H
   by_cases c3 : x8_1 < (l0.length : Int)
   ·rw [if_pos c3] at H
    have c3b0 : decide (x8_1 < (l0.length : Int)) = true := decide_eq_true c3
    clear c3
    by_cases c4 : 0 ≤ x8_1
    ·rw [if_pos c4] at H
     have c4b0 : decide (0 ≤ x8_1) = true := decide_eq_true c4
     clear c4
     by_cases c5 : x8_1 < (l0.length : Int)
     ·rw [if_pos c5] at H
      have c5b0 : decide (x8_1 < (l0.length : Int)) = true := decide_eq_true c5
      clear c5
      by_cases c6 : a1 = (rd l0 x8_1)
      ·rw [if_pos c6] at H
       have c6b0 : (a1 == (rd l0 x8_1)) = true := beq_iff_eq.mpr c6
       have c6b1 : (a1 != (rd l0 x8_1)) = false := bne_eq_false_iff_eq.mpr c6
       clear c6
       obtain rfl := Option.some.inj H
       have p128 : 0 ≤ (x8_1 : Int) := of_decide_eq_true (by first | (with_reducible assumption) | assumption)
       have q128 : x8_1 < (l0.length : Int) := of_decide_eq_true (by first | (with_reducible assumption) | assumption)
       obtain ⟨ad128, e128, hx128_0⟩ := Kd.at_int HR0.out x8_1 p128 q128
       cases e128
       replace p128 := eq_true p128
       replace q128 := eq_true q128
       go_wp2
       go_ret
       exact ⟨by first | rfl | (simp; done) | (simp [*]; done) | (simp [wrap64, wrap32]; done), by repeat (first | exact Drawn0.refl _ | apply Drawn0.step)⟩
      ·rw [if_neg c6] at H
       have c6b0 : (a1 == (rd l0 x8_1)) = false := beq_eq_false_iff_ne.mpr c6
       have c6b1 : (a1 != (rd l0 x8_1)) = true := bne_iff_ne.mpr c6
       have H' := Aside0.mk H
       clear H
       have p128 : 0 ≤ (x8_1 : Int) := of_decide_eq_true (by first | (with_reducible assumption) | assumption)
       have q128 : x8_1 < (l0.length : Int) := of_decide_eq_true (by first | (with_reducible assumption) | assumption)
       obtain ⟨ad128, e128, hx128_0⟩ := Kd.at_int HR0.out x8_1 p128 q128
       cases e128
       replace p128 := eq_true p128
       replace q128 := eq_true q128
       go_wp2
       go_roundg k1
       case measure => have := HK1.out; omega
       case rel => exact ⟨(wrap64 (x8_1 + 1)), (by first | rfl | (simp; done) | (simp [*]; done) | (simp [wrap64, wrap32]; done)), H', ⟨by have := HK1.out; omega⟩, by repeat (first | exact Drawn0.refl _ | apply Drawn0.step)⟩
     ·rw [if_neg c5] at H
      exact absurd H (by simp)
    ·rw [if_neg c4] at H
     exact absurd H (by simp)
   ·rw [if_neg c3] at H
    have c3b0 : decide (x8_1 < (l0.length : Int)) = false := decide_eq_false c3
    clear c3
    obtain rfl := Option.some.inj H
    go_wp2
    go_ret
    exact ⟨by first | rfl | (simp; done) | (simp [*]; done) | (simp [wrap64, wrap32]; done), by repeat (first | exact Drawn0.refl _ | apply Drawn0.step)⟩

/-! ### slices_Contains_rune_rune: function 39 -/
def slices_Contains_rune_rune.f (k : Nat) (l0 : List Int) (a1 : Int) : Option (Bool) := (slices_Index_rune_rune.f k l0 a1).bind fun t129 => (some (decide (t129 ≥ 0)))
theorem slices_Contains_rune_rune.mono : ∀ a0 a1 k, LeO (slices_Contains_rune_rune.f k a0 a1) (slices_Contains_rune_rune.f (k + 1) a0 a1) := by
 intro a0 a1 k
 unfold slices_Contains_rune_rune.f
 repeat' first
   | (with_reducible exact slices_Index_rune_rune.mono _ _ _)
   | (with_reducible exact LeO.refl _)
   | (with_reducible exact LeO.none _)
   | (with_reducible refine LeO.ite ?_ ?_)
   | (with_reducible refine LeO.bind ?_ (fun _ => ?_))
   | exact slices_Index_rune_rune.mono _ _ _
   | exact LeO.none _
   | refine LeO.ite ?_ ?_
   | refine LeO.bind ?_ (fun _ => ?_)
set_option maxHeartbeats 8000000 in
set_option maxRecDepth 100000 in
theorem slices_Contains_rune_rune.calls (k : Nat) (A0 : Option Addr) (c0 : Nat) (l0 : List Int) (a1 : Int) (r : Bool) (w : World) (hr0 : Kd.C (Kd.int .i32) w A0 l0.length l0) (hc0 : l0.length ≤ c0) (h : slices_Contains_rune_rune.f k l0 a1 = some r) :
  Calls Try.prog 39 #[.slice A0 l0.length c0, .int .i32 a1] w fun e w' => e = .returned (.bool r) ∧ Drawn0 w w' := by
 have HR0 := Aside0.mk hr0
 have HC0 := Aside0.mk hc0
 clear hr0 hc0
 have H : ((slices_Index_rune_rune.f k l0 a1).bind fun t129 => (some (decide (t129 ≥ 0)))) = some r := h
 clear h
 replace H := Option.bind_eq_some_iff.mp H
 obtain ⟨t129, A30, H⟩ := H
 replace H : (some (decide (t129 ≥ 0))) = some r := H
 have A3 := Aside0.mk A30
 clear A30
 obtain rfl := Option.some.inj H
 go_enter Try.func39, Try.ntmps39
 go_wp2_with (first | ((with_reducible refine gate_callee (f := 50) rfl ?_); refine goesL_ (some 7) rfl rfl Try.func50 (by kernel_rfl) rfl #[.slice A0 l0.length c0, .int .i32 a1] rfl (by (try simp only [List.map_toArray, List.map_cons, List.map_nil]); first | done | rfl | (simp only [List.length_drop, List.length_take]; rfl)) ?_; (with_reducible refine (slices_Index_rune_rune.calls k _ _ l0 a1 t129 _ ?side1 ?side2 A3.out).mono ?_); (case side1 => repeat (first | exact HR0.out | (with_reducible refine Kd.C_alloc ?_ _) | (with_reducible refine Kd.C_drewN ?_ _) | (with_reducible refine Kd.C_drew ?_))); (case side2 => exact HC0.out); rintro e w' ⟨rfl, ⟨nd, rfl⟩⟩; refine ⟨_, rfl, ?_⟩))
 go_ret
 exact ⟨by first | rfl | (simp; done) | (simp [*]; done) | (simp [wrap64, wrap32]; done), by repeat (first | exact Drawn0.refl _ | apply Drawn0.step)⟩

-- NOT PRINTED: function 51 (trie_Trie_child)

-- NOT PRINTED: function 40 (trie_Trie_put)

/-! ### trie_Make: function 15 -/
section
open Go.Proofs.Ytokgkhndhlcfpaa.M
def trie_Make.lp (k : Nat) : List Nd → Int → Nat → ByteArray → List ByteArray → Option (List TrT × Int)
  | ns, n, _, _, [] => some ([(ns, n)], 0)
  | ns, n, i, p, s :: t =>
    if s.toList = ([] : List UInt8) then some ([], 5)
    else if 0 < i then (if Op.bytesLess p.toList s.toList = true then (if 64 < s.size then some ([], 3) else if 4096 ≤ i then some ([], 4)
      else (utf_Runes.f k s).bind fun rs => (slices_Contains_rune_rune.f k rs (-1)).bind fun c => if c = true then some ([], 5) else if rs.length < 1000000000000 then (putF k ns n rs).bind fun q => trie_Make.lp k q.1 q.2 (i + 1) s t else none) else some ([], 8))
    else if 64 < s.size then some ([], 3)
    else (utf_Runes.f k s).bind fun rs => (slices_Contains_rune_rune.f k rs (-1)).bind fun c => if c = true then some ([], 5) else if rs.length < 1000000000000 then (putF k ns n rs).bind fun q => trie_Make.lp k q.1 q.2 (i + 1) s t else none
def trie_Make.f (k : Nat) (l0 : List ByteArray) : Option (List TrT × Int) := if l0.length < 1000000000000 then trie_Make.lp k [nd0] 0 0 ByteArray.empty l0 else none
theorem trie_Make.mono_l (k : Nat) : ∀ l ns n i p, LeO (trie_Make.lp k ns n i p l) (trie_Make.lp (k + 1) ns n i p l)
  | [] => fun _ _ _ _ => LeO.refl _
  | s :: t => by
    intro ns n i p
    unfold trie_Make.lp
    refine LeO.ite (LeO.refl _) (LeO.ite (LeO.ite (LeO.ite (LeO.refl _) (LeO.ite (LeO.refl _) ?_)) (LeO.refl _)) (LeO.ite (LeO.refl _) ?_)) <;>
      exact LeO.bind (utf_Runes.mono _ _) (fun _ => LeO.bind (slices_Contains_rune_rune.mono _ _ _) (fun _ => LeO.ite (LeO.refl _) (LeO.ite (LeO.bind (putF_mono _ _ _ _) (fun _ => trie_Make.mono_l k t _ _ _ _)) (LeO.refl _))))
theorem trie_Make.mono : ∀ a0 k, LeO (trie_Make.f k a0) (trie_Make.f (k + 1) a0) := by
  intro a0 k
  unfold trie_Make.f
  exact LeO.ite (trie_Make.mono_l _ _ _ _ _ _) (LeO.refl _)
theorem TrSt.below_ {g B : Nat} {words : Int} {ns : List Nd} {w w0 w1 w2 : World} (h : TrSt g B words ns w w0 w1) (hB : B ≤ w0.heap.size) (hb : Below w1.heap.size w1 w2) : TrSt g B words ns w2 w0 w2 := by
  obtain ⟨A, c, h1, h2, h3, h4⟩ := h
  exact ⟨A, c, blk_below h1 hb, Kd.R_below h2 hb, below_then h3 (Nat.le_trans hB h3.size) hb, NKp.refl _ _⟩
set_option maxHeartbeats 8000000 in
set_option maxRecDepth 100000 in
theorem trie_Make.calls (k : Nat) (A0 : Option Addr) (c0 : Nat) (l0 : List ByteArray) (r1 : List TrT) (r2 : Int) (w : World) (hr0 : Kd.C Kd.string w A0 l0.length l0) (hc0 : l0.length ≤ c0) (h : trie_Make.f k l0 = some (r1, r2)) :
    Calls Try.prog 15 #[.slice A0 l0.length c0] w fun e w' => ∃ v0_ : Value, e = .returned (.tuple #[v0_, .int .i64 r2]) ∧ Kd.P TrP 900025 w' w.heap.size (fun k_ => (w.heap.size ≤ k_)) v0_ r1 ∧ Below w.heap.size w w' := by
  unfold trie_Make.f at h
  split at h
  case isFalse => cases h
  case isTrue hll =>
  have H := Aside0.mk h
  have HL := Aside0.mk hll
  have HR0 := Aside0.mk hr0
  clear h hll hr0
  go_enter Try.func15, Try.ntmps15
  go_wp2_with ((with_reducible refine gate_ (.makeSlice 77 (.const (.int .i64 1)) (.const (.int .i64 1))) rfl ?_); refine Kd.R_make kNd (w0 := w) w.heap.size 96 rfl (N := 8) rfl 77 (.const (.int .i64 1)) (.const (.int .i64 1)) rfl 1 rfl rfl Try.underlying77 (.agg #[.int .i32 0, .bool false, .int .i64 0, .int .i64 0]) 24 info_nd rfl (by decide) (by omega) nd0 (ok := fun _ => True) (okp := fun _ => False) (kNd_mkM _ _ _ nd0) (fun _ hk => hk.elim) trivial (by omega) (by decide) (Below.refl _ _) (Nat.le_refl _) ?_; intro v1 w1 ho hb hgw hnew; obtain ⟨A1, c1, e1⟩ := Kd.R_slice ho; subst e1; have HO := Aside0.mk ho; have HB1 := Aside0.mk hb; clear ho hb hgw hnew)
  have hg0 := Aside0.mk (heap_alloc_new w1 (.cells #[.slice A1 1 c1, .int .i64 0] 79))
  have ho0 := Aside0.mk (Kd.R_alloc HO.out (.cells #[.slice A1 1 c1, .int .i64 0] 79))
  have hb0 := Aside0.mk (below_alloc HB1.out (.cells #[.slice A1 1 c1, .int .i64 0] 79))
  have hgw := Aside0.mk (below_size HB1.out)
  clear HO HB1
  generalize w1.heap.size = g at hg0 ho0 hb0 hgw ⊢
  generalize w1.alloc (.cells #[.slice A1 1 c1, .int .i64 0] 79) = wa at hg0 ho0 hb0 ⊢
  have NO := Aside0.mk (show ∀ (m : World) (c : Int), Below w.heap.size w m → r1 = [] → r2 = c → ∃ v0_ : Value, Ending.returned (.tuple #[.pointer none, .int .i64 c]) = .returned (.tuple #[v0_, .int .i64 r2]) ∧ Kd.P TrP 900025 m w.heap.size (fun k_ => (w.heap.size ≤ k_)) v0_ r1 ∧ Below w.heap.size w m from by
    rintro m c hm rfl rfl
    exact ⟨_, rfl, fun W' _ => TrP_nil W', hm⟩)
  go_loopg [13] (l0.length + 1) (fun kq v13 w' => ∃ (i : Nat) (ns : List Nd) (n : Int) (p : ByteArray), v13 = .int .i64 (i : Int) ∧ Aside0 (i ≤ l0.length ∧ kq = l0.length - i + 1) ∧ Aside0 (trie_Make.lp k ns n i p (l0.drop i) = some (r1, r2)) ∧ Aside0 (∀ j : Nat, i = j + 1 → p = rdOf ByteArray.empty l0 (j : Int)) ∧ Aside0 (∃ wx, TrSt g w.heap.size n ns wx w w'))
  case atStart => exact ⟨0, [nd0], 0, ByteArray.empty, rfl, ⟨⟨Nat.zero_le _, rfl⟩⟩, H, ⟨fun j hj => by omega⟩, ⟨⟨wa, A1, c1, hg0.out, ho0.out, hb0.out, NKp.refl _ _⟩⟩⟩
  case round =>
    clear H hg0 ho0 hb0
    obtain ⟨i, ns, n, p, rfl, HK, H, HP, HS⟩ := hrel
    obtain ⟨wx, A, c, hg, hR, hB, hT⟩ := HS.out
    have HB := Aside0.mk hB
    by_cases hlt : i < l0.length
    · have d1 := decide_eq_true (show (i : Int) < (l0.length : Int) by omega)
      have p1 : 0 ≤ (i : Int) := by omega
      have q1 : (i : Int) < (l0.length : Int) := by omega
      obtain ⟨ad1, e1, hx1⟩ := Kd.at_string (Kd.C_below HR0.out HB.out) (i : Int) p1 q1
      cases e1
      simp only [Int.toNat_natCast] at hx1
      have HLT := Aside0.mk hlt
      replace p1 := eq_true p1
      replace q1 := eq_true q1
      have hh := H.out
      obtain ⟨s, hs⟩ : ∃ s, s = rdOf ByteArray.empty l0 (i : Int) := ⟨_, rfl⟩
      have hdr : l0.drop i = s :: l0.drop (i + 1) := by
        rw [List.drop_eq_getElem_cons hlt, hs]
        unfold rdOf
        rw [Int.toNat_natCast, List.getD_eq_getElem?_getD, List.getElem?_eq_getElem hlt]
        rfl
      rw [hdr] at hh
      simp only [trie_Make.lp] at hh
      rw [← hs] at hx1
      have HSI := Aside0.mk hs
      have HH := Aside0.mk hh
      clear hs hdr hlt hg hR hB hT hh H
      by_cases c1 : s.toList = ([] : List UInt8)
      · have c1b : (s.toList == ([] : List UInt8)) = true := beq_iff_eq.mpr c1
        have hq := HH.out
        rw [if_pos c1] at hq
        obtain ⟨hq1, hq2⟩ : [] = r1 ∧ 5 = r2 := by simpa using hq
        have H1 := Aside0.mk hq1
        have H2 := Aside0.mk hq2
        clear hq hq1 hq2 c1
        go_wp2
        go_ret2
        exact NO.out _ _ HB.out H1.out.symm H2.out.symm
      · have c1b : (s.toList == ([] : List UInt8)) = false := beq_eq_false_iff_ne.mpr c1
        have hq := HH.out
        rw [if_neg c1] at hq
        clear c1 HH
        by_cases c0 : 0 < i
        · rw [if_pos c0] at hq
          have dz := decide_eq_true (show (0 : Int) < (i : Int) by omega)
          have dz2 := decide_eq_true (show 0 < i by omega)
          have hep : wrap64 ((i : Int) - 1) = (i : Int) - 1 := by have := HL.out; have := HLT.out; exact w64 (by omega) (by omega)
          have hep2 : IntKind.i64.wrap ((i : Int) - 1) = (i : Int) - 1 := by rw [IntKind.wrap_i64]; have := HL.out; have := HLT.out; omega
          have p2 : 0 ≤ (i : Int) - 1 := by omega
          have q2 : (i : Int) - 1 < (l0.length : Int) := by have := HLT.out; omega
          obtain ⟨ad2, e2, hx2⟩ := Kd.at_string (Kd.C_below HR0.out HB.out) ((i : Int) - 1) p2 q2
          cases e2
          have hpp : p = rdOf ByteArray.empty l0 ((i : Int) - 1) := by
            have := HP.out (i - 1) (by omega)
            rw [this, show ((i - 1 : Nat) : Int) = (i : Int) - 1 by omega]
          rw [← hpp, show ((i : Int) - 1).toNat = i - 1 by omega] at hx2
          clear hpp
          have p3 := eq_false (show ¬ (i : Int) < 1 by omega)
          replace p2 := eq_true p2
          replace q2 := eq_true q2
          clear c0
          by_cases c2 : Op.bytesLess p.toList s.toList = true
          · rw [if_pos c2] at hq
            have hge : binOp BinOp.geq 9 (.string p) (.string s) = pure (.bool false) := by simp [binOp, Op.stringOp, c2]
            by_cases c3 : 64 < s.size
            · rw [if_pos c3] at hq
              have c3a := decide_eq_true c3
              have c3b := decide_eq_true (show (64 : Int) < (s.size : Int) by omega)
              obtain ⟨hq1, hq2⟩ : [] = r1 ∧ 3 = r2 := by simpa using hq
              have H1 := Aside0.mk hq1
              have H2 := Aside0.mk hq2
              clear hq hq1 hq2 c3
              go_wp2
              go_ret2
              exact NO.out _ _ HB.out H1.out.symm H2.out.symm
              all_goals (exfalso; have := of_decide_eq_true dz; omega)
            · rw [if_neg c3] at hq
              have c3a := decide_eq_false c3
              have c3b := decide_eq_false (show ¬ (64 : Int) < (s.size : Int) by omega)
              clear c3
              by_cases c4 : 4096 ≤ i
              · rw [if_pos c4] at hq
                have c4b := decide_eq_true (show (4096 : Int) ≤ (i : Int) by omega)
                obtain ⟨hq1, hq2⟩ : [] = r1 ∧ 4 = r2 := by simpa using hq
                have H1 := Aside0.mk hq1
                have H2 := Aside0.mk hq2
                clear hq hq1 hq2 c4
                go_wp2
                go_ret2
                exact NO.out _ _ HB.out H1.out.symm H2.out.symm
                all_goals (exfalso; have := of_decide_eq_true dz; omega)
              · rw [if_neg c4] at hq
                have c4b := decide_eq_false (show ¬ (4096 : Int) ≤ (i : Int) by omega)
                clear c4
                obtain ⟨rs, hrs, hq⟩ := Option.bind_eq_some_iff.mp hq
                obtain ⟨cc, hc, hq⟩ := Option.bind_eq_some_iff.mp hq
                have HRS := Aside0.mk hrs
                have HC := Aside0.mk hc
                clear hrs hc
                obtain ⟨wx, hS⟩ := HS.out
                have HSX := Aside0.mk hS
                clear hS HS
                by_cases hcc : cc = true
                · subst hcc
                  obtain ⟨hq1, hq2⟩ : [] = r1 ∧ 5 = r2 := by simpa using hq
                  have H1 := Aside0.mk hq1
                  have H2 := Aside0.mk hq2
                  clear hq hq1 hq2
                  go_wp2_with (first
                    | (go_at_call 29; refine (utf_Runes.calls k s rs _ HRS.out).mono ?_; rintro e w2 ⟨v0, rfl, ho, hb⟩; obtain ⟨Ar, cr, er⟩ := Kd.R_slice ho; subst er; have HO := Aside0.mk ho; have HB2 := Aside0.mk (below_then HB.out (below_size HB.out) hb); clear ho hb)
                    | (go_at_call 39; refine (slices_Contains_rune_rune.calls k _ _ rs (-1) true _ (Kd.R_reads' HO.out).2.2 (Kd.R_reads' HO.out).2.1 HC.out).mono ?_; rintro e w3 ⟨rfl, ⟨nd, rfl⟩⟩))
                  go_ret2
                  exact NO.out _ _ (pw_below_drewN HB2.out _) H1.out.symm H2.out.symm
                  all_goals (exfalso; have := of_decide_eq_true dz; omega)
                · obtain rfl := eq_false_of_ne_true hcc
                  rw [if_neg hcc] at hq
                  by_cases hrl : rs.length < 1000000000000
                  · rw [if_pos hrl] at hq
                    obtain ⟨⟨ns2, n2⟩, hp, hq⟩ := Option.bind_eq_some_iff.mp hq
                    have HPT := Aside0.mk hp
                    have HN := Aside0.mk hq
                    have HRL := Aside0.mk hrl
                    have hew := Aside0.mk (show wrap64 ((i : Int) + 1) = ((i + 1 : Nat) : Int) by have := HL.out; have := HLT.out; rw [w64 (by omega) (by omega)]; omega)
                    clear hp hq hrl hcc
                    go_wp2_with (first
                      | (go_at_call 29; refine (utf_Runes.calls k s rs _ HRS.out).mono ?_; rintro e w2 ⟨v0, rfl, ho, hb⟩; obtain ⟨Ar, cr, er⟩ := Kd.R_slice ho; subst er; have HO := Aside0.mk ho; have HS2 := Aside0.mk (TrSt.below_ HSX.out (Nat.le_refl _) hb); clear ho hb)
                      | (go_at_call 39; refine (slices_Contains_rune_rune.calls k _ _ rs (-1) false _ (Kd.R_reads' HO.out).2.2 (Kd.R_reads' HO.out).2.1 HC.out).mono ?_; rintro e w3 ⟨rfl, ⟨nd, rfl⟩⟩)
                      | (go_at_call 40; refine (put_at k g w.heap.size ns ns2 n n2 Ar cr rs w2 w _ (Nat.le_refl _) hgw.out (HS2.out.drew nd) (fun w' hT => by obtain ⟨_, _, hgb, _⟩ := HS2.out; exact (Kd.R_reads' (R_NKp HO.out hT hgb (by decide))).2.2) HRL.out HPT.out).mono ?_; rintro e w4 ⟨rfl, hs4⟩; have HS4 := Aside0.mk hs4; clear hs4))
                    go_roundg (l0.length - (i + 1) + 1)
                    case measure => have := HK.out; have := HLT.out; omega
                    case rel => exact ⟨i + 1, ns2, n2, s, by rw [hew.out], ⟨⟨by have := HLT.out; omega, rfl⟩⟩, HN, ⟨fun j hj => by rw [HSI.out, show j = i by omega]⟩, ⟨⟨w2, HS4.out⟩⟩⟩
                    all_goals (exfalso; have := of_decide_eq_true dz; omega)
                  · rw [if_neg hrl] at hq
                    cases hq
          · rw [if_neg c2] at hq
            have c2b := eq_false_of_ne_true c2
            have hge : binOp BinOp.geq 9 (.string p) (.string s) = pure (.bool true) := by simp [binOp, Op.stringOp, c2b]
            obtain ⟨hq1, hq2⟩ : [] = r1 ∧ 8 = r2 := by simpa using hq
            have H1 := Aside0.mk hq1
            have H2 := Aside0.mk hq2
            clear hq hq1 hq2 c2
            go_wp2
            go_ret2
            exact NO.out _ _ HB.out H1.out.symm H2.out.symm
            all_goals (exfalso; have := of_decide_eq_true dz; omega)
        · rw [if_neg c0] at hq
          have dz := decide_eq_false (show ¬ (0 : Int) < (i : Int) by omega)
          have dz2 := decide_eq_false (show ¬ 0 < i by omega)
          have c4b := decide_eq_false (show ¬ (4096 : Int) ≤ (i : Int) by omega)
          have c4c := decide_eq_false (show ¬ 4096 ≤ i by omega)
          clear c0
          by_cases c3 : 64 < s.size
          · rw [if_pos c3] at hq
            have c3a := decide_eq_true c3
            have c3b := decide_eq_true (show (64 : Int) < (s.size : Int) by omega)
            obtain ⟨hq1, hq2⟩ : [] = r1 ∧ 3 = r2 := by simpa using hq
            have H1 := Aside0.mk hq1
            have H2 := Aside0.mk hq2
            clear hq hq1 hq2 c3
            go_wp2
            go_ret2
            exact NO.out _ _ HB.out H1.out.symm H2.out.symm
          · rw [if_neg c3] at hq
            have c3a := decide_eq_false c3
            have c3b := decide_eq_false (show ¬ (64 : Int) < (s.size : Int) by omega)
            clear c3
            obtain ⟨rs, hrs, hq⟩ := Option.bind_eq_some_iff.mp hq
            obtain ⟨cc, hc, hq⟩ := Option.bind_eq_some_iff.mp hq
            have HRS := Aside0.mk hrs
            have HC := Aside0.mk hc
            clear hrs hc
            obtain ⟨wx, hS⟩ := HS.out
            have HSX := Aside0.mk hS
            clear hS HS
            by_cases hcc : cc = true
            · subst hcc
              obtain ⟨hq1, hq2⟩ : [] = r1 ∧ 5 = r2 := by simpa using hq
              have H1 := Aside0.mk hq1
              have H2 := Aside0.mk hq2
              clear hq hq1 hq2
              go_wp2_with (first
                | (go_at_call 29; refine (utf_Runes.calls k s rs _ HRS.out).mono ?_; rintro e w2 ⟨v0, rfl, ho, hb⟩; obtain ⟨Ar, cr, er⟩ := Kd.R_slice ho; subst er; have HO := Aside0.mk ho; have HB2 := Aside0.mk (below_then HB.out (below_size HB.out) hb); clear ho hb)
                | (go_at_call 39; refine (slices_Contains_rune_rune.calls k _ _ rs (-1) true _ (Kd.R_reads' HO.out).2.2 (Kd.R_reads' HO.out).2.1 HC.out).mono ?_; rintro e w3 ⟨rfl, ⟨nd, rfl⟩⟩))
              go_ret2
              exact NO.out _ _ (pw_below_drewN HB2.out _) H1.out.symm H2.out.symm
            · obtain rfl := eq_false_of_ne_true hcc
              rw [if_neg hcc] at hq
              by_cases hrl : rs.length < 1000000000000
              · rw [if_pos hrl] at hq
                obtain ⟨⟨ns2, n2⟩, hp, hq⟩ := Option.bind_eq_some_iff.mp hq
                have HPT := Aside0.mk hp
                have HN := Aside0.mk hq
                have HRL := Aside0.mk hrl
                have hew := Aside0.mk (show wrap64 ((i : Int) + 1) = ((i + 1 : Nat) : Int) by have := HL.out; have := HLT.out; rw [w64 (by omega) (by omega)]; omega)
                clear hp hq hrl hcc
                go_wp2_with (first
                  | (go_at_call 29; refine (utf_Runes.calls k s rs _ HRS.out).mono ?_; rintro e w2 ⟨v0, rfl, ho, hb⟩; obtain ⟨Ar, cr, er⟩ := Kd.R_slice ho; subst er; have HO := Aside0.mk ho; have HS2 := Aside0.mk (TrSt.below_ HSX.out (Nat.le_refl _) hb); clear ho hb)
                  | (go_at_call 39; refine (slices_Contains_rune_rune.calls k _ _ rs (-1) false _ (Kd.R_reads' HO.out).2.2 (Kd.R_reads' HO.out).2.1 HC.out).mono ?_; rintro e w3 ⟨rfl, ⟨nd, rfl⟩⟩)
                  | (go_at_call 40; refine (put_at k g w.heap.size ns ns2 n n2 Ar cr rs w2 w _ (Nat.le_refl _) hgw.out (HS2.out.drew nd) (fun w' hT => by obtain ⟨_, _, hgb, _⟩ := HS2.out; exact (Kd.R_reads' (R_NKp HO.out hT hgb (by decide))).2.2) HRL.out HPT.out).mono ?_; rintro e w4 ⟨rfl, hs4⟩; have HS4 := Aside0.mk hs4; clear hs4))
                go_roundg (l0.length - (i + 1) + 1)
                case measure => have := HK.out; have := HLT.out; omega
                case rel => exact ⟨i + 1, ns2, n2, s, by rw [hew.out], ⟨⟨by have := HLT.out; omega, rfl⟩⟩, HN, ⟨fun j hj => by rw [HSI.out, show j = i by omega]⟩, ⟨⟨w2, HS4.out⟩⟩⟩
              · rw [if_neg hrl] at hq
                cases hq
    · have hil : i = l0.length := by have := HK.out; omega
      have d1 := decide_eq_false (show ¬ (i : Int) < (l0.length : Int) by omega)
      have d2 := decide_eq_false hlt
      have hh := H.out
      rw [hil, List.drop_length] at hh
      obtain ⟨hq1, hq2⟩ : [(ns, n)] = r1 ∧ 0 = r2 := by simpa [trie_Make.lp] using hh
      have H1 := Aside0.mk hq1
      have H2 := Aside0.mk hq2
      have HGG := Aside0.mk hg
      have HRR := Aside0.mk hR
      clear hh hq1 hq2 hil hlt hg hR hB hT HS
      go_wp2
      go_ret2
      refine ⟨_, by rw [← H2.out]; rfl, ?_, HB.out⟩
      rw [← H1.out]
      intro W' hW
      refine .inr ⟨ns, n, g, A, c, rfl, rfl, (hW g hgw.out (Array.getElem?_eq_some_iff.1 HGG.out).1).trans HGG.out, ?_⟩
      exact Kd.R_lower (Kd.R_mono (ok' := fun _ => True) (Kd.R_step (Kd.R_mono (ok' := fun k => w.heap.size ≤ k) (Kd.R_bound HRR.out) (fun k hk => hk.2.1)) hW) (fun _ _ => trivial)) (Nat.zero_le _)
end

/-! ### trie_Trie_Kids: function 32 -/

/-! ### trie_Trie_Ends: function 33 -/

/-! ### trie_Trie_Has: function 28 -/
mutual
def trie_Trie_Has.l0 : Nat → List (TrT) → Int → List Int → Int → Int → Option (Bool)
 | 0, _, _, _, _, _ => none
 | k + 1, x0, x5, x13, x14, x15 => if x15 < x14 then (if 0 ≤ x15 then (if x15 < (x13.length : Int) then ((trie_Trie_Kids.f k x0 x5).bind fun bt136 => (trie_Trie_Has.l1 k x0 (-1) (rd x13 x15) bt136.2 x13 x14 x15 bt136.1 (bt136.1.length : Int) 0)) else (none)) else (none)) else ((trie_Trie_Ends.f x0 x5).bind fun t134 => (some t134))
def trie_Trie_Has.l1 : Nat → List (TrT) → Int → Int → List Int → List Int → Int → Int → List Int → Int → Int → Option (Bool)
 | 0, _, _, _, _, _, _, _, _, _, _ => none
 | k + 1, x0, x5, x7, x9, x13, x14, x15, x25, x26, x27 => if x27 < x26 then (if 0 ≤ x27 then (if x27 < (x25.length : Int) then (if (rd x25 x27) = x7 then (if x27 < (x9.length : Int) then (trie_Trie_Has.l1 k x0 (rd x9 x27) x7 x9 x13 x14 x15 x25 x26 (wrap64 (x27 + 1))) else (none)) else (trie_Trie_Has.l1 k x0 x5 x7 x9 x13 x14 x15 x25 x26 (wrap64 (x27 + 1)))) else (none)) else (none)) else (if x5 < 0 then (some false) else (trie_Trie_Has.l0 k x0 x5 x13 x14 (wrap64 (x15 + 1))))
end
def trie_Trie_Has.f (k : Nat) (l0 : List (TrT)) (a1 : ByteArray) : Option (Bool) := (utf_Runes.f k a1).bind fun t131 => (trie_Trie_Has.l0 k l0 0 t131 (t131.length : Int) 0)
theorem trie_Trie_Has.mono_l : ∀ k, (∀ y0 y1 y2 y3 y4, LeO (trie_Trie_Has.l0 k y0 y1 y2 y3 y4) (trie_Trie_Has.l0 (k + 1) y0 y1 y2 y3 y4)) ∧ (∀ y0 y1 y2 y3 y4 y5 y6 y7 y8 y9, LeO (trie_Trie_Has.l1 k y0 y1 y2 y3 y4 y5 y6 y7 y8 y9) (trie_Trie_Has.l1 (k + 1) y0 y1 y2 y3 y4 y5 y6 y7 y8 y9))
 | 0 => ⟨fun _ _ _ _ _ r h => by simp [trie_Trie_Has.l0] at h, fun _ _ _ _ _ _ _ _ _ _ r h => by simp [trie_Trie_Has.l1] at h⟩
 | k + 1 => by
  obtain ⟨ih0, ih1⟩ := trie_Trie_Has.mono_l k
  refine ⟨?_, ?_⟩
  ·intro y0 y1 y2 y3 y4
   unfold trie_Trie_Has.l0
   repeat' first
   | (with_reducible exact ih0 _ _ _ _ _)
   | (with_reducible exact ih1 _ _ _ _ _ _ _ _ _ _)
   | (with_reducible exact trie_Trie_Kids.mono _ _ _)
   | (with_reducible exact utf_Runes.mono _ _)
   | (with_reducible exact LeO.refl _)
   | (with_reducible exact LeO.none _)
   | (with_reducible refine LeO.ite ?_ ?_)
   | (with_reducible refine LeO.bind ?_ (fun _ => ?_))
   | exact ih0 _ _ _ _ _
   | exact ih1 _ _ _ _ _ _ _ _ _ _
   | exact trie_Trie_Kids.mono _ _ _
   | exact utf_Runes.mono _ _
   | exact LeO.none _
   | refine LeO.ite ?_ ?_
   | refine LeO.bind ?_ (fun _ => ?_)
  ·intro y0 y1 y2 y3 y4 y5 y6 y7 y8 y9
   unfold trie_Trie_Has.l1
   repeat' first
   | (with_reducible exact ih0 _ _ _ _ _)
   | (with_reducible exact ih1 _ _ _ _ _ _ _ _ _ _)
   | (with_reducible exact trie_Trie_Kids.mono _ _ _)
   | (with_reducible exact utf_Runes.mono _ _)
   | (with_reducible exact LeO.refl _)
   | (with_reducible exact LeO.none _)
   | (with_reducible refine LeO.ite ?_ ?_)
   | (with_reducible refine LeO.bind ?_ (fun _ => ?_))
   | exact ih0 _ _ _ _ _
   | exact ih1 _ _ _ _ _ _ _ _ _ _
   | exact trie_Trie_Kids.mono _ _ _
   | exact utf_Runes.mono _ _
   | exact LeO.none _
   | refine LeO.ite ?_ ?_
   | refine LeO.bind ?_ (fun _ => ?_)
theorem trie_Trie_Has.mono : ∀ a0 a1 k, LeO (trie_Trie_Has.f k a0 a1) (trie_Trie_Has.f (k + 1) a0 a1) := by
 intro a0 a1 k
 obtain ⟨ih0, ih1⟩ := trie_Trie_Has.mono_l k
 unfold trie_Trie_Has.f
 repeat' first
   | (with_reducible exact ih0 _ _ _ _ _)
   | (with_reducible exact ih1 _ _ _ _ _ _ _ _ _ _)
   | (with_reducible exact trie_Trie_Kids.mono _ _ _)
   | (with_reducible exact utf_Runes.mono _ _)
   | (with_reducible exact LeO.refl _)
   | (with_reducible exact LeO.none _)
   | (with_reducible refine LeO.ite ?_ ?_)
   | (with_reducible refine LeO.bind ?_ (fun _ => ?_))
   | exact ih0 _ _ _ _ _
   | exact ih1 _ _ _ _ _ _ _ _ _ _
   | exact trie_Trie_Kids.mono _ _ _
   | exact utf_Runes.mono _ _
   | exact LeO.none _
   | refine LeO.ite ?_ ?_
   | refine LeO.bind ?_ (fun _ => ?_)
set_option maxHeartbeats 8000000 in
set_option maxRecDepth 100000 in
theorem trie_Trie_Has.calls (k : Nat) (V0 : Value) (l0 : List (TrT)) (a1 : ByteArray) (r : Bool) (w : World) (hs0 : TrP w V0 l0) (h : trie_Trie_Has.f k l0 a1 = some r) :
  Calls Try.prog 28 #[V0, .string a1] w fun e w' => e = .returned (.bool r) ∧ Below w.heap.size w w' := by
 have HR0 := Aside0.mk hs0
 clear hs0
 have HB := Aside0.mk (Below.refl w.heap.size w)
 have H : ((utf_Runes.f k a1).bind fun t131 => (trie_Trie_Has.l0 k l0 0 t131 (t131.length : Int) 0)) = some r := h
 clear h
 replace H := Option.bind_eq_some_iff.mp H
 obtain ⟨t131, A30, H⟩ := H
 replace H : (trie_Trie_Has.l0 k l0 0 t131 (t131.length : Int) 0) = some r := H
 have A3 := Aside0.mk A30
 clear A30
 have H' := Aside0.mk H
 clear H
 go_enter Try.func28, Try.ntmps28
 go_wp2_with (first | ((with_reducible refine gate_callee (f := 29) rfl ?_); refine goesL_ (some 13) rfl rfl Try.func29 (by kernel_rfl) rfl #[.string a1] rfl (by (try simp only [List.map_toArray, List.map_cons, List.map_nil]); first | done | rfl | (simp only [List.length_drop, List.length_take]; rfl)) ?_; (with_reducible refine (utf_Runes.calls k a1 t131 _ A3.out).mono ?_); rintro e w4 ⟨v132, rfl, ho0, hb⟩; refine ⟨_, rfl, ?_⟩; have n0_ := Aside0.mk (Kd.R_lower ho0 (below_size (by repeat (first | (with_reducible first | exact HB.out | apply below_alloc | apply pw_below_drewN | apply below_drew1) | exact HB.out)))); have n1_ := Aside0.mk (below_step (by repeat (first | (with_reducible first | exact HB.out | apply below_alloc | apply pw_below_drewN | apply below_drew1) | exact HB.out)) hb); clear HB; have HO133 := n0_; have HB := n1_; clear n0_ n1_; (try clear hb); (try clear hb2); (try clear hk); (try clear hi); (try clear ho0); obtain ⟨Ao5, co5, eo5⟩ := Kd.R_slice HO133.out; subst eo5))
 go_loopg [5, 15] k (fun kq v5 v15 w' => ∃ (x5_1 : Int) (x15_1 : Int), v5 = .int .i64 x5_1 ∧ v15 = .int .i64 x15_1 ∧ Aside0 (trie_Trie_Has.l0 kq l0 x5_1 t131 (t131.length : Int) x15_1 = some r) ∧ Aside0 (kq ≤ k) ∧ Aside0 (Kd.R (Kd.int .i32) 21 w' w.heap.size (fun _ => True) (.slice Ao5 t131.length co5) t131) ∧ Aside0 (Below w.heap.size w w'))
 case atStart => exact ⟨(0), (0), (by first | rfl | (simp; done) | (simp [*]; done) | (simp [wrap64, wrap32]; done)), (by first | rfl | (simp; done) | (simp [*]; done) | (simp [wrap64, wrap32]; done)), H', ⟨Nat.le_refl _⟩, ⟨by (with_reducible repeat (first | apply Kd.R_alloc | apply Kd.R_drewN | apply Kd.R_drew)); exact HO133.out⟩, ⟨by repeat (first | (with_reducible first | exact HB.out | apply below_alloc | apply pw_below_drewN | apply below_drew1) | exact HB.out)⟩⟩
 case round =>
  clear H'
  try clear c2
  try clear p2
  obtain ⟨x5_1, x15_1, rfl, rfl, HA, HK1, HO_13, HB⟩ := hrel
  cases gk with
  | zero => exact absurd HA.out (by simp [trie_Trie_Has.l0])
  | succ k1 =>
   have H := HA.out
   clear HA
   simp only [trie_Trie_Has.l0] at H
   by_cases c6 : x15_1 < (t131.length : Int)
   ·rw [if_pos c6] at H
    have c6b0 : decide (x15_1 < (t131.length : Int)) = true := decide_eq_true c6
    clear c6
    by_cases c7 : 0 ≤ x15_1
    ·rw [if_pos c7] at H
     have c7b0 : decide (0 ≤ x15_1) = true := decide_eq_true c7
     clear c7
     by_cases c8 : x15_1 < (t131.length : Int)
     ·rw [if_pos c8] at H
      have c8b0 : decide (x15_1 < (t131.length : Int)) = true := decide_eq_true c8
      clear c8
      replace H := Option.bind_eq_some_iff.mp H
      obtain ⟨⟨t136, t137⟩, A90, H⟩ := H
      replace H : (trie_Trie_Has.l1 k1 l0 (-1) (rd t131 x15_1) t137 t131 (t131.length : Int) x15_1 t136 (t136.length : Int) 0) = some r := H
      have A9 := Aside0.mk A90
      clear A90
      have H' := Aside0.mk H
      clear H
      have p135 : 0 ≤ (x15_1 : Int) := of_decide_eq_true (by first | (with_reducible assumption) | assumption)
      have q135 : x15_1 < (t131.length : Int) := of_decide_eq_true (by first | (with_reducible assumption) | assumption)
      obtain ⟨ad135, e135, hx135_0⟩ := Kd.at_int (Kd.R_reads' HO_13.out).2.2 x15_1 p135 q135
      cases e135
      replace p135 := eq_true p135
      replace q135 := eq_true q135
      go_wp2_with (first | ((with_reducible refine gate_callee (f := 32) rfl ?_); refine goesL_ (some 22) rfl rfl Try.func32 (by kernel_rfl) rfl #[V0, .int .i64 x5_1] rfl (by (try simp only [List.map_toArray, List.map_cons, List.map_nil]); first | done | rfl | (simp only [List.length_drop, List.length_take]; rfl)) ?_; (with_reducible refine (trie_Trie_Kids.calls k1 _ l0 x5_1 t136 t137 _ ?side1 A9.out).mono ?_); (case side1 => exact TrP_below HR0.out (by repeat (first | (with_reducible first | exact HB.out | apply below_alloc | apply pw_below_drewN | apply below_drew1) | exact Below.refl _ _ | exact HB.out))); rintro e w10 ⟨v138, v140, rfl, ho0, ho1, hb⟩; refine ⟨_, rfl, ?_⟩; have n0_ := Aside0.mk (Kd.R_elder' (by (with_reducible repeat (first | apply Kd.R_alloc | apply Kd.R_drewN | apply Kd.R_drew)); exact HO_13.out) (Kd.R_base ho0) hb); have n1_ := Aside0.mk (Kd.R_lower (Kd.R_new' ho0 (Kd.R_lt (by (with_reducible repeat (first | apply Kd.R_alloc | apply Kd.R_drewN | apply Kd.R_drew)); exact HO_13.out))) (below_size (by repeat (first | (with_reducible first | exact HB.out | apply below_alloc | apply pw_below_drewN | apply below_drew1) | exact HB.out)))); have n2_ := Aside0.mk (Kd.R_lower ho1 (below_size (by repeat (first | (with_reducible first | exact HB.out | apply below_alloc | apply pw_below_drewN | apply below_drew1) | exact HB.out)))); have n3_ := Aside0.mk (below_step (by repeat (first | (with_reducible first | exact HB.out | apply below_alloc | apply pw_below_drewN | apply below_drew1) | exact HB.out)) hb); clear HO_13; clear HB; have HO_13 := n0_; have HO139 := n1_; have HO141 := n2_; have HB := n3_; clear n0_ n1_ n2_ n3_; (try clear hb); (try clear hb2); (try clear hk); (try clear hi); (try clear ho0); (try clear ho1); obtain ⟨Ao11, co11, eo11⟩ := Kd.R_slice HO139.out; subst eo11))
      go_loopg [5, 27] k1 (fun kq v5 v27 w' => ∃ (x5_2 : Int) (x27_2 : Int), v5 = .int .i64 x5_2 ∧ v27 = .int .i64 x27_2 ∧ Aside0 (trie_Trie_Has.l1 kq l0 x5_2 (rd t131 x15_1) t137 t131 (t131.length : Int) x15_1 t136 (t136.length : Int) x27_2 = some r) ∧ Aside0 (kq ≤ k1) ∧ Aside0 (Kd.R (Kd.int .i64) 3 w' w.heap.size (fun _ => True) v140 t137) ∧ Aside0 (Kd.R (Kd.int .i32) 21 w' w.heap.size (fun k_ => some k_ ≠ ((.slice Ao11 t136.length co11) : Value).ownBlock) (.slice (some ad135) t131.length co5) t131) ∧ Aside0 (Kd.R (Kd.int .i32) 21 w' w.heap.size (fun k_ => some k_ ≠ ((.slice (some ad135) t131.length co5) : Value).ownBlock) (.slice Ao11 t136.length co11) t136) ∧ Aside0 (Below w.heap.size w w'))
      case atStart => exact ⟨((-1)), (0), (by first | rfl | (simp; done) | (simp [*]; done) | (simp [wrap64, wrap32]; done)), (by first | rfl | (simp; done) | (simp [*]; done) | (simp [wrap64, wrap32]; done)), H', ⟨Nat.le_refl _⟩, ⟨by (with_reducible repeat (first | apply Kd.R_alloc | apply Kd.R_drewN | apply Kd.R_drew)); exact HO141.out⟩, ⟨by (with_reducible repeat (first | apply Kd.R_alloc | apply Kd.R_drewN | apply Kd.R_drew)); exact Kd.R_mono HO_13.out (fun _ hk => hk.2)⟩, ⟨by (with_reducible repeat (first | apply Kd.R_alloc | apply Kd.R_drewN | apply Kd.R_drew)); exact Kd.R_mono HO139.out (fun _ hk => hk.2)⟩, ⟨by repeat (first | (with_reducible first | exact HB.out | apply below_alloc | apply pw_below_drewN | apply below_drew1) | exact HB.out)⟩⟩
      case round =>
       clear H'
       try clear p1
       try clear q1
       try clear hx1
       try clear c2
       try clear p2
       try clear c3
       try clear c6
       try clear c6b0
       try clear c7
       try clear c7b0
       try clear c8
       try clear c8b0
       try clear hx135_0
       try clear p135
       try clear p2
       try clear q135
       obtain ⟨x5_2, x27_2, rfl, rfl, HA, HK2, HO_9, HO_13, HO_25, HB⟩ := hrel
       cases gk with
       | zero => exact absurd HA.out (by simp [trie_Trie_Has.l1])
       | succ k2 =>
        have H := HA.out
        clear HA
        simp only [trie_Trie_Has.l1] at H
        by_cases c12 : x27_2 < (t136.length : Int)
        ·rw [if_pos c12] at H
         have c12b0 : decide (x27_2 < (t136.length : Int)) = true := decide_eq_true c12
         clear c12
         by_cases c13 : 0 ≤ x27_2
         ·rw [if_pos c13] at H
          have c13b0 : decide (0 ≤ x27_2) = true := decide_eq_true c13
          clear c13
          by_cases c14 : x27_2 < (t136.length : Int)
          ·rw [if_pos c14] at H
           have c14b0 : decide (x27_2 < (t136.length : Int)) = true := decide_eq_true c14
           clear c14
           by_cases c15 : (rd t136 x27_2) = (rd t131 x15_1)
           ·rw [if_pos c15] at H
            have c15b0 : ((rd t136 x27_2) == (rd t131 x15_1)) = true := beq_iff_eq.mpr c15
            have c15b1 : ((rd t136 x27_2) != (rd t131 x15_1)) = false := bne_eq_false_iff_eq.mpr c15
            clear c15
            by_cases c16 : x27_2 < (t137.length : Int)
            ·rw [if_pos c16] at H
             have c16b0 : decide (x27_2 < (t137.length : Int)) = true := decide_eq_true c16
             clear c16
             have H' := Aside0.mk H
             clear H
             have p142 : 0 ≤ (x27_2 : Int) := of_decide_eq_true (by first | (with_reducible assumption) | assumption)
             have q142 : x27_2 < (t136.length : Int) := of_decide_eq_true (by first | (with_reducible assumption) | assumption)
             obtain ⟨ad142, e142, hx142_0⟩ := Kd.at_int (Kd.R_reads' HO_25.out).2.2 x27_2 p142 q142
             cases e142
             replace p142 := eq_true p142
             replace q142 := eq_true q142
             obtain ⟨Ao17, co17, eo17⟩ := Kd.R_slice HO_9.out
             subst eo17
             have p143 : 0 ≤ (x27_2 : Int) := of_decide_eq_true (by first | (with_reducible assumption) | assumption)
             have q143 : x27_2 < (t137.length : Int) := of_decide_eq_true (by first | (with_reducible assumption) | assumption)
             obtain ⟨ad143, e143, hx143_0⟩ := Kd.at_int (Kd.R_reads' HO_9.out).2.2 x27_2 p143 q143
             cases e143
             replace p143 := eq_true p143
             replace q143 := eq_true q143
             go_wp2
             go_roundg k2
             case measure => have := HK1.out; have := HK2.out; omega
             case rel => exact ⟨(rd t137 x27_2), (wrap64 (x27_2 + 1)), (by first | rfl | (simp; done) | (simp [*]; done) | (simp [wrap64, wrap32]; done)), (by first | rfl | (simp; done) | (simp [*]; done) | (simp [wrap64, wrap32]; done)), H', ⟨by have := HK1.out; have := HK2.out; omega⟩, ⟨by (with_reducible repeat (first | apply Kd.R_alloc | apply Kd.R_drewN | apply Kd.R_drew)); exact HO_9.out⟩, ⟨by (with_reducible repeat (first | apply Kd.R_alloc | apply Kd.R_drewN | apply Kd.R_drew)); exact HO_13.out⟩, ⟨by (with_reducible repeat (first | apply Kd.R_alloc | apply Kd.R_drewN | apply Kd.R_drew)); exact HO_25.out⟩, ⟨by repeat (first | (with_reducible first | exact HB.out | apply below_alloc | apply pw_below_drewN | apply below_drew1) | exact HB.out)⟩⟩
            ·rw [if_neg c16] at H
             exact absurd H (by simp)
           ·rw [if_neg c15] at H
            have c15b0 : ((rd t136 x27_2) == (rd t131 x15_1)) = false := beq_eq_false_iff_ne.mpr c15
            have c15b1 : ((rd t136 x27_2) != (rd t131 x15_1)) = true := bne_iff_ne.mpr c15
            have H' := Aside0.mk H
            clear H
            have p142 : 0 ≤ (x27_2 : Int) := of_decide_eq_true (by first | (with_reducible assumption) | assumption)
            have q142 : x27_2 < (t136.length : Int) := of_decide_eq_true (by first | (with_reducible assumption) | assumption)
            obtain ⟨ad142, e142, hx142_0⟩ := Kd.at_int (Kd.R_reads' HO_25.out).2.2 x27_2 p142 q142
            cases e142
            replace p142 := eq_true p142
            replace q142 := eq_true q142
            go_wp2
            go_roundg k2
            case measure => have := HK1.out; have := HK2.out; omega
            case rel => exact ⟨(x5_2), (wrap64 (x27_2 + 1)), (by first | rfl | (simp; done) | (simp [*]; done) | (simp [wrap64, wrap32]; done)), (by first | rfl | (simp; done) | (simp [*]; done) | (simp [wrap64, wrap32]; done)), H', ⟨by have := HK1.out; have := HK2.out; omega⟩, ⟨by (with_reducible repeat (first | apply Kd.R_alloc | apply Kd.R_drewN | apply Kd.R_drew)); exact HO_9.out⟩, ⟨by (with_reducible repeat (first | apply Kd.R_alloc | apply Kd.R_drewN | apply Kd.R_drew)); exact HO_13.out⟩, ⟨by (with_reducible repeat (first | apply Kd.R_alloc | apply Kd.R_drewN | apply Kd.R_drew)); exact HO_25.out⟩, ⟨by repeat (first | (with_reducible first | exact HB.out | apply below_alloc | apply pw_below_drewN | apply below_drew1) | exact HB.out)⟩⟩
          ·rw [if_neg c14] at H
           exact absurd H (by simp)
         ·rw [if_neg c13] at H
          exact absurd H (by simp)
        ·rw [if_neg c12] at H
         have c12b0 : decide (x27_2 < (t136.length : Int)) = false := decide_eq_false c12
         clear c12
         by_cases c18 : x5_2 < 0
         ·rw [if_pos c18] at H
          have c18b0 : decide (x5_2 < 0) = true := decide_eq_true c18
          clear c18
          obtain rfl := Option.some.inj H
          go_wp2
          go_ret
          exact ⟨by first | rfl | (simp [errW_none, errW_some] <;> rfl) | (simp [*, errW_none, errW_some] <;> rfl), by repeat (first | (with_reducible first | exact HB.out | apply below_alloc | apply pw_below_drewN | apply below_drew1) | exact HB.out)⟩
         ·rw [if_neg c18] at H
          have c18b0 : decide (x5_2 < 0) = false := decide_eq_false c18
          clear c18
          have H' := Aside0.mk H
          clear H
          go_wp2
          go_roundg k2
          case measure => have := HK1.out; have := HK2.out; omega
          case rel => exact ⟨(x5_2), (wrap64 (x15_1 + 1)), (by first | rfl | (simp; done) | (simp [*]; done) | (simp [wrap64, wrap32]; done)), (by first | rfl | (simp; done) | (simp [*]; done) | (simp [wrap64, wrap32]; done)), H', ⟨by have := HK1.out; have := HK2.out; omega⟩, ⟨by (with_reducible repeat (first | apply Kd.R_alloc | apply Kd.R_drewN | apply Kd.R_drew)); exact Kd.R_mono HO_13.out (fun _ hk => trivial)⟩, ⟨by repeat (first | (with_reducible first | exact HB.out | apply below_alloc | apply pw_below_drewN | apply below_drew1) | exact HB.out)⟩⟩
     ·rw [if_neg c8] at H
      exact absurd H (by simp)
    ·rw [if_neg c7] at H
     exact absurd H (by simp)
   ·rw [if_neg c6] at H
    have c6b0 : decide (x15_1 < (t131.length : Int)) = false := decide_eq_false c6
    clear c6
    replace H := Option.bind_eq_some_iff.mp H
    obtain ⟨t134, A190, H⟩ := H
    replace H : (some t134) = some r := H
    have A19 := Aside0.mk A190
    clear A190
    obtain rfl := Option.some.inj H
    go_wp2_with (first | ((with_reducible refine gate_callee (f := 33) rfl ?_); refine goesL_ (some 45) rfl rfl Try.func33 (by kernel_rfl) rfl #[V0, .int .i64 x5_1] rfl (by (try simp only [List.map_toArray, List.map_cons, List.map_nil]); first | done | rfl | (simp only [List.length_drop, List.length_take]; rfl)) ?_; (with_reducible refine (trie_Trie_Ends.calls _ l0 x5_1 t134 _ ?side1 A19.out).mono ?_); (case side1 => exact TrP_below HR0.out (by repeat (first | (with_reducible first | exact HB.out | apply below_alloc | apply pw_below_drewN | apply below_drew1) | exact Below.refl _ _ | exact HB.out))); rintro e w' ⟨rfl, ⟨nd, rfl⟩⟩; refine ⟨_, rfl, ?_⟩))
    go_ret
    exact ⟨by first | rfl | (simp [errW_none, errW_some] <;> rfl) | (simp [*, errW_none, errW_some] <;> rfl), by repeat (first | (with_reducible first | exact HB.out | apply below_alloc | apply pw_below_drewN | apply below_drew1) | exact HB.out)⟩


/-! ### trie_Trie_Root: function 34 -/

/-! ### trie_Trie_Size: function 35 -/

/-! ### redpenlaw07_Awake: function 14 -/
def redpenlaw07_Awake.f (k : Nat)  : Option (Bool) := (trie_Make.f k (([(⟨#[97]⟩ : ByteArray), (⟨#[97, 98]⟩ : ByteArray), (⟨#[98]⟩ : ByteArray)] : List ByteArray))).bind fun bt134 => ((trie_Trie_Root.f bt134.1).bind fun t138 => ((trie_Trie_Kids.f k bt134.1 t138).bind fun bt139 => (if bt134.2 = 0 then ((trie_Trie_Size.f bt134.1).bind fun t145 => (if t145 = 3 then (if (bt139.1.length : Int) = 2 then (if 0 < (bt139.1.length : Int) then (if (rd bt139.1 0) = 97 then ((trie_Trie_Has.f k bt134.1 (⟨#[97, 98]⟩ : ByteArray)).bind fun t147 => (some t147)) else (some false)) else (none)) else (some false)) else (some false))) else (some false))))
theorem redpenlaw07_Awake.mono : ∀ k, LeO (redpenlaw07_Awake.f k ) (redpenlaw07_Awake.f (k + 1) ) := by
 intro  k
 unfold redpenlaw07_Awake.f
 repeat' first
   | (with_reducible exact trie_Make.mono _ _)
   | (with_reducible exact trie_Trie_Has.mono _ _ _)
   | (with_reducible exact trie_Trie_Kids.mono _ _ _)
   | (with_reducible exact LeO.refl _)
   | (with_reducible exact LeO.none _)
   | (with_reducible refine LeO.ite ?_ ?_)
   | (with_reducible refine LeO.bind ?_ (fun _ => ?_))
   | exact trie_Make.mono _ _
   | exact trie_Trie_Has.mono _ _ _
   | exact trie_Trie_Kids.mono _ _ _
   | exact LeO.none _
   | refine LeO.ite ?_ ?_
   | refine LeO.bind ?_ (fun _ => ?_)
set_option maxHeartbeats 8000000 in
set_option maxRecDepth 100000 in
theorem redpenlaw07_Awake.calls (k : Nat)  (r : Bool) (w : World) (h : redpenlaw07_Awake.f k  = some r) :
  Calls Try.prog 14 #[] w fun e w' => e = .returned (.bool r) ∧ Below w.heap.size w w' := by
 have HB := Aside0.mk (Below.refl w.heap.size w)
 have H : ((trie_Make.f k (([(⟨#[97]⟩ : ByteArray), (⟨#[97, 98]⟩ : ByteArray), (⟨#[98]⟩ : ByteArray)] : List ByteArray))).bind fun bt134 => ((trie_Trie_Root.f bt134.1).bind fun t138 => ((trie_Trie_Kids.f k bt134.1 t138).bind fun bt139 => (if bt134.2 = 0 then ((trie_Trie_Size.f bt134.1).bind fun t145 => (if t145 = 3 then (if (bt139.1.length : Int) = 2 then (if 0 < (bt139.1.length : Int) then (if (rd bt139.1 0) = 97 then ((trie_Trie_Has.f k bt134.1 (⟨#[97, 98]⟩ : ByteArray)).bind fun t147 => (some t147)) else (some false)) else (none)) else (some false)) else (some false))) else (some false))))) = some r := h
 clear h
 obtain ⟨y131, hy131⟩ : ∃ y_ : List ByteArray, y_ = (([(⟨#[97]⟩ : ByteArray), (⟨#[97, 98]⟩ : ByteArray), (⟨#[98]⟩ : ByteArray)] : List ByteArray)) := ⟨_, rfl⟩
 replace H : ((trie_Make.f k y131).bind fun bt134 => ((trie_Trie_Root.f bt134.1).bind fun t138 => ((trie_Trie_Kids.f k bt134.1 t138).bind fun bt139 => (if bt134.2 = 0 then ((trie_Trie_Size.f bt134.1).bind fun t145 => (if t145 = 3 then (if (bt139.1.length : Int) = 2 then (if 0 < (bt139.1.length : Int) then (if (rd bt139.1 0) = 97 then ((trie_Trie_Has.f k bt134.1 (⟨#[97, 98]⟩ : ByteArray)).bind fun t147 => (some t147)) else (some false)) else (none)) else (some false)) else (some false))) else (some false))))) = some r := by first | (rw [hy131]; with_reducible exact H) | (have H2_ := (Option.bind_some _ _).symm.trans H; rw [hy131]; with_reducible exact H2_) | (have H2_ := (Option.bind_some _ _).symm.trans H; with_reducible exact H2_) | with_reducible exact H | (rw [hy131]; exact H) | exact H
 have Ny131 := Aside0.mk hy131
 clear hy131
 replace H := Option.bind_eq_some_iff.mp H
 obtain ⟨⟨t134, t137⟩, A10, H⟩ := H
 replace H : ((trie_Trie_Root.f t134).bind fun t138 => ((trie_Trie_Kids.f k t134 t138).bind fun bt139 => (if t137 = 0 then ((trie_Trie_Size.f t134).bind fun t145 => (if t145 = 3 then (if (bt139.1.length : Int) = 2 then (if 0 < (bt139.1.length : Int) then (if (rd bt139.1 0) = 97 then ((trie_Trie_Has.f k t134 (⟨#[97, 98]⟩ : ByteArray)).bind fun t147 => (some t147)) else (some false)) else (none)) else (some false)) else (some false))) else (some false)))) = some r := H
 have A1 := Aside0.mk A10
 clear A10
 replace H := Option.bind_eq_some_iff.mp H
 obtain ⟨t138, A20, H⟩ := H
 replace H : ((trie_Trie_Kids.f k t134 t138).bind fun bt139 => (if t137 = 0 then ((trie_Trie_Size.f t134).bind fun t145 => (if t145 = 3 then (if (bt139.1.length : Int) = 2 then (if 0 < (bt139.1.length : Int) then (if (rd bt139.1 0) = 97 then ((trie_Trie_Has.f k t134 (⟨#[97, 98]⟩ : ByteArray)).bind fun t147 => (some t147)) else (some false)) else (none)) else (some false)) else (some false))) else (some false))) = some r := H
 have A2 := Aside0.mk A20
 clear A20
 replace H := Option.bind_eq_some_iff.mp H
 obtain ⟨⟨t139, t140⟩, A30, H⟩ := H
 replace H : (if t137 = 0 then ((trie_Trie_Size.f t134).bind fun t145 => (if t145 = 3 then (if (t139.length : Int) = 2 then (if 0 < (t139.length : Int) then (if (rd t139 0) = 97 then ((trie_Trie_Has.f k t134 (⟨#[97, 98]⟩ : ByteArray)).bind fun t147 => (some t147)) else (some false)) else (none)) else (some false)) else (some false))) else (some false)) = some r := H
 have A3 := Aside0.mk A30
 clear A30
 by_cases c4 : t137 = 0
 ·rw [if_pos c4] at H
  have c4b0 : (t137 == 0) = true := beq_iff_eq.mpr c4
  have c4b1 : (t137 != 0) = false := bne_eq_false_iff_eq.mpr c4
  clear c4
  replace H := Option.bind_eq_some_iff.mp H
  obtain ⟨t145, A50, H⟩ := H
  replace H : (if t145 = 3 then (if (t139.length : Int) = 2 then (if 0 < (t139.length : Int) then (if (rd t139 0) = 97 then ((trie_Trie_Has.f k t134 (⟨#[97, 98]⟩ : ByteArray)).bind fun t147 => (some t147)) else (some false)) else (none)) else (some false)) else (some false)) = some r := H
  have A5 := Aside0.mk A50
  clear A50
  by_cases c6 : t145 = 3
  ·rw [if_pos c6] at H
   have c6b0 : (t145 == 3) = true := beq_iff_eq.mpr c6
   have c6b1 : (t145 != 3) = false := bne_eq_false_iff_eq.mpr c6
   clear c6
   by_cases c7 : (t139.length : Int) = 2
   ·rw [if_pos c7] at H
    have c7b0 : ((t139.length : Int) == 2) = true := beq_iff_eq.mpr c7
    have c7b1 : ((t139.length : Int) != 2) = false := bne_eq_false_iff_eq.mpr c7
    clear c7
    by_cases c8 : 0 < (t139.length : Int)
    ·rw [if_pos c8] at H
     have c8b0 : decide (0 < (t139.length : Int)) = true := decide_eq_true c8
     have c8b1 : decide (0 < t139.length) = true := decide_eq_true (by omega)
     clear c8
     by_cases c9 : (rd t139 0) = 97
     ·rw [if_pos c9] at H
      have c9b0 : ((rd t139 0) == 97) = true := beq_iff_eq.mpr c9
      have c9b1 : ((rd t139 0) != 97) = false := bne_eq_false_iff_eq.mpr c9
      clear c9
      replace H := Option.bind_eq_some_iff.mp H
      obtain ⟨t147, A100, H⟩ := H
      replace H : (some t147) = some r := H
      have A10 := Aside0.mk A100
      clear A100
      obtain rfl := Option.some.inj H
      go_enter Try.func14, Try.ntmps14
      go_wp2_with (first | ((with_reducible refine gate_dst (N := 6) rfl ?_); (try (refine gate_guard (by rfl) ?_; dsimp only)); refine Kd.R_lit Kd.string _ 9 ?hg (N := 6) ?hd (xs := ([(⟨#[97]⟩ : ByteArray), (⟨#[97, 98]⟩ : ByteArray), (⟨#[98]⟩ : ByteArray)] : List ByteArray)) (inner := [.string (⟨#[97]⟩ : ByteArray), .string (⟨#[97, 98]⟩ : ByteArray), .string (⟨#[98]⟩ : ByteArray)]) (ok := fun _ => True) (okp := fun _ => True) ?hr ?hp (fun _ hk => hk) trivial (Below.refl _ _) (Nat.le_refl _) (by simp) ?_; (case hd => rfl); (case hg => rfl); (case hr => first | (go_simp; done) | (go_simp; rfl)); (case hp => exact (Reps.one (show Kd.M Kd.string _ _ _ (⟨#[97]⟩ : ByteArray) [.string (⟨#[97]⟩ : ByteArray)] from rfl) (Reps.one (show Kd.M Kd.string _ _ _ (⟨#[97, 98]⟩ : ByteArray) [.string (⟨#[97, 98]⟩ : ByteArray)] from rfl) (Reps.one (show Kd.M Kd.string _ _ _ (⟨#[98]⟩ : ByteArray) [.string (⟨#[98]⟩ : ByteArray)] from rfl) (Reps.none _ _))))); intro v132 w11 ho12 hb hg_ hnew_; clear hg_ hnew_; (first | rw [← Ny131.out] at ho12 | (simp only [Int.reduceToNat] at ho12; rw [← Ny131.out] at ho12)); have n0_ := Aside0.mk (Kd.R_lower ho12 (below_size (by repeat (first | (with_reducible first | exact HB.out | apply below_alloc | apply pw_below_drewN | apply below_drew1) | exact HB.out)))); have n1_ := Aside0.mk (below_step (by repeat (first | (with_reducible first | exact HB.out | apply below_alloc | apply pw_below_drewN | apply below_drew1) | exact HB.out)) hb); clear HB; have HO133 := n0_; have HB := n1_; clear n0_ n1_; clear hb ho12; obtain ⟨Ao13, co13, eo13⟩ := Kd.R_slice HO133.out; subst eo13) | ((with_reducible refine gate_callee (f := 15) rfl ?_); refine goesL_ (some 7) rfl rfl Try.func15 (by kernel_rfl) rfl #[.slice Ao13 y131.length co13] rfl (by (try simp only [List.map_toArray, List.map_cons, List.map_nil]); first | done | rfl | (simp only [List.length_drop, List.length_take]; rfl)) ?_; (with_reducible refine (trie_Make.calls k _ _ y131 t134 t137 _ ?side1 ?side2 A1.out).mono ?_); (case side1 => repeat (first | exact (Kd.R_reads' HO133.out).2.2 | (with_reducible refine Kd.C_alloc ?_ _) | (with_reducible refine Kd.C_drewN ?_ _) | (with_reducible refine Kd.C_drew ?_))); (case side2 => exact (Kd.R_reads' HO133.out).2.1); rintro e w14 ⟨v135, rfl, ho0, hb⟩; refine ⟨_, rfl, ?_⟩; have n0_ := Aside0.mk (Kd.R_below (by (with_reducible repeat (first | apply Kd.R_alloc | apply Kd.R_drewN | apply Kd.R_drew)); exact HO133.out) hb); have n1_ := Aside0.mk (Kd.P_lower (Kd.P_mono (ok' := fun k_ => some k_ ≠ (.slice Ao13 y131.length co13 : Value).ownBlock) ho0 (fun k_ hk_ => (Kd.fresh' (Kd.R_lt (by (with_reducible repeat (first | apply Kd.R_alloc | apply Kd.R_drewN | apply Kd.R_drew)); exact HO133.out)) k_ hk_))) (below_size (by repeat (first | (with_reducible first | exact HB.out | apply below_alloc | apply pw_below_drewN | apply below_drew1) | exact HB.out)))); have n2_ := Aside0.mk (below_step (by repeat (first | (with_reducible first | exact HB.out | apply below_alloc | apply pw_below_drewN | apply below_drew1) | exact HB.out)) hb); clear HO133; clear HB; have HO133 := n0_; have HO136 := n1_; have HB := n2_; clear n0_ n1_ n2_; (try clear hb); (try clear hb2); (try clear hk); (try clear hi); (try clear ho0)) | ((with_reducible refine gate_callee (f := 34) rfl ?_); refine goesL_ (some 13) rfl rfl Try.func34 (by kernel_rfl) rfl #[v135] rfl (by (try simp only [List.map_toArray, List.map_cons, List.map_nil]); first | done | rfl | (simp only [List.length_drop, List.length_take]; rfl)) ?_; (with_reducible refine (trie_Trie_Root.calls _ t134 t138 _ ?side1 A2.out).mono ?_); (case side1 => exact Kd.P_now (by (with_reducible repeat (first | apply Kd.P_alloc | apply Kd.P_drewN | apply Kd.P_drew)); exact HO136.out)); rintro e w' ⟨rfl, ⟨nd, rfl⟩⟩; refine ⟨_, rfl, ?_⟩) | ((with_reducible refine gate_callee (f := 32) rfl ?_); refine goesL_ (some 14) rfl rfl Try.func32 (by kernel_rfl) rfl #[v135, .int .i64 t138] rfl (by (try simp only [List.map_toArray, List.map_cons, List.map_nil]); first | done | rfl | (simp only [List.length_drop, List.length_take]; rfl)) ?_; (with_reducible refine (trie_Trie_Kids.calls k _ t134 t138 t139 t140 _ ?side1 A3.out).mono ?_); (case side1 => exact Kd.P_now (by (with_reducible repeat (first | apply Kd.P_alloc | apply Kd.P_drewN | apply Kd.P_drew)); exact HO136.out)); rintro e w15 ⟨v141, v143, rfl, ho0, ho1, hb⟩; refine ⟨_, rfl, ?_⟩; have n0_ := Aside0.mk (Kd.R_below (by (with_reducible repeat (first | apply Kd.R_alloc | apply Kd.R_drewN | apply Kd.R_drew)); exact HO133.out) hb); have n1_ := Aside0.mk (Kd.P_mono (Kd.P_told (Kd.P_told (Kd.P_old (by (with_reducible repeat (first | apply Kd.P_alloc | apply Kd.P_drewN | apply Kd.P_drew)); exact HO136.out) hb) (Kd.R_base ho0)) (Kd.R_base ho1)) (fun _ h_ => h_.1)); have n2_ := Aside0.mk (Kd.R_lower ho0 (below_size (by repeat (first | (with_reducible first | exact HB.out | apply below_alloc | apply pw_below_drewN | apply below_drew1) | exact HB.out)))); have n3_ := Aside0.mk (Kd.R_lower ho1 (below_size (by repeat (first | (with_reducible first | exact HB.out | apply below_alloc | apply pw_below_drewN | apply below_drew1) | exact HB.out)))); have n4_ := Aside0.mk (below_step (by repeat (first | (with_reducible first | exact HB.out | apply below_alloc | apply pw_below_drewN | apply below_drew1) | exact HB.out)) hb); clear HO133; clear HO136; clear HB; have HO133 := n0_; have HO136 := n1_; have HO142 := n2_; have HO144 := n3_; have HB := n4_; clear n0_ n1_ n2_ n3_ n4_; (try clear hb); (try clear hb2); (try clear hk); (try clear hi); (try clear ho0); (try clear ho1)) | (go_at_call 35; (with_reducible refine (trie_Trie_Size.calls _ t134 t145 _ ?side1 A5.out).mono ?_); (case side1 => exact Kd.P_now (by (with_reducible repeat (first | apply Kd.P_alloc | apply Kd.P_drewN | apply Kd.P_drew)); exact HO136.out)); rintro e w' ⟨rfl, ⟨nd, rfl⟩⟩; obtain ⟨Ao16, co16, eo16⟩ := Kd.R_slice HO142.out; subst eo16; have p146 : 0 ≤ (0 : Int) := (by omega); have q146 : 0 < (t139.length : Int) := of_decide_eq_true (by first | (with_reducible assumption) | assumption); obtain ⟨ad146, e146, hx146_0⟩ := Kd.at_int (Kd.R_reads' HO142.out).2.2 0 p146 q146; cases e146; have qi146 : (0 < t139.length) = True := eq_true (by omega); (try rw [show ((0 : Int)).toNat = 0 from rfl] at hx146_0); (try rw [Addr.add_zero'] at hx146_0); replace p146 := eq_true p146; replace q146 := eq_true q146) | (go_at_call 28; (with_reducible refine (trie_Trie_Has.calls k _ t134 (⟨#[97, 98]⟩ : ByteArray) t147 _ ?side1 A10.out).mono ?_); (case side1 => exact Kd.P_now (by (with_reducible repeat (first | apply Kd.P_alloc | apply Kd.P_drewN | apply Kd.P_drew)); exact HO136.out)); rintro e w17 ⟨rfl, hb⟩; have n0_ := Aside0.mk (Kd.R_below (by (with_reducible repeat (first | apply Kd.R_alloc | apply Kd.R_drewN | apply Kd.R_drew)); exact HO133.out) hb); have n1_ := Aside0.mk (Kd.P_below (by (with_reducible repeat (first | apply Kd.P_alloc | apply Kd.P_drewN | apply Kd.P_drew)); exact HO136.out) hb); have n2_ := Aside0.mk (Kd.R_below (by (with_reducible repeat (first | apply Kd.R_alloc | apply Kd.R_drewN | apply Kd.R_drew)); exact HO142.out) hb); have n3_ := Aside0.mk (Kd.R_below (by (with_reducible repeat (first | apply Kd.R_alloc | apply Kd.R_drewN | apply Kd.R_drew)); exact HO144.out) hb); have n4_ := Aside0.mk (below_step (by repeat (first | (with_reducible first | exact HB.out | apply below_alloc | apply pw_below_drewN | apply below_drew1) | exact HB.out)) hb); clear HO133; clear HO136; clear HO142; clear HO144; clear HB; have HO133 := n0_; have HO136 := n1_; have HO142 := n2_; have HO144 := n3_; have HB := n4_; clear n0_ n1_ n2_ n3_ n4_; (try clear hb); (try clear hb2); (try clear hk); (try clear hi)))
      go_ret
      exact ⟨by first | rfl | (simp [errW_none, errW_some] <;> rfl) | (simp [*, errW_none, errW_some] <;> rfl), by repeat (first | (with_reducible first | exact HB.out | apply below_alloc | apply pw_below_drewN | apply below_drew1) | exact HB.out)⟩
     ·rw [if_neg c9] at H
      have c9b0 : ((rd t139 0) == 97) = false := beq_eq_false_iff_ne.mpr c9
      have c9b1 : ((rd t139 0) != 97) = true := bne_iff_ne.mpr c9
      obtain rfl := Option.some.inj H
      go_enter Try.func14, Try.ntmps14
      go_wp2_with (first | ((with_reducible refine gate_dst (N := 6) rfl ?_); (try (refine gate_guard (by rfl) ?_; dsimp only)); refine Kd.R_lit Kd.string _ 9 ?hg (N := 6) ?hd (xs := ([(⟨#[97]⟩ : ByteArray), (⟨#[97, 98]⟩ : ByteArray), (⟨#[98]⟩ : ByteArray)] : List ByteArray)) (inner := [.string (⟨#[97]⟩ : ByteArray), .string (⟨#[97, 98]⟩ : ByteArray), .string (⟨#[98]⟩ : ByteArray)]) (ok := fun _ => True) (okp := fun _ => True) ?hr ?hp (fun _ hk => hk) trivial (Below.refl _ _) (Nat.le_refl _) (by simp) ?_; (case hd => rfl); (case hg => rfl); (case hr => first | (go_simp; done) | (go_simp; rfl)); (case hp => exact (Reps.one (show Kd.M Kd.string _ _ _ (⟨#[97]⟩ : ByteArray) [.string (⟨#[97]⟩ : ByteArray)] from rfl) (Reps.one (show Kd.M Kd.string _ _ _ (⟨#[97, 98]⟩ : ByteArray) [.string (⟨#[97, 98]⟩ : ByteArray)] from rfl) (Reps.one (show Kd.M Kd.string _ _ _ (⟨#[98]⟩ : ByteArray) [.string (⟨#[98]⟩ : ByteArray)] from rfl) (Reps.none _ _))))); intro v132 w18 ho19 hb hg_ hnew_; clear hg_ hnew_; (first | rw [← Ny131.out] at ho19 | (simp only [Int.reduceToNat] at ho19; rw [← Ny131.out] at ho19)); have n0_ := Aside0.mk (Kd.R_lower ho19 (below_size (by repeat (first | (with_reducible first | exact HB.out | apply below_alloc | apply pw_below_drewN | apply below_drew1) | exact HB.out)))); have n1_ := Aside0.mk (below_step (by repeat (first | (with_reducible first | exact HB.out | apply below_alloc | apply pw_below_drewN | apply below_drew1) | exact HB.out)) hb); clear HB; have HO133 := n0_; have HB := n1_; clear n0_ n1_; clear hb ho19; obtain ⟨Ao20, co20, eo20⟩ := Kd.R_slice HO133.out; subst eo20) | ((with_reducible refine gate_callee (f := 15) rfl ?_); refine goesL_ (some 7) rfl rfl Try.func15 (by kernel_rfl) rfl #[.slice Ao20 y131.length co20] rfl (by (try simp only [List.map_toArray, List.map_cons, List.map_nil]); first | done | rfl | (simp only [List.length_drop, List.length_take]; rfl)) ?_; (with_reducible refine (trie_Make.calls k _ _ y131 t134 t137 _ ?side1 ?side2 A1.out).mono ?_); (case side1 => repeat (first | exact (Kd.R_reads' HO133.out).2.2 | (with_reducible refine Kd.C_alloc ?_ _) | (with_reducible refine Kd.C_drewN ?_ _) | (with_reducible refine Kd.C_drew ?_))); (case side2 => exact (Kd.R_reads' HO133.out).2.1); rintro e w21 ⟨v135, rfl, ho0, hb⟩; refine ⟨_, rfl, ?_⟩; have n0_ := Aside0.mk (Kd.R_below (by (with_reducible repeat (first | apply Kd.R_alloc | apply Kd.R_drewN | apply Kd.R_drew)); exact HO133.out) hb); have n1_ := Aside0.mk (Kd.P_lower (Kd.P_mono (ok' := fun k_ => some k_ ≠ (.slice Ao20 y131.length co20 : Value).ownBlock) ho0 (fun k_ hk_ => (Kd.fresh' (Kd.R_lt (by (with_reducible repeat (first | apply Kd.R_alloc | apply Kd.R_drewN | apply Kd.R_drew)); exact HO133.out)) k_ hk_))) (below_size (by repeat (first | (with_reducible first | exact HB.out | apply below_alloc | apply pw_below_drewN | apply below_drew1) | exact HB.out)))); have n2_ := Aside0.mk (below_step (by repeat (first | (with_reducible first | exact HB.out | apply below_alloc | apply pw_below_drewN | apply below_drew1) | exact HB.out)) hb); clear HO133; clear HB; have HO133 := n0_; have HO136 := n1_; have HB := n2_; clear n0_ n1_ n2_; (try clear hb); (try clear hb2); (try clear hk); (try clear hi); (try clear ho0)) | ((with_reducible refine gate_callee (f := 34) rfl ?_); refine goesL_ (some 13) rfl rfl Try.func34 (by kernel_rfl) rfl #[v135] rfl (by (try simp only [List.map_toArray, List.map_cons, List.map_nil]); first | done | rfl | (simp only [List.length_drop, List.length_take]; rfl)) ?_; (with_reducible refine (trie_Trie_Root.calls _ t134 t138 _ ?side1 A2.out).mono ?_); (case side1 => exact Kd.P_now (by (with_reducible repeat (first | apply Kd.P_alloc | apply Kd.P_drewN | apply Kd.P_drew)); exact HO136.out)); rintro e w' ⟨rfl, ⟨nd, rfl⟩⟩; refine ⟨_, rfl, ?_⟩) | ((with_reducible refine gate_callee (f := 32) rfl ?_); refine goesL_ (some 14) rfl rfl Try.func32 (by kernel_rfl) rfl #[v135, .int .i64 t138] rfl (by (try simp only [List.map_toArray, List.map_cons, List.map_nil]); first | done | rfl | (simp only [List.length_drop, List.length_take]; rfl)) ?_; (with_reducible refine (trie_Trie_Kids.calls k _ t134 t138 t139 t140 _ ?side1 A3.out).mono ?_); (case side1 => exact Kd.P_now (by (with_reducible repeat (first | apply Kd.P_alloc | apply Kd.P_drewN | apply Kd.P_drew)); exact HO136.out)); rintro e w22 ⟨v141, v143, rfl, ho0, ho1, hb⟩; refine ⟨_, rfl, ?_⟩; have n0_ := Aside0.mk (Kd.R_below (by (with_reducible repeat (first | apply Kd.R_alloc | apply Kd.R_drewN | apply Kd.R_drew)); exact HO133.out) hb); have n1_ := Aside0.mk (Kd.P_mono (Kd.P_told (Kd.P_told (Kd.P_old (by (with_reducible repeat (first | apply Kd.P_alloc | apply Kd.P_drewN | apply Kd.P_drew)); exact HO136.out) hb) (Kd.R_base ho0)) (Kd.R_base ho1)) (fun _ h_ => h_.1)); have n2_ := Aside0.mk (Kd.R_lower ho0 (below_size (by repeat (first | (with_reducible first | exact HB.out | apply below_alloc | apply pw_below_drewN | apply below_drew1) | exact HB.out)))); have n3_ := Aside0.mk (Kd.R_lower ho1 (below_size (by repeat (first | (with_reducible first | exact HB.out | apply below_alloc | apply pw_below_drewN | apply below_drew1) | exact HB.out)))); have n4_ := Aside0.mk (below_step (by repeat (first | (with_reducible first | exact HB.out | apply below_alloc | apply pw_below_drewN | apply below_drew1) | exact HB.out)) hb); clear HO133; clear HO136; clear HB; have HO133 := n0_; have HO136 := n1_; have HO142 := n2_; have HO144 := n3_; have HB := n4_; clear n0_ n1_ n2_ n3_ n4_; (try clear hb); (try clear hb2); (try clear hk); (try clear hi); (try clear ho0); (try clear ho1)) | (go_at_call 35; (with_reducible refine (trie_Trie_Size.calls _ t134 t145 _ ?side1 A5.out).mono ?_); (case side1 => exact Kd.P_now (by (with_reducible repeat (first | apply Kd.P_alloc | apply Kd.P_drewN | apply Kd.P_drew)); exact HO136.out)); rintro e w' ⟨rfl, ⟨nd, rfl⟩⟩; obtain ⟨Ao23, co23, eo23⟩ := Kd.R_slice HO142.out; subst eo23; have p146 : 0 ≤ (0 : Int) := (by omega); have q146 : 0 < (t139.length : Int) := of_decide_eq_true (by first | (with_reducible assumption) | assumption); obtain ⟨ad146, e146, hx146_0⟩ := Kd.at_int (Kd.R_reads' HO142.out).2.2 0 p146 q146; cases e146; have qi146 : (0 < t139.length) = True := eq_true (by omega); (try rw [show ((0 : Int)).toNat = 0 from rfl] at hx146_0); (try rw [Addr.add_zero'] at hx146_0); replace p146 := eq_true p146; replace q146 := eq_true q146))
      go_ret
      exact ⟨by first | rfl | (simp [errW_none, errW_some] <;> rfl) | (simp [*, errW_none, errW_some] <;> rfl), by repeat (first | (with_reducible first | exact HB.out | apply below_alloc | apply pw_below_drewN | apply below_drew1) | exact HB.out)⟩
    ·rw [if_neg c8] at H
     exact absurd H (by simp)
   ·rw [if_neg c7] at H
    have c7b0 : ((t139.length : Int) == 2) = false := beq_eq_false_iff_ne.mpr c7
    have c7b1 : ((t139.length : Int) != 2) = true := bne_iff_ne.mpr c7
    obtain rfl := Option.some.inj H
    go_enter Try.func14, Try.ntmps14
    go_wp2_with (first | ((with_reducible refine gate_dst (N := 6) rfl ?_); (try (refine gate_guard (by rfl) ?_; dsimp only)); refine Kd.R_lit Kd.string _ 9 ?hg (N := 6) ?hd (xs := ([(⟨#[97]⟩ : ByteArray), (⟨#[97, 98]⟩ : ByteArray), (⟨#[98]⟩ : ByteArray)] : List ByteArray)) (inner := [.string (⟨#[97]⟩ : ByteArray), .string (⟨#[97, 98]⟩ : ByteArray), .string (⟨#[98]⟩ : ByteArray)]) (ok := fun _ => True) (okp := fun _ => True) ?hr ?hp (fun _ hk => hk) trivial (Below.refl _ _) (Nat.le_refl _) (by simp) ?_; (case hd => rfl); (case hg => rfl); (case hr => first | (go_simp; done) | (go_simp; rfl)); (case hp => exact (Reps.one (show Kd.M Kd.string _ _ _ (⟨#[97]⟩ : ByteArray) [.string (⟨#[97]⟩ : ByteArray)] from rfl) (Reps.one (show Kd.M Kd.string _ _ _ (⟨#[97, 98]⟩ : ByteArray) [.string (⟨#[97, 98]⟩ : ByteArray)] from rfl) (Reps.one (show Kd.M Kd.string _ _ _ (⟨#[98]⟩ : ByteArray) [.string (⟨#[98]⟩ : ByteArray)] from rfl) (Reps.none _ _))))); intro v132 w24 ho25 hb hg_ hnew_; clear hg_ hnew_; (first | rw [← Ny131.out] at ho25 | (simp only [Int.reduceToNat] at ho25; rw [← Ny131.out] at ho25)); have n0_ := Aside0.mk (Kd.R_lower ho25 (below_size (by repeat (first | (with_reducible first | exact HB.out | apply below_alloc | apply pw_below_drewN | apply below_drew1) | exact HB.out)))); have n1_ := Aside0.mk (below_step (by repeat (first | (with_reducible first | exact HB.out | apply below_alloc | apply pw_below_drewN | apply below_drew1) | exact HB.out)) hb); clear HB; have HO133 := n0_; have HB := n1_; clear n0_ n1_; clear hb ho25; obtain ⟨Ao26, co26, eo26⟩ := Kd.R_slice HO133.out; subst eo26) | ((with_reducible refine gate_callee (f := 15) rfl ?_); refine goesL_ (some 7) rfl rfl Try.func15 (by kernel_rfl) rfl #[.slice Ao26 y131.length co26] rfl (by (try simp only [List.map_toArray, List.map_cons, List.map_nil]); first | done | rfl | (simp only [List.length_drop, List.length_take]; rfl)) ?_; (with_reducible refine (trie_Make.calls k _ _ y131 t134 t137 _ ?side1 ?side2 A1.out).mono ?_); (case side1 => repeat (first | exact (Kd.R_reads' HO133.out).2.2 | (with_reducible refine Kd.C_alloc ?_ _) | (with_reducible refine Kd.C_drewN ?_ _) | (with_reducible refine Kd.C_drew ?_))); (case side2 => exact (Kd.R_reads' HO133.out).2.1); rintro e w27 ⟨v135, rfl, ho0, hb⟩; refine ⟨_, rfl, ?_⟩; have n0_ := Aside0.mk (Kd.R_below (by (with_reducible repeat (first | apply Kd.R_alloc | apply Kd.R_drewN | apply Kd.R_drew)); exact HO133.out) hb); have n1_ := Aside0.mk (Kd.P_lower (Kd.P_mono (ok' := fun k_ => some k_ ≠ (.slice Ao26 y131.length co26 : Value).ownBlock) ho0 (fun k_ hk_ => (Kd.fresh' (Kd.R_lt (by (with_reducible repeat (first | apply Kd.R_alloc | apply Kd.R_drewN | apply Kd.R_drew)); exact HO133.out)) k_ hk_))) (below_size (by repeat (first | (with_reducible first | exact HB.out | apply below_alloc | apply pw_below_drewN | apply below_drew1) | exact HB.out)))); have n2_ := Aside0.mk (below_step (by repeat (first | (with_reducible first | exact HB.out | apply below_alloc | apply pw_below_drewN | apply below_drew1) | exact HB.out)) hb); clear HO133; clear HB; have HO133 := n0_; have HO136 := n1_; have HB := n2_; clear n0_ n1_ n2_; (try clear hb); (try clear hb2); (try clear hk); (try clear hi); (try clear ho0)) | ((with_reducible refine gate_callee (f := 34) rfl ?_); refine goesL_ (some 13) rfl rfl Try.func34 (by kernel_rfl) rfl #[v135] rfl (by (try simp only [List.map_toArray, List.map_cons, List.map_nil]); first | done | rfl | (simp only [List.length_drop, List.length_take]; rfl)) ?_; (with_reducible refine (trie_Trie_Root.calls _ t134 t138 _ ?side1 A2.out).mono ?_); (case side1 => exact Kd.P_now (by (with_reducible repeat (first | apply Kd.P_alloc | apply Kd.P_drewN | apply Kd.P_drew)); exact HO136.out)); rintro e w' ⟨rfl, ⟨nd, rfl⟩⟩; refine ⟨_, rfl, ?_⟩) | ((with_reducible refine gate_callee (f := 32) rfl ?_); refine goesL_ (some 14) rfl rfl Try.func32 (by kernel_rfl) rfl #[v135, .int .i64 t138] rfl (by (try simp only [List.map_toArray, List.map_cons, List.map_nil]); first | done | rfl | (simp only [List.length_drop, List.length_take]; rfl)) ?_; (with_reducible refine (trie_Trie_Kids.calls k _ t134 t138 t139 t140 _ ?side1 A3.out).mono ?_); (case side1 => exact Kd.P_now (by (with_reducible repeat (first | apply Kd.P_alloc | apply Kd.P_drewN | apply Kd.P_drew)); exact HO136.out)); rintro e w28 ⟨v141, v143, rfl, ho0, ho1, hb⟩; refine ⟨_, rfl, ?_⟩; have n0_ := Aside0.mk (Kd.R_below (by (with_reducible repeat (first | apply Kd.R_alloc | apply Kd.R_drewN | apply Kd.R_drew)); exact HO133.out) hb); have n1_ := Aside0.mk (Kd.P_mono (Kd.P_told (Kd.P_told (Kd.P_old (by (with_reducible repeat (first | apply Kd.P_alloc | apply Kd.P_drewN | apply Kd.P_drew)); exact HO136.out) hb) (Kd.R_base ho0)) (Kd.R_base ho1)) (fun _ h_ => h_.1)); have n2_ := Aside0.mk (Kd.R_lower ho0 (below_size (by repeat (first | (with_reducible first | exact HB.out | apply below_alloc | apply pw_below_drewN | apply below_drew1) | exact HB.out)))); have n3_ := Aside0.mk (Kd.R_lower ho1 (below_size (by repeat (first | (with_reducible first | exact HB.out | apply below_alloc | apply pw_below_drewN | apply below_drew1) | exact HB.out)))); have n4_ := Aside0.mk (below_step (by repeat (first | (with_reducible first | exact HB.out | apply below_alloc | apply pw_below_drewN | apply below_drew1) | exact HB.out)) hb); clear HO133; clear HO136; clear HB; have HO133 := n0_; have HO136 := n1_; have HO142 := n2_; have HO144 := n3_; have HB := n4_; clear n0_ n1_ n2_ n3_ n4_; (try clear hb); (try clear hb2); (try clear hk); (try clear hi); (try clear ho0); (try clear ho1)) | (go_at_call 35; (with_reducible refine (trie_Trie_Size.calls _ t134 t145 _ ?side1 A5.out).mono ?_); (case side1 => exact Kd.P_now (by (with_reducible repeat (first | apply Kd.P_alloc | apply Kd.P_drewN | apply Kd.P_drew)); exact HO136.out)); rintro e w' ⟨rfl, ⟨nd, rfl⟩⟩; obtain ⟨Ao29, co29, eo29⟩ := Kd.R_slice HO142.out; subst eo29))
    go_ret
    exact ⟨by first | rfl | (simp [errW_none, errW_some] <;> rfl) | (simp [*, errW_none, errW_some] <;> rfl), by repeat (first | (with_reducible first | exact HB.out | apply below_alloc | apply pw_below_drewN | apply below_drew1) | exact HB.out)⟩
  ·rw [if_neg c6] at H
   have c6b0 : (t145 == 3) = false := beq_eq_false_iff_ne.mpr c6
   have c6b1 : (t145 != 3) = true := bne_iff_ne.mpr c6
   obtain rfl := Option.some.inj H
   go_enter Try.func14, Try.ntmps14
   go_wp2_with (first | ((with_reducible refine gate_dst (N := 6) rfl ?_); (try (refine gate_guard (by rfl) ?_; dsimp only)); refine Kd.R_lit Kd.string _ 9 ?hg (N := 6) ?hd (xs := ([(⟨#[97]⟩ : ByteArray), (⟨#[97, 98]⟩ : ByteArray), (⟨#[98]⟩ : ByteArray)] : List ByteArray)) (inner := [.string (⟨#[97]⟩ : ByteArray), .string (⟨#[97, 98]⟩ : ByteArray), .string (⟨#[98]⟩ : ByteArray)]) (ok := fun _ => True) (okp := fun _ => True) ?hr ?hp (fun _ hk => hk) trivial (Below.refl _ _) (Nat.le_refl _) (by simp) ?_; (case hd => rfl); (case hg => rfl); (case hr => first | (go_simp; done) | (go_simp; rfl)); (case hp => exact (Reps.one (show Kd.M Kd.string _ _ _ (⟨#[97]⟩ : ByteArray) [.string (⟨#[97]⟩ : ByteArray)] from rfl) (Reps.one (show Kd.M Kd.string _ _ _ (⟨#[97, 98]⟩ : ByteArray) [.string (⟨#[97, 98]⟩ : ByteArray)] from rfl) (Reps.one (show Kd.M Kd.string _ _ _ (⟨#[98]⟩ : ByteArray) [.string (⟨#[98]⟩ : ByteArray)] from rfl) (Reps.none _ _))))); intro v132 w30 ho31 hb hg_ hnew_; clear hg_ hnew_; (first | rw [← Ny131.out] at ho31 | (simp only [Int.reduceToNat] at ho31; rw [← Ny131.out] at ho31)); have n0_ := Aside0.mk (Kd.R_lower ho31 (below_size (by repeat (first | (with_reducible first | exact HB.out | apply below_alloc | apply pw_below_drewN | apply below_drew1) | exact HB.out)))); have n1_ := Aside0.mk (below_step (by repeat (first | (with_reducible first | exact HB.out | apply below_alloc | apply pw_below_drewN | apply below_drew1) | exact HB.out)) hb); clear HB; have HO133 := n0_; have HB := n1_; clear n0_ n1_; clear hb ho31; obtain ⟨Ao32, co32, eo32⟩ := Kd.R_slice HO133.out; subst eo32) | ((with_reducible refine gate_callee (f := 15) rfl ?_); refine goesL_ (some 7) rfl rfl Try.func15 (by kernel_rfl) rfl #[.slice Ao32 y131.length co32] rfl (by (try simp only [List.map_toArray, List.map_cons, List.map_nil]); first | done | rfl | (simp only [List.length_drop, List.length_take]; rfl)) ?_; (with_reducible refine (trie_Make.calls k _ _ y131 t134 t137 _ ?side1 ?side2 A1.out).mono ?_); (case side1 => repeat (first | exact (Kd.R_reads' HO133.out).2.2 | (with_reducible refine Kd.C_alloc ?_ _) | (with_reducible refine Kd.C_drewN ?_ _) | (with_reducible refine Kd.C_drew ?_))); (case side2 => exact (Kd.R_reads' HO133.out).2.1); rintro e w33 ⟨v135, rfl, ho0, hb⟩; refine ⟨_, rfl, ?_⟩; have n0_ := Aside0.mk (Kd.R_below (by (with_reducible repeat (first | apply Kd.R_alloc | apply Kd.R_drewN | apply Kd.R_drew)); exact HO133.out) hb); have n1_ := Aside0.mk (Kd.P_lower (Kd.P_mono (ok' := fun k_ => some k_ ≠ (.slice Ao32 y131.length co32 : Value).ownBlock) ho0 (fun k_ hk_ => (Kd.fresh' (Kd.R_lt (by (with_reducible repeat (first | apply Kd.R_alloc | apply Kd.R_drewN | apply Kd.R_drew)); exact HO133.out)) k_ hk_))) (below_size (by repeat (first | (with_reducible first | exact HB.out | apply below_alloc | apply pw_below_drewN | apply below_drew1) | exact HB.out)))); have n2_ := Aside0.mk (below_step (by repeat (first | (with_reducible first | exact HB.out | apply below_alloc | apply pw_below_drewN | apply below_drew1) | exact HB.out)) hb); clear HO133; clear HB; have HO133 := n0_; have HO136 := n1_; have HB := n2_; clear n0_ n1_ n2_; (try clear hb); (try clear hb2); (try clear hk); (try clear hi); (try clear ho0)) | ((with_reducible refine gate_callee (f := 34) rfl ?_); refine goesL_ (some 13) rfl rfl Try.func34 (by kernel_rfl) rfl #[v135] rfl (by (try simp only [List.map_toArray, List.map_cons, List.map_nil]); first | done | rfl | (simp only [List.length_drop, List.length_take]; rfl)) ?_; (with_reducible refine (trie_Trie_Root.calls _ t134 t138 _ ?side1 A2.out).mono ?_); (case side1 => exact Kd.P_now (by (with_reducible repeat (first | apply Kd.P_alloc | apply Kd.P_drewN | apply Kd.P_drew)); exact HO136.out)); rintro e w' ⟨rfl, ⟨nd, rfl⟩⟩; refine ⟨_, rfl, ?_⟩) | ((with_reducible refine gate_callee (f := 32) rfl ?_); refine goesL_ (some 14) rfl rfl Try.func32 (by kernel_rfl) rfl #[v135, .int .i64 t138] rfl (by (try simp only [List.map_toArray, List.map_cons, List.map_nil]); first | done | rfl | (simp only [List.length_drop, List.length_take]; rfl)) ?_; (with_reducible refine (trie_Trie_Kids.calls k _ t134 t138 t139 t140 _ ?side1 A3.out).mono ?_); (case side1 => exact Kd.P_now (by (with_reducible repeat (first | apply Kd.P_alloc | apply Kd.P_drewN | apply Kd.P_drew)); exact HO136.out)); rintro e w34 ⟨v141, v143, rfl, ho0, ho1, hb⟩; refine ⟨_, rfl, ?_⟩; have n0_ := Aside0.mk (Kd.R_below (by (with_reducible repeat (first | apply Kd.R_alloc | apply Kd.R_drewN | apply Kd.R_drew)); exact HO133.out) hb); have n1_ := Aside0.mk (Kd.P_mono (Kd.P_told (Kd.P_told (Kd.P_old (by (with_reducible repeat (first | apply Kd.P_alloc | apply Kd.P_drewN | apply Kd.P_drew)); exact HO136.out) hb) (Kd.R_base ho0)) (Kd.R_base ho1)) (fun _ h_ => h_.1)); have n2_ := Aside0.mk (Kd.R_lower ho0 (below_size (by repeat (first | (with_reducible first | exact HB.out | apply below_alloc | apply pw_below_drewN | apply below_drew1) | exact HB.out)))); have n3_ := Aside0.mk (Kd.R_lower ho1 (below_size (by repeat (first | (with_reducible first | exact HB.out | apply below_alloc | apply pw_below_drewN | apply below_drew1) | exact HB.out)))); have n4_ := Aside0.mk (below_step (by repeat (first | (with_reducible first | exact HB.out | apply below_alloc | apply pw_below_drewN | apply below_drew1) | exact HB.out)) hb); clear HO133; clear HO136; clear HB; have HO133 := n0_; have HO136 := n1_; have HO142 := n2_; have HO144 := n3_; have HB := n4_; clear n0_ n1_ n2_ n3_ n4_; (try clear hb); (try clear hb2); (try clear hk); (try clear hi); (try clear ho0); (try clear ho1)) | (go_at_call 35; (with_reducible refine (trie_Trie_Size.calls _ t134 t145 _ ?side1 A5.out).mono ?_); (case side1 => exact Kd.P_now (by (with_reducible repeat (first | apply Kd.P_alloc | apply Kd.P_drewN | apply Kd.P_drew)); exact HO136.out)); rintro e w' ⟨rfl, ⟨nd, rfl⟩⟩))
   go_ret
   exact ⟨by first | rfl | (simp [errW_none, errW_some] <;> rfl) | (simp [*, errW_none, errW_some] <;> rfl), by repeat (first | (with_reducible first | exact HB.out | apply below_alloc | apply pw_below_drewN | apply below_drew1) | exact HB.out)⟩
 ·rw [if_neg c4] at H
  have c4b0 : (t137 == 0) = false := beq_eq_false_iff_ne.mpr c4
  have c4b1 : (t137 != 0) = true := bne_iff_ne.mpr c4
  obtain rfl := Option.some.inj H
  go_enter Try.func14, Try.ntmps14
  go_wp2_with (first | ((with_reducible refine gate_dst (N := 6) rfl ?_); (try (refine gate_guard (by rfl) ?_; dsimp only)); refine Kd.R_lit Kd.string _ 9 ?hg (N := 6) ?hd (xs := ([(⟨#[97]⟩ : ByteArray), (⟨#[97, 98]⟩ : ByteArray), (⟨#[98]⟩ : ByteArray)] : List ByteArray)) (inner := [.string (⟨#[97]⟩ : ByteArray), .string (⟨#[97, 98]⟩ : ByteArray), .string (⟨#[98]⟩ : ByteArray)]) (ok := fun _ => True) (okp := fun _ => True) ?hr ?hp (fun _ hk => hk) trivial (Below.refl _ _) (Nat.le_refl _) (by simp) ?_; (case hd => rfl); (case hg => rfl); (case hr => first | (go_simp; done) | (go_simp; rfl)); (case hp => exact (Reps.one (show Kd.M Kd.string _ _ _ (⟨#[97]⟩ : ByteArray) [.string (⟨#[97]⟩ : ByteArray)] from rfl) (Reps.one (show Kd.M Kd.string _ _ _ (⟨#[97, 98]⟩ : ByteArray) [.string (⟨#[97, 98]⟩ : ByteArray)] from rfl) (Reps.one (show Kd.M Kd.string _ _ _ (⟨#[98]⟩ : ByteArray) [.string (⟨#[98]⟩ : ByteArray)] from rfl) (Reps.none _ _))))); intro v132 w35 ho36 hb hg_ hnew_; clear hg_ hnew_; (first | rw [← Ny131.out] at ho36 | (simp only [Int.reduceToNat] at ho36; rw [← Ny131.out] at ho36)); have n0_ := Aside0.mk (Kd.R_lower ho36 (below_size (by repeat (first | (with_reducible first | exact HB.out | apply below_alloc | apply pw_below_drewN | apply below_drew1) | exact HB.out)))); have n1_ := Aside0.mk (below_step (by repeat (first | (with_reducible first | exact HB.out | apply below_alloc | apply pw_below_drewN | apply below_drew1) | exact HB.out)) hb); clear HB; have HO133 := n0_; have HB := n1_; clear n0_ n1_; clear hb ho36; obtain ⟨Ao37, co37, eo37⟩ := Kd.R_slice HO133.out; subst eo37) | ((with_reducible refine gate_callee (f := 15) rfl ?_); refine goesL_ (some 7) rfl rfl Try.func15 (by kernel_rfl) rfl #[.slice Ao37 y131.length co37] rfl (by (try simp only [List.map_toArray, List.map_cons, List.map_nil]); first | done | rfl | (simp only [List.length_drop, List.length_take]; rfl)) ?_; (with_reducible refine (trie_Make.calls k _ _ y131 t134 t137 _ ?side1 ?side2 A1.out).mono ?_); (case side1 => repeat (first | exact (Kd.R_reads' HO133.out).2.2 | (with_reducible refine Kd.C_alloc ?_ _) | (with_reducible refine Kd.C_drewN ?_ _) | (with_reducible refine Kd.C_drew ?_))); (case side2 => exact (Kd.R_reads' HO133.out).2.1); rintro e w38 ⟨v135, rfl, ho0, hb⟩; refine ⟨_, rfl, ?_⟩; have n0_ := Aside0.mk (Kd.R_below (by (with_reducible repeat (first | apply Kd.R_alloc | apply Kd.R_drewN | apply Kd.R_drew)); exact HO133.out) hb); have n1_ := Aside0.mk (Kd.P_lower (Kd.P_mono (ok' := fun k_ => some k_ ≠ (.slice Ao37 y131.length co37 : Value).ownBlock) ho0 (fun k_ hk_ => (Kd.fresh' (Kd.R_lt (by (with_reducible repeat (first | apply Kd.R_alloc | apply Kd.R_drewN | apply Kd.R_drew)); exact HO133.out)) k_ hk_))) (below_size (by repeat (first | (with_reducible first | exact HB.out | apply below_alloc | apply pw_below_drewN | apply below_drew1) | exact HB.out)))); have n2_ := Aside0.mk (below_step (by repeat (first | (with_reducible first | exact HB.out | apply below_alloc | apply pw_below_drewN | apply below_drew1) | exact HB.out)) hb); clear HO133; clear HB; have HO133 := n0_; have HO136 := n1_; have HB := n2_; clear n0_ n1_ n2_; (try clear hb); (try clear hb2); (try clear hk); (try clear hi); (try clear ho0)) | ((with_reducible refine gate_callee (f := 34) rfl ?_); refine goesL_ (some 13) rfl rfl Try.func34 (by kernel_rfl) rfl #[v135] rfl (by (try simp only [List.map_toArray, List.map_cons, List.map_nil]); first | done | rfl | (simp only [List.length_drop, List.length_take]; rfl)) ?_; (with_reducible refine (trie_Trie_Root.calls _ t134 t138 _ ?side1 A2.out).mono ?_); (case side1 => exact Kd.P_now (by (with_reducible repeat (first | apply Kd.P_alloc | apply Kd.P_drewN | apply Kd.P_drew)); exact HO136.out)); rintro e w' ⟨rfl, ⟨nd, rfl⟩⟩; refine ⟨_, rfl, ?_⟩) | ((with_reducible refine gate_callee (f := 32) rfl ?_); refine goesL_ (some 14) rfl rfl Try.func32 (by kernel_rfl) rfl #[v135, .int .i64 t138] rfl (by (try simp only [List.map_toArray, List.map_cons, List.map_nil]); first | done | rfl | (simp only [List.length_drop, List.length_take]; rfl)) ?_; (with_reducible refine (trie_Trie_Kids.calls k _ t134 t138 t139 t140 _ ?side1 A3.out).mono ?_); (case side1 => exact Kd.P_now (by (with_reducible repeat (first | apply Kd.P_alloc | apply Kd.P_drewN | apply Kd.P_drew)); exact HO136.out)); rintro e w39 ⟨v141, v143, rfl, ho0, ho1, hb⟩; refine ⟨_, rfl, ?_⟩; have n0_ := Aside0.mk (Kd.R_below (by (with_reducible repeat (first | apply Kd.R_alloc | apply Kd.R_drewN | apply Kd.R_drew)); exact HO133.out) hb); have n1_ := Aside0.mk (Kd.P_mono (Kd.P_told (Kd.P_told (Kd.P_old (by (with_reducible repeat (first | apply Kd.P_alloc | apply Kd.P_drewN | apply Kd.P_drew)); exact HO136.out) hb) (Kd.R_base ho0)) (Kd.R_base ho1)) (fun _ h_ => h_.1)); have n2_ := Aside0.mk (Kd.R_lower ho0 (below_size (by repeat (first | (with_reducible first | exact HB.out | apply below_alloc | apply pw_below_drewN | apply below_drew1) | exact HB.out)))); have n3_ := Aside0.mk (Kd.R_lower ho1 (below_size (by repeat (first | (with_reducible first | exact HB.out | apply below_alloc | apply pw_below_drewN | apply below_drew1) | exact HB.out)))); have n4_ := Aside0.mk (below_step (by repeat (first | (with_reducible first | exact HB.out | apply below_alloc | apply pw_below_drewN | apply below_drew1) | exact HB.out)) hb); clear HO133; clear HO136; clear HB; have HO133 := n0_; have HO136 := n1_; have HO142 := n2_; have HO144 := n3_; have HB := n4_; clear n0_ n1_ n2_ n3_ n4_; (try clear hb); (try clear hb2); (try clear hk); (try clear hi); (try clear ho0); (try clear ho1)))
  go_ret
  exact ⟨by first | rfl | (simp [errW_none, errW_some] <;> rfl) | (simp [*, errW_none, errW_some] <;> rfl), by repeat (first | (with_reducible first | exact HB.out | apply below_alloc | apply pw_below_drewN | apply below_drew1) | exact HB.out)⟩

/-! ### trie_Trie_Len: function 16 -/

end Go.Proofs.Ytokgkhndhlcfpaa.PTrieMakes
