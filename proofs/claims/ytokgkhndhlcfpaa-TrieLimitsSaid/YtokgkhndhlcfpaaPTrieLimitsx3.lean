-- Laid by a program of ours (the kit's print with words and contracts of our own beside it).
import Derived.Test.YtokgkhndhlcfpaaPTrieLimitsx0
import Derived.Test.YtokgkhndhlcfpaaPTrieLimitsx2
namespace Go.Proofs.Ytokgkhndhlcfpaa.PTrieLimits
open Go.RowKit Go.Proofs.Ytokgkhndhlcfpaa.X Go.Proofs.YtokgkhndhlcfpaaW.PrintWords Go.Proofs.YtokgkhndhlcfpaaW.PrintLast Go.Proofs.YtokgkhndhlcfpaaW.PrintMore
attribute [local go_sem] max2_int min2_int max_two min_two max_three min_three max_four min_four   -- for this text's walks alone
set_option linter.unusedVariables false
set_option linter.unusedSimpArgs false

/-! ### redpenlaw07_TrieLimits: function 3 -/
mutual
def redpenlaw07_TrieLimits.l0 : Nat → Int → Int → Int → List Int → Int → Int → Option (Bool)
 | 0, _, _, _, _, _, _ => none
 | k + 1, x0, x1, x2, x19, x21, x22 => if x22 < x21 then (if 0 ≤ x22 then (if x22 < (x19.length : Int) then (redpenlaw07_TrieLimits.l0 k x0 x1 x2 (x19.set (x22 : Int).toNat ((97 + (Int.tmod x1 26)) % 256)) x21 (wrap64 (x22 + 1))) else (none)) else (none)) else ((trie_Make.f k (([strOfNums x19] : List ByteArray))).bind fun bt156 => (if x0 > 0 then (redpenlaw07_TrieLimits.j1 k x2 bt156.1 bt156.2 (decide (x0 ≤ 64))) else (redpenlaw07_TrieLimits.j1 k x2 bt156.1 bt156.2 false)))
def redpenlaw07_TrieLimits.j1 : Nat → Int → List (TrT) → Int → Bool → Option (Bool)
 | 0, _, _, _, _ => none
 | k + 1, x2, x9, x10, x11 => redpenlaw07_TrieLimits.l1 k x9 x10 x11 ([] : List ByteArray) (wrap64 (4000 + (wrap64 (Int.tmod x2 200)))) 0
def redpenlaw07_TrieLimits.l1 : Nat → List (TrT) → Int → Bool → List ByteArray → Int → Int → Option (Bool)
 | 0, _, _, _, _, _, _ => none
 | k + 1, x9, x10, x11, x12, x48, x49 => if x49 < x48 then (if x12.length < 8796093022208 then (redpenlaw07_TrieLimits.l1 k x9 x10 x11 (x12 ++ [strOfNums (([(97 + ((Int.tmod (wrap64 (Int.tdiv x49 676)) 26) % 256)) % 256, (97 + ((Int.tmod (wrap64 (Int.tdiv x49 26)) 26) % 256)) % 256, (97 + ((Int.tmod x49 26) % 256)) % 256] : List Int))]) x48 (wrap64 (x49 + 1))) else (none)) else ((trie_Make.f k x12).bind fun bt166 => (if ((x10 == 0) == x11) = true then (if ((!(List.isEmpty x9)) == x11) = true then (if ((bt166.2 == 0) == (decide ((x12.length : Int) ≤ 4096))) = true then (if bt166.2 = 0 then ((trie_Trie_Len.f bt166.1).bind fun t170 => (some (t170 == (x12.length : Int)))) else (if bt166.2 = 4 then (if (List.isEmpty bt166.1) = true then (some true) else (some false)) else (some false))) else (some false)) else (some false)) else (some false)))
end
def redpenlaw07_TrieLimits.f (k : Nat) (a0 : Int) (a1 : Int) (a2 : Int) : Option (Bool) := (redpenlaw07_Awake.f k).bind fun t148 => (if t148 = true then (if 0 ≤ a0 then (if (a0 : Int).toNat ≤ 281474976710656 then ((some (List.replicate (a0 : Int).toNat 0 : List Int)).bind fun y149 => (redpenlaw07_TrieLimits.l0 k a0 a1 a2 y149 (y149.length : Int) 0)) else (none)) else (none)) else (some false))
theorem redpenlaw07_TrieLimits.mono_l : ∀ k, (∀ y0 y1 y2 y3 y4 y5, LeO (redpenlaw07_TrieLimits.l0 k y0 y1 y2 y3 y4 y5) (redpenlaw07_TrieLimits.l0 (k + 1) y0 y1 y2 y3 y4 y5)) ∧ (∀ y0 y1 y2 y3, LeO (redpenlaw07_TrieLimits.j1 k y0 y1 y2 y3) (redpenlaw07_TrieLimits.j1 (k + 1) y0 y1 y2 y3)) ∧ (∀ y0 y1 y2 y3 y4 y5, LeO (redpenlaw07_TrieLimits.l1 k y0 y1 y2 y3 y4 y5) (redpenlaw07_TrieLimits.l1 (k + 1) y0 y1 y2 y3 y4 y5))
 | 0 => ⟨fun _ _ _ _ _ _ r h => by simp [redpenlaw07_TrieLimits.l0] at h, fun _ _ _ _ r h => by simp [redpenlaw07_TrieLimits.j1] at h, fun _ _ _ _ _ _ r h => by simp [redpenlaw07_TrieLimits.l1] at h⟩
 | k + 1 => by
  obtain ⟨ih0, ih1, ih2⟩ := redpenlaw07_TrieLimits.mono_l k
  refine ⟨?_, ?_, ?_⟩
  ·intro y0 y1 y2 y3 y4 y5
   unfold redpenlaw07_TrieLimits.l0
   repeat' first
   | (with_reducible exact ih0 _ _ _ _ _ _)
   | (with_reducible exact ih1 _ _ _ _)
   | (with_reducible exact ih2 _ _ _ _ _ _)
   | (with_reducible exact redpenlaw07_Awake.mono _)
   | (with_reducible exact trie_Make.mono _ _)
   | (with_reducible exact LeO.refl _)
   | (with_reducible exact LeO.none _)
   | (with_reducible refine LeO.ite ?_ ?_)
   | (with_reducible refine LeO.bind ?_ (fun _ => ?_))
   | exact ih0 _ _ _ _ _ _
   | exact ih1 _ _ _ _
   | exact ih2 _ _ _ _ _ _
   | exact redpenlaw07_Awake.mono _
   | exact trie_Make.mono _ _
   | exact LeO.none _
   | refine LeO.ite ?_ ?_
   | refine LeO.bind ?_ (fun _ => ?_)
  ·intro y0 y1 y2 y3
   unfold redpenlaw07_TrieLimits.j1
   repeat' first
   | (with_reducible exact ih0 _ _ _ _ _ _)
   | (with_reducible exact ih1 _ _ _ _)
   | (with_reducible exact ih2 _ _ _ _ _ _)
   | (with_reducible exact redpenlaw07_Awake.mono _)
   | (with_reducible exact trie_Make.mono _ _)
   | (with_reducible exact LeO.refl _)
   | (with_reducible exact LeO.none _)
   | (with_reducible refine LeO.ite ?_ ?_)
   | (with_reducible refine LeO.bind ?_ (fun _ => ?_))
   | exact ih0 _ _ _ _ _ _
   | exact ih1 _ _ _ _
   | exact ih2 _ _ _ _ _ _
   | exact redpenlaw07_Awake.mono _
   | exact trie_Make.mono _ _
   | exact LeO.none _
   | refine LeO.ite ?_ ?_
   | refine LeO.bind ?_ (fun _ => ?_)
  ·intro y0 y1 y2 y3 y4 y5
   unfold redpenlaw07_TrieLimits.l1
   repeat' first
   | (with_reducible exact ih0 _ _ _ _ _ _)
   | (with_reducible exact ih1 _ _ _ _)
   | (with_reducible exact ih2 _ _ _ _ _ _)
   | (with_reducible exact redpenlaw07_Awake.mono _)
   | (with_reducible exact trie_Make.mono _ _)
   | (with_reducible exact LeO.refl _)
   | (with_reducible exact LeO.none _)
   | (with_reducible refine LeO.ite ?_ ?_)
   | (with_reducible refine LeO.bind ?_ (fun _ => ?_))
   | exact ih0 _ _ _ _ _ _
   | exact ih1 _ _ _ _
   | exact ih2 _ _ _ _ _ _
   | exact redpenlaw07_Awake.mono _
   | exact trie_Make.mono _ _
   | exact LeO.none _
   | refine LeO.ite ?_ ?_
   | refine LeO.bind ?_ (fun _ => ?_)
theorem redpenlaw07_TrieLimits.mono : ∀ a0 a1 a2 k, LeO (redpenlaw07_TrieLimits.f k a0 a1 a2) (redpenlaw07_TrieLimits.f (k + 1) a0 a1 a2) := by
 intro a0 a1 a2 k
 obtain ⟨ih0, ih1, ih2⟩ := redpenlaw07_TrieLimits.mono_l k
 unfold redpenlaw07_TrieLimits.f
 repeat' first
   | (with_reducible exact ih0 _ _ _ _ _ _)
   | (with_reducible exact ih1 _ _ _ _)
   | (with_reducible exact ih2 _ _ _ _ _ _)
   | (with_reducible exact redpenlaw07_Awake.mono _)
   | (with_reducible exact trie_Make.mono _ _)
   | (with_reducible exact LeO.refl _)
   | (with_reducible exact LeO.none _)
   | (with_reducible refine LeO.ite ?_ ?_)
   | (with_reducible refine LeO.bind ?_ (fun _ => ?_))
   | exact ih0 _ _ _ _ _ _
   | exact ih1 _ _ _ _
   | exact ih2 _ _ _ _ _ _
   | exact redpenlaw07_Awake.mono _
   | exact trie_Make.mono _ _
   | exact LeO.none _
   | refine LeO.ite ?_ ?_
   | refine LeO.bind ?_ (fun _ => ?_)
set_option maxHeartbeats 8000000 in
set_option maxRecDepth 100000 in
theorem redpenlaw07_TrieLimits.calls (k : Nat) (a0 : Int) (a1 : Int) (a2 : Int) (r : Bool) (w : World) (h : redpenlaw07_TrieLimits.f k a0 a1 a2 = some r) (hr_ : r = true) :
  Calls Try.prog 3 #[.int .u8 a0, .int .u8 a1, .int .u16 a2] w fun e w' => e = .returned (.bool r) ∧ Below w.heap.size w w' := by
 have HB := Aside0.mk (Below.refl w.heap.size w)
 have H : ((redpenlaw07_Awake.f k).bind fun t148 => (if t148 = true then (if 0 ≤ a0 then (if (a0 : Int).toNat ≤ 281474976710656 then ((some (List.replicate (a0 : Int).toNat 0 : List Int)).bind fun y149 => (redpenlaw07_TrieLimits.l0 k a0 a1 a2 y149 (y149.length : Int) 0)) else (none)) else (none)) else (some false))) = some r := h
 clear h
 replace H := Option.bind_eq_some_iff.mp H
 obtain ⟨t148, A40, H⟩ := H
 replace H : (if t148 = true then (if 0 ≤ a0 then (if (a0 : Int).toNat ≤ 281474976710656 then ((some (List.replicate (a0 : Int).toNat 0 : List Int)).bind fun y149 => (redpenlaw07_TrieLimits.l0 k a0 a1 a2 y149 (y149.length : Int) 0)) else (none)) else (none)) else (some false)) = some r := H
 have A4 := Aside0.mk A40
 clear A40
 by_cases c5 : t148 = true
 ·subst c5
  have H1 : (if 0 ≤ a0 then (if (a0 : Int).toNat ≤ 281474976710656 then ((some (List.replicate (a0 : Int).toNat 0 : List Int)).bind fun y149 => (redpenlaw07_TrieLimits.l0 k a0 a1 a2 y149 (y149.length : Int) 0)) else (none)) else (none)) = some r := by rw [if_pos rfl] at H; exact H
  clear H
  have H := H1
  clear H1
  by_cases c6 : 0 ≤ a0
  ·rw [if_pos c6] at H
   have c6b0 := eq_true c6
   have c6b1 : decide (0 ≤ a0) = true := decide_eq_true c6
   clear c6
   by_cases c7 : (a0 : Int).toNat ≤ 281474976710656
   ·rw [if_pos c7] at H
    have c7b0 := eq_true c7
    have c7b1 : decide ((a0 : Int).toNat ≤ 281474976710656) = true := decide_eq_true c7
    clear c7
    obtain ⟨y149, hy149⟩ : ∃ y_ : List Int, y_ = (List.replicate (a0 : Int).toNat 0) := ⟨_, rfl⟩
    replace H : (redpenlaw07_TrieLimits.l0 k a0 a1 a2 y149 (y149.length : Int) 0) = some r := by first | (rw [hy149]; with_reducible exact H) | (have H2_ := (Option.bind_some _ _).symm.trans H; rw [hy149]; with_reducible exact H2_) | (have H2_ := (Option.bind_some _ _).symm.trans H; with_reducible exact H2_) | with_reducible exact H | (rw [hy149]; exact H) | exact H
    have Ny149 := Aside0.mk hy149
    clear hy149
    have H' := Aside0.mk H
    clear H
    go_enter Try.func3, Try.ntmps3
    go_wp2_with (first | ((with_reducible refine gate_callee (f := 14) rfl ?_); refine goesL_ (some 16) rfl rfl Try.func14 (by kernel_rfl) rfl #[] rfl (by (try simp only [List.map_toArray, List.map_cons, List.map_nil]); first | done | rfl | (simp only [List.length_drop, List.length_take]; rfl)) ?_; (with_reducible refine (redpenlaw07_Awake.calls k  true _ A4.out).mono ?_); rintro e w8 ⟨rfl, hb⟩; refine ⟨_, rfl, ?_⟩; have n0_ := Aside0.mk (below_step (by repeat (first | (with_reducible first | exact HB.out | apply below_alloc | apply pw_below_drewN | apply below_drew1) | exact HB.out)) hb); clear HB; have HB := n0_; clear n0_; (try clear hb); (try clear hb2); (try clear hk); (try clear hi)) | ((with_reducible refine gate_dst (N := 19) rfl ?_); (try (refine gate_guard (by rfl) ?_; dsimp only)); refine R_makeK (kk := .u8) (Kd.int .u8) _ 5 rfl (N := 19) rfl 24 _ _ rfl a0 rfl rfl Try.underlying24 (.int .u8 0) 1 info5 rfl (by decide) (by omega) 0 (ok := fun _ => True) (okp := fun _ => True) rfl (fun _ hk => hk) trivial (of_decide_eq_true (by first | (with_reducible assumption) | assumption)) (Nat.le_trans (Nat.mul_le_mul_right _ (of_decide_eq_true (by first | (with_reducible assumption) | assumption) : a0.toNat ≤ 281474976710656)) (by omega)) (Below.refl _ _) (Nat.le_refl _) ?_; intro v150 w9 ho10 hb hg_ hnew_; clear hg_ hnew_; (first | rw [← Ny149.out] at ho10 | (simp only [Int.reduceToNat] at ho10; rw [← Ny149.out] at ho10)); have n0_ := Aside0.mk (Kd.R_lower ho10 (below_size (by repeat (first | (with_reducible first | exact HB.out | apply below_alloc | apply pw_below_drewN | apply below_drew1) | exact HB.out)))); have n1_ := Aside0.mk (below_step (by repeat (first | (with_reducible first | exact HB.out | apply below_alloc | apply pw_below_drewN | apply below_drew1) | exact HB.out)) hb); clear HB; have HO151 := n0_; have HB := n1_; clear n0_ n1_; clear hb ho10; obtain ⟨Ao11, co11, eo11⟩ := Kd.R_slice HO151.out; subst eo11))
    go_loopg [22] k (fun kq v22 w' => ∃ (x19_1 : List Int) (x22_1 : Int), v22 = .int .i64 x22_1 ∧ Aside0 (redpenlaw07_TrieLimits.l0 kq a0 a1 a2 x19_1 (y149.length : Int) x22_1 = some r) ∧ Aside0 (kq ≤ k) ∧ Aside0 (Kd.R (Kd.int .u8) 5 w' w.heap.size (fun _ => True) (.slice Ao11 y149.length co11) x19_1) ∧ Aside0 (Below w.heap.size w w'))
    case atStart => exact ⟨(y149), (0), (by first | rfl | (simp; done) | (simp [*]; done) | (simp [wrap64, wrap32]; done)), H', ⟨Nat.le_refl _⟩, ⟨by (with_reducible repeat (first | apply Kd.R_alloc | apply Kd.R_drewN | apply Kd.R_drew)); exact HO151.out⟩, ⟨by repeat (first | (with_reducible first | exact HB.out | apply below_alloc | apply pw_below_drewN | apply below_drew1) | exact HB.out)⟩⟩
    case round =>
     clear H'
     try clear c1
     try clear p2
     try clear c3
     try clear c5
     try clear c6
     try clear c6b0
     try clear c6b1
     try clear c7
     try clear c7b0
     try clear c7b1
     obtain ⟨x19_1, x22_1, rfl, HA, HK1, HO_19, HB⟩ := hrel
     have hl19_1 : y149.length = x19_1.length := (Kd.R_reads' HO_19.out).1
     rw [hl19_1] at HO_19
     (try simp only [hl19_1])
     cases gk with
     | zero => exact absurd HA.out (by simp [redpenlaw07_TrieLimits.l0])
     | succ k1 =>
      have H := HA.out
      clear HA
      simp only [redpenlaw07_TrieLimits.l0] at H
      by_cases c12 : x22_1 < (y149.length : Int)
      ·rw [if_pos c12] at H
       have c12b0 : decide (x22_1 < (y149.length : Int)) = true := decide_eq_true c12
       (try simp only [hl19_1] at c12b0)
       clear c12
       by_cases c13 : 0 ≤ x22_1
       ·rw [if_pos c13] at H
        have c13b0 : decide (0 ≤ x22_1) = true := decide_eq_true c13
        clear c13
        by_cases c14 : x22_1 < (x19_1.length : Int)
        ·rw [if_pos c14] at H
         have c14b0 : decide (x22_1 < (x19_1.length : Int)) = true := decide_eq_true c14
         clear c14
         obtain ⟨y152, hy152⟩ : ∃ y_ : List Int, y_ = (x19_1.set (x22_1 : Int).toNat ((97 + (Int.tmod a1 26)) % 256)) := ⟨_, rfl⟩
         replace H : (redpenlaw07_TrieLimits.l0 k1 a0 a1 a2 y152 (y149.length : Int) (wrap64 (x22_1 + 1))) = some r := by first | (rw [hy152]; with_reducible exact H) | (have H2_ := (Option.bind_some _ _).symm.trans H; rw [hy152]; with_reducible exact H2_) | (have H2_ := (Option.bind_some _ _).symm.trans H; with_reducible exact H2_) | with_reducible exact H | (rw [hy152]; exact H) | exact H
         have Ny152 := Aside0.mk hy152
         clear hy152
         have H' := Aside0.mk H
         clear H
         have p15 : 0 ≤ (x22_1 : Int) := of_decide_eq_true (by first | (with_reducible assumption) | assumption)
         have q15 : (x22_1 : Int) < ((x19_1.length : Int) : Int) := of_decide_eq_true (by first | (with_reducible assumption) | assumption)
         obtain ⟨go15, co15, eo15, gb15, gl15, cl15, HG15⟩ := Kd.R_form HO_19.out (by omega)
         (first | cases eo15 | (injection eo15 with ea_ en_ ec_; (first | subst ea_ | (injection ea_ with ea_; subst ea_)); subst ec_; clear en_))
         have GB15 := Aside0.mk gb15
         have GG15 := Aside0.mk HG15
         clear gb15 gl15 HG15
         obtain ⟨hx15_0, hf15_0⟩ := Kd.R_celln 0 HO_19.out (x22_1 : Int) p15 q15
         replace p15 := eq_true p15
         replace q15 := eq_true q15
         have HP16 := Kd.R_putg HO_19.out (x22_1 : Int) ((97 + (Int.tmod a1 26)) % 256)
         go_wp2_with (first | ((with_reducible refine gate_store (t := 5) (p := 30) rfl ?_); refine store_event (t := 5) (p := 30) (v := ?vo_w17) (w1 := (wr.setCell ⟨go15, (x22_1 : Int).toNat, none⟩ (.int .u8 ((97 + (Int.tmod a1 26)) % 256)))) ?hg ?ho ?hn ?hr ?_; (case ho => rfl); (case hg => rfl); (case hn => rfl); (case hr => first | (go_simp; done) | (go_simp; rfl)); intro w17 hw; have hg : wr.grownBy w17 (some go15) := (by rw [hw]; exact HP16.2); have hp_ : Kd.R (Kd.int .u8) 5 w17 w.heap.size (fun _ => True) (.slice (some ⟨go15, 0, none⟩) x19_1.length co11) y152 := (by rw [hw, Ny152.out]; exact HP16.1); clear HP16; have n0_ := Aside0.mk (hp_); have n1_ := Aside0.mk ((by rw [hw]; exact below_set (HB.out) GB15.out : Below w.heap.size w w17)); clear HO_19; clear HB; have HO_19 := n0_; have HB := n1_; clear n0_ n1_; clear hg hw hp_))
         (try simp only [← hl19_1])
         go_roundg k1
         case measure => have := HK1.out; omega
         case rel => exact ⟨(y152), (wrap64 (x22_1 + 1)), (by first | rfl | (simp; done) | (simp [*]; done) | (simp [wrap64, wrap32]; done)), H', ⟨by have := HK1.out; omega⟩, ⟨by (try simp only [hl19_1]); (with_reducible repeat (first | apply Kd.R_alloc | apply Kd.R_drewN | apply Kd.R_drew)); exact HO_19.out⟩, ⟨by repeat (first | (with_reducible first | exact HB.out | apply below_alloc | apply pw_below_drewN | apply below_drew1) | exact HB.out)⟩⟩
        ·rw [if_neg c14] at H
         exact absurd H (by simp)
       ·rw [if_neg c13] at H
        exact absurd H (by simp)
      ·rw [if_neg c12] at H
       have c12b0 : decide (x22_1 < (y149.length : Int)) = false := decide_eq_false c12
       (try simp only [hl19_1] at c12b0)
       clear c12
       obtain ⟨y153, hy153⟩ : ∃ y_ : List ByteArray, y_ = (([strOfNums x19_1] : List ByteArray)) := ⟨_, rfl⟩
       replace H : ((trie_Make.f k1 y153).bind fun bt156 => (if a0 > 0 then (redpenlaw07_TrieLimits.j1 k1 a2 bt156.1 bt156.2 (decide (a0 ≤ 64))) else (redpenlaw07_TrieLimits.j1 k1 a2 bt156.1 bt156.2 false))) = some r := by first | (rw [hy153]; with_reducible exact H) | (have H2_ := (Option.bind_some _ _).symm.trans H; rw [hy153]; with_reducible exact H2_) | (have H2_ := (Option.bind_some _ _).symm.trans H; with_reducible exact H2_) | with_reducible exact H | (rw [hy153]; exact H) | exact H
       have Ny153 := Aside0.mk hy153
       clear hy153
       replace H := Option.bind_eq_some_iff.mp H
       obtain ⟨⟨t156, t159⟩, A180, H⟩ := H
       replace H : (if a0 > 0 then (redpenlaw07_TrieLimits.j1 k1 a2 t156 t159 (decide (a0 ≤ 64))) else (redpenlaw07_TrieLimits.j1 k1 a2 t156 t159 false)) = some r := H
       have A18 := Aside0.mk A180
       clear A180
       have HC19 := Aside0.mk H
       clear H
       have hcv20 := own_string (P := Try.prog) Try.underlying24 Try.underlying5 Try.underlying9 (Kd.own_of_R HO_19.out)
       have hcv20n := fun (n_ : Nat) => own_string (P := Try.prog) Try.underlying24 Try.underlying5 Try.underlying9 (Kd.own_of_R (Kd.R_drewN HO_19.out n_))
       go_upto_region 10 with (first | ((with_reducible refine gate_dst (N := 35) rfl ?_); (try (refine gate_guard (by rfl) ?_; dsimp only)); refine Kd.R_lit Kd.string _ 9 ?hg (N := 35) ?hd (xs := ([strOfNums x19_1] : List ByteArray)) (inner := [.string (strOfNums x19_1)]) (ok := fun _ => True) (okp := fun _ => True) ?hr ?hp (fun _ hk => hk) trivial (Below.refl _ _) (Nat.le_refl _) (by simp) ?_; (case hd => rfl); (case hg => rfl); (case hr => first | (go_simp; done) | (go_simp; rfl)); (case hp => exact (Reps.one (show Kd.M Kd.string _ _ _ (strOfNums x19_1) [.string (strOfNums x19_1)] from rfl) (Reps.none _ _))); intro v154 w21 ho22 hb hg_ hnew_; clear hg_ hnew_; (first | rw [← Ny153.out] at ho22 | (simp only [Int.reduceToNat] at ho22; rw [← Ny153.out] at ho22)); have n0_ := Aside0.mk (Kd.R_below (by (with_reducible repeat (first | apply Kd.R_alloc | apply Kd.R_drewN | apply Kd.R_drew)); exact HO_19.out) hb); have n1_ := Aside0.mk (Kd.R_lower ho22 (below_size (by repeat (first | (with_reducible first | exact HB.out | apply below_alloc | apply pw_below_drewN | apply below_drew1) | exact HB.out)))); have n2_ := Aside0.mk (below_step (by repeat (first | (with_reducible first | exact HB.out | apply below_alloc | apply pw_below_drewN | apply below_drew1) | exact HB.out)) hb); clear HO_19; clear HB; have HO_19 := n0_; have HO155 := n1_; have HB := n2_; clear n0_ n1_ n2_; clear hb ho22; obtain ⟨Ao23, co23, eo23⟩ := Kd.R_slice HO155.out; subst eo23) | ((with_reducible refine gate_callee (f := 15) rfl ?_); refine goesL_ (some 36) rfl rfl Try.func15 (by kernel_rfl) rfl #[.slice Ao23 y153.length co23] rfl (by (try simp only [List.map_toArray, List.map_cons, List.map_nil]); first | done | rfl | (simp only [List.length_drop, List.length_take]; rfl)) ?_; (with_reducible refine (trie_Make.calls k1 _ _ y153 t156 t159 _ ?side1 ?side2 A18.out).mono ?_); (case side1 => repeat (first | exact (Kd.R_reads' HO155.out).2.2 | (with_reducible refine Kd.C_alloc ?_ _) | (with_reducible refine Kd.C_drewN ?_ _) | (with_reducible refine Kd.C_drew ?_))); (case side2 => exact (Kd.R_reads' HO155.out).2.1); rintro e w24 ⟨v157, rfl, ho0, hb⟩; have hqn_v157 := TrP_neq (Kd.P_now ho0); have hqe_v157 := TrP_eql (Kd.P_now ho0); have hqg_v157 := TrP_guard (Kd.P_now ho0); refine ⟨_, rfl, ?_⟩; have n0_ := Aside0.mk (Kd.R_below (by (with_reducible repeat (first | apply Kd.R_alloc | apply Kd.R_drewN | apply Kd.R_drew)); exact HO_19.out) hb); have n1_ := Aside0.mk (Kd.R_below (by (with_reducible repeat (first | apply Kd.R_alloc | apply Kd.R_drewN | apply Kd.R_drew)); exact HO155.out) hb); have n2_ := Aside0.mk (Kd.P_lower (Kd.P_mono (ok' := fun k_ => some k_ ≠ (.slice Ao11 x19_1.length co11 : Value).ownBlock ∧ some k_ ≠ (.slice Ao23 y153.length co23 : Value).ownBlock) ho0 (fun k_ hk_ => ⟨(Kd.fresh' (Kd.R_lt (by (with_reducible repeat (first | apply Kd.R_alloc | apply Kd.R_drewN | apply Kd.R_drew)); exact HO_19.out)) k_ hk_), (Kd.fresh' (Kd.R_lt (by (with_reducible repeat (first | apply Kd.R_alloc | apply Kd.R_drewN | apply Kd.R_drew)); exact HO155.out)) k_ hk_)⟩)) (below_size (by repeat (first | (with_reducible first | exact HB.out | apply below_alloc | apply pw_below_drewN | apply below_drew1) | exact HB.out)))); have n3_ := Aside0.mk (below_step (by repeat (first | (with_reducible first | exact HB.out | apply below_alloc | apply pw_below_drewN | apply below_drew1) | exact HB.out)) hb); clear HO_19; clear HO155; clear HB; have HO_19 := n0_; have HO155 := n1_; have HO158 := n2_; have HB := n3_; clear n0_ n1_ n2_ n3_; (try clear hb); (try clear hb2); (try clear hk); (try clear hi); (try clear ho0)))
       (try simp only [Act.put, List.setIfInBounds_toArray, List.set_cons_zero, List.set_cons_succ])
       go_cut [11] (fun v11 wc => ∃ (kq : Nat) (x11_18 : Bool), v11 = .bool x11_18 ∧ Aside0 (redpenlaw07_TrieLimits.j1 kq a2 t156 t159 x11_18 = some r) ∧ Aside0 (kq ≤ k1) ∧ Aside0 (Kd.P TrP 900025 wc w.heap.size (fun _ => True) v157 t156) ∧ Aside0 (Below w.heap.size w wc))
       case first =>
        have H := HC19.out
        clear HC19
        by_cases c25 : a0 > 0
        ·rw [if_pos c25] at H
         have c25b0 : decide (0 < a0) = true := decide_eq_true c25
         clear c25
         (first | rw [c25b0] | (simp only [i64_w, i32_w]; rw [c25b0]) | skip)
         have H' := Aside0.mk H
         clear H
         go_wp2
         go_meet
         case rel => exact ⟨_, (decide (a0 ≤ 64)), (by first | rfl | (simp; done) | (simp [*]; done) | (simp [wrap64, wrap32]; done)), H', ⟨by have := HK1.out; first | omega | exact Nat.le_refl _⟩, ⟨by (try simp only [hl19_1]); (with_reducible repeat (first | apply Kd.P_alloc | apply Kd.P_drewN | apply Kd.P_drew)); exact Kd.P_mono HO158.out (fun _ hk => trivial)⟩, ⟨by repeat (first | (with_reducible first | exact HB.out | apply below_alloc | apply pw_below_drewN | apply below_drew1) | exact HB.out)⟩⟩
        ·rw [if_neg c25] at H
         have c25b0 : decide (0 < a0) = false := decide_eq_false c25
         clear c25
         (first | rw [c25b0] | (simp only [i64_w, i32_w]; rw [c25b0]) | skip)
         have H' := Aside0.mk H
         clear H
         go_wp2
         go_meet
         case rel => exact ⟨_, (false), (by first | rfl | (simp; done) | (simp [*]; done) | (simp [wrap64, wrap32]; done)), H', ⟨by have := HK1.out; first | omega | exact Nat.le_refl _⟩, ⟨by (try simp only [hl19_1]); (with_reducible repeat (first | apply Kd.P_alloc | apply Kd.P_drewN | apply Kd.P_drew)); exact Kd.P_mono HO158.out (fun _ hk => trivial)⟩, ⟨by repeat (first | (with_reducible first | exact HB.out | apply below_alloc | apply pw_below_drewN | apply below_drew1) | exact HB.out)⟩⟩
       case rest =>
        clear HC19
        try clear c1
        try clear p1
        try clear q1
        try clear hx1
        try clear c2
        try clear p2
        try clear hcv2
        try clear c3
        try clear c5
        try clear c6
        try clear c6b0
        try clear c6b1
        try clear p6
        try clear c7
        try clear c7b0
        try clear c7b1
        try clear c12
        try clear c12b0
        try clear c13
        try clear c13b0
        try clear c14
        try clear c14b0
        try clear c15
        try clear p15
        try clear q15
        try clear hx15
        try clear hf15
        try clear hcv20
        try clear c25
        try clear c25b0
        try clear hx15_0
        try clear p15
        try clear p2
        try clear q15
        obtain ⟨kq, x11_18, rfl, HA, HJ18, HO_9, HB⟩ := hcut
        cases kq with
        | zero => exact absurd HA.out (by simp [redpenlaw07_TrieLimits.j1])
        | succ kj18 =>
         have H := HA.out
         clear HA
         simp only [redpenlaw07_TrieLimits.j1] at H
         have H' := Aside0.mk H
         clear H
         go_wp2
         go_loopg [12, 49] kj18 (fun kq v12 v49 w' => ∃ (x12_3 : List ByteArray) (x49_3 : Int), v49 = .int .i64 x49_3 ∧ Aside0 (redpenlaw07_TrieLimits.l1 kq t156 t159 x11_18 x12_3 (wrap64 (4000 + (wrap64 (Int.tmod a2 200)))) x49_3 = some r) ∧ Aside0 (kq ≤ kj18) ∧ Aside0 (Kd.P TrP 900025 w' w.heap.size (fun k_ => some k_ ≠ (v12 : Value).ownBlock) v157 t156) ∧ Aside0 (Kd.R Kd.string 9 w' w.heap.size (fun _ => True) v12 x12_3) ∧ Aside0 (Below w.heap.size w w'))
         case atStart => exact ⟨(([] : List ByteArray)), (0), (by first | rfl | (simp; done) | (simp [*]; done) | (simp [wrap64, wrap32]; done)), H', ⟨Nat.le_refl _⟩, ⟨by (try simp only [hl19_1]); (with_reducible repeat (first | apply Kd.P_alloc | apply Kd.P_drewN | apply Kd.P_drew)); exact Kd.P_mono HO_9.out (fun _ hk => (by simp [Value.ownBlock]))⟩, ⟨by (try simp only [hl19_1]); first | exact Kd.R_nil _ _ _ _ _ | exact Kd.N_nil _ _ _ _ _ | exact Kd.V_nil _ _ _ _ _ | exact Kd.Q_nil _ _ _ _ _ | exact Kd.S_nil _ _ _ _ _⟩, ⟨by repeat (first | (with_reducible first | exact HB.out | apply below_alloc | apply pw_below_drewN | apply below_drew1) | exact HB.out)⟩⟩
         case round =>
          clear H'
          try clear c1
          try clear p1
          try clear q1
          try clear hx1
          try clear c2
          try clear p2
          try clear hcv2
          try clear c3
          try clear c5
          try clear c6
          try clear c6b0
          try clear c6b1
          try clear p6
          try clear c7
          try clear c7b0
          try clear c7b1
          try clear c12
          try clear c12b0
          try clear c13
          try clear c13b0
          try clear c14
          try clear c14b0
          try clear c15
          try clear p15
          try clear q15
          try clear hx15
          try clear hf15
          try clear hcv20
          try clear c25
          try clear c25b0
          try clear hx15_0
          try clear p1
          try clear p15
          try clear p2
          try clear p6
          try clear q1
          try clear q15
          obtain ⟨x12_3, x49_3, rfl, HA, HK3, HO_9, HO_12, HB⟩ := hrel
          cases gk with
          | zero => exact absurd HA.out (by simp [redpenlaw07_TrieLimits.l1])
          | succ k3 =>
           have H := HA.out
           clear HA
           simp only [redpenlaw07_TrieLimits.l1] at H
           by_cases c26 : x49_3 < (wrap64 (4000 + (wrap64 (Int.tmod a2 200))))
           ·rw [if_pos c26] at H
            have c26b0 : decide (x49_3 < (wrap64 (4000 + (wrap64 (Int.tmod a2 200))))) = true := decide_eq_true c26
            clear c26
            obtain ⟨y160, hy160⟩ : ∃ y_ : List Int, y_ = (([(97 + ((Int.tmod (wrap64 (Int.tdiv x49_3 676)) 26) % 256)) % 256, (97 + ((Int.tmod (wrap64 (Int.tdiv x49_3 26)) 26) % 256)) % 256, (97 + ((Int.tmod x49_3 26) % 256)) % 256] : List Int)) := ⟨_, rfl⟩
            replace H : (if x12_3.length < 8796093022208 then (redpenlaw07_TrieLimits.l1 k3 t156 t159 x11_18 (x12_3 ++ [strOfNums y160]) (wrap64 (4000 + (wrap64 (Int.tmod a2 200)))) (wrap64 (x49_3 + 1))) else (none)) = some r := by first | (rw [hy160]; with_reducible exact H) | (have H2_ := (Option.bind_some _ _).symm.trans H; rw [hy160]; with_reducible exact H2_) | (have H2_ := (Option.bind_some _ _).symm.trans H; with_reducible exact H2_) | with_reducible exact H | (rw [hy160]; exact H) | exact H
            have Ny160 := Aside0.mk hy160
            clear hy160
            by_cases c27 : x12_3.length < 8796093022208
            ·rw [if_pos c27] at H
             have LMc27 := Aside0.mk c27
             clear c27
             obtain ⟨y163, hy163⟩ : ∃ y_ : List ByteArray, y_ = (x12_3 ++ [strOfNums y160]) := ⟨_, rfl⟩
             replace H : (redpenlaw07_TrieLimits.l1 k3 t156 t159 x11_18 y163 (wrap64 (4000 + (wrap64 (Int.tmod a2 200)))) (wrap64 (x49_3 + 1))) = some r := by first | (rw [hy163]; with_reducible exact H) | (have H2_ := (Option.bind_some _ _).symm.trans H; rw [hy163]; with_reducible exact H2_) | (have H2_ := (Option.bind_some _ _).symm.trans H; with_reducible exact H2_) | with_reducible exact H | (rw [hy163]; exact H) | exact H
             have Ny163 := Aside0.mk hy163
             clear hy163
             have H' := Aside0.mk H
             clear H
             go_wp2_with (first | ((with_reducible refine gate_dst (N := 67) rfl ?_); (try (refine gate_guard (by rfl) ?_; dsimp only)); refine Kd.R_lit (Kd.int .u8) _ 5 ?hg (N := 67) ?hd (xs := ([(97 + ((Int.tmod (wrap64 (Int.tdiv x49_3 676)) 26) % 256)) % 256, (97 + ((Int.tmod (wrap64 (Int.tdiv x49_3 26)) 26) % 256)) % 256, (97 + ((Int.tmod x49_3 26) % 256)) % 256] : List Int)) (inner := [.int .u8 ((97 + ((Int.tmod (wrap64 (Int.tdiv x49_3 676)) 26) % 256)) % 256), .int .u8 ((97 + ((Int.tmod (wrap64 (Int.tdiv x49_3 26)) 26) % 256)) % 256), .int .u8 ((97 + ((Int.tmod x49_3 26) % 256)) % 256)]) (ok := fun _ => True) (okp := fun _ => True) ?hr ?hp (fun _ hk => hk) trivial (Below.refl _ _) (Nat.le_refl _) (by simp) ?_; (case hd => rfl); (case hg => rfl); (case hr => first | (go_simp; done) | (go_simp; rfl)); (case hp => exact (Reps.one (show Kd.M (Kd.int .u8) _ _ _ ((97 + ((Int.tmod (wrap64 (Int.tdiv x49_3 676)) 26) % 256)) % 256) [.int .u8 ((97 + ((Int.tmod (wrap64 (Int.tdiv x49_3 676)) 26) % 256)) % 256)] from rfl) (Reps.one (show Kd.M (Kd.int .u8) _ _ _ ((97 + ((Int.tmod (wrap64 (Int.tdiv x49_3 26)) 26) % 256)) % 256) [.int .u8 ((97 + ((Int.tmod (wrap64 (Int.tdiv x49_3 26)) 26) % 256)) % 256)] from rfl) (Reps.one (show Kd.M (Kd.int .u8) _ _ _ ((97 + ((Int.tmod x49_3 26) % 256)) % 256) [.int .u8 ((97 + ((Int.tmod x49_3 26) % 256)) % 256)] from rfl) (Reps.none _ _))))); intro v161 w28 ho29 hb hg_ hnew_; clear hg_ hnew_; (first | rw [← Ny160.out] at ho29 | (simp only [Int.reduceToNat] at ho29; rw [← Ny160.out] at ho29)); have n0_ := Aside0.mk (Kd.P_elder' (by (with_reducible repeat (first | apply Kd.P_alloc | apply Kd.P_drewN | apply Kd.P_drew)); exact HO_9.out) (Kd.R_base ho29) hb); have n1_ := Aside0.mk (Kd.R_below (by (with_reducible repeat (first | apply Kd.R_alloc | apply Kd.R_drewN | apply Kd.R_drew)); exact HO_12.out) hb); have n2_ := Aside0.mk (Kd.R_lower ho29 (below_size (by repeat (first | (with_reducible first | exact HB.out | apply below_alloc | apply pw_below_drewN | apply below_drew1) | exact HB.out)))); have n3_ := Aside0.mk (below_step (by repeat (first | (with_reducible first | exact HB.out | apply below_alloc | apply pw_below_drewN | apply below_drew1) | exact HB.out)) hb); clear HO_9; clear HO_12; clear HB; have HO_9 := n0_; have HO_12 := n1_; have HO162 := n2_; have HB := n3_; clear n0_ n1_ n2_ n3_; clear hb ho29; have hcv30 := own_string (P := Try.prog) Try.underlying24 Try.underlying5 Try.underlying9 (Kd.own_of_R HO162.out); have hcv30n := fun (n_ : Nat) => own_string (P := Try.prog) Try.underlying24 Try.underlying5 Try.underlying9 (Kd.own_of_R (Kd.R_drewN HO162.out n_))) | ((with_reducible refine gate_builtin (b := .append) (xs := #[.tmp 52, .tmp 69]) rfl ?_); (try (refine gate_guard (by rfl) ?_; dsimp only)); at_builtin; refine Kd.R_append Kd.string (w0 := w) w.heap.size rfl (.tmp 52) (.tmp 69) 29 9 (.string ⟨#[]⟩) 16 rfl Try.underlying29 info9 rfl (by decide) (by omega) u12 x12_3 (strOfNums y160) [.string (strOfNums y160)] (fun _ => True) (fun _ => False) rfl rfl ?aP (fun _ hk => hk.elim) ?aF ?aO ?aB ?aS ?aL ?_; (case aP => exact rfl); (case aB => exact (by repeat (first | (with_reducible first | exact HB.out | apply below_alloc | apply pw_below_drewN | apply below_drew1) | exact HB.out))); (case aF => exact (fun _ _ => trivial)); (case aO => exact (by (with_reducible repeat (first | apply Kd.R_alloc | apply Kd.R_drewN | apply Kd.R_drew)); exact HO_12.out)); (case aS => exact (below_size (by repeat (first | (with_reducible first | exact HB.out | apply below_alloc | apply pw_below_drewN | apply below_drew1) | exact HB.out)))); (case aL => have := LMc27.out; omega); intro v164 w31 ho hb hg hat; rw [← Ny163.out] at ho; have n0_ := Aside0.mk (Kd.P_afterv (ok := (fun k_ => some k_ ≠ (v161 : Value).ownBlock)) (by (with_reducible repeat (first | apply Kd.P_alloc | apply Kd.P_drewN | apply Kd.P_drew)); exact Kd.P_mono HO_9.out (fun _ hk => ⟨hk.2, hk.1⟩)) hg hat); have n1_ := Aside0.mk (Kd.R_over' (by (with_reducible repeat (first | apply Kd.R_alloc | apply Kd.R_drewN | apply Kd.R_drew)); exact HO162.out) (Kd.R_typed (by (with_reducible repeat (first | apply Kd.R_alloc | apply Kd.R_drewN | apply Kd.R_drew)); exact HO_12.out)) (by decide) hg); have n2_ := Aside0.mk (hb); have n3_ := Aside0.mk (ho); clear HO_9; clear HO162; clear HB; clear HO_12; have HO_9 := n0_; have HO162 := n1_; have HB := n2_; have HO165 := n3_; clear n0_ n1_ n2_ n3_; clear ho hb hg hat))
             go_roundg k3
             case measure => have := HK1.out; have := HJ18.out; have := HK3.out; omega
             case rel => exact ⟨(y163), (wrap64 (x49_3 + 1)), (by first | rfl | (simp; done) | (simp [*]; done) | (simp [wrap64, wrap32]; done)), H', ⟨by have := HK1.out; have := HJ18.out; have := HK3.out; omega⟩, ⟨by (try simp only [hl19_1]); (with_reducible repeat (first | apply Kd.P_alloc | apply Kd.P_drewN | apply Kd.P_drew)); exact Kd.P_mono HO_9.out (fun _ hk => hk.2)⟩, ⟨by (try simp only [hl19_1]); (with_reducible repeat (first | apply Kd.R_alloc | apply Kd.R_drewN | apply Kd.R_drew)); exact HO165.out⟩, ⟨by repeat (first | (with_reducible first | exact HB.out | apply below_alloc | apply pw_below_drewN | apply below_drew1) | exact HB.out)⟩⟩
            ·rw [if_neg c27] at H
             exact absurd H (by simp)
           ·rw [if_neg c26] at H
            have c26b0 : decide (x49_3 < (wrap64 (4000 + (wrap64 (Int.tmod a2 200))))) = false := decide_eq_false c26
            clear c26
            replace H := Option.bind_eq_some_iff.mp H
            obtain ⟨⟨t166, t169⟩, A320, H⟩ := H
            replace H : (if ((t159 == 0) == x11_18) = true then (if ((!(List.isEmpty t156)) == x11_18) = true then (if ((t169 == 0) == (decide ((x12_3.length : Int) ≤ 4096))) = true then (if t169 = 0 then ((trie_Trie_Len.f t166).bind fun t170 => (some (t170 == (x12_3.length : Int)))) else (if t169 = 4 then (if (List.isEmpty t166) = true then (some true) else (some false)) else (some false))) else (some false)) else (some false)) else (some false)) = some r := H
            have A32 := Aside0.mk A320
            clear A320
            by_cases c33 : ((t159 == 0) == x11_18) = true
            ·rw [if_pos c33] at H
             have c33b0 : ((t159 == 0) == x11_18) = true := c33
             (try (have c33b1 : decide ((t159 == 0) = x11_18) = true := by simpa using c33))
             (try (have c33b2 : ((t159 == 0) == x11_18) = true := by simpa using c33))
             clear c33
             by_cases c34 : ((!(List.isEmpty t156)) == x11_18) = true
             ·rw [if_pos c34] at H
              have c34b0 : ((!(List.isEmpty t156)) == x11_18) = true := c34
              (try (have c34b1 : decide ((!(List.isEmpty t156)) = x11_18) = true := by simpa using c34))
              (try (have c34b2 : ((!(List.isEmpty t156)) == x11_18) = true := by simpa using c34))
              clear c34
              by_cases c35 : ((t169 == 0) == (decide ((x12_3.length : Int) ≤ 4096))) = true
              ·rw [if_pos c35] at H
               have c35b0 : ((t169 == 0) == (decide ((x12_3.length : Int) ≤ 4096))) = true := c35
               (try (have c35b1 : decide ((t169 == 0) = (decide ((x12_3.length : Int) ≤ 4096))) = true := by simpa using c35))
               (try (have c35b2 : ((t169 == 0) == (decide ((x12_3.length : Int) ≤ 4096))) = true := by simpa using c35))
               clear c35
               by_cases c36 : t169 = 0
               ·rw [if_pos c36] at H
                have c36b0 : (t169 == 0) = true := beq_iff_eq.mpr c36
                (try (have c36q : (decide ((x12_3.length : Int) ≤ 4096)) = true := by have h_ := c35b0; rw [c36b0] at h_; revert h_; cases (decide ((x12_3.length : Int) ≤ 4096)) <;> simp))
                have c36b1 : (t169 != 0) = false := bne_eq_false_iff_eq.mpr c36
                clear c36
                replace H := Option.bind_eq_some_iff.mp H
                obtain ⟨t170, A370, H⟩ := H
                replace H : (some (t170 == (x12_3.length : Int))) = some r := H
                have A37 := Aside0.mk A370
                clear A370
                obtain rfl := Option.some.inj H
                obtain ⟨Ao38, co38, eo38⟩ := Kd.R_slice HO_12.out
                subst eo38
                go_wp2_with (first | ((with_reducible refine gate_callee (f := 15) rfl ?_); refine goesL_ (some 74) rfl rfl Try.func15 (by kernel_rfl) rfl #[.slice Ao38 x12_3.length co38] rfl (by (try simp only [List.map_toArray, List.map_cons, List.map_nil]); first | done | rfl | (simp only [List.length_drop, List.length_take]; rfl)) ?_; (with_reducible refine (trie_Make.calls k3 _ _ x12_3 t166 t169 _ ?side1 ?side2 A32.out).mono ?_); (case side1 => repeat (first | exact (Kd.R_reads' HO_12.out).2.2 | (with_reducible refine Kd.C_alloc ?_ _) | (with_reducible refine Kd.C_drewN ?_ _) | (with_reducible refine Kd.C_drew ?_))); (case side2 => exact (Kd.R_reads' HO_12.out).2.1); rintro e w39 ⟨v167, rfl, ho0, hb⟩; have hqn_v167 := TrP_neq (Kd.P_now ho0); have hqe_v167 := TrP_eql (Kd.P_now ho0); have hqg_v167 := TrP_guard (Kd.P_now ho0); refine ⟨_, rfl, ?_⟩; have n0_ := Aside0.mk (Kd.P_below (by (with_reducible repeat (first | apply Kd.P_alloc | apply Kd.P_drewN | apply Kd.P_drew)); exact HO_9.out) hb); have n1_ := Aside0.mk (Kd.R_below (by (with_reducible repeat (first | apply Kd.R_alloc | apply Kd.R_drewN | apply Kd.R_drew)); exact HO_12.out) hb); have n2_ := Aside0.mk (Kd.P_lower (Kd.P_mono (ok' := fun k_ => some k_ ≠ (.slice Ao38 x12_3.length co38 : Value).ownBlock) ho0 (fun k_ hk_ => (Kd.fresh' (Kd.R_lt (by (with_reducible repeat (first | apply Kd.R_alloc | apply Kd.R_drewN | apply Kd.R_drew)); exact HO_12.out)) k_ hk_))) (below_size (by repeat (first | (with_reducible first | exact HB.out | apply below_alloc | apply pw_below_drewN | apply below_drew1) | exact HB.out)))); have n3_ := Aside0.mk (below_step (by repeat (first | (with_reducible first | exact HB.out | apply below_alloc | apply pw_below_drewN | apply below_drew1) | exact HB.out)) hb); clear HO_9; clear HO_12; clear HB; have HO_9 := n0_; have HO_12 := n1_; have HO168 := n2_; have HB := n3_; clear n0_ n1_ n2_ n3_; (try clear hb); (try clear hb2); (try clear hk); (try clear hi); (try clear ho0)) | (go_at_call 16; (with_reducible refine (trie_Trie_Len.calls _ t166 t170 _ ?side1 A37.out).mono ?_); (case side1 => exact Kd.P_now (by (with_reducible repeat (first | apply Kd.P_alloc | apply Kd.P_drewN | apply Kd.P_drew)); exact HO168.out)); rintro e w' ⟨rfl, ⟨nd, rfl⟩⟩))
                go_ret
                exact ⟨by first | rfl | (simp [errW_none, errW_some] <;> rfl) | (simp [*, errW_none, errW_some] <;> rfl), by repeat (first | (with_reducible first | exact HB.out | apply below_alloc | apply pw_below_drewN | apply below_drew1) | exact HB.out)⟩
               ·rw [if_neg c36] at H
                have c36b0 : (t169 == 0) = false := beq_eq_false_iff_ne.mpr c36
                (try (have c36q : (decide ((x12_3.length : Int) ≤ 4096)) = false := by have h_ := c35b0; rw [c36b0] at h_; revert h_; cases (decide ((x12_3.length : Int) ≤ 4096)) <;> simp))
                have c36b1 : (t169 != 0) = true := bne_iff_ne.mpr c36
                by_cases c40 : t169 = 4
                ·rw [if_pos c40] at H
                 have c40b0 : (t169 == 4) = true := beq_iff_eq.mpr c40
                 have c40b1 : (t169 != 4) = false := bne_eq_false_iff_eq.mpr c40
                 clear c40
                 by_cases c41 : (List.isEmpty t166) = true
                 ·rw [if_pos c41] at H
                  have c41b0 : (List.isEmpty t166) = true := c41
                  clear c41
                  obtain rfl := Option.some.inj H
                  obtain ⟨Ao42, co42, eo42⟩ := Kd.R_slice HO_12.out
                  subst eo42
                  go_wp2_with (first | ((with_reducible refine gate_callee (f := 15) rfl ?_); refine goesL_ (some 74) rfl rfl Try.func15 (by kernel_rfl) rfl #[.slice Ao42 x12_3.length co42] rfl (by (try simp only [List.map_toArray, List.map_cons, List.map_nil]); first | done | rfl | (simp only [List.length_drop, List.length_take]; rfl)) ?_; (with_reducible refine (trie_Make.calls k3 _ _ x12_3 t166 t169 _ ?side1 ?side2 A32.out).mono ?_); (case side1 => repeat (first | exact (Kd.R_reads' HO_12.out).2.2 | (with_reducible refine Kd.C_alloc ?_ _) | (with_reducible refine Kd.C_drewN ?_ _) | (with_reducible refine Kd.C_drew ?_))); (case side2 => exact (Kd.R_reads' HO_12.out).2.1); rintro e w43 ⟨v167, rfl, ho0, hb⟩; have hqn_v167 := TrP_neq (Kd.P_now ho0); have hqe_v167 := TrP_eql (Kd.P_now ho0); have hqg_v167 := TrP_guard (Kd.P_now ho0); refine ⟨_, rfl, ?_⟩; have n0_ := Aside0.mk (Kd.P_below (by (with_reducible repeat (first | apply Kd.P_alloc | apply Kd.P_drewN | apply Kd.P_drew)); exact HO_9.out) hb); have n1_ := Aside0.mk (Kd.R_below (by (with_reducible repeat (first | apply Kd.R_alloc | apply Kd.R_drewN | apply Kd.R_drew)); exact HO_12.out) hb); have n2_ := Aside0.mk (Kd.P_lower (Kd.P_mono (ok' := fun k_ => some k_ ≠ (.slice Ao42 x12_3.length co42 : Value).ownBlock) ho0 (fun k_ hk_ => (Kd.fresh' (Kd.R_lt (by (with_reducible repeat (first | apply Kd.R_alloc | apply Kd.R_drewN | apply Kd.R_drew)); exact HO_12.out)) k_ hk_))) (below_size (by repeat (first | (with_reducible first | exact HB.out | apply below_alloc | apply pw_below_drewN | apply below_drew1) | exact HB.out)))); have n3_ := Aside0.mk (below_step (by repeat (first | (with_reducible first | exact HB.out | apply below_alloc | apply pw_below_drewN | apply below_drew1) | exact HB.out)) hb); clear HO_9; clear HO_12; clear HB; have HO_9 := n0_; have HO_12 := n1_; have HO168 := n2_; have HB := n3_; clear n0_ n1_ n2_ n3_; (try clear hb); (try clear hb2); (try clear hk); (try clear hi); (try clear ho0)))
                  go_ret
                  exact ⟨by first | rfl | (simp [errW_none, errW_some] <;> rfl) | (simp [*, errW_none, errW_some] <;> rfl), by repeat (first | (with_reducible first | exact HB.out | apply below_alloc | apply pw_below_drewN | apply below_drew1) | exact HB.out)⟩
                 ·rw [if_neg c41] at H
                  have c41b0 : (List.isEmpty t166) = false := by simpa using c41
                  clear c41
                  have hf_ := Option.some.inj H
                  rw [hr_] at hf_
                  cases hf_
                ·rw [if_neg c40] at H
                 have c40b0 : (t169 == 4) = false := beq_eq_false_iff_ne.mpr c40
                 have c40b1 : (t169 != 4) = true := bne_iff_ne.mpr c40
                 have hf_ := Option.some.inj H
                 rw [hr_] at hf_
                 cases hf_
              ·rw [if_neg c35] at H
               have c35b0 : ((t169 == 0) == (decide ((x12_3.length : Int) ≤ 4096))) = false := by simpa using c35
               (try (have c35b1 : decide ((t169 == 0) = (decide ((x12_3.length : Int) ≤ 4096))) = false := by simpa using c35))
               (try (have c35b2 : ((t169 == 0) == (decide ((x12_3.length : Int) ≤ 4096))) = false := by simpa using c35))
               (try (have c35b3 : ¬ ((t169 == 0) = (decide ((x12_3.length : Int) ≤ 4096))) := by simpa using c35))
               clear c35
               have hf_ := Option.some.inj H
               rw [hr_] at hf_
               cases hf_
             ·rw [if_neg c34] at H
              have c34b0 : ((!(List.isEmpty t156)) == x11_18) = false := by simpa using c34
              (try (have c34b1 : decide ((!(List.isEmpty t156)) = x11_18) = false := by simpa using c34))
              (try (have c34b2 : ((!(List.isEmpty t156)) == x11_18) = false := by simpa using c34))
              (try (have c34b3 : ¬ ((!(List.isEmpty t156)) = x11_18) := by simpa using c34))
              clear c34
              have hf_ := Option.some.inj H
              rw [hr_] at hf_
              cases hf_
            ·rw [if_neg c33] at H
             have c33b0 : ((t159 == 0) == x11_18) = false := by simpa using c33
             (try (have c33b1 : decide ((t159 == 0) = x11_18) = false := by simpa using c33))
             (try (have c33b2 : ((t159 == 0) == x11_18) = false := by simpa using c33))
             (try (have c33b3 : ¬ ((t159 == 0) = x11_18) := by simpa using c33))
             clear c33
             have hf_ := Option.some.inj H
             rw [hr_] at hf_
             cases hf_
   ·rw [if_neg c7] at H
    exact absurd H (by simp)
  ·rw [if_neg c6] at H
   exact absurd H (by simp)
 ·replace c5 := Bool.eq_false_iff.mpr c5
  subst c5
  have H1 : (some false) = some r := by rw [if_neg (show ¬ (false = true) by decide)] at H; exact H
  clear H
  have H := H1
  clear H1
  have hf_ := Option.some.inj H
  rw [hr_] at hf_
  cases hf_

/-- THE ONE PURE STATEMENT of redpenlaw07_TrieLimits: yours. -/
def redpenlaw07_TrieLimits.Pure : Prop := ∀ (a0 : Int) (a1 : Int) (a2 : Int), (Lit.int .u8 a0).wf = true → (Lit.int .u8 a1).wf = true → (Lit.int .u16 a2).wf = true → ∃ k, redpenlaw07_TrieLimits.f k a0 a1 a2 = some true
theorem redpenlaw07_TrieLimits.walk (P : redpenlaw07_TrieLimits.Pure) (a0 : Int) (a1 : Int) (a2 : Int) (w : World) (w0 : (Lit.int .u8 a0).wf = true) (w1 : (Lit.int .u8 a1).wf = true) (w2 : (Lit.int .u16 a2).wf = true) :
  Calls Try.prog 3 #[.int .u8 a0, .int .u8 a1, .int .u16 a2] w fun e w' => e = .returned (.bool true) ∧ Below w.heap.size w w' := by
 obtain ⟨k, h⟩ := P a0 a1 a2 w0 w1 w2
 refine (redpenlaw07_TrieLimits.calls k a0 a1 a2 true w h rfl).mono ?_
 rintro e w' ⟨rfl, hd⟩
 exact ⟨rfl, hd⟩

end Go.Proofs.Ytokgkhndhlcfpaa.PTrieLimits
