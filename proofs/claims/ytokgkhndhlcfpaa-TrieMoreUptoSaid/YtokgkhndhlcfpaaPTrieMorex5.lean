-- Laid by a program of ours (the kit's print with words and contracts of our own beside it).
import Derived.Test.YtokgkhndhlcfpaaPTrieMorex0
import Derived.Test.YtokgkhndhlcfpaaPTrieMorex1
import Derived.Test.YtokgkhndhlcfpaaPTrieMorex2
import Derived.Test.YtokgkhndhlcfpaaPTrieMorex4
namespace Go.Proofs.Ytokgkhndhlcfpaa.PTrieMore
open Go.RowKit Go.Proofs.Ytokgkhndhlcfpaa.X Go.Proofs.YtokgkhndhlcfpaaW.PrintWords Go.Proofs.YtokgkhndhlcfpaaW.PrintLast Go.Proofs.YtokgkhndhlcfpaaW.PrintMore
attribute [local go_sem] max2_int min2_int max_two min_two max_three min_three max_four min_four   -- for this text's walks alone
set_option linter.unusedVariables false
set_option linter.unusedSimpArgs false

/-! ### redpenlaw07_TrieMore: function 12 -/
mutual
def redpenlaw07_TrieMore.j1 : Nat → List ByteArray → ByteArray → Int → Option (Bool)
 | 0, _, _, _ => none
 | k + 1, x0, x6, x7 => (some (([] : List ByteArray) : List ByteArray)).bind fun y285 => (if 0 ≤ x7 then (if x7 ≤ (x0.length : Int) then ((some (x0.take (x7 : Int).toNat : List ByteArray)).bind fun y288 => (if y285.length + y288.length < 8796093022208 then ((some (y285 ++ y288 : List ByteArray)).bind fun y292 => ((some (([x6] : List ByteArray) : List ByteArray)).bind fun y295 => (if y292.length + y295.length < 8796093022208 then ((some (y292 ++ y295 : List ByteArray)).bind fun y298 => ((some (x0.drop (x7 : Int).toNat : List ByteArray)).bind fun y301 => (if y298.length + y301.length < 8796093022208 then ((some (y298 ++ y301 : List ByteArray)).bind fun y305 => ((trie_Make.f k x0).bind fun bt308 => (if x7 < (x0.length : Int) then (redpenlaw07_TrieMore.j2 k x0 x6 y305 bt308.1 bt308.2 ((rdOf ByteArray.empty x0 x7).toList == x6.toList)) else (redpenlaw07_TrieMore.j2 k x0 x6 y305 bt308.1 bt308.2 false)))) else (none)))) else (none)))) else (none))) else (none)) else (none))
def redpenlaw07_TrieMore.j2 : Nat → List ByteArray → ByteArray → List ByteArray → List (TrT) → Int → Bool → Option (Bool)
 | 0, _, _, _, _, _, _ => none
 | k + 1, x0, x6, x8, x9, x10, x70 => if x70 = true then (if x10 = 0 then ((trie_Trie_Has.f k x9 x6).bind fun t313 => (some t313)) else (some false)) else ((trie_Make.f k x8).bind fun bt314 => (redpenlaw07_TrieMore.l1 k x6 x9 x10 bt314.1 bt314.2 x0 (x0.length : Int) 0))
def redpenlaw07_TrieMore.l1 : Nat → ByteArray → List (TrT) → Int → List (TrT) → Int → List ByteArray → Int → Int → Option (Bool)
 | 0, _, _, _, _, _, _, _, _ => none
 | k + 1, x6, x9, x10, x11, x12, x83, x84, x85 => if x85 < x84 then (if 0 ≤ x85 then (if x85 < (x83.length : Int) then ((trie_Trie_Has.f k x11 (rdOf ByteArray.empty x83 x85)).bind fun t319 => (if t319 = true then (redpenlaw07_TrieMore.l1 k x6 x9 x10 x11 x12 x83 x84 (wrap64 (x85 + 1))) else (some false))) else (none)) else (none)) else (if x10 = 0 then (if x12 = 0 then ((trie_Trie_Has.f k x9 x6).bind fun t320 => (if t320 = true then (some false) else ((trie_Trie_Has.f k x11 x6).bind fun t321 => (if t321 = true then ((trie_Trie_Len.f x11).bind fun t322 => ((trie_Trie_Len.f x9).bind fun t323 => (if t322 = (wrap64 (t323 + 1)) then ((trie_Trie_Size.f x11).bind fun t324 => ((trie_Trie_Size.f x9).bind fun t325 => (if t324 ≥ t325 then ((trie_Trie_Size.f x11).bind fun t326 => ((trie_Trie_Size.f x9).bind fun t327 => ((utf_Runes.f k x6).bind fun t328 => (some (decide (t326 ≤ (wrap64 (t327 + (t328.length : Int))))))))) else (some false)))) else (some false)))) else (some false))))) else (some false)) else (some false))
def redpenlaw07_TrieMore.l0 : Nat → List ByteArray → ByteArray → Int → Option (Bool)
 | 0, _, _, _ => none
 | k + 1, x0, x6, x7 => if x7 < (x0.length : Int) then (if 0 ≤ x7 then (if (Op.bytesLess ((rdOf ByteArray.empty x0 x7).toList) x6.toList) = true then (redpenlaw07_TrieMore.l0 k x0 x6 (wrap64 (x7 + 1))) else (redpenlaw07_TrieMore.j1 k x0 x6 x7)) else (none)) else (redpenlaw07_TrieMore.j1 k x0 x6 x7)
end
def redpenlaw07_TrieMore.f (k : Nat) (l0 : List ByteArray) (a1 : ByteArray) : Option (Bool) := (redpenlaw07_Awake.f k).bind fun t273 => (if t273 = true then ((redpenlaw07_Sorted.f k l0).bind fun t274 => ((redpenlaw07_Sorted.f k (([a1] : List ByteArray))).bind fun t280 => (if (t280.length : Int) = 0 then (some true) else (if 0 < (t280.length : Int) then (redpenlaw07_TrieMore.l0 k t274 (rdOf ByteArray.empty t280 0) 0) else (none))))) else (some false))
theorem redpenlaw07_TrieMore.mono_l : ∀ k, (∀ y0 y1 y2, LeO (redpenlaw07_TrieMore.j1 k y0 y1 y2) (redpenlaw07_TrieMore.j1 (k + 1) y0 y1 y2)) ∧ (∀ y0 y1 y2 y3 y4 y5, LeO (redpenlaw07_TrieMore.j2 k y0 y1 y2 y3 y4 y5) (redpenlaw07_TrieMore.j2 (k + 1) y0 y1 y2 y3 y4 y5)) ∧ (∀ y0 y1 y2 y3 y4 y5 y6 y7, LeO (redpenlaw07_TrieMore.l1 k y0 y1 y2 y3 y4 y5 y6 y7) (redpenlaw07_TrieMore.l1 (k + 1) y0 y1 y2 y3 y4 y5 y6 y7)) ∧ (∀ y0 y1 y2, LeO (redpenlaw07_TrieMore.l0 k y0 y1 y2) (redpenlaw07_TrieMore.l0 (k + 1) y0 y1 y2))
 | 0 => ⟨fun _ _ _ r h => by simp [redpenlaw07_TrieMore.j1] at h, fun _ _ _ _ _ _ r h => by simp [redpenlaw07_TrieMore.j2] at h, fun _ _ _ _ _ _ _ _ r h => by simp [redpenlaw07_TrieMore.l1] at h, fun _ _ _ r h => by simp [redpenlaw07_TrieMore.l0] at h⟩
 | k + 1 => by
  obtain ⟨ih0, ih1, ih2, ih3⟩ := redpenlaw07_TrieMore.mono_l k
  refine ⟨?_, ?_, ?_, ?_⟩
  ·intro y0 y1 y2
   unfold redpenlaw07_TrieMore.j1
   repeat' first
   | (with_reducible exact ih0 _ _ _)
   | (with_reducible exact ih1 _ _ _ _ _ _)
   | (with_reducible exact ih2 _ _ _ _ _ _ _ _)
   | (with_reducible exact ih3 _ _ _)
   | (with_reducible exact redpenlaw07_Awake.mono _)
   | (with_reducible exact redpenlaw07_Sorted.mono _ _)
   | (with_reducible exact trie_Make.mono _ _)
   | (with_reducible exact trie_Trie_Has.mono _ _ _)
   | (with_reducible exact utf_Runes.mono _ _)
   | (with_reducible exact LeO.refl _)
   | (with_reducible exact LeO.none _)
   | (with_reducible refine LeO.ite ?_ ?_)
   | (with_reducible refine LeO.bind ?_ (fun _ => ?_))
   | exact ih0 _ _ _
   | exact ih1 _ _ _ _ _ _
   | exact ih2 _ _ _ _ _ _ _ _
   | exact ih3 _ _ _
   | exact redpenlaw07_Awake.mono _
   | exact redpenlaw07_Sorted.mono _ _
   | exact trie_Make.mono _ _
   | exact trie_Trie_Has.mono _ _ _
   | exact utf_Runes.mono _ _
   | exact LeO.none _
   | refine LeO.ite ?_ ?_
   | refine LeO.bind ?_ (fun _ => ?_)
  ·intro y0 y1 y2 y3 y4 y5
   unfold redpenlaw07_TrieMore.j2
   repeat' first
   | (with_reducible exact ih0 _ _ _)
   | (with_reducible exact ih1 _ _ _ _ _ _)
   | (with_reducible exact ih2 _ _ _ _ _ _ _ _)
   | (with_reducible exact ih3 _ _ _)
   | (with_reducible exact redpenlaw07_Awake.mono _)
   | (with_reducible exact redpenlaw07_Sorted.mono _ _)
   | (with_reducible exact trie_Make.mono _ _)
   | (with_reducible exact trie_Trie_Has.mono _ _ _)
   | (with_reducible exact utf_Runes.mono _ _)
   | (with_reducible exact LeO.refl _)
   | (with_reducible exact LeO.none _)
   | (with_reducible refine LeO.ite ?_ ?_)
   | (with_reducible refine LeO.bind ?_ (fun _ => ?_))
   | exact ih0 _ _ _
   | exact ih1 _ _ _ _ _ _
   | exact ih2 _ _ _ _ _ _ _ _
   | exact ih3 _ _ _
   | exact redpenlaw07_Awake.mono _
   | exact redpenlaw07_Sorted.mono _ _
   | exact trie_Make.mono _ _
   | exact trie_Trie_Has.mono _ _ _
   | exact utf_Runes.mono _ _
   | exact LeO.none _
   | refine LeO.ite ?_ ?_
   | refine LeO.bind ?_ (fun _ => ?_)
  ·intro y0 y1 y2 y3 y4 y5 y6 y7
   unfold redpenlaw07_TrieMore.l1
   repeat' first
   | (with_reducible exact ih0 _ _ _)
   | (with_reducible exact ih1 _ _ _ _ _ _)
   | (with_reducible exact ih2 _ _ _ _ _ _ _ _)
   | (with_reducible exact ih3 _ _ _)
   | (with_reducible exact redpenlaw07_Awake.mono _)
   | (with_reducible exact redpenlaw07_Sorted.mono _ _)
   | (with_reducible exact trie_Make.mono _ _)
   | (with_reducible exact trie_Trie_Has.mono _ _ _)
   | (with_reducible exact utf_Runes.mono _ _)
   | (with_reducible exact LeO.refl _)
   | (with_reducible exact LeO.none _)
   | (with_reducible refine LeO.ite ?_ ?_)
   | (with_reducible refine LeO.bind ?_ (fun _ => ?_))
   | exact ih0 _ _ _
   | exact ih1 _ _ _ _ _ _
   | exact ih2 _ _ _ _ _ _ _ _
   | exact ih3 _ _ _
   | exact redpenlaw07_Awake.mono _
   | exact redpenlaw07_Sorted.mono _ _
   | exact trie_Make.mono _ _
   | exact trie_Trie_Has.mono _ _ _
   | exact utf_Runes.mono _ _
   | exact LeO.none _
   | refine LeO.ite ?_ ?_
   | refine LeO.bind ?_ (fun _ => ?_)
  ·intro y0 y1 y2
   unfold redpenlaw07_TrieMore.l0
   repeat' first
   | (with_reducible exact ih0 _ _ _)
   | (with_reducible exact ih1 _ _ _ _ _ _)
   | (with_reducible exact ih2 _ _ _ _ _ _ _ _)
   | (with_reducible exact ih3 _ _ _)
   | (with_reducible exact redpenlaw07_Awake.mono _)
   | (with_reducible exact redpenlaw07_Sorted.mono _ _)
   | (with_reducible exact trie_Make.mono _ _)
   | (with_reducible exact trie_Trie_Has.mono _ _ _)
   | (with_reducible exact utf_Runes.mono _ _)
   | (with_reducible exact LeO.refl _)
   | (with_reducible exact LeO.none _)
   | (with_reducible refine LeO.ite ?_ ?_)
   | (with_reducible refine LeO.bind ?_ (fun _ => ?_))
   | exact ih0 _ _ _
   | exact ih1 _ _ _ _ _ _
   | exact ih2 _ _ _ _ _ _ _ _
   | exact ih3 _ _ _
   | exact redpenlaw07_Awake.mono _
   | exact redpenlaw07_Sorted.mono _ _
   | exact trie_Make.mono _ _
   | exact trie_Trie_Has.mono _ _ _
   | exact utf_Runes.mono _ _
   | exact LeO.none _
   | refine LeO.ite ?_ ?_
   | refine LeO.bind ?_ (fun _ => ?_)
theorem redpenlaw07_TrieMore.mono : ∀ a0 a1 k, LeO (redpenlaw07_TrieMore.f k a0 a1) (redpenlaw07_TrieMore.f (k + 1) a0 a1) := by
 intro a0 a1 k
 obtain ⟨ih0, ih1, ih2, ih3⟩ := redpenlaw07_TrieMore.mono_l k
 unfold redpenlaw07_TrieMore.f
 repeat' first
   | (with_reducible exact ih0 _ _ _)
   | (with_reducible exact ih1 _ _ _ _ _ _)
   | (with_reducible exact ih2 _ _ _ _ _ _ _ _)
   | (with_reducible exact ih3 _ _ _)
   | (with_reducible exact redpenlaw07_Awake.mono _)
   | (with_reducible exact redpenlaw07_Sorted.mono _ _)
   | (with_reducible exact trie_Make.mono _ _)
   | (with_reducible exact trie_Trie_Has.mono _ _ _)
   | (with_reducible exact utf_Runes.mono _ _)
   | (with_reducible exact LeO.refl _)
   | (with_reducible exact LeO.none _)
   | (with_reducible refine LeO.ite ?_ ?_)
   | (with_reducible refine LeO.bind ?_ (fun _ => ?_))
   | exact ih0 _ _ _
   | exact ih1 _ _ _ _ _ _
   | exact ih2 _ _ _ _ _ _ _ _
   | exact ih3 _ _ _
   | exact redpenlaw07_Awake.mono _
   | exact redpenlaw07_Sorted.mono _ _
   | exact trie_Make.mono _ _
   | exact trie_Trie_Has.mono _ _ _
   | exact utf_Runes.mono _ _
   | exact LeO.none _
   | refine LeO.ite ?_ ?_
   | refine LeO.bind ?_ (fun _ => ?_)
def redpenlaw07_TrieMore.T11 : Bool × List (List Nat × List Nat) := (true, [([], []), ([], []), ([], []), ([1, 2], [1, 2]), ([0, 3], [0, 3]), ([], []), ([5], [5]), ([4, 6, 4], [4, 6]), ([], []), ([], []), ([8, 9], [8, 9]), ([7, 10, 7], [7, 10]), ([11, 11, 0, 1, 2, 3, 4, 5, 6, 7, 8, 9, 10, 11], [11])])
def redpenlaw07_TrieMore.B11 : List Nat := [0, 0, 0, 6, 15, 0, 32, 127, 0, 0, 768, 2047, 4095]
theorem redpenlaw07_TrieMore.tab11 : rtab .any (opsOf Try.f12 11) = redpenlaw07_TrieMore.T11 := by kernel_rfl
theorem redpenlaw07_TrieMore.bits11 : waitsOk redpenlaw07_TrieMore.T11.2 redpenlaw07_TrieMore.B11 = true := by kernel_rfl
set_option maxHeartbeats 8000000 in
set_option maxRecDepth 100000 in
theorem redpenlaw07_TrieMore.calls (k : Nat) (A0 : Option Addr) (c0 : Nat) (l0 : List ByteArray) (a1 : ByteArray) (r : Bool) (w : World) (hr0 : Kd.C Kd.string w A0 l0.length l0) (hc0 : l0.length ≤ c0) (h : redpenlaw07_TrieMore.f k l0 a1 = some r) (hr_ : r = true) :
  Calls Try.prog 12 #[.slice A0 l0.length c0, .string a1] w fun e w' => e = .returned (.bool r) ∧ Below w.heap.size w w' := by
 have HR0 := Aside0.mk hr0
 have HC0 := Aside0.mk hc0
 clear hr0 hc0
 have HB := Aside0.mk (Below.refl w.heap.size w)
 have H : ((redpenlaw07_Awake.f k).bind fun t273 => (if t273 = true then ((redpenlaw07_Sorted.f k l0).bind fun t274 => ((redpenlaw07_Sorted.f k (([a1] : List ByteArray))).bind fun t280 => (if (t280.length : Int) = 0 then (some true) else (if 0 < (t280.length : Int) then (redpenlaw07_TrieMore.l0 k t274 (rdOf ByteArray.empty t280 0) 0) else (none))))) else (some false))) = some r := h
 clear h
 replace H := Option.bind_eq_some_iff.mp H
 obtain ⟨t273, A30, H⟩ := H
 replace H : (if t273 = true then ((redpenlaw07_Sorted.f k l0).bind fun t274 => ((redpenlaw07_Sorted.f k (([a1] : List ByteArray))).bind fun t280 => (if (t280.length : Int) = 0 then (some true) else (if 0 < (t280.length : Int) then (redpenlaw07_TrieMore.l0 k t274 (rdOf ByteArray.empty t280 0) 0) else (none))))) else (some false)) = some r := H
 have A3 := Aside0.mk A30
 clear A30
 by_cases c4 : t273 = true
 ·subst c4
  have H1 : ((redpenlaw07_Sorted.f k l0).bind fun t274 => ((redpenlaw07_Sorted.f k (([a1] : List ByteArray))).bind fun t280 => (if (t280.length : Int) = 0 then (some true) else (if 0 < (t280.length : Int) then (redpenlaw07_TrieMore.l0 k t274 (rdOf ByteArray.empty t280 0) 0) else (none))))) = some r := by rw [if_pos rfl] at H; exact H
  clear H
  have H := H1
  clear H1
  replace H := Option.bind_eq_some_iff.mp H
  obtain ⟨t274, A50, H⟩ := H
  replace H : ((redpenlaw07_Sorted.f k (([a1] : List ByteArray))).bind fun t280 => (if (t280.length : Int) = 0 then (some true) else (if 0 < (t280.length : Int) then (redpenlaw07_TrieMore.l0 k t274 (rdOf ByteArray.empty t280 0) 0) else (none)))) = some r := H
  have A5 := Aside0.mk A50
  clear A50
  obtain ⟨y277, hy277⟩ : ∃ y_ : List ByteArray, y_ = (([a1] : List ByteArray)) := ⟨_, rfl⟩
  replace H : ((redpenlaw07_Sorted.f k y277).bind fun t280 => (if (t280.length : Int) = 0 then (some true) else (if 0 < (t280.length : Int) then (redpenlaw07_TrieMore.l0 k t274 (rdOf ByteArray.empty t280 0) 0) else (none)))) = some r := by first | (rw [hy277]; with_reducible exact H) | (have H2_ := (Option.bind_some _ _).symm.trans H; rw [hy277]; with_reducible exact H2_) | (have H2_ := (Option.bind_some _ _).symm.trans H; with_reducible exact H2_) | with_reducible exact H | (rw [hy277]; exact H) | exact H
  have Ny277 := Aside0.mk hy277
  clear hy277
  replace H := Option.bind_eq_some_iff.mp H
  obtain ⟨t280, A60, H⟩ := H
  replace H : (if (t280.length : Int) = 0 then (some true) else (if 0 < (t280.length : Int) then (redpenlaw07_TrieMore.l0 k t274 (rdOf ByteArray.empty t280 0) 0) else (none))) = some r := H
  have A6 := Aside0.mk A60
  clear A60
  by_cases c7 : (t280.length : Int) = 0
  ·rw [if_pos c7] at H
   have c7b0 : ((t280.length : Int) == 0) = true := beq_iff_eq.mpr c7
   have c7b1 : ((t280.length : Int) != 0) = false := bne_eq_false_iff_eq.mpr c7
   clear c7
   obtain rfl := Option.some.inj H
   go_enter Try.func12, Try.ntmps12
   go_wp2_with (first | ((with_reducible refine gate_callee (f := 14) rfl ?_); refine goesL_ (some 15) rfl rfl Try.func14 (by kernel_rfl) rfl #[] rfl (by (try simp only [List.map_toArray, List.map_cons, List.map_nil]); first | done | rfl | (simp only [List.length_drop, List.length_take]; rfl)) ?_; (with_reducible refine (redpenlaw07_Awake.calls k  true _ A3.out).mono ?_); rintro e w8 ⟨rfl, hb⟩; refine ⟨_, rfl, ?_⟩; have n0_ := Aside0.mk (below_step (by repeat (first | (with_reducible first | exact HB.out | apply below_alloc | apply pw_below_drewN | apply below_drew1) | exact HB.out)) hb); clear HB; have HB := n0_; clear n0_; (try clear hb); (try clear hb2); (try clear hk); (try clear hi)) | ((with_reducible refine gate_callee (f := 26) rfl ?_); refine goesL_ (some 18) rfl rfl Try.func26 (by kernel_rfl) rfl #[.slice A0 l0.length c0] rfl (by (try simp only [List.map_toArray, List.map_cons, List.map_nil]); first | done | rfl | (simp only [List.length_drop, List.length_take]; rfl)) ?_; (with_reducible refine (redpenlaw07_Sorted.calls k _ _ l0 t274 _ ?side1 ?side2 A5.out).mono ?_); (case side1 => repeat (first | exact (Kd.C_below HR0.out HB.out) | (with_reducible refine Kd.C_alloc ?_ _) | (with_reducible refine Kd.C_drewN ?_ _) | (with_reducible refine Kd.C_drew ?_))); (case side2 => exact HC0.out); rintro e w9 ⟨v275, rfl, ho0, hb⟩; refine ⟨_, rfl, ?_⟩; have n0_ := Aside0.mk (Kd.R_lower ho0 (below_size (by repeat (first | (with_reducible first | exact HB.out | apply below_alloc | apply pw_below_drewN | apply below_drew1) | exact HB.out)))); have n1_ := Aside0.mk (below_step (by repeat (first | (with_reducible first | exact HB.out | apply below_alloc | apply pw_below_drewN | apply below_drew1) | exact HB.out)) hb); clear HB; have HO276 := n0_; have HB := n1_; clear n0_ n1_; (try clear hb); (try clear hb2); (try clear hk); (try clear hi); (try clear ho0)) | ((with_reducible refine gate_dst (N := 20) rfl ?_); (try (refine gate_guard (by rfl) ?_; dsimp only)); refine Kd.R_lit Kd.string _ 9 ?hg (N := 20) ?hd (xs := ([a1] : List ByteArray)) (inner := [.string a1]) (ok := fun _ => True) (okp := fun _ => True) ?hr ?hp (fun _ hk => hk) trivial (Below.refl _ _) (Nat.le_refl _) (by simp) ?_; (case hd => rfl); (case hg => rfl); (case hr => first | (go_simp; done) | (go_simp; rfl)); (case hp => exact (Reps.one (show Kd.M Kd.string _ _ _ a1 [.string a1] from rfl) (Reps.none _ _))); intro v278 w10 ho11 hb hg_ hnew_; clear hg_ hnew_; (first | rw [← Ny277.out] at ho11 | (simp only [Int.reduceToNat] at ho11; rw [← Ny277.out] at ho11)); have n0_ := Aside0.mk (Kd.R_elder' (by (with_reducible repeat (first | apply Kd.R_alloc | apply Kd.R_drewN | apply Kd.R_drew)); exact HO276.out) (Kd.R_base ho11) hb); have n1_ := Aside0.mk (Kd.R_lower (Kd.R_new' ho11 (Kd.R_lt (by (with_reducible repeat (first | apply Kd.R_alloc | apply Kd.R_drewN | apply Kd.R_drew)); exact HO276.out))) (below_size (by repeat (first | (with_reducible first | exact HB.out | apply below_alloc | apply pw_below_drewN | apply below_drew1) | exact HB.out)))); have n2_ := Aside0.mk (below_step (by repeat (first | (with_reducible first | exact HB.out | apply below_alloc | apply pw_below_drewN | apply below_drew1) | exact HB.out)) hb); clear HO276; clear HB; have HO276 := n0_; have HO279 := n1_; have HB := n2_; clear n0_ n1_ n2_; clear hb ho11; obtain ⟨Ao12, co12, eo12⟩ := Kd.R_slice HO279.out; subst eo12) | ((with_reducible refine gate_callee (f := 26) rfl ?_); refine goesL_ (some 21) rfl rfl Try.func26 (by kernel_rfl) rfl #[.slice Ao12 y277.length co12] rfl (by (try simp only [List.map_toArray, List.map_cons, List.map_nil]); first | done | rfl | (simp only [List.length_drop, List.length_take]; rfl)) ?_; (with_reducible refine (redpenlaw07_Sorted.calls k _ _ y277 t280 _ ?side1 ?side2 A6.out).mono ?_); (case side1 => repeat (first | exact (Kd.R_reads' HO279.out).2.2 | (with_reducible refine Kd.C_alloc ?_ _) | (with_reducible refine Kd.C_drewN ?_ _) | (with_reducible refine Kd.C_drew ?_))); (case side2 => exact (Kd.R_reads' HO279.out).2.1); rintro e w13 ⟨v281, rfl, ho0, hb⟩; refine ⟨_, rfl, ?_⟩; have n0_ := Aside0.mk (Kd.R_elder' (by (with_reducible repeat (first | apply Kd.R_alloc | apply Kd.R_drewN | apply Kd.R_drew)); exact HO276.out) (Kd.R_base ho0) hb); have n1_ := Aside0.mk (Kd.R_elder' (by (with_reducible repeat (first | apply Kd.R_alloc | apply Kd.R_drewN | apply Kd.R_drew)); exact HO279.out) (Kd.R_base ho0) hb); have n2_ := Aside0.mk (Kd.R_lower (Kd.R_new' (Kd.R_new' ho0 (Kd.R_lt (by (with_reducible repeat (first | apply Kd.R_alloc | apply Kd.R_drewN | apply Kd.R_drew)); exact HO276.out))) (Kd.R_lt (by (with_reducible repeat (first | apply Kd.R_alloc | apply Kd.R_drewN | apply Kd.R_drew)); exact HO279.out))) (below_size (by repeat (first | (with_reducible first | exact HB.out | apply below_alloc | apply pw_below_drewN | apply below_drew1) | exact HB.out)))); have n3_ := Aside0.mk (below_step (by repeat (first | (with_reducible first | exact HB.out | apply below_alloc | apply pw_below_drewN | apply below_drew1) | exact HB.out)) hb); clear HO276; clear HO279; clear HB; have HO276 := n0_; have HO279 := n1_; have HO282 := n2_; have HB := n3_; clear n0_ n1_ n2_ n3_; (try clear hb); (try clear hb2); (try clear hk); (try clear hi); (try clear ho0); obtain ⟨Ao14, co14, eo14⟩ := Kd.R_slice HO282.out; subst eo14))
   go_ret
   exact ⟨by first | rfl | (simp [errW_none, errW_some] <;> rfl) | (simp [*, errW_none, errW_some] <;> rfl), by repeat (first | (with_reducible first | exact HB.out | apply below_alloc | apply pw_below_drewN | apply below_drew1) | exact HB.out)⟩
  ·rw [if_neg c7] at H
   have c7b0 : ((t280.length : Int) == 0) = false := beq_eq_false_iff_ne.mpr c7
   have c7b1 : ((t280.length : Int) != 0) = true := bne_iff_ne.mpr c7
   have c7b2 : ¬ (t280 = []) := fun h_ => c7 (by rw [h_]; rfl)
   by_cases c15 : 0 < (t280.length : Int)
   ·rw [if_pos c15] at H
    have c15b0 : decide (0 < (t280.length : Int)) = true := decide_eq_true c15
    have c15b1 : decide (0 < t280.length) = true := decide_eq_true (by omega)
    clear c15
    have HC16 := Aside0.mk H
    clear H
    go_enter Try.func12, Try.ntmps12
    go_upto_block 0 with (first | ((with_reducible refine gate_callee (f := 14) rfl ?_); refine goesL_ (some 15) rfl rfl Try.func14 (by kernel_rfl) rfl #[] rfl (by (try simp only [List.map_toArray, List.map_cons, List.map_nil]); first | done | rfl | (simp only [List.length_drop, List.length_take]; rfl)) ?_; (with_reducible refine (redpenlaw07_Awake.calls k  true _ A3.out).mono ?_); rintro e w17 ⟨rfl, hb⟩; refine ⟨_, rfl, ?_⟩; have n0_ := Aside0.mk (below_step (by repeat (first | (with_reducible first | exact HB.out | apply below_alloc | apply pw_below_drewN | apply below_drew1) | exact HB.out)) hb); clear HB; have HB := n0_; clear n0_; (try clear hb); (try clear hb2); (try clear hk); (try clear hi)) | ((with_reducible refine gate_callee (f := 26) rfl ?_); refine goesL_ (some 18) rfl rfl Try.func26 (by kernel_rfl) rfl #[.slice A0 l0.length c0] rfl (by (try simp only [List.map_toArray, List.map_cons, List.map_nil]); first | done | rfl | (simp only [List.length_drop, List.length_take]; rfl)) ?_; (with_reducible refine (redpenlaw07_Sorted.calls k _ _ l0 t274 _ ?side1 ?side2 A5.out).mono ?_); (case side1 => repeat (first | exact (Kd.C_below HR0.out HB.out) | (with_reducible refine Kd.C_alloc ?_ _) | (with_reducible refine Kd.C_drewN ?_ _) | (with_reducible refine Kd.C_drew ?_))); (case side2 => exact HC0.out); rintro e w18 ⟨v275, rfl, ho0, hb⟩; refine ⟨_, rfl, ?_⟩; have n0_ := Aside0.mk (Kd.R_lower ho0 (below_size (by repeat (first | (with_reducible first | exact HB.out | apply below_alloc | apply pw_below_drewN | apply below_drew1) | exact HB.out)))); have n1_ := Aside0.mk (below_step (by repeat (first | (with_reducible first | exact HB.out | apply below_alloc | apply pw_below_drewN | apply below_drew1) | exact HB.out)) hb); clear HB; have HO276 := n0_; have HB := n1_; clear n0_ n1_; (try clear hb); (try clear hb2); (try clear hk); (try clear hi); (try clear ho0)) | ((with_reducible refine gate_dst (N := 20) rfl ?_); (try (refine gate_guard (by rfl) ?_; dsimp only)); refine Kd.R_lit Kd.string _ 9 ?hg (N := 20) ?hd (xs := ([a1] : List ByteArray)) (inner := [.string a1]) (ok := fun _ => True) (okp := fun _ => True) ?hr ?hp (fun _ hk => hk) trivial (Below.refl _ _) (Nat.le_refl _) (by simp) ?_; (case hd => rfl); (case hg => rfl); (case hr => first | (go_simp; done) | (go_simp; rfl)); (case hp => exact (Reps.one (show Kd.M Kd.string _ _ _ a1 [.string a1] from rfl) (Reps.none _ _))); intro v278 w19 ho20 hb hg_ hnew_; clear hg_ hnew_; (first | rw [← Ny277.out] at ho20 | (simp only [Int.reduceToNat] at ho20; rw [← Ny277.out] at ho20)); have n0_ := Aside0.mk (Kd.R_elder' (by (with_reducible repeat (first | apply Kd.R_alloc | apply Kd.R_drewN | apply Kd.R_drew)); exact HO276.out) (Kd.R_base ho20) hb); have n1_ := Aside0.mk (Kd.R_lower (Kd.R_new' ho20 (Kd.R_lt (by (with_reducible repeat (first | apply Kd.R_alloc | apply Kd.R_drewN | apply Kd.R_drew)); exact HO276.out))) (below_size (by repeat (first | (with_reducible first | exact HB.out | apply below_alloc | apply pw_below_drewN | apply below_drew1) | exact HB.out)))); have n2_ := Aside0.mk (below_step (by repeat (first | (with_reducible first | exact HB.out | apply below_alloc | apply pw_below_drewN | apply below_drew1) | exact HB.out)) hb); clear HO276; clear HB; have HO276 := n0_; have HO279 := n1_; have HB := n2_; clear n0_ n1_ n2_; clear hb ho20; obtain ⟨Ao21, co21, eo21⟩ := Kd.R_slice HO279.out; subst eo21) | ((with_reducible refine gate_callee (f := 26) rfl ?_); refine goesL_ (some 21) rfl rfl Try.func26 (by kernel_rfl) rfl #[.slice Ao21 y277.length co21] rfl (by (try simp only [List.map_toArray, List.map_cons, List.map_nil]); first | done | rfl | (simp only [List.length_drop, List.length_take]; rfl)) ?_; (with_reducible refine (redpenlaw07_Sorted.calls k _ _ y277 t280 _ ?side1 ?side2 A6.out).mono ?_); (case side1 => repeat (first | exact (Kd.R_reads' HO279.out).2.2 | (with_reducible refine Kd.C_alloc ?_ _) | (with_reducible refine Kd.C_drewN ?_ _) | (with_reducible refine Kd.C_drew ?_))); (case side2 => exact (Kd.R_reads' HO279.out).2.1); rintro e w22 ⟨v281, rfl, ho0, hb⟩; refine ⟨_, rfl, ?_⟩; have n0_ := Aside0.mk (Kd.R_elder' (by (with_reducible repeat (first | apply Kd.R_alloc | apply Kd.R_drewN | apply Kd.R_drew)); exact HO276.out) (Kd.R_base ho0) hb); have n1_ := Aside0.mk (Kd.R_elder' (by (with_reducible repeat (first | apply Kd.R_alloc | apply Kd.R_drewN | apply Kd.R_drew)); exact HO279.out) (Kd.R_base ho0) hb); have n2_ := Aside0.mk (Kd.R_lower (Kd.R_new' (Kd.R_new' ho0 (Kd.R_lt (by (with_reducible repeat (first | apply Kd.R_alloc | apply Kd.R_drewN | apply Kd.R_drew)); exact HO276.out))) (Kd.R_lt (by (with_reducible repeat (first | apply Kd.R_alloc | apply Kd.R_drewN | apply Kd.R_drew)); exact HO279.out))) (below_size (by repeat (first | (with_reducible first | exact HB.out | apply below_alloc | apply pw_below_drewN | apply below_drew1) | exact HB.out)))); have n3_ := Aside0.mk (below_step (by repeat (first | (with_reducible first | exact HB.out | apply below_alloc | apply pw_below_drewN | apply below_drew1) | exact HB.out)) hb); clear HO276; clear HO279; clear HB; have HO276 := n0_; have HO279 := n1_; have HO282 := n2_; have HB := n3_; clear n0_ n1_ n2_ n3_; (try clear hb); (try clear hb2); (try clear hk); (try clear hi); (try clear ho0); obtain ⟨Ao23, co23, eo23⟩ := Kd.R_slice HO282.out; subst eo23; have p283 : 0 ≤ (0 : Int) := (by omega); have q283 : 0 < (t280.length : Int) := of_decide_eq_true (by first | (with_reducible assumption) | assumption); obtain ⟨ad283, e283, hx283_0⟩ := Kd.at_string (Kd.R_reads' HO282.out).2.2 0 p283 q283; cases e283; have qi283 : (0 < t280.length) = True := eq_true (by omega); (try rw [show ((0 : Int)).toNat = 0 from rfl] at hx283_0); (try rw [Addr.add_zero'] at hx283_0); replace p283 := eq_true p283; replace q283 := eq_true q283))
    (try simp only [Act.put, List.setIfInBounds_toArray, List.set_cons_zero, List.set_cons_succ])
    go_cut [7] (fun v7 wc => ∃ (kq : Nat) (x7_15 : Int), v7 = .int .i64 x7_15 ∧ Aside0 (redpenlaw07_TrieMore.j1 kq t274 (rdOf ByteArray.empty t280 0) x7_15 = some r) ∧ Aside0 (kq ≤ k) ∧ Aside0 (Kd.R Kd.string 9 wc w.heap.size (fun _ => True) v275 t274) ∧ Aside0 (Below w.heap.size w wc))
    case first =>
     have H := HC16.out
     clear HC16
     have H' := Aside0.mk H
     clear H
     go_wp2
     go_loopg [7] k (fun kq v7 w' => ∃ (x7_1 : Int), v7 = .int .i64 x7_1 ∧ Aside0 (redpenlaw07_TrieMore.l0 kq t274 (rdOf ByteArray.empty t280 0) x7_1 = some r) ∧ Aside0 (kq ≤ k) ∧ Aside0 (Kd.R Kd.string 9 w' w.heap.size (fun _ => True) v275 t274) ∧ Aside0 (Below w.heap.size w w'))
     case atStart => exact ⟨(0), (by first | rfl | (simp; done) | (simp [*]; done) | (simp [wrap64, wrap32]; done)), H', ⟨Nat.le_refl _⟩, ⟨by (with_reducible repeat (first | apply Kd.R_alloc | apply Kd.R_drewN | apply Kd.R_drew)); exact Kd.R_mono HO276.out (fun _ hk => trivial)⟩, ⟨by repeat (first | (with_reducible first | exact HB.out | apply below_alloc | apply pw_below_drewN | apply below_drew1) | exact HB.out)⟩⟩
     case round =>
      clear H'
      try clear c1
      try clear c2
      try clear p2
      try clear q2
      try clear hx2
      try clear qi2
      try clear c4
      try clear c7
      try clear c7b0
      try clear c7b1
      try clear c7b2
      try clear c12
      try clear c14
      try clear c15
      try clear c15b0
      try clear c15b1
      try clear hx283_0
      try clear p283
      try clear q283
      obtain ⟨x7_1, rfl, HA, HK1, HO_0, HB⟩ := hrel
      cases gk with
      | zero => exact absurd HA.out (by simp [redpenlaw07_TrieMore.l0])
      | succ k1 =>
       have H := HA.out
       clear HA
       simp only [redpenlaw07_TrieMore.l0] at H
       by_cases c24 : x7_1 < (t274.length : Int)
       ·rw [if_pos c24] at H
        have c24b0 : decide (x7_1 < (t274.length : Int)) = true := decide_eq_true c24
        clear c24
        (first | rw [c24b0] | (simp only [i64_w, i32_w]; rw [c24b0]) | skip)
        by_cases c25 : 0 ≤ x7_1
        ·rw [if_pos c25] at H
         have c25b0 : decide (0 ≤ x7_1) = true := decide_eq_true c25
         clear c25
         by_cases c26 : (Op.bytesLess ((rdOf ByteArray.empty t274 x7_1).toList) (rdOf ByteArray.empty t280 0).toList) = true
         ·rw [if_pos c26] at H
          have c26b0 : (Op.bytesLess ((rdOf ByteArray.empty t274 x7_1).toList) (rdOf ByteArray.empty t280 0).toList) = true := c26
          clear c26
          have H' := Aside0.mk H
          clear H
          obtain ⟨Ao27, co27, eo27⟩ := Kd.R_slice HO_0.out
          subst eo27
          have p284 : 0 ≤ (x7_1 : Int) := of_decide_eq_true (by first | (with_reducible assumption) | assumption)
          have q284 : x7_1 < (t274.length : Int) := of_decide_eq_true (by first | (with_reducible assumption) | assumption)
          obtain ⟨ad284, e284, hx284_0⟩ := Kd.at_string (Kd.R_reads' HO_0.out).2.2 x7_1 p284 q284
          cases e284
          replace p284 := eq_true p284
          replace q284 := eq_true q284
          go_wp2
          go_roundg k1
          case measure => have := HK1.out; omega
          case rel => exact ⟨(wrap64 (x7_1 + 1)), (by first | rfl | (simp; done) | (simp [*]; done) | (simp [wrap64, wrap32]; done)), H', ⟨by have := HK1.out; omega⟩, ⟨by (with_reducible repeat (first | apply Kd.R_alloc | apply Kd.R_drewN | apply Kd.R_drew)); exact HO_0.out⟩, ⟨by repeat (first | (with_reducible first | exact HB.out | apply below_alloc | apply pw_below_drewN | apply below_drew1) | exact HB.out)⟩⟩
         ·rw [if_neg c26] at H
          have c26b0 : (Op.bytesLess ((rdOf ByteArray.empty t274 x7_1).toList) (rdOf ByteArray.empty t280 0).toList) = false := by simpa using c26
          clear c26
          have H' := Aside0.mk H
          clear H
          obtain ⟨Ao28, co28, eo28⟩ := Kd.R_slice HO_0.out
          subst eo28
          have p284 : 0 ≤ (x7_1 : Int) := of_decide_eq_true (by first | (with_reducible assumption) | assumption)
          have q284 : x7_1 < (t274.length : Int) := of_decide_eq_true (by first | (with_reducible assumption) | assumption)
          obtain ⟨ad284, e284, hx284_0⟩ := Kd.at_string (Kd.R_reads' HO_0.out).2.2 x7_1 p284 q284
          cases e284
          replace p284 := eq_true p284
          replace q284 := eq_true q284
          go_wp2
          go_meet
          case rel => exact ⟨_, (x7_1), (by first | rfl | (simp; done) | (simp [*]; done) | (simp [wrap64, wrap32]; done)), H', ⟨by have := HK1.out; first | omega | exact Nat.le_refl _⟩, ⟨by (with_reducible repeat (first | apply Kd.R_alloc | apply Kd.R_drewN | apply Kd.R_drew)); exact HO_0.out⟩, ⟨by repeat (first | (with_reducible first | exact HB.out | apply below_alloc | apply pw_below_drewN | apply below_drew1) | exact HB.out)⟩⟩
        ·rw [if_neg c25] at H
         exact absurd H (by simp)
       ·rw [if_neg c24] at H
        have c24b0 : decide (x7_1 < (t274.length : Int)) = false := decide_eq_false c24
        clear c24
        (first | rw [c24b0] | (simp only [i64_w, i32_w]; rw [c24b0]) | skip)
        have H' := Aside0.mk H
        clear H
        obtain ⟨Ao29, co29, eo29⟩ := Kd.R_slice HO_0.out
        subst eo29
        go_wp2
        go_meet
        case rel => exact ⟨_, (x7_1), (by first | rfl | (simp; done) | (simp [*]; done) | (simp [wrap64, wrap32]; done)), H', ⟨by have := HK1.out; first | omega | exact Nat.le_refl _⟩, ⟨by (with_reducible repeat (first | apply Kd.R_alloc | apply Kd.R_drewN | apply Kd.R_drew)); exact HO_0.out⟩, ⟨by repeat (first | (with_reducible first | exact HB.out | apply below_alloc | apply pw_below_drewN | apply below_drew1) | exact HB.out)⟩⟩
    case rest =>
     clear HC16
     try clear c1
     try clear c2
     try clear p2
     try clear q2
     try clear hx2
     try clear qi2
     try clear c4
     try clear p6
     try clear c7
     try clear c7b0
     try clear c7b1
     try clear c7b2
     try clear c12
     try clear c14
     try clear c15
     try clear c15b0
     try clear c15b1
     try clear c24
     try clear c24b0
     try clear c25
     try clear c25b0
     try clear c26
     try clear c26b0
     try clear p28
     try clear q28
     try clear hx28
     try clear qi28
     try clear hx283_0
     try clear hx284_0
     try clear p2
     try clear p283
     try clear p284
     try clear q2
     try clear q283
     try clear q284
     obtain ⟨kq, x7_15, rfl, HA, HJ15, HO_0, HB⟩ := hcut
     cases kq with
     | zero => exact absurd HA.out (by simp [redpenlaw07_TrieMore.j1])
     | succ kj15 =>
      have H := HA.out
      clear HA
      simp only [redpenlaw07_TrieMore.j1] at H
      obtain ⟨y285, hy285⟩ : ∃ y_ : List ByteArray, y_ = (([] : List ByteArray)) := ⟨_, rfl⟩
      replace H : (if 0 ≤ x7_15 then (if x7_15 ≤ (t274.length : Int) then ((some (t274.take (x7_15 : Int).toNat : List ByteArray)).bind fun y288 => (if y285.length + y288.length < 8796093022208 then ((some (y285 ++ y288 : List ByteArray)).bind fun y292 => ((some (([(rdOf ByteArray.empty t280 0)] : List ByteArray) : List ByteArray)).bind fun y295 => (if y292.length + y295.length < 8796093022208 then ((some (y292 ++ y295 : List ByteArray)).bind fun y298 => ((some (t274.drop (x7_15 : Int).toNat : List ByteArray)).bind fun y301 => (if y298.length + y301.length < 8796093022208 then ((some (y298 ++ y301 : List ByteArray)).bind fun y305 => ((trie_Make.f kj15 t274).bind fun bt308 => (if x7_15 < (t274.length : Int) then (redpenlaw07_TrieMore.j2 kj15 t274 (rdOf ByteArray.empty t280 0) y305 bt308.1 bt308.2 ((rdOf ByteArray.empty t274 x7_15).toList == (rdOf ByteArray.empty t280 0).toList)) else (redpenlaw07_TrieMore.j2 kj15 t274 (rdOf ByteArray.empty t280 0) y305 bt308.1 bt308.2 false)))) else (none)))) else (none)))) else (none))) else (none)) else (none)) = some r := by first | (rw [hy285]; with_reducible exact H) | (have H2_ := (Option.bind_some _ _).symm.trans H; rw [hy285]; with_reducible exact H2_) | (have H2_ := (Option.bind_some _ _).symm.trans H; with_reducible exact H2_) | with_reducible exact H | (rw [hy285]; exact H) | exact H
      have Ny285 := Aside0.mk hy285
      clear hy285
      by_cases c30 : 0 ≤ x7_15
      ·rw [if_pos c30] at H
       have c30b0 := eq_true c30
       have c30b1 : decide (0 ≤ x7_15) = true := decide_eq_true c30
       clear c30
       by_cases c31 : x7_15 ≤ (t274.length : Int)
       ·rw [if_pos c31] at H
        have c31b0 := eq_true c31
        have c31b1 : decide (x7_15 ≤ (t274.length : Int)) = true := decide_eq_true c31
        clear c31
        obtain ⟨y288, hy288⟩ : ∃ y_ : List ByteArray, y_ = (t274.take (x7_15 : Int).toNat) := ⟨_, rfl⟩
        replace H : (if y285.length + y288.length < 8796093022208 then ((some (y285 ++ y288 : List ByteArray)).bind fun y292 => ((some (([(rdOf ByteArray.empty t280 0)] : List ByteArray) : List ByteArray)).bind fun y295 => (if y292.length + y295.length < 8796093022208 then ((some (y292 ++ y295 : List ByteArray)).bind fun y298 => ((some (t274.drop (x7_15 : Int).toNat : List ByteArray)).bind fun y301 => (if y298.length + y301.length < 8796093022208 then ((some (y298 ++ y301 : List ByteArray)).bind fun y305 => ((trie_Make.f kj15 t274).bind fun bt308 => (if x7_15 < (t274.length : Int) then (redpenlaw07_TrieMore.j2 kj15 t274 (rdOf ByteArray.empty t280 0) y305 bt308.1 bt308.2 ((rdOf ByteArray.empty t274 x7_15).toList == (rdOf ByteArray.empty t280 0).toList)) else (redpenlaw07_TrieMore.j2 kj15 t274 (rdOf ByteArray.empty t280 0) y305 bt308.1 bt308.2 false)))) else (none)))) else (none)))) else (none)) = some r := by first | (rw [hy288]; with_reducible exact H) | (have H2_ := (Option.bind_some _ _).symm.trans H; rw [hy288]; with_reducible exact H2_) | (have H2_ := (Option.bind_some _ _).symm.trans H; with_reducible exact H2_) | with_reducible exact H | (rw [hy288]; exact H) | exact H
        have Ny288 := Aside0.mk hy288
        clear hy288
        by_cases c32 : y285.length + y288.length < 8796093022208
        ·rw [if_pos c32] at H
         have LMc32 := Aside0.mk c32
         clear c32
         obtain ⟨y292, hy292⟩ : ∃ y_ : List ByteArray, y_ = (y285 ++ y288) := ⟨_, rfl⟩
         replace H : ((some (([(rdOf ByteArray.empty t280 0)] : List ByteArray) : List ByteArray)).bind fun y295 => (if y292.length + y295.length < 8796093022208 then ((some (y292 ++ y295 : List ByteArray)).bind fun y298 => ((some (t274.drop (x7_15 : Int).toNat : List ByteArray)).bind fun y301 => (if y298.length + y301.length < 8796093022208 then ((some (y298 ++ y301 : List ByteArray)).bind fun y305 => ((trie_Make.f kj15 t274).bind fun bt308 => (if x7_15 < (t274.length : Int) then (redpenlaw07_TrieMore.j2 kj15 t274 (rdOf ByteArray.empty t280 0) y305 bt308.1 bt308.2 ((rdOf ByteArray.empty t274 x7_15).toList == (rdOf ByteArray.empty t280 0).toList)) else (redpenlaw07_TrieMore.j2 kj15 t274 (rdOf ByteArray.empty t280 0) y305 bt308.1 bt308.2 false)))) else (none)))) else (none))) = some r := by first | (rw [hy292]; with_reducible exact H) | (have H2_ := (Option.bind_some _ _).symm.trans H; rw [hy292]; with_reducible exact H2_) | (have H2_ := (Option.bind_some _ _).symm.trans H; with_reducible exact H2_) | with_reducible exact H | (rw [hy292]; exact H) | exact H
         have Ny292 := Aside0.mk hy292
         clear hy292
         obtain ⟨y295, hy295⟩ : ∃ y_ : List ByteArray, y_ = (([(rdOf ByteArray.empty t280 0)] : List ByteArray)) := ⟨_, rfl⟩
         replace H : (if y292.length + y295.length < 8796093022208 then ((some (y292 ++ y295 : List ByteArray)).bind fun y298 => ((some (t274.drop (x7_15 : Int).toNat : List ByteArray)).bind fun y301 => (if y298.length + y301.length < 8796093022208 then ((some (y298 ++ y301 : List ByteArray)).bind fun y305 => ((trie_Make.f kj15 t274).bind fun bt308 => (if x7_15 < (t274.length : Int) then (redpenlaw07_TrieMore.j2 kj15 t274 (rdOf ByteArray.empty t280 0) y305 bt308.1 bt308.2 ((rdOf ByteArray.empty t274 x7_15).toList == (rdOf ByteArray.empty t280 0).toList)) else (redpenlaw07_TrieMore.j2 kj15 t274 (rdOf ByteArray.empty t280 0) y305 bt308.1 bt308.2 false)))) else (none)))) else (none)) = some r := by first | (rw [hy295]; with_reducible exact H) | (have H2_ := (Option.bind_some _ _).symm.trans H; rw [hy295]; with_reducible exact H2_) | (have H2_ := (Option.bind_some _ _).symm.trans H; with_reducible exact H2_) | with_reducible exact H | (rw [hy295]; exact H) | exact H
         have Ny295 := Aside0.mk hy295
         clear hy295
         by_cases c33 : y292.length + y295.length < 8796093022208
         ·rw [if_pos c33] at H
          have LMc33 := Aside0.mk c33
          clear c33
          obtain ⟨y298, hy298⟩ : ∃ y_ : List ByteArray, y_ = (y292 ++ y295) := ⟨_, rfl⟩
          replace H : ((some (t274.drop (x7_15 : Int).toNat : List ByteArray)).bind fun y301 => (if y298.length + y301.length < 8796093022208 then ((some (y298 ++ y301 : List ByteArray)).bind fun y305 => ((trie_Make.f kj15 t274).bind fun bt308 => (if x7_15 < (t274.length : Int) then (redpenlaw07_TrieMore.j2 kj15 t274 (rdOf ByteArray.empty t280 0) y305 bt308.1 bt308.2 ((rdOf ByteArray.empty t274 x7_15).toList == (rdOf ByteArray.empty t280 0).toList)) else (redpenlaw07_TrieMore.j2 kj15 t274 (rdOf ByteArray.empty t280 0) y305 bt308.1 bt308.2 false)))) else (none))) = some r := by first | (rw [hy298]; with_reducible exact H) | (have H2_ := (Option.bind_some _ _).symm.trans H; rw [hy298]; with_reducible exact H2_) | (have H2_ := (Option.bind_some _ _).symm.trans H; with_reducible exact H2_) | with_reducible exact H | (rw [hy298]; exact H) | exact H
          have Ny298 := Aside0.mk hy298
          clear hy298
          have c34b0 := eq_true (of_decide_eq_true (by first | (with_reducible assumption) | assumption) : 0 ≤ x7_15)
          have c35b0 := eq_true (of_decide_eq_true (by first | (with_reducible assumption) | assumption) : x7_15 ≤ (t274.length : Int))
          obtain ⟨y301, hy301⟩ : ∃ y_ : List ByteArray, y_ = (t274.drop (x7_15 : Int).toNat) := ⟨_, rfl⟩
          replace H : (if y298.length + y301.length < 8796093022208 then ((some (y298 ++ y301 : List ByteArray)).bind fun y305 => ((trie_Make.f kj15 t274).bind fun bt308 => (if x7_15 < (t274.length : Int) then (redpenlaw07_TrieMore.j2 kj15 t274 (rdOf ByteArray.empty t280 0) y305 bt308.1 bt308.2 ((rdOf ByteArray.empty t274 x7_15).toList == (rdOf ByteArray.empty t280 0).toList)) else (redpenlaw07_TrieMore.j2 kj15 t274 (rdOf ByteArray.empty t280 0) y305 bt308.1 bt308.2 false)))) else (none)) = some r := by first | (rw [hy301]; with_reducible exact H) | (have H2_ := (Option.bind_some _ _).symm.trans H; rw [hy301]; with_reducible exact H2_) | (have H2_ := (Option.bind_some _ _).symm.trans H; with_reducible exact H2_) | with_reducible exact H | (rw [hy301]; exact H) | exact H
          have Ny301 := Aside0.mk hy301
          clear hy301
          by_cases c36 : y298.length + y301.length < 8796093022208
          ·rw [if_pos c36] at H
           have LMc36 := Aside0.mk c36
           clear c36
           obtain ⟨y305, hy305⟩ : ∃ y_ : List ByteArray, y_ = (y298 ++ y301) := ⟨_, rfl⟩
           replace H : ((trie_Make.f kj15 t274).bind fun bt308 => (if x7_15 < (t274.length : Int) then (redpenlaw07_TrieMore.j2 kj15 t274 (rdOf ByteArray.empty t280 0) y305 bt308.1 bt308.2 ((rdOf ByteArray.empty t274 x7_15).toList == (rdOf ByteArray.empty t280 0).toList)) else (redpenlaw07_TrieMore.j2 kj15 t274 (rdOf ByteArray.empty t280 0) y305 bt308.1 bt308.2 false))) = some r := by first | (rw [hy305]; with_reducible exact H) | (have H2_ := (Option.bind_some _ _).symm.trans H; rw [hy305]; with_reducible exact H2_) | (have H2_ := (Option.bind_some _ _).symm.trans H; with_reducible exact H2_) | with_reducible exact H | (rw [hy305]; exact H) | exact H
           have Ny305 := Aside0.mk hy305
           clear hy305
           replace H := Option.bind_eq_some_iff.mp H
           obtain ⟨⟨t308, t311⟩, A370, H⟩ := H
           replace H : (if x7_15 < (t274.length : Int) then (redpenlaw07_TrieMore.j2 kj15 t274 (rdOf ByteArray.empty t280 0) y305 t308 t311 ((rdOf ByteArray.empty t274 x7_15).toList == (rdOf ByteArray.empty t280 0).toList)) else (redpenlaw07_TrieMore.j2 kj15 t274 (rdOf ByteArray.empty t280 0) y305 t308 t311 false)) = some r := H
           have A37 := Aside0.mk A370
           clear A370
           have HC38 := Aside0.mk H
           clear H
           try go_wp2
           have n0_ := Aside0.mk (Kd.R_drew HO_0.out)
           have n1_ := Aside0.mk (below_drew1 HB.out)
           clear HO_0
           clear HB
           have HO_0 := n0_
           have HB := n1_
           clear n0_ n1_
           obtain ⟨Ao41, co41, eo41⟩ := Kd.R_slice HO_0.out
           (first | subst eo41 | (injection eo41 with f1_ f2_ f3_; have f4_ := f1_.symm; have f5_ := f3_.symm; clear f1_ f2_ f3_; subst f4_; subst f5_))
           have q40 : (x7_15 : Int) ≤ ((t274.length : Int) : Int) := of_decide_eq_true (by first | (with_reducible assumption) | assumption)
           obtain ⟨i040, hi040, _, hsz40, _⟩ := info_parts info9
           have hroom40 : t274.length ≤ co41 := (Kd.R_reads' HO_0.out).2.1
           have hC40 : Kd.C Kd.string _ Ao41 t274.length t274 := (Kd.R_reads' HO_0.out).2.2
           have hcut40 := cut_to (P := Try.prog) 29 9 .i64 Try.underlying29 hi040 Ao41 t274.length co41 x7_15 (of_decide_eq_true (by first | (with_reducible assumption) | assumption)) q40 hroom40
           have hr40 := Kd.C_take (m := (x7_15 : Int).toNat) hC40 (by omega)
           have hy40 : y288.length = (x7_15 : Int).toNat := (by rw [Ny288.out, List.length_take]; omega)
           rw [← Ny288.out] at hr40
           rw [← hy40] at hcut40
           have HR291 := Aside0.mk hr40
           have HC291 := Aside0.mk (show y288.length ≤ co41 from by omega)
           clear hr40 hC40 hroom40 hi040 hsz40
           have KY40 := Aside0.mk hy40
           clear hy40
           have KL40 := Aside0.mk (show (x7_15 : Int).toNat ≤ t274.length from by omega)
           replace q40 := eq_true q40
           have q42 : (x7_15 : Int) ≤ ((t274.length : Int) : Int) := of_decide_eq_true (by first | (with_reducible assumption) | assumption)
           obtain ⟨i042, hi042, _, hsz42, _⟩ := info_parts info9
           have hroom42 : t274.length ≤ co41 := (Kd.R_reads' HO_0.out).2.1
           have hC42 : Kd.C Kd.string _ Ao41 t274.length t274 := (Kd.R_reads' HO_0.out).2.2
           have q042 : (0 : Int) ≤ (x7_15 : Int) := of_decide_eq_true (by first | (with_reducible assumption) | assumption)
           have hcut42 := cut_from (P := Try.prog) 29 9 .i64 Try.underlying29 hi042 1 hsz42 Ao41 t274.length co41 x7_15 q042 q42
           have hr42 := Kd.C_drop (m := (x7_15 : Int).toNat) (c := co41) hC42 (by omega) hroom42
           obtain ⟨A42, hA42⟩ : ∃ A1z_, A1z_ = (if co41 = (x7_15 : Int).toNat then Ao41 else (Ao41 : Option Addr).map (·.add ((x7_15 : Int).toNat * 1))) := ⟨_, rfl⟩
           obtain ⟨c42, hc42⟩ : ∃ c1z_, c1z_ = co41 - (x7_15 : Int).toNat := ⟨_, rfl⟩
           have hy42 : y301.length = t274.length - (x7_15 : Int).toNat := (by rw [Ny301.out, List.length_drop] <;> omega)
           rw [show (t274).drop (x7_15 : Int).toNat = y301 from Ny301.out.symm] at hr42
           replace hr42 : Kd.C Kd.string _ A42 y301.length y301 := (by rw [hA42]; exact hr42)
           rw [← hy42, ← hA42, ← hc42] at hcut42
           have HR304 := Aside0.mk hr42
           have HC304 := Aside0.mk (show y301.length ≤ c42 from by rw [hy42, hc42]; exact Nat.sub_le_sub_right hroom42 _)
           clear hr42 hC42 hroom42 hi042 hsz42 hc42
           have KY42 := Aside0.mk hy42
           have KA42 := Aside0.mk hA42
           clear hy42 hA42
           have KL42 := Aside0.mk (show (x7_15 : Int).toNat ≤ t274.length from by omega)
           replace q42 := eq_true q42
           refine start_ (n := 13) (S := fun w' => True) (ds := []) #[false, false, false, false, false, false, false, false, false, false, false, false, false] (by kernel_rfl) rfl rfl trivial (fun hHeld => ?_); refine with_tabW redpenlaw07_TrieMore.tab11 redpenlaw07_TrieMore.bits11 (fun HT_ HW_ => ?_)
           generalize wc.drew = w39 at HO_0 HB HR291 HR304 hHeld ⊢
           refine pure_ (i := 1) (N := some 43) (v := ?_) (a' := ?_) #[false, true, false, false, false, false, false, false, false, false, false, false, false] rfl rfl (any_of HT_.out (by kernel_rfl)) (fun _ _ _ h => h) (Or.inl ⟨by rfl, ?_⟩) ?_ ?_
           rotate_left
           ·intro w'
            go_simp
            with_reducible rfl
           rotate_left
           ·simp only [Act.put, List.setIfInBounds_toArray, List.set_cons_zero, List.set_cons_succ, i64_w, i32_w]
            rfl
           refine pure_ (i := 2) (N := some 44) (v := ?_) (a' := ?_) #[false, true, true, false, false, false, false, false, false, false, false, false, false] rfl rfl (any_of HT_.out (by kernel_rfl)) (fun _ _ _ h => h) (Or.inl ⟨by rfl, ?_⟩) ?_ ?_
           rotate_left
           ·intro w'
            go_simp
            with_reducible rfl
           rotate_left
           ·simp only [Act.put, List.setIfInBounds_toArray, List.set_cons_zero, List.set_cons_succ, i64_w, i32_w]
            rfl
           refine pure_ (i := 3) (N := some 45) (v := ?_) (a' := ?_) #[false, true, true, true, false, false, false, false, false, false, false, false, false] rfl rfl (any_of HT_.out (by kernel_rfl)) (fun _ _ _ h => h) (Or.inl ⟨by rfl, ?_⟩) ?_ ?_
           rotate_left
           ·intro w'
            go_simp
            with_reducible rfl
           rotate_left
           ·simp only [Act.put, List.setIfInBounds_toArray, List.set_cons_zero, List.set_cons_succ, i64_w, i32_w]
            rfl
           refine pure_ (i := 5) (N := some 47) (v := ?_) (a' := ?_) #[false, true, true, true, false, true, false, false, false, false, false, false, false] rfl rfl (any_of HT_.out (by kernel_rfl)) (fun _ _ _ h => h) (Or.inl ⟨by rfl, ?_⟩) ?_ ?_
           rotate_left
           ·intro w'
            go_simp
            with_reducible rfl
           rotate_left
           ·simp only [Act.put, List.setIfInBounds_toArray, List.set_cons_zero, List.set_cons_succ, i64_w, i32_w]
            rfl
           refine pure_ (i := 8) (N := some 50) (v := ?_) (a' := ?_) #[false, true, true, true, false, true, false, false, true, false, false, false, false] rfl rfl (any_of HT_.out (by kernel_rfl)) (fun _ _ _ h => h) (Or.inl ⟨by rfl, ?_⟩) ?_ ?_
           rotate_left
           ·intro w'
            go_simp
            with_reducible rfl
           rotate_left
           ·simp only [Act.put, List.setIfInBounds_toArray, List.set_cons_zero, List.set_cons_succ, i64_w, i32_w]
            rfl
           refine pure_ (i := 9) (N := some 51) (v := ?_) (a' := ?_) #[false, true, true, true, false, true, false, false, true, true, false, false, false] rfl rfl (any_of HT_.out (by kernel_rfl)) (fun _ _ _ h => h) (Or.inl ⟨by rfl, ?_⟩) ?_ ?_
           rotate_left
           ·intro w'
            go_simp
            with_reducible rfl
           rotate_left
           ·simp only [Act.put, List.setIfInBounds_toArray, List.set_cons_zero, List.set_cons_succ, i64_w, i32_w]
            rfl
           refine pure_ (i := 10) (N := some 52) (v := ?_) (a' := ?_) #[false, true, true, true, false, true, false, false, true, true, true, false, false] rfl rfl (any_of HT_.out (by kernel_rfl)) (fun _ _ _ h => h) (Or.inl ⟨by rfl, ?_⟩) ?_ ?_
           rotate_left
           ·intro w'
            go_simp
            with_reducible rfl
           rotate_left
           ·simp only [Act.put, List.setIfInBounds_toArray, List.set_cons_zero, List.set_cons_succ, i64_w, i32_w]
            rfl
           refine join_ (σ := Value × Value × Value) 3 #[true, true, true, true, true, true, true, false, true, true, true, false, false] (fun s_ => [(42, s_.1), (46, s_.2.1), (48, s_.2.2)]) (fun s_ w' => (Kd.R Kd.string 9 w' w.heap.size (fun k_ => some k_ ≠ (s_.2.2 : Value).ownBlock ∧ some k_ ≠ (.slice Ao41 t274.length co41 : Value).ownBlock) s_.2.1 y292) ∧ (Kd.R Kd.string 9 w' w.heap.size (fun k_ => some k_ ≠ (s_.2.1 : Value).ownBlock ∧ some k_ ≠ (.slice Ao41 t274.length co41 : Value).ownBlock) s_.2.2 y295) ∧ (Kd.R Kd.string 9 w' w.heap.size (fun k_ => some k_ ≠ (s_.2.1 : Value).ownBlock ∧ some k_ ≠ (s_.2.2 : Value).ownBlock) (.slice Ao41 t274.length co41) t274) ∧ (Below w.heap.size w w')) ?_ ?_
           rotate_left
           ·intro hCont
            refine two_ (i := 0) (j := 6) (Ni := some 42) (Nj := some 48) #[true, true, true, true, false, true, false, false, true, true, true, false, false] #[false, true, true, true, false, true, true, false, true, true, true, false, false] rfl rfl rfl rfl (two_of HT_.out (by kernel_rfl)) (by decide) (by decide) (fun K hK => ?_) (fun K hK => ?_)
            ·skip
             refine Kd.R_lit_step Kd.string _ 9 ?hg (N := 42) ?hd (xs := ([] : List ByteArray)) (inner := []) (ok := fun _ => True) (okp := fun _ => True) ?hr ?hp (fun _ hk => hk) trivial (Below.refl _ _) (Nat.le_refl _) (by simp) ?_; (case hd => rfl); (case hg => rfl); (case hr => first | (go_simp; done) | (go_simp; rfl)); (case hp => exact (Reps.none _ _))
             intro v286 w43 ho44 hb hg_ hnew_
             clear hg_ hnew_
             (first | rw [← Ny285.out] at ho44 | (simp only [Int.reduceToNat] at ho44; rw [← Ny285.out] at ho44))
             have n0_ := Aside0.mk (Kd.R_elder' (by (with_reducible repeat (first | apply Kd.R_alloc | apply Kd.R_drewN | apply Kd.R_drew)); exact HO_0.out) (Kd.R_base ho44) hb)
             have n1_ := Aside0.mk (Kd.R_lower (Kd.R_new' ho44 (Kd.R_lt (by (with_reducible repeat (first | apply Kd.R_alloc | apply Kd.R_drewN | apply Kd.R_drew)); exact HO_0.out))) (below_size (by repeat (first | (with_reducible first | exact HB.out | apply below_alloc | apply pw_below_drewN | apply below_drew1) | exact HB.out))))
             have n2_ := Aside0.mk (Kd.C_below (by repeat (first | (with_reducible exact HR291.out) | (with_reducible refine Kd.C_alloc ?_ _) | (with_reducible refine Kd.C_drewN ?_ _) | (with_reducible refine Kd.C_drew ?_) | exact HR291.out)) hb)
             have n3_ := Aside0.mk (Kd.C_below (by repeat (first | (with_reducible exact HR304.out) | (with_reducible refine Kd.C_alloc ?_ _) | (with_reducible refine Kd.C_drewN ?_ _) | (with_reducible refine Kd.C_drew ?_) | exact HR304.out)) hb)
             have n4_ := Aside0.mk (below_step (by repeat (first | (with_reducible first | exact HB.out | apply below_alloc | apply pw_below_drewN | apply below_drew1) | exact HB.out)) hb)
             clear HO_0
             clear HR291
             clear HR304
             clear HB
             have HO_0 := n0_
             have HO287 := n1_
             have HR291 := n2_
             have HR304 := n3_
             have HB := n4_
             clear n0_ n1_ n2_ n3_ n4_
             clear hb ho44
             refine hK.out _ _ trivial (fun hHeld => ?_)
             clear hK K
             refine norm_ (a' := ?_) ?_ ?_
             rotate_left
             ·show Act.put _ (some 42) _ = _
              simp only [Act.put, List.setIfInBounds_toArray, List.set_cons_zero, List.set_cons_succ, i64_w, i32_w]
              rfl
             refine two_ (i := 4) (j := 6) (Ni := some 46) (Nj := some 48) #[true, true, true, true, true, true, false, false, true, true, true, false, false] #[true, true, true, true, false, true, true, false, true, true, true, false, false] rfl rfl rfl rfl (two_of HT_.out (by kernel_rfl)) (by decide) (by decide) (fun K hK => ?_) (fun K hK => ?_)
             ·skip
              refine Kd.R_append_rows_step Kd.string (w0 := w) w.heap.size (by rfl) (.tmp 42) (.tmp 45) 29 9 (.string ⟨#[]⟩) 16 rfl Try.underlying29 info9 rfl (by decide) (by omega) v286 y285 y288 _ _ _ (fun k_ => some k_ ≠ (.slice Ao41 t274.length co41 : Value).ownBlock) (fun _ => False) rfl rfl ?aO ?aR (fun _ _ h => h) (fun _ h => h.elim) ?aF ?aB ?aS ?aL ?_
              (case aR => repeat (first | exact (by repeat (first | (with_reducible exact HR291.out) | (with_reducible refine Kd.C_alloc ?_ _) | (with_reducible refine Kd.C_drewN ?_ _) | (with_reducible refine Kd.C_drew ?_) | exact HR291.out)) | (with_reducible refine Kd.C_alloc ?_ _) | (with_reducible refine Kd.C_drewN ?_ _) | (with_reducible refine Kd.C_drew ?_)))
              (case aB => exact (by repeat (first | (with_reducible first | exact HB.out | apply below_alloc | apply pw_below_drewN | apply below_drew1) | exact HB.out)))
              (case aF => exact (fun k_ hk => Kd.fresh' (Kd.R_lt (by (with_reducible repeat (first | apply Kd.R_alloc | apply Kd.R_drewN | apply Kd.R_drew)); exact HO_0.out)) k_ hk))
              (case aO => exact (by (with_reducible repeat (first | apply Kd.R_alloc | apply Kd.R_drewN | apply Kd.R_drew)); exact Kd.R_mono HO287.out (fun _ hk => hk.2)))
              (case aS => exact (below_size (by repeat (first | (with_reducible first | exact HB.out | apply below_alloc | apply pw_below_drewN | apply below_drew1) | exact HB.out))))
              (case aL => have := LMc32.out; omega)
              intro v293 w45 ho hb hg hat
              rw [← Ny292.out] at ho
              have n0_ := Aside0.mk (Kd.R_after (ok := (fun _ => True)) (by (with_reducible repeat (first | apply Kd.R_alloc | apply Kd.R_drewN | apply Kd.R_drew)); exact HO_0.out) hg hat)
              have n1_ := Aside0.mk (hb)
              have n2_ := Aside0.mk ((show Kd.C Kd.string w45 Ao41 y288.length y288 from by rw [Ny288.out]; exact Kd.C_take (m := (x7_15 : Int).toNat) ((Kd.R_reads' (Kd.R_after (ok := (fun _ => True)) (by (with_reducible repeat (first | apply Kd.R_alloc | apply Kd.R_drewN | apply Kd.R_drew)); exact HO_0.out) hg hat)).2.2) KL40.out))
              have n3_ := Aside0.mk ((show Kd.C Kd.string w45 A42 y301.length y301 from by rw [Ny301.out, KA42.out]; exact Kd.C_drop (m := (x7_15 : Int).toNat) (c := co41) ((Kd.R_reads' (Kd.R_after (ok := (fun _ => True)) (by (with_reducible repeat (first | apply Kd.R_alloc | apply Kd.R_drewN | apply Kd.R_drew)); exact HO_0.out) hg hat)).2.2) KL42.out ((Kd.R_reads' (Kd.R_after (ok := (fun _ => True)) (by (with_reducible repeat (first | apply Kd.R_alloc | apply Kd.R_drewN | apply Kd.R_drew)); exact HO_0.out) hg hat)).2.1)))
              have n4_ := Aside0.mk (ho)
              clear HO_0
              clear HB
              clear HR291
              clear HR304
              clear HO287
              have HO_0 := n0_
              have HB := n1_
              have HR291 := n2_
              have HR304 := n3_
              have HO294 := n4_
              clear n0_ n1_ n2_ n3_ n4_
              clear ho hb hg hat
              refine hK.out _ _ trivial (fun hHeld => ?_)
              clear hK K
              refine norm_ (a' := ?_) ?_ ?_
              rotate_left
              ·show Act.put _ (some 46) _ = _
               simp only [Act.put, List.setIfInBounds_toArray, List.set_cons_zero, List.set_cons_succ, i64_w, i32_w]
               rfl
              refine one_ (i := 6) (N := some 48) #[true, true, true, true, true, true, true, false, true, true, true, false, false] rfl rfl (one_of HT_.out (by kernel_rfl)) (by decide) (fun K hK => ?_)
              refine Kd.R_lit_step Kd.string _ 9 ?hg (N := 48) ?hd (xs := ([(rdOf ByteArray.empty t280 0)] : List ByteArray)) (inner := [.string (rdOf ByteArray.empty t280 0)]) (ok := fun _ => True) (okp := fun _ => True) ?hr ?hp (fun _ hk => hk) trivial (Below.refl _ _) (Nat.le_refl _) (by simp) ?_; (case hd => rfl); (case hg => rfl); (case hr => first | (go_simp; done) | (go_simp; rfl)); (case hp => exact (Reps.one (show Kd.M Kd.string _ _ _ (rdOf ByteArray.empty t280 0) [.string (rdOf ByteArray.empty t280 0)] from rfl) (Reps.none _ _)))
              intro v296 w46 ho47 hb hg_ hnew_
              clear hg_ hnew_
              (first | rw [← Ny295.out] at ho47 | (simp only [Int.reduceToNat] at ho47; rw [← Ny295.out] at ho47))
              have n0_ := Aside0.mk (Kd.R_elder' (by (with_reducible repeat (first | apply Kd.R_alloc | apply Kd.R_drewN | apply Kd.R_drew)); exact HO_0.out) (Kd.R_base ho47) hb)
              have n1_ := Aside0.mk (Kd.R_elder' (by (with_reducible repeat (first | apply Kd.R_alloc | apply Kd.R_drewN | apply Kd.R_drew)); exact HO294.out) (Kd.R_base ho47) hb)
              have n2_ := Aside0.mk (Kd.R_lower (Kd.R_new' (Kd.R_new' ho47 (Kd.R_lt (by (with_reducible repeat (first | apply Kd.R_alloc | apply Kd.R_drewN | apply Kd.R_drew)); exact HO_0.out))) (Kd.R_lt (by (with_reducible repeat (first | apply Kd.R_alloc | apply Kd.R_drewN | apply Kd.R_drew)); exact HO294.out))) (below_size (by repeat (first | (with_reducible first | exact HB.out | apply below_alloc | apply pw_below_drewN | apply below_drew1) | exact HB.out))))
              have n3_ := Aside0.mk (Kd.C_below (by repeat (first | (with_reducible exact HR291.out) | (with_reducible refine Kd.C_alloc ?_ _) | (with_reducible refine Kd.C_drewN ?_ _) | (with_reducible refine Kd.C_drew ?_) | exact HR291.out)) hb)
              have n4_ := Aside0.mk (Kd.C_below (by repeat (first | (with_reducible exact HR304.out) | (with_reducible refine Kd.C_alloc ?_ _) | (with_reducible refine Kd.C_drewN ?_ _) | (with_reducible refine Kd.C_drew ?_) | exact HR304.out)) hb)
              have n5_ := Aside0.mk (below_step (by repeat (first | (with_reducible first | exact HB.out | apply below_alloc | apply pw_below_drewN | apply below_drew1) | exact HB.out)) hb)
              clear HO_0
              clear HO294
              clear HR291
              clear HR304
              clear HB
              have HO_0 := n0_
              have HO294 := n1_
              have HO297 := n2_
              have HR291 := n3_
              have HR304 := n4_
              have HB := n5_
              clear n0_ n1_ n2_ n3_ n4_ n5_
              clear hb ho47
              refine hK.out _ _ trivial (fun hHeld => ?_)
              clear hK K
              refine norm_ (a' := ?_) ?_ ?_
              rotate_left
              ·show Act.put _ (some 48) _ = _
               simp only [Act.put, List.setIfInBounds_toArray, List.set_cons_zero, List.set_cons_succ, i64_w, i32_w]
               rfl
              exact norm_ (by simp only [putAll, Act.put, List.setIfInBounds_toArray, List.set_cons_zero, List.set_cons_succ]) (hCont (v286, v293, v296) _ ⟨(by (with_reducible repeat (first | apply Kd.R_alloc | apply Kd.R_drewN | apply Kd.R_drew)); exact Kd.R_mono HO294.out (fun _ hk => ⟨hk.2, hk.1⟩)), (by (with_reducible repeat (first | apply Kd.R_alloc | apply Kd.R_drewN | apply Kd.R_drew)); exact Kd.R_mono HO297.out (fun _ hk => ⟨hk.2, hk.1.2⟩)), (by (with_reducible repeat (first | apply Kd.R_alloc | apply Kd.R_drewN | apply Kd.R_drew)); exact Kd.R_mono HO_0.out (fun _ hk => ⟨hk.1.2, hk.2⟩)), (by repeat (first | (with_reducible first | exact HB.out | apply below_alloc | apply pw_below_drewN | apply below_drew1) | exact HB.out))⟩)
             ·skip
              refine Kd.R_lit_step Kd.string _ 9 ?hg (N := 48) ?hd (xs := ([(rdOf ByteArray.empty t280 0)] : List ByteArray)) (inner := [.string (rdOf ByteArray.empty t280 0)]) (ok := fun _ => True) (okp := fun _ => True) ?hr ?hp (fun _ hk => hk) trivial (Below.refl _ _) (Nat.le_refl _) (by simp) ?_; (case hd => rfl); (case hg => rfl); (case hr => first | (go_simp; done) | (go_simp; rfl)); (case hp => exact (Reps.one (show Kd.M Kd.string _ _ _ (rdOf ByteArray.empty t280 0) [.string (rdOf ByteArray.empty t280 0)] from rfl) (Reps.none _ _)))
              intro v296 w45 ho46 hb hg_ hnew_
              clear hg_ hnew_
              (first | rw [← Ny295.out] at ho46 | (simp only [Int.reduceToNat] at ho46; rw [← Ny295.out] at ho46))
              have n0_ := Aside0.mk (Kd.R_elder' (by (with_reducible repeat (first | apply Kd.R_alloc | apply Kd.R_drewN | apply Kd.R_drew)); exact HO_0.out) (Kd.R_base ho46) hb)
              have n1_ := Aside0.mk (Kd.R_elder' (by (with_reducible repeat (first | apply Kd.R_alloc | apply Kd.R_drewN | apply Kd.R_drew)); exact HO287.out) (Kd.R_base ho46) hb)
              have n2_ := Aside0.mk (Kd.R_lower (Kd.R_new' (Kd.R_new' ho46 (Kd.R_lt (by (with_reducible repeat (first | apply Kd.R_alloc | apply Kd.R_drewN | apply Kd.R_drew)); exact HO_0.out))) (Kd.R_lt (by (with_reducible repeat (first | apply Kd.R_alloc | apply Kd.R_drewN | apply Kd.R_drew)); exact HO287.out))) (below_size (by repeat (first | (with_reducible first | exact HB.out | apply below_alloc | apply pw_below_drewN | apply below_drew1) | exact HB.out))))
              have n3_ := Aside0.mk (Kd.C_below (by repeat (first | (with_reducible exact HR291.out) | (with_reducible refine Kd.C_alloc ?_ _) | (with_reducible refine Kd.C_drewN ?_ _) | (with_reducible refine Kd.C_drew ?_) | exact HR291.out)) hb)
              have n4_ := Aside0.mk (Kd.C_below (by repeat (first | (with_reducible exact HR304.out) | (with_reducible refine Kd.C_alloc ?_ _) | (with_reducible refine Kd.C_drewN ?_ _) | (with_reducible refine Kd.C_drew ?_) | exact HR304.out)) hb)
              have n5_ := Aside0.mk (below_step (by repeat (first | (with_reducible first | exact HB.out | apply below_alloc | apply pw_below_drewN | apply below_drew1) | exact HB.out)) hb)
              clear HO_0
              clear HO287
              clear HR291
              clear HR304
              clear HB
              have HO_0 := n0_
              have HO287 := n1_
              have HO297 := n2_
              have HR291 := n3_
              have HR304 := n4_
              have HB := n5_
              clear n0_ n1_ n2_ n3_ n4_ n5_
              clear hb ho46
              refine hK.out _ _ trivial (fun hHeld => ?_)
              clear hK K
              refine norm_ (a' := ?_) ?_ ?_
              rotate_left
              ·show Act.put _ (some 48) _ = _
               simp only [Act.put, List.setIfInBounds_toArray, List.set_cons_zero, List.set_cons_succ, i64_w, i32_w]
               rfl
              refine one_ (i := 4) (N := some 46) #[true, true, true, true, true, true, true, false, true, true, true, false, false] rfl rfl (one_of HT_.out (by kernel_rfl)) (by decide) (fun K hK => ?_)
              refine Kd.R_append_rows_step Kd.string (w0 := w) w.heap.size (by rfl) (.tmp 42) (.tmp 45) 29 9 (.string ⟨#[]⟩) 16 rfl Try.underlying29 info9 rfl (by decide) (by omega) v286 y285 y288 _ _ _ (fun k_ => some k_ ≠ (.slice Ao41 t274.length co41 : Value).ownBlock ∧ some k_ ≠ (v296 : Value).ownBlock) (fun _ => False) rfl rfl ?aO ?aR (fun _ _ h => h) (fun _ h => h.elim) ?aF ?aB ?aS ?aL ?_
              (case aR => repeat (first | exact (by repeat (first | (with_reducible exact HR291.out) | (with_reducible refine Kd.C_alloc ?_ _) | (with_reducible refine Kd.C_drewN ?_ _) | (with_reducible refine Kd.C_drew ?_) | exact HR291.out)) | (with_reducible refine Kd.C_alloc ?_ _) | (with_reducible refine Kd.C_drewN ?_ _) | (with_reducible refine Kd.C_drew ?_)))
              (case aB => exact (by repeat (first | (with_reducible first | exact HB.out | apply below_alloc | apply pw_below_drewN | apply below_drew1) | exact HB.out)))
              (case aF => exact (fun k_ hk => ⟨Kd.fresh' (Kd.R_lt (by (with_reducible repeat (first | apply Kd.R_alloc | apply Kd.R_drewN | apply Kd.R_drew)); exact HO_0.out)) k_ hk, Kd.fresh' (Kd.R_lt (by (with_reducible repeat (first | apply Kd.R_alloc | apply Kd.R_drewN | apply Kd.R_drew)); exact HO297.out)) k_ hk⟩))
              (case aO => exact (by (with_reducible repeat (first | apply Kd.R_alloc | apply Kd.R_drewN | apply Kd.R_drew)); exact Kd.R_mono HO287.out (fun _ hk => ⟨hk.1.2, hk.2⟩)))
              (case aS => exact (below_size (by repeat (first | (with_reducible first | exact HB.out | apply below_alloc | apply pw_below_drewN | apply below_drew1) | exact HB.out))))
              (case aL => have := LMc32.out; omega)
              intro v293 w47 ho hb hg hat
              rw [← Ny292.out] at ho
              have n0_ := Aside0.mk (Kd.R_after (ok := (fun k_ => some k_ ≠ (v296 : Value).ownBlock)) (by (with_reducible repeat (first | apply Kd.R_alloc | apply Kd.R_drewN | apply Kd.R_drew)); exact Kd.R_mono HO_0.out (fun _ hk => ⟨hk.2, hk.1.2⟩)) hg hat)
              have n1_ := Aside0.mk (Kd.R_after (ok := (fun k_ => some k_ ≠ (.slice Ao41 t274.length co41 : Value).ownBlock)) (by (with_reducible repeat (first | apply Kd.R_alloc | apply Kd.R_drewN | apply Kd.R_drew)); exact Kd.R_mono HO297.out (fun _ hk => ⟨hk.1.2, hk.2⟩)) hg hat)
              have n2_ := Aside0.mk (hb)
              have n3_ := Aside0.mk ((show Kd.C Kd.string w47 Ao41 y288.length y288 from by rw [Ny288.out]; exact Kd.C_take (m := (x7_15 : Int).toNat) ((Kd.R_reads' (Kd.R_after (ok := (fun k_ => some k_ ≠ (v296 : Value).ownBlock)) (by (with_reducible repeat (first | apply Kd.R_alloc | apply Kd.R_drewN | apply Kd.R_drew)); exact Kd.R_mono HO_0.out (fun _ hk => ⟨hk.2, hk.1.2⟩)) hg hat)).2.2) KL40.out))
              have n4_ := Aside0.mk ((show Kd.C Kd.string w47 A42 y301.length y301 from by rw [Ny301.out, KA42.out]; exact Kd.C_drop (m := (x7_15 : Int).toNat) (c := co41) ((Kd.R_reads' (Kd.R_after (ok := (fun k_ => some k_ ≠ (v296 : Value).ownBlock)) (by (with_reducible repeat (first | apply Kd.R_alloc | apply Kd.R_drewN | apply Kd.R_drew)); exact Kd.R_mono HO_0.out (fun _ hk => ⟨hk.2, hk.1.2⟩)) hg hat)).2.2) KL42.out ((Kd.R_reads' (Kd.R_after (ok := (fun k_ => some k_ ≠ (v296 : Value).ownBlock)) (by (with_reducible repeat (first | apply Kd.R_alloc | apply Kd.R_drewN | apply Kd.R_drew)); exact Kd.R_mono HO_0.out (fun _ hk => ⟨hk.2, hk.1.2⟩)) hg hat)).2.1)))
              have n5_ := Aside0.mk (ho)
              clear HO_0
              clear HO297
              clear HB
              clear HR291
              clear HR304
              clear HO287
              have HO_0 := n0_
              have HO297 := n1_
              have HB := n2_
              have HR291 := n3_
              have HR304 := n4_
              have HO294 := n5_
              clear n0_ n1_ n2_ n3_ n4_ n5_
              clear ho hb hg hat
              refine hK.out _ _ trivial (fun hHeld => ?_)
              clear hK K
              refine norm_ (a' := ?_) ?_ ?_
              rotate_left
              ·show Act.put _ (some 46) _ = _
               simp only [Act.put, List.setIfInBounds_toArray, List.set_cons_zero, List.set_cons_succ, i64_w, i32_w]
               rfl
              exact norm_ (by simp only [putAll, Act.put, List.setIfInBounds_toArray, List.set_cons_zero, List.set_cons_succ]) (hCont (v286, v293, v296) _ ⟨(by (with_reducible repeat (first | apply Kd.R_alloc | apply Kd.R_drewN | apply Kd.R_drew)); exact Kd.R_mono HO294.out (fun _ hk => ⟨hk.2, hk.1⟩)), (by (with_reducible repeat (first | apply Kd.R_alloc | apply Kd.R_drewN | apply Kd.R_drew)); exact Kd.R_mono HO297.out (fun _ hk => ⟨hk.2, hk.1⟩)), (by (with_reducible repeat (first | apply Kd.R_alloc | apply Kd.R_drewN | apply Kd.R_drew)); exact Kd.R_mono HO_0.out (fun _ hk => ⟨hk.2, hk.1⟩)), (by repeat (first | (with_reducible first | exact HB.out | apply below_alloc | apply pw_below_drewN | apply below_drew1) | exact HB.out))⟩)
            ·skip
             refine Kd.R_lit_step Kd.string _ 9 ?hg (N := 48) ?hd (xs := ([(rdOf ByteArray.empty t280 0)] : List ByteArray)) (inner := [.string (rdOf ByteArray.empty t280 0)]) (ok := fun _ => True) (okp := fun _ => True) ?hr ?hp (fun _ hk => hk) trivial (Below.refl _ _) (Nat.le_refl _) (by simp) ?_; (case hd => rfl); (case hg => rfl); (case hr => first | (go_simp; done) | (go_simp; rfl)); (case hp => exact (Reps.one (show Kd.M Kd.string _ _ _ (rdOf ByteArray.empty t280 0) [.string (rdOf ByteArray.empty t280 0)] from rfl) (Reps.none _ _)))
             intro v296 w43 ho44 hb hg_ hnew_
             clear hg_ hnew_
             (first | rw [← Ny295.out] at ho44 | (simp only [Int.reduceToNat] at ho44; rw [← Ny295.out] at ho44))
             have n0_ := Aside0.mk (Kd.R_elder' (by (with_reducible repeat (first | apply Kd.R_alloc | apply Kd.R_drewN | apply Kd.R_drew)); exact HO_0.out) (Kd.R_base ho44) hb)
             have n1_ := Aside0.mk (Kd.R_lower (Kd.R_new' ho44 (Kd.R_lt (by (with_reducible repeat (first | apply Kd.R_alloc | apply Kd.R_drewN | apply Kd.R_drew)); exact HO_0.out))) (below_size (by repeat (first | (with_reducible first | exact HB.out | apply below_alloc | apply pw_below_drewN | apply below_drew1) | exact HB.out))))
             have n2_ := Aside0.mk (Kd.C_below (by repeat (first | (with_reducible exact HR291.out) | (with_reducible refine Kd.C_alloc ?_ _) | (with_reducible refine Kd.C_drewN ?_ _) | (with_reducible refine Kd.C_drew ?_) | exact HR291.out)) hb)
             have n3_ := Aside0.mk (Kd.C_below (by repeat (first | (with_reducible exact HR304.out) | (with_reducible refine Kd.C_alloc ?_ _) | (with_reducible refine Kd.C_drewN ?_ _) | (with_reducible refine Kd.C_drew ?_) | exact HR304.out)) hb)
             have n4_ := Aside0.mk (below_step (by repeat (first | (with_reducible first | exact HB.out | apply below_alloc | apply pw_below_drewN | apply below_drew1) | exact HB.out)) hb)
             clear HO_0
             clear HR291
             clear HR304
             clear HB
             have HO_0 := n0_
             have HO297 := n1_
             have HR291 := n2_
             have HR304 := n3_
             have HB := n4_
             clear n0_ n1_ n2_ n3_ n4_
             clear hb ho44
             refine hK.out _ _ trivial (fun hHeld => ?_)
             clear hK K
             refine norm_ (a' := ?_) ?_ ?_
             rotate_left
             ·show Act.put _ (some 48) _ = _
              simp only [Act.put, List.setIfInBounds_toArray, List.set_cons_zero, List.set_cons_succ, i64_w, i32_w]
              rfl
             refine one_ (i := 0) (N := some 42) #[true, true, true, true, false, true, true, false, true, true, true, false, false] rfl rfl (one_of HT_.out (by kernel_rfl)) (by decide) (fun K hK => ?_)
             refine Kd.R_lit_step Kd.string _ 9 ?hg (N := 42) ?hd (xs := ([] : List ByteArray)) (inner := []) (ok := fun _ => True) (okp := fun _ => True) ?hr ?hp (fun _ hk => hk) trivial (Below.refl _ _) (Nat.le_refl _) (by simp) ?_; (case hd => rfl); (case hg => rfl); (case hr => first | (go_simp; done) | (go_simp; rfl)); (case hp => exact (Reps.none _ _))
             intro v286 w45 ho46 hb hg_ hnew_
             clear hg_ hnew_
             (first | rw [← Ny285.out] at ho46 | (simp only [Int.reduceToNat] at ho46; rw [← Ny285.out] at ho46))
             have n0_ := Aside0.mk (Kd.R_elder' (by (with_reducible repeat (first | apply Kd.R_alloc | apply Kd.R_drewN | apply Kd.R_drew)); exact HO_0.out) (Kd.R_base ho46) hb)
             have n1_ := Aside0.mk (Kd.R_elder' (by (with_reducible repeat (first | apply Kd.R_alloc | apply Kd.R_drewN | apply Kd.R_drew)); exact HO297.out) (Kd.R_base ho46) hb)
             have n2_ := Aside0.mk (Kd.R_lower (Kd.R_new' (Kd.R_new' ho46 (Kd.R_lt (by (with_reducible repeat (first | apply Kd.R_alloc | apply Kd.R_drewN | apply Kd.R_drew)); exact HO_0.out))) (Kd.R_lt (by (with_reducible repeat (first | apply Kd.R_alloc | apply Kd.R_drewN | apply Kd.R_drew)); exact HO297.out))) (below_size (by repeat (first | (with_reducible first | exact HB.out | apply below_alloc | apply pw_below_drewN | apply below_drew1) | exact HB.out))))
             have n3_ := Aside0.mk (Kd.C_below (by repeat (first | (with_reducible exact HR291.out) | (with_reducible refine Kd.C_alloc ?_ _) | (with_reducible refine Kd.C_drewN ?_ _) | (with_reducible refine Kd.C_drew ?_) | exact HR291.out)) hb)
             have n4_ := Aside0.mk (Kd.C_below (by repeat (first | (with_reducible exact HR304.out) | (with_reducible refine Kd.C_alloc ?_ _) | (with_reducible refine Kd.C_drewN ?_ _) | (with_reducible refine Kd.C_drew ?_) | exact HR304.out)) hb)
             have n5_ := Aside0.mk (below_step (by repeat (first | (with_reducible first | exact HB.out | apply below_alloc | apply pw_below_drewN | apply below_drew1) | exact HB.out)) hb)
             clear HO_0
             clear HO297
             clear HR291
             clear HR304
             clear HB
             have HO_0 := n0_
             have HO297 := n1_
             have HO287 := n2_
             have HR291 := n3_
             have HR304 := n4_
             have HB := n5_
             clear n0_ n1_ n2_ n3_ n4_ n5_
             clear hb ho46
             refine hK.out _ _ trivial (fun hHeld => ?_)
             clear hK K
             refine norm_ (a' := ?_) ?_ ?_
             rotate_left
             ·show Act.put _ (some 42) _ = _
              simp only [Act.put, List.setIfInBounds_toArray, List.set_cons_zero, List.set_cons_succ, i64_w, i32_w]
              rfl
             refine one_ (i := 4) (N := some 46) #[true, true, true, true, true, true, true, false, true, true, true, false, false] rfl rfl (one_of HT_.out (by kernel_rfl)) (by decide) (fun K hK => ?_)
             refine Kd.R_append_rows_step Kd.string (w0 := w) w.heap.size (by rfl) (.tmp 42) (.tmp 45) 29 9 (.string ⟨#[]⟩) 16 rfl Try.underlying29 info9 rfl (by decide) (by omega) v286 y285 y288 _ _ _ (fun k_ => some k_ ≠ (.slice Ao41 t274.length co41 : Value).ownBlock ∧ some k_ ≠ (v296 : Value).ownBlock) (fun _ => False) rfl rfl ?aO ?aR (fun _ _ h => h) (fun _ h => h.elim) ?aF ?aB ?aS ?aL ?_
             (case aR => repeat (first | exact (by repeat (first | (with_reducible exact HR291.out) | (with_reducible refine Kd.C_alloc ?_ _) | (with_reducible refine Kd.C_drewN ?_ _) | (with_reducible refine Kd.C_drew ?_) | exact HR291.out)) | (with_reducible refine Kd.C_alloc ?_ _) | (with_reducible refine Kd.C_drewN ?_ _) | (with_reducible refine Kd.C_drew ?_)))
             (case aB => exact (by repeat (first | (with_reducible first | exact HB.out | apply below_alloc | apply pw_below_drewN | apply below_drew1) | exact HB.out)))
             (case aF => exact (fun k_ hk => ⟨Kd.fresh' (Kd.R_lt (by (with_reducible repeat (first | apply Kd.R_alloc | apply Kd.R_drewN | apply Kd.R_drew)); exact HO_0.out)) k_ hk, Kd.fresh' (Kd.R_lt (by (with_reducible repeat (first | apply Kd.R_alloc | apply Kd.R_drewN | apply Kd.R_drew)); exact HO297.out)) k_ hk⟩))
             (case aO => exact (by (with_reducible repeat (first | apply Kd.R_alloc | apply Kd.R_drewN | apply Kd.R_drew)); exact Kd.R_mono HO287.out (fun _ hk => ⟨hk.1.2, hk.2⟩)))
             (case aS => exact (below_size (by repeat (first | (with_reducible first | exact HB.out | apply below_alloc | apply pw_below_drewN | apply below_drew1) | exact HB.out))))
             (case aL => have := LMc32.out; omega)
             intro v293 w47 ho hb hg hat
             rw [← Ny292.out] at ho
             have n0_ := Aside0.mk (Kd.R_after (ok := (fun k_ => some k_ ≠ (v296 : Value).ownBlock)) (by (with_reducible repeat (first | apply Kd.R_alloc | apply Kd.R_drewN | apply Kd.R_drew)); exact Kd.R_mono HO_0.out (fun _ hk => ⟨hk.1.2, hk.2⟩)) hg hat)
             have n1_ := Aside0.mk (Kd.R_after (ok := (fun k_ => some k_ ≠ (.slice Ao41 t274.length co41 : Value).ownBlock)) (by (with_reducible repeat (first | apply Kd.R_alloc | apply Kd.R_drewN | apply Kd.R_drew)); exact Kd.R_mono HO297.out (fun _ hk => ⟨hk.1.2, hk.2⟩)) hg hat)
             have n2_ := Aside0.mk (hb)
             have n3_ := Aside0.mk ((show Kd.C Kd.string w47 Ao41 y288.length y288 from by rw [Ny288.out]; exact Kd.C_take (m := (x7_15 : Int).toNat) ((Kd.R_reads' (Kd.R_after (ok := (fun k_ => some k_ ≠ (v296 : Value).ownBlock)) (by (with_reducible repeat (first | apply Kd.R_alloc | apply Kd.R_drewN | apply Kd.R_drew)); exact Kd.R_mono HO_0.out (fun _ hk => ⟨hk.1.2, hk.2⟩)) hg hat)).2.2) KL40.out))
             have n4_ := Aside0.mk ((show Kd.C Kd.string w47 A42 y301.length y301 from by rw [Ny301.out, KA42.out]; exact Kd.C_drop (m := (x7_15 : Int).toNat) (c := co41) ((Kd.R_reads' (Kd.R_after (ok := (fun k_ => some k_ ≠ (v296 : Value).ownBlock)) (by (with_reducible repeat (first | apply Kd.R_alloc | apply Kd.R_drewN | apply Kd.R_drew)); exact Kd.R_mono HO_0.out (fun _ hk => ⟨hk.1.2, hk.2⟩)) hg hat)).2.2) KL42.out ((Kd.R_reads' (Kd.R_after (ok := (fun k_ => some k_ ≠ (v296 : Value).ownBlock)) (by (with_reducible repeat (first | apply Kd.R_alloc | apply Kd.R_drewN | apply Kd.R_drew)); exact Kd.R_mono HO_0.out (fun _ hk => ⟨hk.1.2, hk.2⟩)) hg hat)).2.1)))
             have n5_ := Aside0.mk (ho)
             clear HO_0
             clear HO297
             clear HB
             clear HR291
             clear HR304
             clear HO287
             have HO_0 := n0_
             have HO297 := n1_
             have HB := n2_
             have HR291 := n3_
             have HR304 := n4_
             have HO294 := n5_
             clear n0_ n1_ n2_ n3_ n4_ n5_
             clear ho hb hg hat
             refine hK.out _ _ trivial (fun hHeld => ?_)
             clear hK K
             refine norm_ (a' := ?_) ?_ ?_
             rotate_left
             ·show Act.put _ (some 46) _ = _
              simp only [Act.put, List.setIfInBounds_toArray, List.set_cons_zero, List.set_cons_succ, i64_w, i32_w]
              rfl
             exact norm_ (by simp only [putAll, Act.put, List.setIfInBounds_toArray, List.set_cons_zero, List.set_cons_succ]) (hCont (v286, v293, v296) _ ⟨(by (with_reducible repeat (first | apply Kd.R_alloc | apply Kd.R_drewN | apply Kd.R_drew)); exact Kd.R_mono HO294.out (fun _ hk => ⟨hk.2, hk.1⟩)), (by (with_reducible repeat (first | apply Kd.R_alloc | apply Kd.R_drewN | apply Kd.R_drew)); exact Kd.R_mono HO297.out (fun _ hk => ⟨hk.2, hk.1⟩)), (by (with_reducible repeat (first | apply Kd.R_alloc | apply Kd.R_drewN | apply Kd.R_drew)); exact Kd.R_mono HO_0.out (fun _ hk => ⟨hk.2, hk.1⟩)), (by repeat (first | (with_reducible first | exact HB.out | apply below_alloc | apply pw_below_drewN | apply below_drew1) | exact HB.out))⟩)
           rintro ⟨v286, v293, v296⟩ w48 ⟨h0_, h1_, h2_, h3_⟩
           have n0_ : Aside0 (Kd.R Kd.string 9 w48 w.heap.size (fun k_ => some k_ ≠ (v296 : Value).ownBlock ∧ some k_ ≠ (.slice Ao41 t274.length co41 : Value).ownBlock) v293 y292) := ⟨h0_⟩
           have n1_ : Aside0 (Kd.R Kd.string 9 w48 w.heap.size (fun k_ => some k_ ≠ (v293 : Value).ownBlock ∧ some k_ ≠ (.slice Ao41 t274.length co41 : Value).ownBlock) v296 y295) := ⟨h1_⟩
           have n2_ : Aside0 (Kd.R Kd.string 9 w48 w.heap.size (fun k_ => some k_ ≠ (v293 : Value).ownBlock ∧ some k_ ≠ (v296 : Value).ownBlock) (.slice Ao41 t274.length co41) t274) := ⟨h2_⟩
           have n3_ : Aside0 (Below w.heap.size w w48) := ⟨h3_⟩
           clear HO_0
           clear HB
           clear h0_ h1_ h2_ h3_
           have HO294 := n0_
           have HO297 := n1_
           have HO_0 := n2_
           have HB := n3_
           clear n0_ n1_ n2_ n3_
           have hHeld := trivial
           (try clear HR291)
           have HR291 := Aside0.mk (show Kd.C Kd.string w48 Ao41 y288.length y288 from by rw [Ny288.out]; exact Kd.C_take (m := (x7_15 : Int).toNat) ((Kd.R_reads' HO_0.out).2.2) KL40.out)
           (try clear HR304)
           have HR304 := Aside0.mk (show Kd.C Kd.string w48 A42 y301.length y301 from by rw [Ny301.out, KA42.out]; exact Kd.C_drop (m := (x7_15 : Int).toNat) (c := co41) ((Kd.R_reads' HO_0.out).2.2) KL42.out ((Kd.R_reads' HO_0.out).2.1))
           obtain ⟨Ao50, co50, eo50⟩ := Kd.R_slice HO297.out
           (first | subst eo50 | (injection eo50 with f1_ f2_ f3_; have f4_ := f1_.symm; have f5_ := f3_.symm; clear f1_ f2_ f3_; subst f4_; subst f5_))
           refine norm_ (a' := ?_) ?_ ?_
           rotate_left
           ·simp only [putAll, Act.put, List.setIfInBounds_toArray, List.set_cons_zero, List.set_cons_succ]
            rfl
           refine one_ (i := 7) (N := some 49) #[true, true, true, true, true, true, true, true, true, true, true, false, false] rfl rfl (one_of HT_.out (by kernel_rfl)) (by decide) (fun K hK => ?_)
           refine Kd.R_append_rows_step Kd.string (w0 := w) w.heap.size (by rfl) (.tmp 46) (.tmp 48) 29 9 (.string ⟨#[]⟩) 16 rfl Try.underlying29 info9 rfl (by decide) (by omega) v293 y292 y295 _ _ _ (fun k_ => some k_ ≠ (.slice Ao41 t274.length co41 : Value).ownBlock ∧ some k_ ≠ (.slice Ao50 y295.length co50 : Value).ownBlock) (fun _ => False) rfl rfl ?aO ?aR (fun _ _ h => h) (fun _ h => h.elim) ?aF ?aB ?aS ?aL ?_
           (case aR => repeat (first | exact (Kd.R_reads' HO297.out).2.2 | (with_reducible refine Kd.C_alloc ?_ _) | (with_reducible refine Kd.C_drewN ?_ _) | (with_reducible refine Kd.C_drew ?_)))
           (case aB => exact (by repeat (first | (with_reducible first | exact HB.out | apply below_alloc | apply pw_below_drewN | apply below_drew1) | exact HB.out)))
           (case aF => exact (fun k_ hk => ⟨Kd.fresh' (Kd.R_lt (by (with_reducible repeat (first | apply Kd.R_alloc | apply Kd.R_drewN | apply Kd.R_drew)); exact HO_0.out)) k_ hk, Kd.fresh' (Kd.R_lt (by (with_reducible repeat (first | apply Kd.R_alloc | apply Kd.R_drewN | apply Kd.R_drew)); exact HO297.out)) k_ hk⟩))
           (case aO => exact (by (with_reducible repeat (first | apply Kd.R_alloc | apply Kd.R_drewN | apply Kd.R_drew)); exact Kd.R_mono HO294.out (fun _ hk => ⟨hk.2, hk.1⟩)))
           (case aS => exact (below_size (by repeat (first | (with_reducible first | exact HB.out | apply below_alloc | apply pw_below_drewN | apply below_drew1) | exact HB.out))))
           (case aL => have := LMc33.out; omega)
           intro v299 w49 ho hb hg hat
           rw [← Ny298.out] at ho
           have n0_ := Aside0.mk (Kd.R_after (ok := (fun k_ => some k_ ≠ (.slice Ao50 y295.length co50 : Value).ownBlock)) (by (with_reducible repeat (first | apply Kd.R_alloc | apply Kd.R_drewN | apply Kd.R_drew)); exact Kd.R_mono HO_0.out (fun _ hk => ⟨hk.2, hk.1⟩)) hg hat)
           have n1_ := Aside0.mk (Kd.R_after (ok := (fun k_ => some k_ ≠ (.slice Ao41 t274.length co41 : Value).ownBlock)) (by (with_reducible repeat (first | apply Kd.R_alloc | apply Kd.R_drewN | apply Kd.R_drew)); exact Kd.R_mono HO297.out (fun _ hk => ⟨hk.2, hk.1⟩)) hg hat)
           have n2_ := Aside0.mk (hb)
           have n3_ := Aside0.mk ((show Kd.C Kd.string w49 Ao41 y288.length y288 from by rw [Ny288.out]; exact Kd.C_take (m := (x7_15 : Int).toNat) ((Kd.R_reads' (Kd.R_after (ok := (fun k_ => some k_ ≠ (.slice Ao50 y295.length co50 : Value).ownBlock)) (by (with_reducible repeat (first | apply Kd.R_alloc | apply Kd.R_drewN | apply Kd.R_drew)); exact Kd.R_mono HO_0.out (fun _ hk => ⟨hk.2, hk.1⟩)) hg hat)).2.2) KL40.out))
           have n4_ := Aside0.mk ((show Kd.C Kd.string w49 A42 y301.length y301 from by rw [Ny301.out, KA42.out]; exact Kd.C_drop (m := (x7_15 : Int).toNat) (c := co41) ((Kd.R_reads' (Kd.R_after (ok := (fun k_ => some k_ ≠ (.slice Ao50 y295.length co50 : Value).ownBlock)) (by (with_reducible repeat (first | apply Kd.R_alloc | apply Kd.R_drewN | apply Kd.R_drew)); exact Kd.R_mono HO_0.out (fun _ hk => ⟨hk.2, hk.1⟩)) hg hat)).2.2) KL42.out ((Kd.R_reads' (Kd.R_after (ok := (fun k_ => some k_ ≠ (.slice Ao50 y295.length co50 : Value).ownBlock)) (by (with_reducible repeat (first | apply Kd.R_alloc | apply Kd.R_drewN | apply Kd.R_drew)); exact Kd.R_mono HO_0.out (fun _ hk => ⟨hk.2, hk.1⟩)) hg hat)).2.1)))
           have n5_ := Aside0.mk (ho)
           clear HO_0
           clear HO297
           clear HB
           clear HR291
           clear HR304
           clear HO294
           have HO_0 := n0_
           have HO297 := n1_
           have HB := n2_
           have HR291 := n3_
           have HR304 := n4_
           have HO300 := n5_
           clear n0_ n1_ n2_ n3_ n4_ n5_
           clear ho hb hg hat
           refine hK.out _ _ trivial (fun hHeld => ?_)
           clear hK K
           refine norm_ (a' := ?_) ?_ ?_
           rotate_left
           ·show Act.put _ (some 49) _ = _
            simp only [Act.put, List.setIfInBounds_toArray, List.set_cons_zero, List.set_cons_succ, i64_w, i32_w]
            rfl
           refine one_ (i := 11) (N := some 53) #[true, true, true, true, true, true, true, true, true, true, true, true, false] rfl rfl (one_of HT_.out (by kernel_rfl)) (by decide) (fun K hK => ?_)
           refine Kd.R_append_rows_step Kd.string (w0 := w) w.heap.size (by rfl) (.tmp 49) (.tmp 52) 29 9 (.string ⟨#[]⟩) 16 rfl Try.underlying29 info9 rfl (by decide) (by omega) v299 y298 y301 _ _ _ (fun k_ => some k_ ≠ (.slice Ao41 t274.length co41 : Value).ownBlock ∧ some k_ ≠ (.slice Ao50 y295.length co50 : Value).ownBlock) (fun _ => False) rfl rfl ?aO ?aR (fun _ _ h => h) (fun _ h => h.elim) ?aF ?aB ?aS ?aL ?_
           (case aR => repeat (first | exact (by repeat (first | (with_reducible exact HR304.out) | (with_reducible refine Kd.C_alloc ?_ _) | (with_reducible refine Kd.C_drewN ?_ _) | (with_reducible refine Kd.C_drew ?_) | exact HR304.out)) | (with_reducible refine Kd.C_alloc ?_ _) | (with_reducible refine Kd.C_drewN ?_ _) | (with_reducible refine Kd.C_drew ?_)))
           (case aB => exact (by repeat (first | (with_reducible first | exact HB.out | apply below_alloc | apply pw_below_drewN | apply below_drew1) | exact HB.out)))
           (case aF => exact (fun k_ hk => ⟨Kd.fresh' (Kd.R_lt (by (with_reducible repeat (first | apply Kd.R_alloc | apply Kd.R_drewN | apply Kd.R_drew)); exact HO_0.out)) k_ hk, Kd.fresh' (Kd.R_lt (by (with_reducible repeat (first | apply Kd.R_alloc | apply Kd.R_drewN | apply Kd.R_drew)); exact HO297.out)) k_ hk⟩))
           (case aO => exact (by (with_reducible repeat (first | apply Kd.R_alloc | apply Kd.R_drewN | apply Kd.R_drew)); exact HO300.out))
           (case aS => exact (below_size (by repeat (first | (with_reducible first | exact HB.out | apply below_alloc | apply pw_below_drewN | apply below_drew1) | exact HB.out))))
           (case aL => have := LMc36.out; omega)
           intro v306 w51 ho hb hg hat
           rw [← Ny305.out] at ho
           have n0_ := Aside0.mk (Kd.R_after (ok := (fun k_ => some k_ ≠ (.slice Ao50 y295.length co50 : Value).ownBlock)) (by (with_reducible repeat (first | apply Kd.R_alloc | apply Kd.R_drewN | apply Kd.R_drew)); exact HO_0.out) hg hat)
           have n1_ := Aside0.mk (Kd.R_after (ok := (fun k_ => some k_ ≠ (.slice Ao41 t274.length co41 : Value).ownBlock)) (by (with_reducible repeat (first | apply Kd.R_alloc | apply Kd.R_drewN | apply Kd.R_drew)); exact HO297.out) hg hat)
           have n2_ := Aside0.mk (hb)
           have n3_ := Aside0.mk ((show Kd.C Kd.string w51 Ao41 y288.length y288 from by rw [Ny288.out]; exact Kd.C_take (m := (x7_15 : Int).toNat) ((Kd.R_reads' (Kd.R_after (ok := (fun k_ => some k_ ≠ (.slice Ao50 y295.length co50 : Value).ownBlock)) (by (with_reducible repeat (first | apply Kd.R_alloc | apply Kd.R_drewN | apply Kd.R_drew)); exact HO_0.out) hg hat)).2.2) KL40.out))
           have n4_ := Aside0.mk ((show Kd.C Kd.string w51 A42 y301.length y301 from by rw [Ny301.out, KA42.out]; exact Kd.C_drop (m := (x7_15 : Int).toNat) (c := co41) ((Kd.R_reads' (Kd.R_after (ok := (fun k_ => some k_ ≠ (.slice Ao50 y295.length co50 : Value).ownBlock)) (by (with_reducible repeat (first | apply Kd.R_alloc | apply Kd.R_drewN | apply Kd.R_drew)); exact HO_0.out) hg hat)).2.2) KL42.out ((Kd.R_reads' (Kd.R_after (ok := (fun k_ => some k_ ≠ (.slice Ao50 y295.length co50 : Value).ownBlock)) (by (with_reducible repeat (first | apply Kd.R_alloc | apply Kd.R_drewN | apply Kd.R_drew)); exact HO_0.out) hg hat)).2.1)))
           have n5_ := Aside0.mk (ho)
           clear HO_0
           clear HO297
           clear HB
           clear HR291
           clear HR304
           clear HO300
           have HO_0 := n0_
           have HO297 := n1_
           have HB := n2_
           have HR291 := n3_
           have HR304 := n4_
           have HO307 := n5_
           clear n0_ n1_ n2_ n3_ n4_ n5_
           clear ho hb hg hat
           refine hK.out _ _ trivial (fun hHeld => ?_)
           clear hK K
           refine norm_ (a' := ?_) ?_ ?_
           rotate_left
           ·show Act.put _ (some 53) _ = _
            simp only [Act.put, List.setIfInBounds_toArray, List.set_cons_zero, List.set_cons_succ, i64_w, i32_w]
            rfl
           refine pure_ (i := 12) (N := some 8) (v := ?_) (a' := ?_) #[true, true, true, true, true, true, true, true, true, true, true, true, true] rfl rfl (any_of HT_.out (by kernel_rfl)) (fun _ _ _ h => h) (Or.inl ⟨by rfl, ?_⟩) ?_ ?_
           rotate_left
           ·intro w'
            go_simp
            with_reducible rfl
           rotate_left
           ·simp only [Act.put, List.setIfInBounds_toArray, List.set_cons_zero, List.set_cons_succ, i64_w, i32_w]
            rfl
           refine done_ (done_of HT_.out (by kernel_rfl)) ?_
           go_upto_region 13 with (first | ((with_reducible refine gate_callee (f := 15) rfl ?_); refine goesL_ (some 56) rfl rfl Try.func15 (by kernel_rfl) rfl #[.slice Ao41 t274.length co41] rfl (by (try simp only [List.map_toArray, List.map_cons, List.map_nil]); first | done | rfl | (simp only [List.length_drop, List.length_take]; rfl)) ?_; (with_reducible refine (trie_Make.calls kj15 _ _ t274 t308 t311 _ ?side1 ?side2 A37.out).mono ?_); (case side1 => repeat (first | exact (Kd.R_reads' HO_0.out).2.2 | (with_reducible refine Kd.C_alloc ?_ _) | (with_reducible refine Kd.C_drewN ?_ _) | (with_reducible refine Kd.C_drew ?_))); (case side2 => exact (Kd.R_reads' HO_0.out).2.1); rintro e w52 ⟨v309, rfl, ho0, hb⟩; refine ⟨_, rfl, ?_⟩; have n0_ := Aside0.mk (Kd.R_below (by (with_reducible repeat (first | apply Kd.R_alloc | apply Kd.R_drewN | apply Kd.R_drew)); exact HO_0.out) hb); have n1_ := Aside0.mk (Kd.R_below (by (with_reducible repeat (first | apply Kd.R_alloc | apply Kd.R_drewN | apply Kd.R_drew)); exact HO297.out) hb); have n2_ := Aside0.mk (Kd.R_below (by (with_reducible repeat (first | apply Kd.R_alloc | apply Kd.R_drewN | apply Kd.R_drew)); exact HO307.out) hb); have n3_ := Aside0.mk (Kd.P_lower (Kd.P_mono (ok' := fun k_ => some k_ ≠ (.slice Ao41 t274.length co41 : Value).ownBlock ∧ some k_ ≠ (.slice Ao50 y295.length co50 : Value).ownBlock ∧ some k_ ≠ (v306 : Value).ownBlock) ho0 (fun k_ hk_ => ⟨(Kd.fresh' (Kd.R_lt (by (with_reducible repeat (first | apply Kd.R_alloc | apply Kd.R_drewN | apply Kd.R_drew)); exact HO_0.out)) k_ hk_), (Kd.fresh' (Kd.R_lt (by (with_reducible repeat (first | apply Kd.R_alloc | apply Kd.R_drewN | apply Kd.R_drew)); exact HO297.out)) k_ hk_), (Kd.fresh' (Kd.R_lt (by (with_reducible repeat (first | apply Kd.R_alloc | apply Kd.R_drewN | apply Kd.R_drew)); exact HO307.out)) k_ hk_)⟩)) (below_size (by repeat (first | (with_reducible first | exact HB.out | apply below_alloc | apply pw_below_drewN | apply below_drew1) | exact HB.out)))); have n4_ := Aside0.mk (below_step (by repeat (first | (with_reducible first | exact HB.out | apply below_alloc | apply pw_below_drewN | apply below_drew1) | exact HB.out)) hb); clear HO_0; clear HO297; clear HO307; clear HB; have HO_0 := n0_; have HO297 := n1_; have HO307 := n2_; have HO310 := n3_; have HB := n4_; clear n0_ n1_ n2_ n3_ n4_; (try clear hb); (try clear hb2); (try clear hk); (try clear hi); (try clear ho0)))
           (try simp only [Act.put, List.setIfInBounds_toArray, List.set_cons_zero, List.set_cons_succ])
           go_cut [70] (fun v70 wc => ∃ (kq : Nat) (x70_37 : Bool), v70 = .bool x70_37 ∧ Aside0 (redpenlaw07_TrieMore.j2 kq t274 (rdOf ByteArray.empty t280 0) y305 t308 t311 x70_37 = some r) ∧ Aside0 (kq ≤ kj15) ∧ Aside0 (Kd.R Kd.string 9 wc w.heap.size (fun k_ => some k_ ≠ (v306 : Value).ownBlock) (.slice Ao41 t274.length co41) t274) ∧ Aside0 (Kd.R Kd.string 9 wc w.heap.size (fun k_ => some k_ ≠ ((.slice Ao41 t274.length co41) : Value).ownBlock) v306 y305) ∧ Aside0 (Kd.P TrP 900025 wc w.heap.size (fun k_ => some k_ ≠ ((.slice Ao41 t274.length co41) : Value).ownBlock ∧ some k_ ≠ (v306 : Value).ownBlock) v309 t308) ∧ Aside0 (Below w.heap.size w wc))
           case first =>
            have H := HC38.out
            clear HC38
            by_cases c53 : x7_15 < (t274.length : Int)
            ·rw [if_pos c53] at H
             have c53b0 : decide (x7_15 < (t274.length : Int)) = true := decide_eq_true c53
             clear c53
             (first | rw [c53b0] | (simp only [i64_w, i32_w]; rw [c53b0]) | skip)
             have H' := Aside0.mk H
             clear H
             have p312 : 0 ≤ (x7_15 : Int) := of_decide_eq_true (by first | (with_reducible assumption) | assumption)
             have q312 : x7_15 < (t274.length : Int) := of_decide_eq_true (by first | (with_reducible assumption) | assumption)
             obtain ⟨ad312, e312, hx312_0⟩ := Kd.at_string (Kd.R_reads' HO_0.out).2.2 x7_15 p312 q312
             cases e312
             replace p312 := eq_true p312
             replace q312 := eq_true q312
             go_wp2
             go_meet
             case rel => exact ⟨_, (((rdOf ByteArray.empty t274 x7_15).toList == (rdOf ByteArray.empty t280 0).toList)), (by first | rfl | (simp; done) | (simp [*]; done) | (simp [wrap64, wrap32]; done)), H', ⟨by have := HJ15.out; first | omega | exact Nat.le_refl _⟩, ⟨by (with_reducible repeat (first | apply Kd.R_alloc | apply Kd.R_drewN | apply Kd.R_drew)); exact Kd.R_mono HO_0.out (fun _ hk => hk.2)⟩, ⟨by (with_reducible repeat (first | apply Kd.R_alloc | apply Kd.R_drewN | apply Kd.R_drew)); exact Kd.R_mono HO307.out (fun _ hk => hk.1)⟩, ⟨by (with_reducible repeat (first | apply Kd.P_alloc | apply Kd.P_drewN | apply Kd.P_drew)); exact Kd.P_mono HO310.out (fun _ hk => ⟨hk.1, hk.2.2⟩)⟩, ⟨by repeat (first | (with_reducible first | exact HB.out | apply below_alloc | apply pw_below_drewN | apply below_drew1) | exact HB.out)⟩⟩
            ·rw [if_neg c53] at H
             have c53b0 : decide (x7_15 < (t274.length : Int)) = false := decide_eq_false c53
             clear c53
             (first | rw [c53b0] | (simp only [i64_w, i32_w]; rw [c53b0]) | skip)
             have H' := Aside0.mk H
             clear H
             go_wp2
             go_meet
             case rel => exact ⟨_, (false), (by first | rfl | (simp; done) | (simp [*]; done) | (simp [wrap64, wrap32]; done)), H', ⟨by have := HJ15.out; first | omega | exact Nat.le_refl _⟩, ⟨by (with_reducible repeat (first | apply Kd.R_alloc | apply Kd.R_drewN | apply Kd.R_drew)); exact Kd.R_mono HO_0.out (fun _ hk => hk.2)⟩, ⟨by (with_reducible repeat (first | apply Kd.R_alloc | apply Kd.R_drewN | apply Kd.R_drew)); exact Kd.R_mono HO307.out (fun _ hk => hk.1)⟩, ⟨by (with_reducible repeat (first | apply Kd.P_alloc | apply Kd.P_drewN | apply Kd.P_drew)); exact Kd.P_mono HO310.out (fun _ hk => ⟨hk.1, hk.2.2⟩)⟩, ⟨by repeat (first | (with_reducible first | exact HB.out | apply below_alloc | apply pw_below_drewN | apply below_drew1) | exact HB.out)⟩⟩
           case rest =>
            clear HC38
            try clear c1
            try clear c2
            try clear p2
            try clear q2
            try clear hx2
            try clear qi2
            try clear c3
            try clear p3
            try clear q3
            try clear hx3
            try clear c4
            try clear q4
            try clear c5
            try clear c7
            try clear c7b2
            try clear c12
            try clear c14
            try clear c15
            try clear c15b0
            try clear c15b1
            try clear c24
            try clear c24b0
            try clear c25
            try clear c25b0
            try clear c26
            try clear c26b0
            try clear p28
            try clear q28
            try clear hx28
            try clear qi28
            try clear c30
            try clear c30b0
            try clear c30b1
            try clear c31
            try clear c31b0
            try clear c31b1
            try clear p31
            try clear q31
            try clear hx31
            try clear c32
            try clear c33
            try clear c34
            try clear c34b0
            try clear c35
            try clear c35b0
            try clear c36
            try clear q40
            try clear c42
            try clear q42
            try clear c53
            try clear c53b0
            try clear hx283_0
            try clear hx284_0
            try clear hx312_0
            try clear p2
            try clear p28
            try clear p283
            try clear p284
            try clear p312
            try clear q042
            try clear q2
            try clear q28
            try clear q283
            try clear q284
            try clear q312
            try clear q40
            try clear q42
            obtain ⟨kq, x70_37, rfl, HA, HJ37, HO_0, HO_8, HO_9, HB⟩ := hcut
            cases kq with
            | zero => exact absurd HA.out (by simp [redpenlaw07_TrieMore.j2])
            | succ kj37 =>
             have H := HA.out
             clear HA
             simp only [redpenlaw07_TrieMore.j2] at H
             by_cases c54 : x70_37 = true
             ·subst c54
              have H1 : (if t311 = 0 then ((trie_Trie_Has.f kj37 t308 (rdOf ByteArray.empty t280 0)).bind fun t313 => (some t313)) else (some false)) = some r := by rw [if_pos rfl] at H; exact H
              clear H
              have H := H1
              clear H1
              by_cases c55 : t311 = 0
              ·rw [if_pos c55] at H
               have c55b0 : (t311 == 0) = true := beq_iff_eq.mpr c55
               have c55b1 : (t311 != 0) = false := bne_eq_false_iff_eq.mpr c55
               clear c55
               replace H := Option.bind_eq_some_iff.mp H
               obtain ⟨t313, A560, H⟩ := H
               replace H : (some t313) = some r := H
               have A56 := Aside0.mk A560
               clear A560
               obtain rfl := Option.some.inj H
               go_wp2_with (first | (go_at_call 28; (with_reducible refine (trie_Trie_Has.calls kj37 _ t308 (rdOf ByteArray.empty t280 0) t313 _ ?side1 A56.out).mono ?_); (case side1 => exact Kd.P_now (by (with_reducible repeat (first | apply Kd.P_alloc | apply Kd.P_drewN | apply Kd.P_drew)); exact HO_9.out)); rintro e w57 ⟨rfl, hb⟩; have n0_ := Aside0.mk (Kd.R_below (by (with_reducible repeat (first | apply Kd.R_alloc | apply Kd.R_drewN | apply Kd.R_drew)); exact HO_0.out) hb); have n1_ := Aside0.mk (Kd.R_below (by (with_reducible repeat (first | apply Kd.R_alloc | apply Kd.R_drewN | apply Kd.R_drew)); exact HO_8.out) hb); have n2_ := Aside0.mk (Kd.P_below (by (with_reducible repeat (first | apply Kd.P_alloc | apply Kd.P_drewN | apply Kd.P_drew)); exact HO_9.out) hb); have n3_ := Aside0.mk (below_step (by repeat (first | (with_reducible first | exact HB.out | apply below_alloc | apply pw_below_drewN | apply below_drew1) | exact HB.out)) hb); clear HO_0; clear HO_8; clear HO_9; clear HB; have HO_0 := n0_; have HO_8 := n1_; have HO_9 := n2_; have HB := n3_; clear n0_ n1_ n2_ n3_; (try clear hb); (try clear hb2); (try clear hk); (try clear hi)))
               go_ret
               exact ⟨by first | rfl | (simp [errW_none, errW_some] <;> rfl) | (simp [*, errW_none, errW_some] <;> rfl), by repeat (first | (with_reducible first | exact HB.out | apply below_alloc | apply pw_below_drewN | apply below_drew1) | exact HB.out)⟩
              ·rw [if_neg c55] at H
               have c55b0 : (t311 == 0) = false := beq_eq_false_iff_ne.mpr c55
               have c55b1 : (t311 != 0) = true := bne_iff_ne.mpr c55
               have hf_ := Option.some.inj H
               rw [hr_] at hf_
               cases hf_
             ·replace c54 := Bool.eq_false_iff.mpr c54
              subst c54
              have H1 : ((trie_Make.f kj37 y305).bind fun bt314 => (redpenlaw07_TrieMore.l1 kj37 (rdOf ByteArray.empty t280 0) t308 t311 bt314.1 bt314.2 t274 (t274.length : Int) 0)) = some r := by rw [if_neg (show ¬ (false = true) by decide)] at H; exact H
              clear H
              have H := H1
              clear H1
              replace H := Option.bind_eq_some_iff.mp H
              obtain ⟨⟨t314, t317⟩, A580, H⟩ := H
              replace H : (redpenlaw07_TrieMore.l1 kj37 (rdOf ByteArray.empty t280 0) t308 t311 t314 t317 t274 (t274.length : Int) 0) = some r := H
              have A58 := Aside0.mk A580
              clear A580
              have H' := Aside0.mk H
              clear H
              obtain ⟨Ao59, co59, eo59⟩ := Kd.R_slice HO_8.out
              subst eo59
              go_wp2_with (first | ((with_reducible refine gate_callee (f := 15) rfl ?_); refine goesL_ (some 80) rfl rfl Try.func15 (by kernel_rfl) rfl #[.slice Ao59 y305.length co59] rfl (by (try simp only [List.map_toArray, List.map_cons, List.map_nil]); first | done | rfl | (simp only [List.length_drop, List.length_take]; rfl)) ?_; (with_reducible refine (trie_Make.calls kj37 _ _ y305 t314 t317 _ ?side1 ?side2 A58.out).mono ?_); (case side1 => repeat (first | exact (Kd.R_reads' HO_8.out).2.2 | (with_reducible refine Kd.C_alloc ?_ _) | (with_reducible refine Kd.C_drewN ?_ _) | (with_reducible refine Kd.C_drew ?_))); (case side2 => exact (Kd.R_reads' HO_8.out).2.1); rintro e w60 ⟨v315, rfl, ho0, hb⟩; refine ⟨_, rfl, ?_⟩; have n0_ := Aside0.mk (Kd.R_below (by (with_reducible repeat (first | apply Kd.R_alloc | apply Kd.R_drewN | apply Kd.R_drew)); exact HO_0.out) hb); have n1_ := Aside0.mk (Kd.R_below (by (with_reducible repeat (first | apply Kd.R_alloc | apply Kd.R_drewN | apply Kd.R_drew)); exact HO_8.out) hb); have n2_ := Aside0.mk (Kd.P_below (by (with_reducible repeat (first | apply Kd.P_alloc | apply Kd.P_drewN | apply Kd.P_drew)); exact HO_9.out) hb); have n3_ := Aside0.mk (Kd.P_lower (Kd.P_mono (ok' := fun k_ => some k_ ≠ (.slice Ao41 t274.length co41 : Value).ownBlock ∧ some k_ ≠ (.slice Ao59 y305.length co59 : Value).ownBlock) ho0 (fun k_ hk_ => ⟨(Kd.fresh' (Kd.R_lt (by (with_reducible repeat (first | apply Kd.R_alloc | apply Kd.R_drewN | apply Kd.R_drew)); exact HO_0.out)) k_ hk_), (Kd.fresh' (Kd.R_lt (by (with_reducible repeat (first | apply Kd.R_alloc | apply Kd.R_drewN | apply Kd.R_drew)); exact HO_8.out)) k_ hk_)⟩)) (below_size (by repeat (first | (with_reducible first | exact HB.out | apply below_alloc | apply pw_below_drewN | apply below_drew1) | exact HB.out)))); have n4_ := Aside0.mk (below_step (by repeat (first | (with_reducible first | exact HB.out | apply below_alloc | apply pw_below_drewN | apply below_drew1) | exact HB.out)) hb); clear HO_0; clear HO_8; clear HO_9; clear HB; have HO_0 := n0_; have HO_8 := n1_; have HO_9 := n2_; have HO316 := n3_; have HB := n4_; clear n0_ n1_ n2_ n3_ n4_; (try clear hb); (try clear hb2); (try clear hk); (try clear hi); (try clear ho0)))
              go_loopg [85] kj37 (fun kq v85 w' => ∃ (x85_3 : Int), v85 = .int .i64 x85_3 ∧ Aside0 (redpenlaw07_TrieMore.l1 kq (rdOf ByteArray.empty t280 0) t308 t311 t314 t317 t274 (t274.length : Int) x85_3 = some r) ∧ Aside0 (kq ≤ kj37) ∧ Aside0 (Kd.P TrP 900025 w' w.heap.size (fun k_ => some k_ ≠ ((.slice Ao41 t274.length co41) : Value).ownBlock) v309 t308) ∧ Aside0 (Kd.P TrP 900025 w' w.heap.size (fun k_ => some k_ ≠ ((.slice Ao41 t274.length co41) : Value).ownBlock) v315 t314) ∧ Aside0 (Kd.R Kd.string 9 w' w.heap.size (fun _ => True) (.slice Ao41 t274.length co41) t274) ∧ Aside0 (Below w.heap.size w w'))
              case atStart => exact ⟨(0), (by first | rfl | (simp; done) | (simp [*]; done) | (simp [wrap64, wrap32]; done)), H', ⟨Nat.le_refl _⟩, ⟨by (with_reducible repeat (first | apply Kd.P_alloc | apply Kd.P_drewN | apply Kd.P_drew)); exact Kd.P_mono HO_9.out (fun _ hk => hk.1)⟩, ⟨by (with_reducible repeat (first | apply Kd.P_alloc | apply Kd.P_drewN | apply Kd.P_drew)); exact Kd.P_mono HO316.out (fun _ hk => hk.1)⟩, ⟨by (with_reducible repeat (first | apply Kd.R_alloc | apply Kd.R_drewN | apply Kd.R_drew)); exact Kd.R_mono HO_0.out (fun _ hk => trivial)⟩, ⟨by repeat (first | (with_reducible first | exact HB.out | apply below_alloc | apply pw_below_drewN | apply below_drew1) | exact HB.out)⟩⟩
              case round =>
               clear H'
               try clear c1
               try clear c2
               try clear p2
               try clear q2
               try clear hx2
               try clear qi2
               try clear c3
               try clear p3
               try clear q3
               try clear hx3
               try clear c4
               try clear q4
               try clear c5
               try clear c7
               try clear c7b2
               try clear c12
               try clear c14
               try clear c15
               try clear c15b0
               try clear c15b1
               try clear c24
               try clear c24b0
               try clear c25
               try clear c25b0
               try clear c26
               try clear c26b0
               try clear p28
               try clear q28
               try clear hx28
               try clear qi28
               try clear c30
               try clear c30b0
               try clear c30b1
               try clear c31
               try clear c31b0
               try clear c31b1
               try clear p31
               try clear q31
               try clear hx31
               try clear c32
               try clear c33
               try clear c34
               try clear c34b0
               try clear c35
               try clear c35b0
               try clear c36
               try clear q40
               try clear c42
               try clear q42
               try clear c53
               try clear c53b0
               try clear c54
               try clear c55
               try clear c55b0
               try clear c55b1
               try clear hx283_0
               try clear hx284_0
               try clear hx312_0
               try clear p2
               try clear p28
               try clear p283
               try clear p284
               try clear p3
               try clear p31
               try clear p312
               try clear q042
               try clear q2
               try clear q28
               try clear q283
               try clear q284
               try clear q3
               try clear q31
               try clear q312
               try clear q4
               try clear q40
               try clear q42
               obtain ⟨x85_3, rfl, HA, HK3, HO_9, HO_11, HO_83, HB⟩ := hrel
               cases gk with
               | zero => exact absurd HA.out (by simp [redpenlaw07_TrieMore.l1])
               | succ k3 =>
                have H := HA.out
                clear HA
                simp only [redpenlaw07_TrieMore.l1] at H
                by_cases c61 : x85_3 < (t274.length : Int)
                ·rw [if_pos c61] at H
                 have c61b0 : decide (x85_3 < (t274.length : Int)) = true := decide_eq_true c61
                 clear c61
                 by_cases c62 : 0 ≤ x85_3
                 ·rw [if_pos c62] at H
                  have c62b0 : decide (0 ≤ x85_3) = true := decide_eq_true c62
                  clear c62
                  by_cases c63 : x85_3 < (t274.length : Int)
                  ·rw [if_pos c63] at H
                   have c63b0 : decide (x85_3 < (t274.length : Int)) = true := decide_eq_true c63
                   clear c63
                   replace H := Option.bind_eq_some_iff.mp H
                   obtain ⟨t319, A640, H⟩ := H
                   replace H : (if t319 = true then (redpenlaw07_TrieMore.l1 k3 (rdOf ByteArray.empty t280 0) t308 t311 t314 t317 t274 (t274.length : Int) (wrap64 (x85_3 + 1))) else (some false)) = some r := H
                   have A64 := Aside0.mk A640
                   clear A640
                   by_cases c65 : t319 = true
                   ·subst c65
                    have H1 : (redpenlaw07_TrieMore.l1 k3 (rdOf ByteArray.empty t280 0) t308 t311 t314 t317 t274 (t274.length : Int) (wrap64 (x85_3 + 1))) = some r := by rw [if_pos rfl] at H; exact H
                    clear H
                    have H := H1
                    clear H1
                    have H' := Aside0.mk H
                    clear H
                    have p318 : 0 ≤ (x85_3 : Int) := of_decide_eq_true (by first | (with_reducible assumption) | assumption)
                    have q318 : x85_3 < (t274.length : Int) := of_decide_eq_true (by first | (with_reducible assumption) | assumption)
                    obtain ⟨ad318, e318, hx318_0⟩ := Kd.at_string (Kd.R_reads' HO_83.out).2.2 x85_3 p318 q318
                    cases e318
                    replace p318 := eq_true p318
                    replace q318 := eq_true q318
                    go_wp2_with (first | ((with_reducible refine gate_callee (f := 28) rfl ?_); refine goesL_ (some 91) rfl rfl Try.func28 (by kernel_rfl) rfl #[v315, .string (rdOf ByteArray.empty t274 x85_3)] rfl (by (try simp only [List.map_toArray, List.map_cons, List.map_nil]); first | done | rfl | (simp only [List.length_drop, List.length_take]; rfl)) ?_; (with_reducible refine (trie_Trie_Has.calls k3 _ t314 (rdOf ByteArray.empty t274 x85_3) true _ ?side1 A64.out).mono ?_); (case side1 => exact Kd.P_now (by (with_reducible repeat (first | apply Kd.P_alloc | apply Kd.P_drewN | apply Kd.P_drew)); exact HO_11.out)); rintro e w66 ⟨rfl, hb⟩; refine ⟨_, rfl, ?_⟩; have n0_ := Aside0.mk (Kd.P_below (by (with_reducible repeat (first | apply Kd.P_alloc | apply Kd.P_drewN | apply Kd.P_drew)); exact HO_9.out) hb); have n1_ := Aside0.mk (Kd.P_below (by (with_reducible repeat (first | apply Kd.P_alloc | apply Kd.P_drewN | apply Kd.P_drew)); exact HO_11.out) hb); have n2_ := Aside0.mk (Kd.R_below (by (with_reducible repeat (first | apply Kd.R_alloc | apply Kd.R_drewN | apply Kd.R_drew)); exact HO_83.out) hb); have n3_ := Aside0.mk (below_step (by repeat (first | (with_reducible first | exact HB.out | apply below_alloc | apply pw_below_drewN | apply below_drew1) | exact HB.out)) hb); clear HO_9; clear HO_11; clear HO_83; clear HB; have HO_9 := n0_; have HO_11 := n1_; have HO_83 := n2_; have HB := n3_; clear n0_ n1_ n2_ n3_; (try clear hb); (try clear hb2); (try clear hk); (try clear hi)))
                    go_roundg k3
                    case measure => have := HJ15.out; have := HJ37.out; have := HK3.out; omega
                    case rel => exact ⟨(wrap64 (x85_3 + 1)), (by first | rfl | (simp; done) | (simp [*]; done) | (simp [wrap64, wrap32]; done)), H', ⟨by have := HJ15.out; have := HJ37.out; have := HK3.out; omega⟩, ⟨by (with_reducible repeat (first | apply Kd.P_alloc | apply Kd.P_drewN | apply Kd.P_drew)); exact HO_9.out⟩, ⟨by (with_reducible repeat (first | apply Kd.P_alloc | apply Kd.P_drewN | apply Kd.P_drew)); exact HO_11.out⟩, ⟨by (with_reducible repeat (first | apply Kd.R_alloc | apply Kd.R_drewN | apply Kd.R_drew)); exact HO_83.out⟩, ⟨by repeat (first | (with_reducible first | exact HB.out | apply below_alloc | apply pw_below_drewN | apply below_drew1) | exact HB.out)⟩⟩
                   ·replace c65 := Bool.eq_false_iff.mpr c65
                    subst c65
                    have H1 : (some false) = some r := by rw [if_neg (show ¬ (false = true) by decide)] at H; exact H
                    clear H
                    have H := H1
                    clear H1
                    have hf_ := Option.some.inj H
                    rw [hr_] at hf_
                    cases hf_
                  ·rw [if_neg c63] at H
                   exact absurd H (by simp)
                 ·rw [if_neg c62] at H
                  exact absurd H (by simp)
                ·rw [if_neg c61] at H
                 have c61b0 : decide (x85_3 < (t274.length : Int)) = false := decide_eq_false c61
                 clear c61
                 by_cases c67 : t311 = 0
                 ·rw [if_pos c67] at H
                  have c67b0 : (t311 == 0) = true := beq_iff_eq.mpr c67
                  have c67b1 : (t311 != 0) = false := bne_eq_false_iff_eq.mpr c67
                  clear c67
                  by_cases c68 : t317 = 0
                  ·rw [if_pos c68] at H
                   have c68b0 : (t317 == 0) = true := beq_iff_eq.mpr c68
                   have c68b1 : (t317 != 0) = false := bne_eq_false_iff_eq.mpr c68
                   clear c68
                   replace H := Option.bind_eq_some_iff.mp H
                   obtain ⟨t320, A690, H⟩ := H
                   replace H : (if t320 = true then (some false) else ((trie_Trie_Has.f k3 t314 (rdOf ByteArray.empty t280 0)).bind fun t321 => (if t321 = true then ((trie_Trie_Len.f t314).bind fun t322 => ((trie_Trie_Len.f t308).bind fun t323 => (if t322 = (wrap64 (t323 + 1)) then ((trie_Trie_Size.f t314).bind fun t324 => ((trie_Trie_Size.f t308).bind fun t325 => (if t324 ≥ t325 then ((trie_Trie_Size.f t314).bind fun t326 => ((trie_Trie_Size.f t308).bind fun t327 => ((utf_Runes.f k3 (rdOf ByteArray.empty t280 0)).bind fun t328 => (some (decide (t326 ≤ (wrap64 (t327 + (t328.length : Int))))))))) else (some false)))) else (some false)))) else (some false)))) = some r := H
                   have A69 := Aside0.mk A690
                   clear A690
                   by_cases c70 : t320 = true
                   ·subst c70
                    have H1 : (some false) = some r := by rw [if_pos rfl] at H; exact H
                    clear H
                    have H := H1
                    clear H1
                    have hf_ := Option.some.inj H
                    rw [hr_] at hf_
                    cases hf_
                   ·replace c70 := Bool.eq_false_iff.mpr c70
                    subst c70
                    have H1 : ((trie_Trie_Has.f k3 t314 (rdOf ByteArray.empty t280 0)).bind fun t321 => (if t321 = true then ((trie_Trie_Len.f t314).bind fun t322 => ((trie_Trie_Len.f t308).bind fun t323 => (if t322 = (wrap64 (t323 + 1)) then ((trie_Trie_Size.f t314).bind fun t324 => ((trie_Trie_Size.f t308).bind fun t325 => (if t324 ≥ t325 then ((trie_Trie_Size.f t314).bind fun t326 => ((trie_Trie_Size.f t308).bind fun t327 => ((utf_Runes.f k3 (rdOf ByteArray.empty t280 0)).bind fun t328 => (some (decide (t326 ≤ (wrap64 (t327 + (t328.length : Int))))))))) else (some false)))) else (some false)))) else (some false))) = some r := by rw [if_neg (show ¬ (false = true) by decide)] at H; exact H
                    clear H
                    have H := H1
                    clear H1
                    replace H := Option.bind_eq_some_iff.mp H
                    obtain ⟨t321, A710, H⟩ := H
                    replace H : (if t321 = true then ((trie_Trie_Len.f t314).bind fun t322 => ((trie_Trie_Len.f t308).bind fun t323 => (if t322 = (wrap64 (t323 + 1)) then ((trie_Trie_Size.f t314).bind fun t324 => ((trie_Trie_Size.f t308).bind fun t325 => (if t324 ≥ t325 then ((trie_Trie_Size.f t314).bind fun t326 => ((trie_Trie_Size.f t308).bind fun t327 => ((utf_Runes.f k3 (rdOf ByteArray.empty t280 0)).bind fun t328 => (some (decide (t326 ≤ (wrap64 (t327 + (t328.length : Int))))))))) else (some false)))) else (some false)))) else (some false)) = some r := H
                    have A71 := Aside0.mk A710
                    clear A710
                    by_cases c72 : t321 = true
                    ·subst c72
                     have H1 : ((trie_Trie_Len.f t314).bind fun t322 => ((trie_Trie_Len.f t308).bind fun t323 => (if t322 = (wrap64 (t323 + 1)) then ((trie_Trie_Size.f t314).bind fun t324 => ((trie_Trie_Size.f t308).bind fun t325 => (if t324 ≥ t325 then ((trie_Trie_Size.f t314).bind fun t326 => ((trie_Trie_Size.f t308).bind fun t327 => ((utf_Runes.f k3 (rdOf ByteArray.empty t280 0)).bind fun t328 => (some (decide (t326 ≤ (wrap64 (t327 + (t328.length : Int))))))))) else (some false)))) else (some false)))) = some r := by rw [if_pos rfl] at H; exact H
                     clear H
                     have H := H1
                     clear H1
                     replace H := Option.bind_eq_some_iff.mp H
                     obtain ⟨t322, A730, H⟩ := H
                     replace H : ((trie_Trie_Len.f t308).bind fun t323 => (if t322 = (wrap64 (t323 + 1)) then ((trie_Trie_Size.f t314).bind fun t324 => ((trie_Trie_Size.f t308).bind fun t325 => (if t324 ≥ t325 then ((trie_Trie_Size.f t314).bind fun t326 => ((trie_Trie_Size.f t308).bind fun t327 => ((utf_Runes.f k3 (rdOf ByteArray.empty t280 0)).bind fun t328 => (some (decide (t326 ≤ (wrap64 (t327 + (t328.length : Int))))))))) else (some false)))) else (some false))) = some r := H
                     have A73 := Aside0.mk A730
                     clear A730
                     replace H := Option.bind_eq_some_iff.mp H
                     obtain ⟨t323, A740, H⟩ := H
                     replace H : (if t322 = (wrap64 (t323 + 1)) then ((trie_Trie_Size.f t314).bind fun t324 => ((trie_Trie_Size.f t308).bind fun t325 => (if t324 ≥ t325 then ((trie_Trie_Size.f t314).bind fun t326 => ((trie_Trie_Size.f t308).bind fun t327 => ((utf_Runes.f k3 (rdOf ByteArray.empty t280 0)).bind fun t328 => (some (decide (t326 ≤ (wrap64 (t327 + (t328.length : Int))))))))) else (some false)))) else (some false)) = some r := H
                     have A74 := Aside0.mk A740
                     clear A740
                     by_cases c75 : t322 = (wrap64 (t323 + 1))
                     ·rw [if_pos c75] at H
                      have c75b0 : (t322 == (wrap64 (t323 + 1))) = true := beq_iff_eq.mpr c75
                      have c75b1 : (t322 != (wrap64 (t323 + 1))) = false := bne_eq_false_iff_eq.mpr c75
                      clear c75
                      replace H := Option.bind_eq_some_iff.mp H
                      obtain ⟨t324, A760, H⟩ := H
                      replace H : ((trie_Trie_Size.f t308).bind fun t325 => (if t324 ≥ t325 then ((trie_Trie_Size.f t314).bind fun t326 => ((trie_Trie_Size.f t308).bind fun t327 => ((utf_Runes.f k3 (rdOf ByteArray.empty t280 0)).bind fun t328 => (some (decide (t326 ≤ (wrap64 (t327 + (t328.length : Int))))))))) else (some false))) = some r := H
                      have A76 := Aside0.mk A760
                      clear A760
                      replace H := Option.bind_eq_some_iff.mp H
                      obtain ⟨t325, A770, H⟩ := H
                      replace H : (if t324 ≥ t325 then ((trie_Trie_Size.f t314).bind fun t326 => ((trie_Trie_Size.f t308).bind fun t327 => ((utf_Runes.f k3 (rdOf ByteArray.empty t280 0)).bind fun t328 => (some (decide (t326 ≤ (wrap64 (t327 + (t328.length : Int))))))))) else (some false)) = some r := H
                      have A77 := Aside0.mk A770
                      clear A770
                      by_cases c78 : t324 ≥ t325
                      ·rw [if_pos c78] at H
                       have c78b0 : decide (t325 ≤ t324) = true := decide_eq_true c78
                       clear c78
                       replace H := Option.bind_eq_some_iff.mp H
                       obtain ⟨t326, A790, H⟩ := H
                       replace H : ((trie_Trie_Size.f t308).bind fun t327 => ((utf_Runes.f k3 (rdOf ByteArray.empty t280 0)).bind fun t328 => (some (decide (t326 ≤ (wrap64 (t327 + (t328.length : Int)))))))) = some r := H
                       have A79 := Aside0.mk A790
                       clear A790
                       replace H := Option.bind_eq_some_iff.mp H
                       obtain ⟨t327, A800, H⟩ := H
                       replace H : ((utf_Runes.f k3 (rdOf ByteArray.empty t280 0)).bind fun t328 => (some (decide (t326 ≤ (wrap64 (t327 + (t328.length : Int))))))) = some r := H
                       have A80 := Aside0.mk A800
                       clear A800
                       replace H := Option.bind_eq_some_iff.mp H
                       obtain ⟨t328, A810, H⟩ := H
                       replace H : (some (decide (t326 ≤ (wrap64 (t327 + (t328.length : Int)))))) = some r := H
                       have A81 := Aside0.mk A810
                       clear A810
                       obtain rfl := Option.some.inj H
                       obtain rfl : t326 = t324 := Option.some.inj (A79.out.symm.trans A76.out)
                       obtain rfl : t327 = t325 := Option.some.inj (A80.out.symm.trans A77.out)
                       go_wp2_with (first | (go_at_call 28; (with_reducible refine (trie_Trie_Has.calls k3 _ t308 (rdOf ByteArray.empty t280 0) false _ ?side1 A69.out).mono ?_); (case side1 => exact Kd.P_now (by (with_reducible repeat (first | apply Kd.P_alloc | apply Kd.P_drewN | apply Kd.P_drew)); exact HO_9.out)); rintro e w82 ⟨rfl, hb⟩; have n0_ := Aside0.mk (Kd.P_below (by (with_reducible repeat (first | apply Kd.P_alloc | apply Kd.P_drewN | apply Kd.P_drew)); exact HO_9.out) hb); have n1_ := Aside0.mk (Kd.P_below (by (with_reducible repeat (first | apply Kd.P_alloc | apply Kd.P_drewN | apply Kd.P_drew)); exact HO_11.out) hb); have n2_ := Aside0.mk (Kd.R_below (by (with_reducible repeat (first | apply Kd.R_alloc | apply Kd.R_drewN | apply Kd.R_drew)); exact HO_83.out) hb); have n3_ := Aside0.mk (below_step (by repeat (first | (with_reducible first | exact HB.out | apply below_alloc | apply pw_below_drewN | apply below_drew1) | exact HB.out)) hb); clear HO_9; clear HO_11; clear HO_83; clear HB; have HO_9 := n0_; have HO_11 := n1_; have HO_83 := n2_; have HB := n3_; clear n0_ n1_ n2_ n3_; (try clear hb); (try clear hb2); (try clear hk); (try clear hi)) | (go_at_call 28; (with_reducible refine (trie_Trie_Has.calls k3 _ t314 (rdOf ByteArray.empty t280 0) true _ ?side1 A71.out).mono ?_); (case side1 => exact Kd.P_now (by (with_reducible repeat (first | apply Kd.P_alloc | apply Kd.P_drewN | apply Kd.P_drew)); exact HO_11.out)); rintro e w83 ⟨rfl, hb⟩; have n0_ := Aside0.mk (Kd.P_below (by (with_reducible repeat (first | apply Kd.P_alloc | apply Kd.P_drewN | apply Kd.P_drew)); exact HO_9.out) hb); have n1_ := Aside0.mk (Kd.P_below (by (with_reducible repeat (first | apply Kd.P_alloc | apply Kd.P_drewN | apply Kd.P_drew)); exact HO_11.out) hb); have n2_ := Aside0.mk (Kd.R_below (by (with_reducible repeat (first | apply Kd.R_alloc | apply Kd.R_drewN | apply Kd.R_drew)); exact HO_83.out) hb); have n3_ := Aside0.mk (below_step (by repeat (first | (with_reducible first | exact HB.out | apply below_alloc | apply pw_below_drewN | apply below_drew1) | exact HB.out)) hb); clear HO_9; clear HO_11; clear HO_83; clear HB; have HO_9 := n0_; have HO_11 := n1_; have HO_83 := n2_; have HB := n3_; clear n0_ n1_ n2_ n3_; (try clear hb); (try clear hb2); (try clear hk); (try clear hi)) | (go_at_call 16; (with_reducible refine (trie_Trie_Len.calls _ t314 t322 _ ?side1 A73.out).mono ?_); (case side1 => exact Kd.P_now (by (with_reducible repeat (first | apply Kd.P_alloc | apply Kd.P_drewN | apply Kd.P_drew)); exact HO_11.out)); rintro e w' ⟨rfl, ⟨nd, rfl⟩⟩) | (go_at_call 16; (with_reducible refine (trie_Trie_Len.calls _ t308 t323 _ ?side1 A74.out).mono ?_); (case side1 => exact Kd.P_now (by (with_reducible repeat (first | apply Kd.P_alloc | apply Kd.P_drewN | apply Kd.P_drew)); exact HO_9.out)); rintro e w' ⟨rfl, ⟨nd, rfl⟩⟩) | (go_at_call 35; (with_reducible refine (trie_Trie_Size.calls _ t314 t324 _ ?side1 A76.out).mono ?_); (case side1 => exact Kd.P_now (by (with_reducible repeat (first | apply Kd.P_alloc | apply Kd.P_drewN | apply Kd.P_drew)); exact HO_11.out)); rintro e w' ⟨rfl, ⟨nd, rfl⟩⟩) | (go_at_call 35; (with_reducible refine (trie_Trie_Size.calls _ t308 t325 _ ?side1 A77.out).mono ?_); (case side1 => exact Kd.P_now (by (with_reducible repeat (first | apply Kd.P_alloc | apply Kd.P_drewN | apply Kd.P_drew)); exact HO_9.out)); rintro e w' ⟨rfl, ⟨nd, rfl⟩⟩) | (go_at_call 35; (with_reducible refine (trie_Trie_Size.calls _ t314 t326 _ ?side1 A79.out).mono ?_); (case side1 => exact Kd.P_now (by (with_reducible repeat (first | apply Kd.P_alloc | apply Kd.P_drewN | apply Kd.P_drew)); exact HO_11.out)); rintro e w' ⟨rfl, ⟨nd, rfl⟩⟩) | (go_at_call 35; (with_reducible refine (trie_Trie_Size.calls _ t308 t327 _ ?side1 A80.out).mono ?_); (case side1 => exact Kd.P_now (by (with_reducible repeat (first | apply Kd.P_alloc | apply Kd.P_drewN | apply Kd.P_drew)); exact HO_9.out)); rintro e w' ⟨rfl, ⟨nd, rfl⟩⟩) | (go_at_call 29; (with_reducible refine (utf_Runes.calls k3 (rdOf ByteArray.empty t280 0) t328 _ A81.out).mono ?_); rintro e w84 ⟨v329, rfl, ho0, hb⟩; have n0_ := Aside0.mk (Kd.P_elder' (by (with_reducible repeat (first | apply Kd.P_alloc | apply Kd.P_drewN | apply Kd.P_drew)); exact HO_9.out) (Kd.R_base ho0) hb); have n1_ := Aside0.mk (Kd.P_elder' (by (with_reducible repeat (first | apply Kd.P_alloc | apply Kd.P_drewN | apply Kd.P_drew)); exact HO_11.out) (Kd.R_base ho0) hb); have n2_ := Aside0.mk (Kd.R_below (by (with_reducible repeat (first | apply Kd.R_alloc | apply Kd.R_drewN | apply Kd.R_drew)); exact HO_83.out) hb); have n3_ := Aside0.mk (Kd.R_lower ho0 (below_size (by repeat (first | (with_reducible first | exact HB.out | apply below_alloc | apply pw_below_drewN | apply below_drew1) | exact HB.out)))); have n4_ := Aside0.mk (below_step (by repeat (first | (with_reducible first | exact HB.out | apply below_alloc | apply pw_below_drewN | apply below_drew1) | exact HB.out)) hb); clear HO_9; clear HO_11; clear HO_83; clear HB; have HO_9 := n0_; have HO_11 := n1_; have HO_83 := n2_; have HO330 := n3_; have HB := n4_; clear n0_ n1_ n2_ n3_ n4_; (try clear hb); (try clear hb2); (try clear hk); (try clear hi); (try clear ho0); obtain ⟨Ao85, co85, eo85⟩ := Kd.R_slice HO330.out; subst eo85))
                       go_ret
                       exact ⟨by first | rfl | (simp [errW_none, errW_some] <;> rfl) | (simp [*, errW_none, errW_some] <;> rfl), by repeat (first | (with_reducible first | exact HB.out | apply below_alloc | apply pw_below_drewN | apply below_drew1) | exact HB.out)⟩
                      ·rw [if_neg c78] at H
                       have c78b0 : decide (t325 ≤ t324) = false := decide_eq_false c78
                       clear c78
                       have hf_ := Option.some.inj H
                       rw [hr_] at hf_
                       cases hf_
                     ·rw [if_neg c75] at H
                      have c75b0 : (t322 == (wrap64 (t323 + 1))) = false := beq_eq_false_iff_ne.mpr c75
                      have c75b1 : (t322 != (wrap64 (t323 + 1))) = true := bne_iff_ne.mpr c75
                      have hf_ := Option.some.inj H
                      rw [hr_] at hf_
                      cases hf_
                    ·replace c72 := Bool.eq_false_iff.mpr c72
                     subst c72
                     have H1 : (some false) = some r := by rw [if_neg (show ¬ (false = true) by decide)] at H; exact H
                     clear H
                     have H := H1
                     clear H1
                     have hf_ := Option.some.inj H
                     rw [hr_] at hf_
                     cases hf_
                  ·rw [if_neg c68] at H
                   have c68b0 : (t317 == 0) = false := beq_eq_false_iff_ne.mpr c68
                   have c68b1 : (t317 != 0) = true := bne_iff_ne.mpr c68
                   have hf_ := Option.some.inj H
                   rw [hr_] at hf_
                   cases hf_
                 ·rw [if_neg c67] at H
                  have c67b0 : (t311 == 0) = false := beq_eq_false_iff_ne.mpr c67
                  have c67b1 : (t311 != 0) = true := bne_iff_ne.mpr c67
                  have hf_ := Option.some.inj H
                  rw [hr_] at hf_
                  cases hf_
          ·rw [if_neg c36] at H
           exact absurd H (by simp)
         ·rw [if_neg c33] at H
          exact absurd H (by simp)
        ·rw [if_neg c32] at H
         exact absurd H (by simp)
       ·rw [if_neg c31] at H
        exact absurd H (by simp)
      ·rw [if_neg c30] at H
       exact absurd H (by simp)
   ·rw [if_neg c15] at H
    exact absurd H (by simp)
 ·replace c4 := Bool.eq_false_iff.mpr c4
  subst c4
  have H1 : (some false) = some r := by rw [if_neg (show ¬ (false = true) by decide)] at H; exact H
  clear H
  have H := H1
  clear H1
  have hf_ := Option.some.inj H
  rw [hr_] at hf_
  cases hf_

end Go.Proofs.Ytokgkhndhlcfpaa.PTrieMore
