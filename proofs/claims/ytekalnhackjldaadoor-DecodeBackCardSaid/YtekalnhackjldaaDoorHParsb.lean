/- Walks of our own: strconv.ParseUint, its errors (after the kit's shelf). -/
import Derived.Test.YtekalnhackjldaaDoorHParse
namespace Go.Proofs.YtekalnhackjldaaDoor.H
open Go.RowKit
set_option linter.unusedVariables false
set_option linter.unusedSimpArgs false

theorem info_u8 : (Tryd.prog.info? 5).map (fun i => (i.zero, i.size, i.bytes)) = some (some (.int .u8 0), 1, 1) := by kernel_rfl
set_option maxHeartbeats 4000000 in
set_option maxRecDepth 100000 in
theorem clone_at (s : ByteArray) (w : World) (hlim : s.size ≤ 281474976710656) :
    Calls Tryd.prog 74 #[.string s] w fun e w' => e = .returned (.string s) ∧ Below w.heap.size w w' := by
  by_cases h0 : s.size = 0
  · have hs : s = ⟨#[]⟩ := by
      apply ByteArray.ext
      exact Array.eq_empty_of_size_eq_zero h0
    subst hs
    go_enter Tryd.func74, Tryd.ntmps74
    go_wp2
    go_ret
    exact ⟨rfl, Below.refl _ _⟩
  · obtain ⟨i0, hi, hz0, hz1, hz2⟩ := info_parts info_u8
    have hinfo : (Tryd.prog.info? 5).map (·.size) = some 1 := by rw [hi]; simp [hz1]
    have hco : Tryd.prog.cellsOf 5 = 1 := by simp [Program.cellsOf, hi, hz1]
    obtain ⟨M, hM⟩ : ∃ M, M = madeCells (Value.int .u8 0).cells (((s.size : Nat) : Int).toNat * i0.size) := ⟨_, rfl⟩
    have hMs : M.size = s.size := by rw [hM, size_madeCells, hz1]; simp
    have hmk : ∀ W : World, (Instr.makeSlice 22 (.int .i64 (s.size : Int)) (.int .i64 (s.size : Int))).run Tryd.prog W = .ok (.slice (some ⟨W.heap.size, 0, none⟩) s.size s.size) (W.alloc (.cells M 5)) := fun W => by
      have h := run_make (P := Tryd.prog) W 22 5 i0 (.int .u8 0) Tryd.underlying22 hi hz0 .i64 .i64 (s.size : Int) (s.size : Int) (by omega) (by omega) (by rw [hz2]; omega) (by omega)
      rw [← hM] at h
      simpa using h
    clear hM
    have hcp := Lib.run_copy_row_string (P := Tryd.prog) (w.alloc (.cells M 5)) 22 9 3 5 w.heap.size 0 s.size s.size s M 5 Tryd.underlying22 hinfo (heap_alloc_new w _) (Nat.le_refl _) (by omega)
    obtain ⟨Y, hY⟩ : ∃ Y, Y = (M.toList.take 0 ++ Lib.byteCells s.data.toList ++ M.toList.drop (0 + s.size)).toArray := ⟨_, rfl⟩
    rw [← hY] at hcp
    have hYl : Y.toList = Lib.byteCells s.data.toList := by
      rw [hY, List.toList_toArray, List.take_zero, List.nil_append, List.drop_of_length_le (by rw [Array.length_toList]; omega), List.append_nil]
    have hYs : Y.size = s.size := by rw [← Array.length_toList, hYl, Lib.byteCells_length, ← Lib.size_eq]
    have hgY : ((w.alloc (.cells M 5)).setRow w.heap.size Y).heap[w.heap.size]? = some (.cells Y 5 (0, 0)) := setRow_heap _ _ M _ 5 (0, 0) (heap_alloc_new w _)
    have hne : s.data.toList ≠ [] := fun e => h0 (by rw [Lib.size_eq, e]; rfl)
    have hUS := Lib.run_unsafeString_row (P := Tryd.prog) ((w.alloc (.cells M 5)).setRow w.heap.size Y) 115 3 9 5 Tryd.underlying115 hco w.heap.size Y.size (by unfold World.shape?; rw [hgY]) s.data.toList hne (by rw [← Lib.size_eq]; omega) (by rw [← Lib.size_eq]; omega)
      (fun j x hx => Lib.cells_of_row hgY Y.size j _ (by rw [List.take_of_length_le (by rw [Array.length_toList]; exact Nat.le_refl _), hYl]; simp [Lib.byteCells, hx]))
    rw [← Lib.size_eq] at hUS
    clear hY
    go_enter Tryd.func74, Tryd.ntmps74
    go_wp2
    go_ret
    have hb1 : Below w.heap.size w (w.alloc (.cells M 5)) := (Below.refl _ w).alloc (Nat.le_refl _) _
    have hb2 : Below w.heap.size (w.alloc (.cells M 5)) ((w.alloc (.cells M 5)).setRow w.heap.size Y) := ⟨rfl, rfl, rfl, by simp, fun k hk => setRow_other _ _ _ _ (by omega)⟩
    exact ⟨rfl, Lib.below_freeze (hb1.trans hb2) (p := ⟨w.heap.size, 0, none⟩) (Nat.le_refl _) _⟩
/-- The variable that an error is told by. -/
def IfaceV (ev : Value) : Prop := ev = .nilIface ∨ ∃ te pe, ev = .iface te pe
set_option maxHeartbeats 6400000 in
set_option maxRecDepth 100000 in
theorem syntax_at (fn s : ByteArray) (ev : Value) (w : World) (hlim : s.size ≤ 281474976710656) (hv : w.cell? ⟨1, 0, none⟩ = some ev) (hev : IfaceV ev) :
    Calls Tryd.prog 65 #[.string fn, .string s] w fun e w' => ∃ N, e = .returned (.pointer (some ⟨N, 0, none⟩)) ∧ Below w.heap.size w w' := by
  have mixed : Tryd.prog.follows Departure.mixedOrders = true := by kernel_rfl
  rcases hev with rfl | ⟨te, pe, rfl⟩
  all_goals (
    have hG : 1 < w.heap.size := Lib.lt_of_cell hv
    have hvd : w.drew.cell? ⟨1, 0, none⟩ = some _ := hv
    go_enter Tryd.func65, Tryd.ntmps65
    go_wp2
    go_region_with_o (
        go_at_call 74
        refine (clone_at s _ hlim).mono ?_
        rintro e w2 ⟨rfl, hbel⟩
        have hv2 : w2.cell? ⟨1, 0, none⟩ = some _ := (hbel.cell (show (⟨1, 0, none⟩ : Addr).block < w.drew.heap.size from hG)).trans hvd)
    all_goals (
      go_wp2
      go_ret
      have hs2 : w.heap.size ≤ w2.heap.size := hbel.size
      exact ⟨_, rfl, ((Below.drew (Below.refl _ w)).trans hbel).alloc hs2 _⟩))
set_option maxHeartbeats 6400000 in
set_option maxRecDepth 100000 in
theorem range_at (fn s : ByteArray) (ev : Value) (w : World) (hlim : s.size ≤ 281474976710656) (hv : w.cell? ⟨2, 0, none⟩ = some ev) (hev : IfaceV ev) :
    Calls Tryd.prog 66 #[.string fn, .string s] w fun e w' => ∃ N, e = .returned (.pointer (some ⟨N, 0, none⟩)) ∧ Below w.heap.size w w' := by
  have mixed : Tryd.prog.follows Departure.mixedOrders = true := by kernel_rfl
  rcases hev with rfl | ⟨te, pe, rfl⟩
  all_goals (
    have hG : 2 < w.heap.size := Lib.lt_of_cell hv
    have hvd : w.drew.cell? ⟨2, 0, none⟩ = some _ := hv
    go_enter Tryd.func66, Tryd.ntmps66
    go_wp2
    go_region_with_o (
        go_at_call 74
        refine (clone_at s _ hlim).mono ?_
        rintro e w2 ⟨rfl, hbel⟩
        have hv2 : w2.cell? ⟨2, 0, none⟩ = some _ := (hbel.cell (show (⟨2, 0, none⟩ : Addr).block < w.drew.heap.size from hG)).trans hvd)
    all_goals (
      go_wp2
      go_ret
      have hs2 : w.heap.size ≤ w2.heap.size := hbel.size
      exact ⟨_, rfl, ((Below.drew (Below.refl _ w)).trans hbel).alloc hs2 _⟩))
/-- What the two variables hold. -/
def ErrVars (w : World) : Prop := (∃ ev, w.cell? ⟨1, 0, none⟩ = some ev ∧ IfaceV ev) ∧ ∃ ev, w.cell? ⟨2, 0, none⟩ = some ev ∧ IfaceV ev
theorem ErrVars.below {w w' : World} (h : ErrVars w) (hb : Below w.heap.size w w') : ErrVars w' := by
  obtain ⟨⟨a, h1, h2⟩, b, h3, h4⟩ := h
  exact ⟨⟨a, (hb.cell (show (⟨1, 0, none⟩ : Addr).block < w.heap.size from Lib.lt_of_cell h1)).trans h1, h2⟩, b, (hb.cell (show (⟨2, 0, none⟩ : Addr).block < w.heap.size from Lib.lt_of_cell h3)).trans h3, h4⟩
theorem comp_err : (Tryd.prog.info? 104).map (·.comparable) = some true := by kernel_rfl
set_option maxHeartbeats 6400000 in
set_option maxRecDepth 100000 in
theorem toerr_at (fn s : ByteArray) (base bits : Int) (er : Value) (w : World) (hlim : s.size ≤ 281474976710656) (hv : ErrVars w) (her : er = .iface 104 (.int .i64 1) ∨ er = .iface 104 (.int .i64 2)) :
    Calls Tryd.prog 52 #[.string fn, .string s, .int .i64 base, .int .i64 bits, er] w fun e w' => (∃ N, e = .returned (.iface 107 (.pointer (some ⟨N, 0, none⟩)))) ∧ Below w.heap.size w w' := by
  obtain ⟨⟨ev1, hv1, hev1⟩, ev2, hv2, hev2⟩ := hv
  have hq22 : ∀ W, (binOp .eql 71 (.iface 104 (.int .i64 2)) (.iface 104 (.int .i64 2))).run Tryd.prog W = .ok (.bool true) W := fun W => Lib.run_eql_iface_int W 2 2 Tryd.underlying71 comp_err Tryd.underlying104
  have hq12 : ∀ W, (binOp .eql 71 (.iface 104 (.int .i64 1)) (.iface 104 (.int .i64 2))).run Tryd.prog W = .ok (.bool false) W := fun W => Lib.run_eql_iface_int W 1 2 Tryd.underlying71 comp_err Tryd.underlying104
  have hq11 : ∀ W, (binOp .eql 71 (.iface 104 (.int .i64 1)) (.iface 104 (.int .i64 1))).run Tryd.prog W = .ok (.bool true) W := fun W => Lib.run_eql_iface_int W 1 1 Tryd.underlying71 comp_err Tryd.underlying104
  rcases her with rfl | rfl
  · go_enter Tryd.func52, Tryd.ntmps52
    go_wp2_with (go_at_call 66; refine (range_at fn s ev2 _ hlim hv2 hev2).mono ?_; rintro e w2 ⟨N, rfl, h3⟩)
    go_wp2
    go_ret
    exact ⟨⟨N, rfl⟩, h3⟩
  · go_enter Tryd.func52, Tryd.ntmps52
    go_wp2_with (go_at_call 65; refine (syntax_at fn s ev1 _ hlim hv1 hev1).mono ?_; rintro e w2 ⟨N, rfl, h3⟩)
    go_wp2
    go_ret
    exact ⟨⟨N, rfl⟩, h3⟩
/-- What is told of strconv.ParseUint. -/
def PuPub (b : Nat) (bs : List UInt8) (e : Ending) : Prop := ∃ (x : Int) (er : Value), e = .returned (.tuple #[.int .u64 x, er]) ∧ ((er = .nilIface ∧ ∃ n : Nat, x = n ∧ numM b 0 bs = some n) ∨ ((∃ N, er = .iface 107 (.pointer (some ⟨N, 0, none⟩))) ∧ numM b 0 bs = none))
set_option maxHeartbeats 6400000 in
set_option maxRecDepth 100000 in
theorem parse_at (b : Nat) (hb : b = 10 ∨ b = 16) (t : ByteArray) (hne : t.size ≠ 0) (hmax : t.size ≤ 281474976710656) (w : World) (hv : ErrVars w) :
    Calls Tryd.prog 33 #[.string t, .int .i64 b, .int .i64 32] w fun e w' => PuPub b t.data.toList e ∧ Below w.heap.size w w' := by
  have hI := iparse_at b hb t hne (by omega) w
  have hb1 : Below w.heap.size w (Lib.bytesWorld w 5 t) := Lib.bytesWorld_below _ _ _
  generalize Lib.bytesWorld w 5 t = W1 at hI hb1
  have hv1 := hv.below hb1
  go_enter Tryd.func33, Tryd.ntmps33
  go_wp2_with (go_at_call 51; refine hI.mono ?_; rintro e w' ⟨⟨x, er, rfl, hx⟩, rfl⟩; rcases hx with ⟨rfl, n, rfl, hn⟩ | ⟨rfl | rfl, hn⟩)
  · go_wp2
    go_ret2
    exact ⟨⟨_, _, rfl, .inl ⟨rfl, n, rfl, hn⟩⟩, hb1⟩
  · go_wp2_with (go_at_call 52; refine (toerr_at _ _ _ _ _ _ hmax hv1 (.inl rfl)).mono ?_; rintro e w2 ⟨⟨N, rfl⟩, h3⟩)
    go_wp2
    go_ret2
    exact ⟨⟨_, _, rfl, .inr ⟨⟨N, rfl⟩, hn⟩⟩, hb1.trans (h3.mono hb1.size)⟩
  · go_wp2_with (go_at_call 52; refine (toerr_at _ _ _ _ _ _ hmax hv1 (.inr rfl)).mono ?_; rintro e w2 ⟨⟨N, rfl⟩, h3⟩)
    go_wp2
    go_ret2
    exact ⟨⟨_, _, rfl, .inr ⟨⟨N, rfl⟩, hn⟩⟩, hb1.trans (h3.mono hb1.size)⟩
end Go.Proofs.YtekalnhackjldaaDoor.H
