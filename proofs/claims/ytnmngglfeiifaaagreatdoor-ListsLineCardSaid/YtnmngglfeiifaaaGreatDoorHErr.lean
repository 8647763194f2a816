/- Package fault's functions and lists.Line by contracts over errors that wrap a number. -/
import Derived.Test.YtnmngglfeiifaaaGreatDoorHAs6
namespace Go.Proofs.YtnmngglfeiifaaaGreatDoor.H
open Go.RowKit Go.Extern.Stop Go.Stop Go.Extern Go.Proofs.YtnmngglfeiifaaaGreatDoorW.PrintWords Go.Proofs.YtnmngglfeiifaaaGreatDoorW.PrintLast Go.Proofs.YtnmngglfeiifaaaGreatDoor.X
set_option linter.unusedVariables false
set_option linter.unusedSimpArgs false
theorem asPre_below {w0 w : World} (hb : Below w0.heap.size w0 w) (ty : TypeId) (t : Addr) : Below w0.heap.size w0 (asPre ty t w) := below_alloc (below_alloc (below_alloc hb _) _) _
theorem ErrT.below {B : Nat} {w w' : World} (h : ErrT w) (hB : 0 < B) (hb : Below B w w') : ErrT w' := by
  unfold ErrT at h ⊢
  have : w'.heap[0]? = w.heap[0]? := hb.block 0 hB
  simpa [World.cell?, this] using h
theorem ErrT.pos {w : World} (h : ErrT w) : 0 < w.heap.size := by
  rcases Nat.eq_zero_or_pos w.heap.size with h0 | h1
  · simp [ErrT, World.cell?, h0] at h
  · exact h1
/-- What errors.As leaves: the target's cell, and all that lay there before. -/
theorem hit_below {g : Nat} {w0 w : World} {old x : Value} {ty tc : TypeId} {cs : Array Value} (hb : Below w0.heap.size w0 w) (hB : w0.heap.size ≤ g) (hc : w.heap[g]? = some (.cells #[old] tc (0, 0))) (cy : TypeId) :
    (((asPre ty ⟨g, 0, none⟩ w).alloc (.cells cs cy)).setCell ⟨g, 0, none⟩ x).heap[g]? = some (.cells #[x] tc (0, 0)) ∧ Below w0.heap.size w0 (((asPre ty ⟨g, 0, none⟩ w).alloc (.cells cs cy)).setCell ⟨g, 0, none⟩ x) := by
  have h1 : ((asPre ty ⟨g, 0, none⟩ w).alloc (.cells cs cy)).heap[g]? = some (.cells #[old] tc (0, 0)) := blk_alloc (blk_alloc (blk_alloc (blk_alloc hc _) _) _) _
  exact ⟨blk_put h1 0 x rfl, (below_alloc (asPre_below hb ty _) _).setCell hB x⟩
theorem as_hit_b {g : Nat} {w0 w : World} (e : Addr) (old : Value) (hb : Below w0.heap.size w0 w) (hB : w0.heap.size ≤ g) (hg : ErrT w) (hc : w.heap[g]? = some (.cells #[old] 75 (0, 0))) :
    Calls Tryz.prog 41 #[.iface 75 (.pointer (some e)), .iface 79 (.pointer (some ⟨g, 0, none⟩))] w fun ev w' => ev = .returned (.bool true) ∧ w'.heap[g]? = some (.cells #[.pointer (some e)] 75 (0, 0)) ∧ Below w0.heap.size w0 w' := by
  refine (as_at_hit e ⟨g, 0, none⟩ old w hg (cell_of_heap hc 0) (frozen_of_heap hc 0)).mono ?_
  rintro ev w' ⟨rfl, rfl⟩
  exact ⟨rfl, hit_below hb hB hc 75⟩
theorem as_num_b {g : Nat} {w0 w : World} (n : Int) (hb : Below w0.heap.size w0 w) (hg : ErrT w) :
    Calls Tryz.prog 41 #[.iface 41 (.int .i64 n), .iface 79 (.pointer (some ⟨g, 0, none⟩))] w fun ev w' => ev = .returned (.bool false) ∧ Below w0.heap.size w0 w' := by
  refine (as_at_num n ⟨g, 0, none⟩ w hg).mono ?_
  rintro ev w' ⟨rfl, rfl⟩
  exact ⟨rfl, asPre_below hb 79 _⟩
/-- What fault.New makes. -/
def newE (l : ByteArray) (i : Int) : List (ByteArray × Int) → List (ByteArray × Int)
  | [] => []
  | y :: r => (l, i) :: y :: r
def ofE (n : Int) : List (ByteArray × Int) := if n = 0 then [] else [(ByteArray.empty, n)]
def lineE : List (ByteArray × Int) → Int
  | [] => 0
  | [(_, _)] => 0
  | (_, i) :: y :: r => if 0 < i then i else lineE (y :: r)
theorem new_at (l : ByteArray) (i : Int) (v : Value) (xs : List (ByteArray × Int)) (w : World) (h : ErP w v xs) :
    Calls Tryz.prog 20 #[.string l, .int .i64 i, v] w fun e w' => ∃ v', e = .returned v' ∧ ErP w' v' (newE l i xs) ∧ Below w.heap.size w w' := by
  cases xs with
  | nil =>
    obtain rfl := h
    go_enter Tryz.func20, Tryz.ntmps20
    go_wp2
    go_ret
    exact ⟨_, rfl, rfl, Below.refl _ _⟩
  | cons y r =>
    have H := Aside0.mk h
    rcases h.some_ with ⟨b, rfl⟩ | ⟨n, rfl⟩
    all_goals
      clear h
      go_enter Tryz.func20, Tryz.ntmps20
      go_wp2
      go_ret
      exact ⟨_, rfl, ⟨w.heap.size, _, rfl, heap_alloc_new w _, H.out.alloc _⟩, below_alloc (Below.refl _ _) _⟩
theorem of_at (n : Int) (w : World) : Calls Tryz.prog 19 #[.int .i64 n] w fun e w' => ∃ v', e = .returned v' ∧ ErP w' v' (ofE n) ∧ w' = w := by
  by_cases hn : n = 0
  · subst hn
    go_enter Tryz.func19, Tryz.ntmps19
    go_wp2
    go_ret
    exact ⟨_, rfl, rfl, rfl⟩
  · have H := Aside0.mk hn
    have hb : (n == 0) = false := beq_eq_false_iff_ne.2 hn
    clear hn
    go_enter Tryz.func19, Tryz.ntmps19
    go_wp2
    go_ret
    exact ⟨_, rfl, by rw [ofE, if_neg H.out]; exact ⟨rfl, rfl⟩, rfl⟩
set_option maxHeartbeats 4000000 in
theorem line_at (v : Value) (xs : List (ByteArray × Int)) (w : World) (hg : ErrT w) (h : ErP w v xs) :
    Calls Tryz.prog 21 #[v] w fun e w' => e = .returned (.int .i64 (lineE xs)) ∧ Below w.heap.size w w' := by
  have HG := Aside0.mk hg
  have H := Aside0.mk h
  clear hg h
  go_enter Tryz.func21, Tryz.ntmps21
  go_wp2
  go_loopg [0] xs.length (fun kq v0 w' => ∃ ys : List (ByteArray × Int), Aside0 (kq = ys.length ∧ lineE ys = lineE xs) ∧ Aside0 (ErP w v0 ys) ∧ Aside0 (Below w.heap.size w w'))
  case atStart => exact ⟨xs, ⟨⟨rfl, rfl⟩⟩, H, ⟨Below.refl _ _⟩⟩
  case round =>
    obtain ⟨ys, HY, HE, HB⟩ := hrel
    have hne := Aside0.mk (below_size HB.out)
    cases ys with
    | nil =>
      obtain rfl := HE.out
      have HV := Aside0.mk (show (0 : Int) = lineE xs from HY.out.2)
      clear HY HE H
      go_wp2_with (go_at_call 41; refine (as_nil _ _).mono ?_; rintro e w' ⟨rfl, rfl⟩)
      go_ret
      exact ⟨by rw [← HV.out]; rfl, below_alloc HB.out _⟩
    | cons y r =>
      obtain ⟨l, i⟩ := y
      cases r with
      | nil =>
        obtain ⟨_, rfl⟩ := HE.out
        have HV := Aside0.mk (show (0 : Int) = lineE xs from HY.out.2)
        clear HY HE H
        go_wp2_with (go_at_call 41; refine (as_num_b _ (below_alloc HB.out _) (HG.out.below HG.out.pos (below_alloc HB.out _))).mono ?_; rintro e w' ⟨rfl, HB2⟩; replace HB2 := Aside0.mk HB2)
        go_ret
        exact ⟨by rw [← HV.out]; rfl, HB2.out⟩
      | cons z r =>
        obtain ⟨b, u, rfl, hb, hu⟩ := HE.out
        have HU := Aside0.mk hu
        have HBK := Aside0.mk hb
        have HQ := Aside0.mk (show (z :: r).length < gk from by rw [HY.out.1]; simp)
        have HV := Aside0.mk (show (if 0 < i then i else lineE (z :: r)) = lineE xs from HY.out.2)
        clear HY HE H hb hu
        by_cases hi : 0 < i
        · have HI := Aside0.mk (show i = lineE xs by have := HV.out; rw [if_pos hi] at this; exact this)
          have c1 : decide (0 < i) = true := decide_eq_true hi
          clear hi
          go_wp2_with (go_at_call 41; refine (as_hit_b _ _ (below_alloc HB.out _) hne.out (HG.out.below HG.out.pos (below_alloc HB.out _)) (heap_alloc_new _ _)).mono ?_; rintro e w' ⟨rfl, HC2, HB2⟩; replace HB2 := Aside0.mk HB2; have hl1 : World.cell? _ ⟨_, 0, none⟩ = some (Value.pointer (some ⟨b, 0, none⟩)) := cell_of_heap HC2 0; have hl2 : World.cell? _ ⟨b, 1, none⟩ = some (Value.int .i64 i) := cell_of_heap (blk_below HBK.out HB2.out) 1; clear HC2)
          go_ret
          exact ⟨by rw [← HI.out]; rfl, HB2.out⟩
        · have HI := Aside0.mk (show lineE (z :: r) = lineE xs by have := HV.out; rw [if_neg hi] at this; exact this)
          have c1 : decide (0 < i) = false := decide_eq_false hi
          clear hi
          go_wp2_with (go_at_call 41; refine (as_hit_b _ _ (below_alloc HB.out _) hne.out (HG.out.below HG.out.pos (below_alloc HB.out _)) (heap_alloc_new _ _)).mono ?_; rintro e w' ⟨rfl, HC2, HB2⟩; replace HB2 := Aside0.mk HB2; have hl1 : World.cell? _ ⟨_, 0, none⟩ = some (Value.pointer (some ⟨b, 0, none⟩)) := cell_of_heap HC2 0; have hl2 : World.cell? _ ⟨b, 1, none⟩ = some (Value.int .i64 i) := cell_of_heap (blk_below HBK.out HB2.out) 1; have hl3 : World.cell? _ ⟨b, 2, none⟩ = some u := cell_of_heap (blk_below HBK.out HB2.out) 2; clear HC2)
          go_roundg (z :: r).length
          case measure => exact HQ.out
          case rel => exact ⟨z :: r, ⟨⟨rfl, HI.out⟩⟩, HU, HB2⟩
/-- What this law's walk reads of what lies there before: a number, and the handle of 'error'. -/
def LaidE (w : World) : Prop := Laid w ∧ ErrT w
/-- The error that the law makes, and the line that it wants. -/
def errE (n : Int) : List Int → List (ByteArray × Int)
  | [] => ofE n
  | x :: r => newE ⟨#[120]⟩ x (errE n r)
def wantE : List Int → Int
  | [] => 0
  | x :: r => if 0 < x then x else wantE r
theorem errE_zero : ∀ l, errE 0 l = []
  | [] => rfl
  | x :: r => by rw [errE, errE_zero r]; rfl
theorem lineE_errE {n : Int} (hn : n ≠ 0) : ∀ l, (∃ y r, errE n l = y :: r) ∧ lineE (errE n l) = wantE l
  | [] => by
    rw [errE, ofE, if_neg hn]
    exact ⟨⟨_, _, rfl⟩, rfl⟩
  | x :: r => by
    obtain ⟨⟨y, s, e⟩, h⟩ := lineE_errE hn r
    rw [errE, e]
    rw [e] at h
    exact ⟨⟨_, _, rfl⟩, by rw [newE, lineE, wantE, h]⟩
theorem law_line (n : Int) (l : List Int) : lineE (errE n l) = if n = 0 then 0 else wantE l := by
  by_cases hn : n = 0
  · subst hn
    rw [errE_zero, if_pos rfl]
    rfl
  · rw [if_neg hn]
    exact (lineE_errE hn l).2
end Go.Proofs.YtnmngglfeiifaaaGreatDoor.H
