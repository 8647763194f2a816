/- The functions of package lines that make and read an index, proved by hand: lines.New. -/
import Derived.Test.YtnmngglfeiifaaaGreatDoorXP
import Derived.Test.YtnmngglfeiifaaaGreatDoorHM
import Derived.Test.YtnmngglfeiifaaaGreatDoorProg
import Derived.Deep.QuietTactic
import Derived.BigQuiet
namespace Go.Proofs.YtnmngglfeiifaaaGreatDoor.X
open Go.RowKit Go.Proofs.YtnmngglfeiifaaaGreatDoorW.PrintWords Go.Proofs.YtnmngglfeiifaaaGreatDoorW.PrintLast Go.Proofs.YtnmngglfeiifaaaGreatDoorW.PrintMore
open Go.Proofs.YtnmngglfeiifaaaGreatDoor.M
set_option linter.unusedVariables false
set_option linter.unusedSimpArgs false

theorem hinfo_int : (Tryz.prog.info? 3).map (fun i => (i.zero, i.size, i.bytes)) = some (some (.int .i64 0), 1, 8) := by kernel_rfl
theorem hinfo_u8 : (Tryz.prog.info? 5).map (fun i => (i.zero, i.size, i.bytes)) = some (some (.int .u8 0), 1, 1) := by kernel_rfl
/-- What an index is of: bytes. -/
abbrev IxT := List Int
/-- What a pointer to an index leads to. -/
def IxP : Pd IxT := fun W v xs => (xs = [] ∧ v = .pointer none) ∨ ∃ b g A1 c1 A2 c2, xs = [b] ∧ v = .pointer (some ⟨g, 0, none⟩) ∧ W.heap[g]? = some (.cells #[.slice A1 (begins b).length c1, .slice A2 b.length c2] 166 (0, 0)) ∧
  (begins b).length ≤ c1 ∧ Kd.C (Kd.int .i64) W A1 (begins b).length (begins b) ∧ b.length ≤ c2 ∧ Kd.C (Kd.int .u8) W A2 b.length b
theorem cell_of_heap {w : World} {g t : Nat} {cs : Array Value} {m : Nat × Nat} (h : w.heap[g]? = some (.cells cs t m)) (i : Nat) : w.cell? ⟨g, i, none⟩ = cs[i]? := by
  simp [World.cell?, h]

theorem frozen_of_heap {w : World} {g t : Nat} {cs : Array Value} (h : w.heap[g]? = some (.cells cs t (0, 0))) (i : Nat) : w.frozen? ⟨g, i, none⟩ = false := by
  simp [World.frozen?, h]
/-- A block of another type than the row that is written. -/
theorem blk_over {α : Type} {d : Go.Proofs.YtnmngglfeiifaaaGreatDoorW.PrintWords.Kd α} {e b g t : Nat} {ok : Nat → Prop} {W w1 : World} {v : Value} {xs : List α} {cs : Array Value} (hb : W.heap[g]? = some (.cells cs t (0, 0))) (hv : d.R e W b ok v xs) (ht : e ≠ t) (hg : W.grownBy w1 v.ownBlock) : w1.heap[g]? = some (.cells cs t (0, 0)) := by
  have hlt : g < W.heap.size := (Array.getElem?_eq_some_iff.1 hb).1
  refine (hg.block g hlt (fun he => ?_)).trans hb
  obtain ⟨cells, hc⟩ := Kd.R_typed hv g he.symm
  rw [hb] at hc
  injection hc with hc
  injection hc with _ hc
  exact ht hc.symm
theorem i64_eq {a b : Int} (h : a = b) : Value.int .i64 a = Value.int .i64 b := by rw [h]

def lines_New.f (l0 : List Int) : Option (List IxT) := if l0.length < 100000000000 then some [l0] else none
set_option maxHeartbeats 4000000 in
set_option maxRecDepth 100000 in
theorem lines_New.calls (A0 : Option Addr) (c0 : Nat) (l0 : List Int) (r : List IxT) (w : World) (hr0 : Kd.C (Kd.int .u8) w A0 l0.length l0) (hc0 : l0.length ≤ c0) (h : lines_New.f l0 = some r) :
    Calls Tryz.prog 68 #[.slice A0 l0.length c0] w fun e w' => ∃ v0_ : Value, e = .returned (v0_) ∧ Kd.P IxP 900049 w' w.heap.size (fun k_ => (w.heap.size ≤ k_)) v0_ r ∧ Below w.heap.size w w' := by
  unfold lines_New.f at h
  split at h
  case isFalse => cases h
  case isTrue hlen =>
  injection h with h
  have hR := Aside0.mk h
  have HR0 := Aside0.mk hr0
  have HC0 := Aside0.mk hc0
  have HLEN := Aside0.mk hlen
  clear hr0 hc0 h hlen
  have HB := Aside0.mk (Below.refl w.heap.size w)
  go_enter Tryz.func68, Tryz.ntmps68
  go_upto_region 2 with (first
    | ((with_reducible refine gate_dst (N := 6) rfl ?_); refine Kd.R_lit (Kd.int .i64) (w0 := w) w.heap.size 3 ?hg (N := 6) ?hd (xs := ([0] : List Int)) (inner := [.int .i64 0]) (ok := fun _ => True) (okp := fun _ => True) ?hr ?hp (fun _ hk => hk) trivial ?hB ?hS (by simp) ?_; (case hd => rfl); (case hg => rfl); (case hr => first | (go_simp; done) | (go_simp; rfl)); (case hp => exact (Reps.one (show Kd.M (Kd.int .i64) _ _ _ 0 [.int .i64 0] from rfl) (Reps.none _ _))); (case hB => exact (by repeat (first | (with_reducible first | exact HB.out | apply below_alloc | apply pw_below_drewN | apply below_drew1) | exact HB.out))); (case hS => exact below_size (by repeat (first | (with_reducible first | exact HB.out | apply below_alloc | apply pw_below_drewN | apply below_drew1) | exact HB.out))); intro v6 w6 ho6 hb6 hg6 hnew6; clear HB; have HB := Aside0.mk hb6; have HO6 := Aside0.mk ho6; clear hb6 ho6 hg6 hnew6)
    | ((with_reducible refine gate_dst (N := 7) rfl ?_); refine Kd.R_lit (Kd.int .u8) (w0 := w) w.heap.size 5 ?hg (N := 7) ?hd (xs := ([] : List Int)) (inner := []) (ok := fun _ => True) (okp := fun _ => True) ?hr ?hp (fun _ hk => hk) trivial ?hB ?hS (by simp) ?_; (case hd => rfl); (case hg => rfl); (case hr => first | (go_simp; done) | (go_simp; rfl)); (case hp => exact (Reps.none _ _)); (case hB => exact (by repeat (first | (with_reducible first | exact HB.out | apply below_alloc | apply pw_below_drewN | apply below_drew1) | exact HB.out))); (case hS => exact below_size (by repeat (first | (with_reducible first | exact HB.out | apply below_alloc | apply pw_below_drewN | apply below_drew1) | exact HB.out))); intro v7 w7 ho7 hb7 hg7 hnew7; have n0_ := Aside0.mk (Kd.R_after (v := .slice none 0 0) (v1 := v7) (Kd.R_apart_nil HO6.out) (by simpa [Value.ownBlock] using hg7) (.inr hnew7)); clear HB HO6; have HB := Aside0.mk hb7; have HO6 := n0_; have HO7 := Aside0.mk ho7; clear n0_ hb7 ho7 hg7 hnew7)
    | ((with_reducible refine gate_builtin (b := .append) (xs := #[.tmp 7, .tmp 8]) rfl ?_); at_builtin; refine Kd.R_append_rows (Kd.int .u8) (w0 := w) w.heap.size rfl (.tmp 7) (.tmp 8) 24 5 (.int .u8 0) 1 rfl Tryz.underlying24 hinfo_u8 rfl (by decide) (by omega) v7 [] l0 _ _ _ (fun _ => True) (fun _ => False) rfl rfl ?aO ?aR (fun _ _ h => h) (fun _ h => h.elim) ?aF ?aB ?aS ?aL ?_; (case aR => exact (Kd.C_below HR0.out HB.out)); (case aB => exact HB.out); (case aF => exact (fun _ _ => trivial)); (case aO => exact HO7.out); (case aS => exact below_size HB.out); (case aL => have := HLEN.out; simp; omega); intro v9 w9 ho9 hb9 hg9 hat9; have n0_ := Aside0.mk (Kd.R_after HO6.out hg9 hat9); clear HB HO6 HO7; have HB := Aside0.mk hb9; have HO6 := n0_; have HO9 := Aside0.mk ho9; clear n0_ hb9 ho9 hg9 hat9; obtain ⟨A6, c6, e6⟩ := Kd.R_slice HO6.out; subst e6; obtain ⟨A9, c9, e9⟩ := Kd.R_slice HO9.out; subst e9))
  have hg0 := Aside0.mk (heap_alloc_new w9 (.cells #[.slice A6 1 c6, .slice A9 l0.length c9] 166))
  have n1_ := Aside0.mk (Kd.R_alloc HO6.out (.cells #[.slice A6 1 c6, .slice A9 l0.length c9] 166))
  have n2_ := Aside0.mk (Kd.R_alloc HO9.out (.cells #[.slice A6 1 c6, .slice A9 l0.length c9] 166))
  have n3_ := Aside0.mk (below_alloc HB.out (.cells #[.slice A6 1 c6, .slice A9 l0.length c9] 166))
  have hgw := Aside0.mk (below_size HB.out)
  clear HB HO6 HO9
  generalize w9.heap.size = g at hg0 n1_ n2_ n3_ hgw ⊢
  generalize w9.alloc (.cells #[.slice A6 1 c6, .slice A9 l0.length c9] 166) = wa at hg0 n1_ n2_ n3_ ⊢
  go_wp2
  go_loopg [4, 5, 14] (l0.length + 1) (fun kq v4 v5 v14 w' => ∃ (k : Nat) (A : Option Addr) (c : Nat), v14 = .int .i64 (k : Int) ∧ Aside0 (k ≤ l0.length ∧ kq = l0.length - k + 1) ∧ Aside0 (w'.heap[g]? = some (.cells #[.slice A (begins (l0.take k)).length c, .slice A9 l0.length c9] 166 (0, 0))) ∧ Aside0 (Kd.R (Kd.int .i64) 3 w' w.heap.size (fun _ => True) (.slice A (begins (l0.take k)).length c) (begins (l0.take k))) ∧ Aside0 (Kd.R (Kd.int .u8) 5 w' w.heap.size (fun _ => True) (.slice A9 l0.length c9) l0) ∧ Aside0 (Below w.heap.size w w'))
  case atStart => exact ⟨0, A6, c6, rfl, ⟨⟨by omega, by omega⟩⟩, hg0, ⟨Kd.R_mono n1_.out (fun _ _ => trivial)⟩, ⟨Kd.R_mono n2_.out (fun _ _ => trivial)⟩, n3_⟩
  case round =>
    clear hg0 n1_ n2_ n3_
    obtain ⟨k, A, c, rfl, HK, HG, HO6, HO9, HB⟩ := hrel
    by_cases hlt : k < l0.length
    · have c2b0 : decide ((k : Int) < (l0.length : Int)) = true := decide_eq_true (by omega)
      have c2b1 : decide (k < l0.length) = true := decide_eq_true hlt
      have p1 : 0 ≤ (k : Int) := by omega
      have q1 : (k : Int) < (l0.length : Int) := by omega
      obtain ⟨ad1, e1, hx1⟩ := Kd.at_int (Kd.C_below HR0.out HB.out) (k : Int) p1 q1
      cases e1
      simp only [Int.toNat_natCast] at hx1
      have HLT := Aside0.mk hlt
      clear hlt
      replace p1 := eq_true p1
      replace q1 := eq_true q1
      have hew := Aside0.mk (show wrap64 ((k : Int) + 1) = ((k + 1 : Nat) : Int) by have := HLEN.out; have := HLT.out; rw [w64 (by omega) (by omega)]; omega)
      have hbt := Aside0.mk (show l0.take (k + 1) = l0.take k ++ [rd l0 (k : Int)] by
        have := HLT.out
        rw [List.take_succ_eq_append_getElem this]
        unfold rd
        rw [Int.toNat_natCast, List.getD_eq_getElem?_getD, List.getElem?_eq_getElem this]
        rfl)
      have htk := Aside0.mk (show (l0.take k).length = k by have := HLT.out; rw [List.length_take]; omega)
      by_cases hc : rd l0 (k : Int) = 10
      · have c3b0 : ((rd l0 (k : Int)) == 10) = true := beq_iff_eq.mpr hc
        have HC := Aside0.mk hc
        clear hc
        have hl0 : World.cell? _ ⟨g, 0, none⟩ = some (Value.slice A (begins (l0.take k)).length c) := cell_of_heap HG.out 0
        have hln := Aside0.mk (begins_len (l0.take k))
        have hbs := Aside0.mk (show begins (l0.take k) ++ [wrap64 ((k : Int) + 1)] = begins (l0.take (k + 1)) by rw [hbt.out, begins_snoc, if_pos HC.out, htk.out, hew.out]; rfl)
        go_wp2_with ((with_reducible refine gate_builtin (b := .append) (xs := #[.tmp 25, .tmp 28]) rfl ?_); at_builtin; refine Kd.R_append (Kd.int .i64) (w0 := w) w.heap.size rfl (.tmp 25) (.tmp 28) 45 3 (.int .i64 0) 8 rfl Tryz.underlying45 hinfo_int rfl (by decide) (by omega) (.slice A (begins (l0.take k)).length c) (begins (l0.take k)) (wrap64 ((k : Int) + 1)) [.int .i64 (wrap64 ((k : Int) + 1))] (fun _ => True) (fun _ => False) rfl rfl ?aP (fun _ hk => hk.elim) ?aF ?aO ?aB ?aS ?aL ?_; (case aP => exact rfl); (case aF => exact (fun _ _ => trivial)); (case aO => exact HO6.out); (case aB => exact HB.out); (case aS => exact below_size HB.out); (case aL => have := hln.out; have := htk.out; have := HLEN.out; have := HLT.out; omega); intro v1 w1 ho hb hg hat; rw [hbs.out] at ho; have n0_ := Aside0.mk (blk_over HG.out HO6.out (by decide) hg); have n1_ := Aside0.mk (Kd.R_over HO9.out HO6.out (by decide) hg); clear HB HG HO6 HO9 hl0; have HB := Aside0.mk hb; have HG := n0_; have HO6 := Aside0.mk ho; have HO9 := n1_; clear n0_ n1_ ho hb hg hat; obtain ⟨A1, c1, e1⟩ := Kd.R_slice HO6.out; subst e1; have hl0 : World.cell? _ ⟨g, 0, none⟩ = some (Value.slice A (begins (l0.take k)).length c) := cell_of_heap HG.out 0; have hf0 := frozen_of_heap HG.out 0)
        go_roundg (l0.length - (k + 1) + 1)
        case measure => have := HK.out; have := HLT.out; omega
        case rel => exact ⟨k + 1, A1, c1, i64_eq hew.out, ⟨⟨by have := HLT.out; omega, rfl⟩⟩, ⟨blk_set HG.out 0 _⟩, ⟨Kd.R_set HO6.out HG.out (by decide) 0 _⟩, ⟨Kd.R_set HO9.out HG.out (by decide) 0 _⟩, ⟨below_set HB.out hgw.out⟩⟩
      · have c3b0 : ((rd l0 (k : Int)) == 10) = false := beq_eq_false_iff_ne.mpr hc
        have HC := Aside0.mk hc
        clear hc
        go_wp2
        go_roundg (l0.length - (k + 1) + 1)
        case measure => have := HK.out; have := HLT.out; omega
        case rel => exact ⟨k + 1, A, c, i64_eq hew.out, ⟨⟨by have := HLT.out; omega, rfl⟩⟩, ⟨by rw [hbt.out, begins_snoc, if_neg HC.out, List.append_nil]; exact HG.out⟩, ⟨by rw [hbt.out, begins_snoc, if_neg HC.out, List.append_nil]; exact HO6.out⟩, HO9, HB⟩
    · have hk : k = l0.length := by have := HK.out; omega
      have c2b0 : decide ((k : Int) < (l0.length : Int)) = false := decide_eq_false (by omega)
      have c2b1 : decide (k < l0.length) = false := decide_eq_false hlt
      have HKE := Aside0.mk hk
      clear hlt hk
      go_wp2
      go_ret
      rw [HKE.out, List.take_length] at HG HO6
      exact ⟨_, rfl, by
        rw [← hR.out]
        intro W' hW
        have hh := (hW g hgw.out (Array.getElem?_eq_some_iff.1 HG.out).1).trans HG.out
        have h6 := Kd.R_reads' (Kd.R_step (Kd.R_mono (ok' := fun k => w.heap.size ≤ k) (Kd.R_bound HO6.out) (fun k hk => hk.2.1)) hW)
        have h9 := Kd.R_reads' (Kd.R_step (Kd.R_mono (ok' := fun k => w.heap.size ≤ k) (Kd.R_bound HO9.out) (fun k hk => hk.2.1)) hW)
        exact .inr ⟨l0, g, A, c, A9, c9, rfl, rfl, hh, h6.2.1, h6.2.2, h9.2.1, h9.2.2⟩, HB.out⟩
end Go.Proofs.YtnmngglfeiifaaaGreatDoor.X
