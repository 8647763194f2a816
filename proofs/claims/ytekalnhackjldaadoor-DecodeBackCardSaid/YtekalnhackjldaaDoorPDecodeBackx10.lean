-- Laid by a program of ours (the kit's print with words and contracts of our own beside it).
import Derived.Test.YtekalnhackjldaaDoorPDecodeBackx0
import Derived.Test.YtekalnhackjldaaDoorPDecodeBackx6
import Derived.Test.YtekalnhackjldaaDoorPDecodeBackx7
import Derived.Test.YtekalnhackjldaaDoorPDecodeBackx8
import Derived.Test.YtekalnhackjldaaDoorPDecodeBackx9
namespace Go.Proofs.YtekalnhackjldaaDoor.PDecodeBack
open Go.RowKit Go.Proofs.YtekalnhackjldaaDoor.X Go.Proofs.YtekalnhackjldaaDoorW.PrintWords Go.Proofs.YtekalnhackjldaaDoorW.PrintLast Go.Proofs.YtekalnhackjldaaDoorW.PrintMore
attribute [local go_sem] max2_int min2_int max_two min_two max_three min_three max_four min_four   -- for this text's walks alone
set_option linter.unusedVariables false
set_option linter.unusedSimpArgs false

/-! ### redpenlaw15_DecodeBack: function 6 -/
def redpenlaw15_DecodeBack.T (k : Nat) (n f w : Int) (s : ByteArray) : Option Bool :=
  if s.size < 1000000 then (conv_bytes.f s).bind fun b => (decode_Units.f k f b w 0 (s.size : Int)).bind fun u =>
    if u.2 = 0 then (if 0 < n ∧ ¬ (55296 ≤ n ∧ n < 57344) then (if u.1.length = 1 then (if (rd_T45 u.1 0).f0 = wrap32 n then (decode_Literal.f k b u.1).bind fun t => some (!t) else some false) else some false)
      else if 1 < u.1.length then (decode_Text.f k u.1).bind fun t => some (!(t.toList == [])) else some false) else some false
  else none
def redpenlaw15_DecodeBack.f (k : Nat) (a0 : Int) (a1 : Int) : Option Bool := (redpenlaw15_Awake.f k).bind fun t => if t = true then
  (if Int.tmod a1 4 = 0 then (redpenlaw15_DecodeBack_1.f k 10 1 (Int.tmod a0 1114112)).bind fun d => if d.size < 1000 then redpenlaw15_DecodeBack.T k (Int.tmod a0 1114112) 1 1 (((⟨#[38, 35]⟩ : ByteArray) ++ d) ++ (⟨#[59]⟩ : ByteArray)) else none
   else if Int.tmod a1 4 = 1 then (redpenlaw15_DecodeBack_1.f k 16 1 (Int.tmod a0 1114112)).bind fun d => if d.size < 1000 then redpenlaw15_DecodeBack.T k (Int.tmod a0 1114112) 1 1 (((⟨#[38, 35, 120]⟩ : ByteArray) ++ d) ++ (⟨#[59]⟩ : ByteArray)) else none
   else if Int.tmod a1 4 = 2 then (redpenlaw15_DecodeBack_1.f k 16 8 (Int.tmod a0 1114112)).bind fun d => if d.size < 1000 then redpenlaw15_DecodeBack.T k (Int.tmod a0 1114112) 6 5 (((⟨#[92, 85]⟩ : ByteArray) ++ d)) else none
   else (redpenlaw15_DecodeBack_1.f k 16 4 (Int.tmod (Int.tmod a0 1114112) 65536)).bind fun d => if d.size < 1000 then redpenlaw15_DecodeBack.T k (Int.tmod (Int.tmod a0 1114112) 65536) 4 5 (((⟨#[92, 117]⟩ : ByteArray) ++ d)) else none) else some false
theorem unit_row {w : World} {b e : Nat} {ok : Nat → Prop} {A : Option Addr} {c n : Nat} {xs : List (S45)} (h : Kd.R k45 e w b ok (.slice A n c) xs) (hn : 0 < n) : ∃ gr, A = some ⟨gr, 0, none⟩ := by
  obtain ⟨_, inner, hown, hr⟩ := h
  rcases hown.2 with ⟨hv, hz⟩ | ⟨g', cap', cur, hv, _⟩
  · cases hv
    omega
  · cases hv
    exact ⟨g', rfl⟩
theorem unit_cell {w : World} {b e : Nat} {ok : Nat → Prop} {gr c : Nat} {xs : List (S45)} (h : Kd.R k45 e w b ok (.slice (some ⟨gr, 0, none⟩) xs.length c) xs) (hn : 0 < xs.length) : w.cell? ⟨gr, 0, none⟩ = some (.int .i32 (rd_T45 xs 0).f0) := by
  obtain ⟨ad, cs, e1, _, hK, hc⟩ := Kd.C_get (Kd.R_reads' h).2.2 z45 0 (by omega) (by omega)
  cases e1
  obtain ⟨_, _, rfl, rfl, _⟩ := hK
  have h2 := hc 0 _ rfl
  rw [add_plain] at h2
  exact h2
set_option maxHeartbeats 16000000 in
set_option maxRecDepth 100000 in
theorem redpenlaw15_DecodeBack.calls (k : Nat) (a0 : Int) (a1 : Int) (r : Bool) (w : World) (h : redpenlaw15_DecodeBack.f k a0 a1 = some r) (hr_ : r = true) (hL : Go.Proofs.YtekalnhackjldaaDoor.H.Laid w) :
  Calls Tryd.prog 6 #[.int .u32 a0, .int .u8 a1] w fun e w' => e = .returned (.bool r) ∧ Below w.heap.size w w' := by
 have HL := Aside0.mk hL
 clear hL
 subst hr_
 have hu45 := Tryd.underlying45
 unfold redpenlaw15_DecodeBack.f at h
 obtain ⟨t, ha, h⟩ := Option.bind_eq_some_iff.mp h
 have HA := Aside0.mk ha
 clear ha
 cases t with
 | false => simp at h
 | true =>
 rw [if_pos rfl] at h
 have hb0 := below_alloc (Below.refl w.heap.size w) (.cells #[.int .u32 a0] 57)
 have hg0 := heap_alloc_new w (.cells #[.int .u32 a0] 57)
 obtain ⟨w0, hw0⟩ : ∃ w0, w0 = w.alloc (.cells #[.int .u32 a0] 57) := ⟨_, rfl⟩
 obtain ⟨gb, hgb⟩ : ∃ gb, gb = w.heap.size := ⟨_, rfl⟩
 have HB := Aside0.mk (hw0 ▸ hb0)
 have BK : Aside0 (w0.heap[gb]? = some (.cells #[.int .u32 a0] 57 (0, 0))) := ⟨by rw [hw0, hgb]; exact hg0⟩
 have GE := Aside0.mk (show w.heap.size ≤ gb by omega)
 have HW0 := Aside0.mk hw0
 have HGB := Aside0.mk hgb
 clear hb0 hg0 hw0 hgb
 obtain ⟨kk, hkk⟩ : ∃ kk, Int.tmod a1 4 = kk := ⟨_, rfl⟩
 rw [hkk] at h
 by_cases q0 : kk = 0
 · subst q0
   rw [if_pos rfl] at h
   generalize hn : Int.tmod a0 1114112 = n at h
   have HNN := Aside0.mk hn
   obtain ⟨d, hd, h⟩ := Option.bind_eq_some_iff.mp h
   by_cases hds : d.size < 1000
   case neg => rw [if_neg hds] at h; cases h
   rw [if_pos hds] at h
   obtain ⟨s, hs⟩ : ∃ s : ByteArray, s = ((⟨#[38, 35]⟩ : ByteArray) ++ d) ++ (⟨#[59]⟩ : ByteArray) := ⟨_, rfl⟩
   rw [← hs] at h
   have hsz : s.size < 2000 := by rw [hs]; simp only [ByteArray.size_append]; have e1 : (⟨#[38, 35]⟩ : ByteArray).size = 2 := rfl; have e2 : (⟨#[59]⟩ : ByteArray).size = 1 := rfl; omega
   unfold redpenlaw15_DecodeBack.T at h
   rw [if_pos (by omega)] at h
   obtain ⟨b, hcv, h⟩ := Option.bind_eq_some_iff.mp h
   obtain ⟨⟨u, u2⟩, hu, h⟩ := Option.bind_eq_some_iff.mp h
   have HD := Aside0.mk hd
   have HCV := Aside0.mk hcv
   have HU := Aside0.mk hu
   have HS := Aside0.mk hs
   have HSZ := Aside0.mk hsz
   have HBL := Aside0.mk (show s.size = b.length by have hq := hcv; unfold conv_bytes.f at hq; rw [if_pos (by omega)] at hq; rw [← Option.some.inj hq, bytesOf_length])
   have k1 : (2 + d.size ≤ 9223372036854775807) = True := eq_true (by omega)
   have k2 : decide (2 + d.size ≤ 9223372036854775807) = true := decide_eq_true (by omega)
   have k3 : (9223372036854775807 < 2 + d.size) = False := eq_false (by omega)
   have e1 : ((⟨#[38, 35]⟩ : ByteArray) ++ d).size = 2 + d.size := by rw [ByteArray.size_append]; rfl
   have k4 : (((⟨#[38, 35]⟩ : ByteArray) ++ d).size + 1 ≤ 9223372036854775807) = True := eq_true (by omega)
   have k5 : decide (((⟨#[38, 35]⟩ : ByteArray) ++ d).size + 1 ≤ 9223372036854775807) = true := decide_eq_true (by omega)
   have k6 : (9223372036854775807 < ((⟨#[38, 35]⟩ : ByteArray) ++ d).size + 1) = False := eq_false (by omega)
   have k7 : (9223372036854775807 < 2 + d.size + 1) = False := eq_false (by omega)
   have k8 : (2 + d.size + 1 ≤ 9223372036854775807) = True := eq_true (by omega)
   clear e1
   clear hd hcv hu hs hsz hds
   by_cases c1 : u2 = 0
   case neg => simp only [if_neg c1] at h; cases h
   subst c1
   simp only [if_true] at h
   by_cases cr : 0 < n ∧ ¬ (55296 ≤ n ∧ n < 57344)
   · rw [if_pos cr] at h
     by_cases c2 : u.length = 1
     case neg => rw [if_neg c2] at h; cases h
     rw [if_pos c2] at h
     by_cases c3 : (rd_T45 u 0).f0 = wrap32 n
     case neg => rw [if_neg c3] at h; cases h
     rw [if_pos c3] at h
     obtain ⟨t2, ht2, h⟩ := Option.bind_eq_some_iff.mp h
     obtain rfl : t2 = false := by simpa using h
     have HLT := Aside0.mk ht2
     clear h ht2
     have d1 := decide_eq_true cr.1
     have d2 : decide (55296 ≤ n) = true ∧ decide (n < 57344) = false ∨ decide (55296 ≤ n) = false := by
       by_cases z : 55296 ≤ n
       · exact .inl ⟨decide_eq_true z, decide_eq_false (fun y => cr.2 ⟨z, y⟩)⟩
       · exact .inr (decide_eq_false z)
     have d3 : ((rd_T45 u 0).f0 == wrap32 n) = true := beq_iff_eq.mpr c3
     have d4 : ((u.length : Int) == 1) = true := beq_iff_eq.mpr (by omega)
     have HL1 := Aside0.mk c2
     clear cr c3 c2
     go_enter Tryd.func6, Tryd.ntmps6
     go_upto_region 1 with fail
     rw [← HW0.out, ← HGB.out]
     go_upto_region 4 with (first | (go_at_call 9; refine (redpenlaw15_Awake.calls k true _ HA.out ?sideL).mono ?_; (case sideL => first | exact HL.out | exact HL.out.below HB.out | exact HL.out.below (by repeat (first | (with_reducible first | exact HB.out | apply below_alloc | apply pw_below_drewN | apply below_drew1 | refine below_set ?_ (Aside0.out (by assumption))) | exact HB.out))); rintro e w1 ⟨rfl, hb⟩; have n1 := Aside0.mk (below_then HB.out (below_size HB.out) hb); have n2 := Aside0.mk (blk_below BK.out hb); clear HB BK; have HB := n1; have BK := n2; clear n1 n2 hb; have hx := blk_cell BK.out 0; have hf := blk_frozen BK.out 0; simp at hx))
     have BK := Aside0.mk (blk_put BK.out 0 (.int .u32 n) (cs' := #[.int .u32 n]) rfl)
     have HB := Aside0.mk (show Below w.heap.size w (w1.setCell ⟨gb, 0, none⟩ (.int .u32 n)) from HB.out.setCell GE.out _)
     try rw [HNN.out]
     generalize w1.setCell ⟨gb, 0, none⟩ (.int .u32 n) = w2 at BK HB ⊢
     go_upto_region 15 with (first | (go_at_call 25; refine (redpenlaw15_DecodeBack_1.calls k 10 1 n d _ HD.out ((blk_cell BK.out 0).trans rfl)).mono ?_; rintro e w3 ⟨rfl, hb⟩; have n1 := Aside0.mk (below_then HB.out (below_size HB.out) hb); have n2 := Aside0.mk (blk_below BK.out hb); clear HB BK; have HB := n1; have BK := n2; clear n1 n2 hb))
     rw [← HS.out]
     go_upto_region 16 with (first | ((with_reducible refine gate_dst (N := 44) rfl ?_); refine cv_goes (N := some 44) rfl rfl (s := s) rfl (by first | rfl | (simp; done)) Tryd.underlying9 Tryd.underlying22 Tryd.underlying5 ?_; refine (conv_bytes.calls (e := 5) s b _ HCV.out).mono ?_; rintro e w4 ⟨v4, rfl, hv4, hb⟩; obtain ⟨A4, c4, ev4, hc4, hr4⟩ := hv4; subst ev4; have HR4 := Aside0.mk (hr4 _ (fun _ _ _ => rfl)); have HC4 := Aside0.mk hc4; clear hr4 hc4; have n1 := Aside0.mk (below_then HB.out (below_size HB.out) hb); have n2 := Aside0.mk (blk_below BK.out hb); clear HB BK; have HB := n1; have BK := n2; clear n1 n2 hb; refine ⟨_, rfl, ?_⟩) | (go_at_call 16; refine (decode_Units.calls k 1 A4 c4 b 1 0 (s.size : Int) u 0 _ HR4.out HC4.out HU.out ?sideL).mono ?_; (case sideL => first | exact HL.out | exact HL.out.below HB.out | exact HL.out.below (by repeat (first | (with_reducible first | exact HB.out | apply below_alloc | apply pw_below_drewN | apply below_drew1 | refine below_set ?_ (Aside0.out (by assumption))) | exact HB.out))); rintro e w5 ⟨v5, rfl, ho, hb⟩; obtain ⟨A5, c5, ev5⟩ := Kd.R_slice ho; subst ev5; have HO5 := Aside0.mk ho; clear ho; have n1 := Aside0.mk (below_then HB.out (below_size HB.out) hb); have n2 := Aside0.mk (blk_below BK.out hb); clear HB BK; have HB := n1; have BK := n2; clear n1 n2 hb))
     have hx := blk_cell BK.out 0
     simp at hx
     obtain ⟨gr, rfl⟩ : ∃ gr, A5 = some ⟨gr, 0, none⟩ := unit_row HO5.out (by have := HL1.out; omega)
     have hx5 := Aside0.mk (unit_cell HO5.out (by have := HL1.out; omega))
     have d8 : (0 < u.length) = True := eq_true (by have := HL1.out; omega)
     have d9 : ((0 : Int) < (u.length : Int)) = True := eq_true (by have := HL1.out; omega)
     rcases d2 with ⟨d5, d6⟩ | d5
     · go_upto_region 19 with fail
       refine start_ (n := 24) (S := fun w' => w'.cell? ⟨gr, 0, none⟩ = some (.int .i32 (rd_T45 u 0).f0) ∧ w'.cell? ⟨gb, 0, none⟩ = some (.int .u32 n)) (ds := []) #[false, false, false, false, false, false, false, false, false, false, false, false, false, false, false, false, false, false, false, false, false, false, false, false] (by kernel_rfl) rfl rfl ⟨(pw_cell_below (below_drew (Below.refl _ _)) hx5.out), (pw_cell_below (below_drew (Below.refl _ _)) ((blk_cell BK.out 0).trans rfl))⟩ (fun hHeld => ?_)
       refine pure_ (i := 0) (N := some 78) (v := ?_) (a' := ?_) #[true, false, false, false, false, false, false, false, false, false, false, false, false, false, false, false, false, false, false, false, false, false, false, false] rfl rfl (by kernel_rfl) (fun _ _ _ h => h) (Or.inl ⟨by rfl, ?_⟩) ?_ ?_
       rotate_left
       · intro w'
         go_simp
         with_reducible rfl
       rotate_left
       · simp only [Act.put, List.setIfInBounds_toArray, List.set_cons_zero, List.set_cons_succ, i64_w, i32_w]
         rfl
       refine pure_ (i := 1) (N := some 79) (v := ?_) (a' := ?_) #[true, true, false, false, false, false, false, false, false, false, false, false, false, false, false, false, false, false, false, false, false, false, false, false] rfl rfl (by kernel_rfl) (fun _ _ _ h => h) (Or.inl ⟨by rfl, ?_⟩) ?_ ?_
       rotate_left
       · intro w'
         go_simp
         with_reducible rfl
       rotate_left
       · simp only [Act.put, List.setIfInBounds_toArray, List.set_cons_zero, List.set_cons_succ, i64_w, i32_w]
         rfl
       refine pure_ (i := 2) (N := some 80) (v := ?_) (a' := ?_) #[true, true, true, false, false, false, false, false, false, false, false, false, false, false, false, false, false, false, false, false, false, false, false, false] rfl rfl (by kernel_rfl) (fun _ _ _ h => h) (Or.inl ⟨by rfl, ?_⟩) ?_ ?_
       rotate_left
       · intro w'
         go_simp
         with_reducible rfl
       rotate_left
       · simp only [Act.put, List.setIfInBounds_toArray, List.set_cons_zero, List.set_cons_succ, i64_w, i32_w]
         rfl
       refine pure_ (i := 3) (N := some 81) (v := ?_) (a' := ?_) #[true, true, true, true, false, false, false, false, false, false, false, false, false, false, false, false, false, false, false, false, false, false, false, false] rfl rfl (by kernel_rfl) (fun _ _ _ h => h) (Or.inl ⟨by rfl, ?_⟩) ?_ ?_
       rotate_left
       · intro w'
         go_simp
         with_reducible rfl
       rotate_left
       · simp only [Act.put, List.setIfInBounds_toArray, List.set_cons_zero, List.set_cons_succ, i64_w, i32_w]
         rfl
       refine pure_ (i := 4) (N := some 82) (v := ?_) (a' := ?_) #[true, true, true, true, true, false, false, false, false, false, false, false, false, false, false, false, false, false, false, false, false, false, false, false] rfl rfl (by kernel_rfl) (fun _ _ _ h => h) (Or.inl ⟨by rfl, ?_⟩) ?_ ?_
       rotate_left
       · intro w'
         go_simp
         with_reducible rfl
       rotate_left
       · simp only [Act.put, List.setIfInBounds_toArray, List.set_cons_zero, List.set_cons_succ, i64_w, i32_w]
         rfl
       refine pure_ (i := 5) (N := some 83) (v := ?_) (a' := ?_) #[true, true, true, true, true, true, false, false, false, false, false, false, false, false, false, false, false, false, false, false, false, false, false, false] rfl rfl (by kernel_rfl) (fun _ _ _ h => h) (Or.inl ⟨by rfl, ?_⟩) ?_ ?_
       rotate_left
       · intro w'
         go_simp
         with_reducible rfl
       rotate_left
       · simp only [Act.put, List.setIfInBounds_toArray, List.set_cons_zero, List.set_cons_succ, i64_w, i32_w]
         rfl
       refine pure_ (i := 6) (N := some 84) (v := ?_) (a' := ?_) #[true, true, true, true, true, true, true, false, false, false, false, false, false, false, false, false, false, false, false, false, false, false, false, false] rfl rfl (by kernel_rfl) (fun _ _ _ h => h) (Or.inl ⟨by rfl, ?_⟩) ?_ ?_
       rotate_left
       · intro w'
         go_simp
         with_reducible rfl
       rotate_left
       · simp only [Act.put, List.setIfInBounds_toArray, List.set_cons_zero, List.set_cons_succ, i64_w, i32_w]
         rfl
       refine pure_ (i := 7) (N := some 85) (v := ?_) (a' := ?_) #[true, true, true, true, true, true, true, true, false, false, false, false, false, false, false, false, false, false, false, false, false, false, false, false] rfl rfl (by kernel_rfl) (fun _ _ _ h => h) (Or.inl ⟨by rfl, ?_⟩) ?_ ?_
       rotate_left
       · intro w'
         go_simp
         with_reducible rfl
       rotate_left
       · simp only [Act.put, List.setIfInBounds_toArray, List.set_cons_zero, List.set_cons_succ, i64_w, i32_w]
         rfl
       refine pure_ (i := 8) (N := some 86) (v := ?_) (a' := ?_) #[true, true, true, true, true, true, true, true, true, false, false, false, false, false, false, false, false, false, false, false, false, false, false, false] rfl rfl (by kernel_rfl) (fun _ _ _ h => h) (Or.inl ⟨by rfl, ?_⟩) ?_ ?_
       rotate_left
       · intro w'
         go_simp
         with_reducible rfl
       rotate_left
       · simp only [Act.put, List.setIfInBounds_toArray, List.set_cons_zero, List.set_cons_succ, i64_w, i32_w]
         rfl
       refine pure_ (i := 9) (N := some 87) (v := ?_) (a' := ?_) #[true, true, true, true, true, true, true, true, true, true, false, false, false, false, false, false, false, false, false, false, false, false, false, false] rfl rfl (by kernel_rfl) (fun _ _ _ h => h) (Or.inl ⟨by rfl, ?_⟩) ?_ ?_
       rotate_left
       · intro w'
         go_simp
         with_reducible rfl
       rotate_left
       · simp only [Act.put, List.setIfInBounds_toArray, List.set_cons_zero, List.set_cons_succ, i64_w, i32_w]
         rfl
       refine pure_ (i := 10) (N := some 88) (v := ?_) (a' := ?_) #[true, true, true, true, true, true, true, true, true, true, true, false, false, false, false, false, false, false, false, false, false, false, false, false] rfl rfl (by kernel_rfl) (fun _ _ _ h => h) (Or.inl ⟨by rfl, ?_⟩) ?_ ?_
       rotate_left
       · intro w'
         go_simp
         with_reducible rfl
       rotate_left
       · simp only [Act.put, List.setIfInBounds_toArray, List.set_cons_zero, List.set_cons_succ, i64_w, i32_w]
         rfl
       refine take_ (i := 11) (N := some 89) (v := ?_) (a' := ?_) #[true, true, true, true, true, true, true, true, true, true, true, true, false, false, false, false, false, false, false, false, false, false, false, false] rfl rfl (by kernel_rfl) (fun _ _ _ h => h) (Or.inl ⟨by rfl, ?_⟩) hHeld ?_ ?_
       rotate_left
       · rintro w' ⟨s0, s1⟩
         go_simp
         with_reducible rfl
       rotate_left
       · simp only [Act.put, List.setIfInBounds_toArray, List.set_cons_zero, List.set_cons_succ, i64_w, i32_w]
         rfl
       refine take_ (i := 12) (N := some 90) (v := ?_) (a' := ?_) #[true, true, true, true, true, true, true, true, true, true, true, true, true, false, false, false, false, false, false, false, false, false, false, false] rfl rfl (by kernel_rfl) (fun _ _ _ h => h) (Or.inl ⟨by rfl, ?_⟩) hHeld ?_ ?_
       rotate_left
       · rintro w' ⟨s0, s1⟩
         go_simp
         with_reducible rfl
       rotate_left
       · simp only [Act.put, List.setIfInBounds_toArray, List.set_cons_zero, List.set_cons_succ, i64_w, i32_w]
         rfl
       refine pure_ (i := 13) (N := some 91) (v := ?_) (a' := ?_) #[true, true, true, true, true, true, true, true, true, true, true, true, true, true, false, false, false, false, false, false, false, false, false, false] rfl rfl (by kernel_rfl) (fun _ _ _ h => h) (Or.inl ⟨by rfl, ?_⟩) ?_ ?_
       rotate_left
       · intro w'
         go_simp
         with_reducible rfl
       rotate_left
       · simp only [Act.put, List.setIfInBounds_toArray, List.set_cons_zero, List.set_cons_succ, i64_w, i32_w]
         rfl
       refine pure_ (i := 14) (N := some 92) (v := ?_) (a' := ?_) #[true, true, true, true, true, true, true, true, true, true, true, true, true, true, true, false, false, false, false, false, false, false, false, false] rfl rfl (by kernel_rfl) (fun _ _ _ h => h) (Or.inl ⟨by rfl, ?_⟩) ?_ ?_
       rotate_left
       · intro w'
         go_simp
         with_reducible rfl
       rotate_left
       · simp only [Act.put, List.setIfInBounds_toArray, List.set_cons_zero, List.set_cons_succ, i64_w, i32_w]
         rfl
       refine pure_ (i := 15) (N := some 93) (v := ?_) (a' := ?_) #[true, true, true, true, true, true, true, true, true, true, true, true, true, true, true, true, false, false, false, false, false, false, false, false] rfl rfl (by kernel_rfl) (fun _ _ _ h => h) (Or.inl ⟨by rfl, ?_⟩) ?_ ?_
       rotate_left
       · intro w'
         go_simp
         with_reducible rfl
       rotate_left
       · simp only [Act.put, List.setIfInBounds_toArray, List.set_cons_zero, List.set_cons_succ, i64_w, i32_w]
         rfl
       refine pure_ (i := 16) (N := some 94) (v := ?_) (a' := ?_) #[true, true, true, true, true, true, true, true, true, true, true, true, true, true, true, true, true, false, false, false, false, false, false, false] rfl rfl (by kernel_rfl) (fun _ _ _ h => h) (Or.inl ⟨by rfl, ?_⟩) ?_ ?_
       rotate_left
       · intro w'
         go_simp
         with_reducible rfl
       rotate_left
       · simp only [Act.put, List.setIfInBounds_toArray, List.set_cons_zero, List.set_cons_succ, i64_w, i32_w]
         rfl
       refine pure_ (i := 17) (N := some 95) (v := ?_) (a' := ?_) #[true, true, true, true, true, true, true, true, true, true, true, true, true, true, true, true, true, true, false, false, false, false, false, false] rfl rfl (by kernel_rfl) (fun _ _ _ h => h) (Or.inl ⟨by rfl, ?_⟩) ?_ ?_
       rotate_left
       · intro w'
         go_simp
         with_reducible rfl
       rotate_left
       · simp only [Act.put, List.setIfInBounds_toArray, List.set_cons_zero, List.set_cons_succ, i64_w, i32_w]
         rfl
       refine pure_ (i := 19) (N := some 97) (v := ?_) (a' := ?_) #[true, true, true, true, true, true, true, true, true, true, true, true, true, true, true, true, true, true, false, true, false, false, false, false] rfl rfl (by kernel_rfl) (fun _ _ _ h => h) (Or.inl ⟨by rfl, ?_⟩) ?_ ?_
       rotate_left
       · intro w'
         go_simp
         with_reducible rfl
       rotate_left
       · simp only [Act.put, List.setIfInBounds_toArray, List.set_cons_zero, List.set_cons_succ, i64_w, i32_w]
         rfl
       refine one_ (i := 18) (N := some 96) #[true, true, true, true, true, true, true, true, true, true, true, true, true, true, true, true, true, true, true, true, false, false, false, false] rfl rfl (by kernel_rfl) (by decide) (fun K hK => ?_)
       obtain ⟨s0, s1⟩ := hHeld
       refine value_ (w1 := ?_) (v := ?_) (by rfl) rfl ?_ ?_
       rotate_left 2
       · go_simp
         rw [Lib.run_convert_string_bytes _ 9 22 5 s Tryd.underlying9 Tryd.underlying22 Tryd.underlying5]
         rfl
       refine hK.out _ _ ⟨pw_cell_below (bytesWorld_below _ _ _) s0, pw_cell_below (bytesWorld_below _ _ _) s1⟩ (fun hHeld => ?_)
       clear hK K
       refine norm_ (a' := ?_) ?_ ?_
       rotate_left
       · show Act.put _ (some 96) _ = _
         simp only [Act.put, List.setIfInBounds_toArray, List.set_cons_zero, List.set_cons_succ, i64_w, i32_w]
         rfl
       refine one_ (i := 20) (N := some 98) #[true, true, true, true, true, true, true, true, true, true, true, true, true, true, true, true, true, true, true, true, true, false, false, false] rfl rfl (by kernel_rfl) (by decide) (fun K hK => ?_)
       refine goes_ Tryd.func23 (by kernel_rfl) rfl #[.slice (some ⟨w5.drew.heap.size, 0, none⟩) s.size (grownCap w5.drew s.size 0 5), .slice (some ⟨gr, 0, none⟩) u.length c5] (by rfl) rfl rfl (by simp only [List.map_toArray, List.map_cons, List.map_nil]; rfl) ?_
       obtain ⟨v7, hv7, ⟨A7, c7, e7, hc7, hr7⟩, hb7⟩ := conv_bytes.calls (e := 5) s b w5.drew HCV.out
       injection hv7 with hv7
       rw [← hv7, HBL.out] at e7
       rw [HBL.out]
       injection e7 with e7a e7b e7c
       subst e7a e7c
       skip
       refine (decode_Literal.calls k (some ⟨w5.drew.heap.size, 0, none⟩) _ b (some ⟨gr, 0, none⟩) c5 u false _ ?q1 ?q2 ?q3 ?q4 HLT.out).mono ?_
       case q1 => exact hr7 _ (fun _ _ _ => rfl)
       case q2 => exact hc7
       case q3 => exact Kd.C_below (Kd.C_below (Kd.R_reads' HO5.out).2.2 (below_drew (Below.refl _ _))) (bytesWorld_below _ _ _)
       case q4 => exact (Kd.R_reads' HO5.out).2.1
       rintro e w6 ⟨rfl, hb⟩
       have b1 := below_drew HB.out
       have b2 := below_then b1 (below_size b1) (bytesWorld_below _ 5 s)
       have n1 := Aside0.mk (below_then b2 (below_size b2) hb)
       clear b1 b2
       obtain ⟨s0, s1⟩ := hHeld
       have s2 := pw_cell_below hb s0
       have s3 := pw_cell_below hb s1
       refine ⟨_, rfl, ?_⟩
       refine hK.out _ _ ⟨s2, s3⟩ (fun hHeld => ?_)
       clear hK K
       refine norm_ (a' := ?_) ?_ ?_
       rotate_left
       · show Act.put _ (some 98) _ = _
         simp only [Act.put, List.setIfInBounds_toArray, List.set_cons_zero, List.set_cons_succ, i64_w, i32_w]
         rfl
       refine pure_ (i := 21) (N := some 99) (v := ?_) (a' := ?_) #[true, true, true, true, true, true, true, true, true, true, true, true, true, true, true, true, true, true, true, true, true, true, false, false] rfl rfl (by kernel_rfl) (fun _ _ _ h => h) (Or.inl ⟨by rfl, ?_⟩) ?_ ?_
       rotate_left
       · intro w'
         go_simp
         with_reducible rfl
       rotate_left
       · simp only [Act.put, List.setIfInBounds_toArray, List.set_cons_zero, List.set_cons_succ, i64_w, i32_w]
         rfl
       refine pure_ (i := 22) (N := some 100) (v := ?_) (a' := ?_) #[true, true, true, true, true, true, true, true, true, true, true, true, true, true, true, true, true, true, true, true, true, true, true, false] rfl rfl (by kernel_rfl) (fun _ _ _ h => h) (Or.inl ⟨by rfl, ?_⟩) ?_ ?_
       rotate_left
       · intro w'
         go_simp
         with_reducible rfl
       rotate_left
       · simp only [Act.put, List.setIfInBounds_toArray, List.set_cons_zero, List.set_cons_succ, i64_w, i32_w]
         rfl
       refine pure_ (i := 23) (N := some 4) (v := ?_) (a' := ?_) #[true, true, true, true, true, true, true, true, true, true, true, true, true, true, true, true, true, true, true, true, true, true, true, true] rfl rfl (by kernel_rfl) (fun _ _ _ h => h) (Or.inl ⟨by rfl, ?_⟩) ?_ ?_
       rotate_left
       · intro w'
         go_simp
         with_reducible rfl
       rotate_left
       · simp only [Act.put, List.setIfInBounds_toArray, List.set_cons_zero, List.set_cons_succ, i64_w, i32_w]
         rfl
       refine done_ (by kernel_rfl) ?_

       go_wp2
       go_ret
       exact ⟨rfl, n1.out⟩
     · go_upto_region 19 with fail
       refine start_ (n := 24) (S := fun w' => w'.cell? ⟨gr, 0, none⟩ = some (.int .i32 (rd_T45 u 0).f0) ∧ w'.cell? ⟨gb, 0, none⟩ = some (.int .u32 n)) (ds := []) #[false, false, false, false, false, false, false, false, false, false, false, false, false, false, false, false, false, false, false, false, false, false, false, false] (by kernel_rfl) rfl rfl ⟨(pw_cell_below (below_drew (Below.refl _ _)) hx5.out), (pw_cell_below (below_drew (Below.refl _ _)) ((blk_cell BK.out 0).trans rfl))⟩ (fun hHeld => ?_)
       refine pure_ (i := 0) (N := some 78) (v := ?_) (a' := ?_) #[true, false, false, false, false, false, false, false, false, false, false, false, false, false, false, false, false, false, false, false, false, false, false, false] rfl rfl (by kernel_rfl) (fun _ _ _ h => h) (Or.inl ⟨by rfl, ?_⟩) ?_ ?_
       rotate_left
       · intro w'
         go_simp
         with_reducible rfl
       rotate_left
       · simp only [Act.put, List.setIfInBounds_toArray, List.set_cons_zero, List.set_cons_succ, i64_w, i32_w]
         rfl
       refine pure_ (i := 1) (N := some 79) (v := ?_) (a' := ?_) #[true, true, false, false, false, false, false, false, false, false, false, false, false, false, false, false, false, false, false, false, false, false, false, false] rfl rfl (by kernel_rfl) (fun _ _ _ h => h) (Or.inl ⟨by rfl, ?_⟩) ?_ ?_
       rotate_left
       · intro w'
         go_simp
         with_reducible rfl
       rotate_left
       · simp only [Act.put, List.setIfInBounds_toArray, List.set_cons_zero, List.set_cons_succ, i64_w, i32_w]
         rfl
       refine pure_ (i := 2) (N := some 80) (v := ?_) (a' := ?_) #[true, true, true, false, false, false, false, false, false, false, false, false, false, false, false, false, false, false, false, false, false, false, false, false] rfl rfl (by kernel_rfl) (fun _ _ _ h => h) (Or.inl ⟨by rfl, ?_⟩) ?_ ?_
       rotate_left
       · intro w'
         go_simp
         with_reducible rfl
       rotate_left
       · simp only [Act.put, List.setIfInBounds_toArray, List.set_cons_zero, List.set_cons_succ, i64_w, i32_w]
         rfl
       refine pure_ (i := 3) (N := some 81) (v := ?_) (a' := ?_) #[true, true, true, true, false, false, false, false, false, false, false, false, false, false, false, false, false, false, false, false, false, false, false, false] rfl rfl (by kernel_rfl) (fun _ _ _ h => h) (Or.inl ⟨by rfl, ?_⟩) ?_ ?_
       rotate_left
       · intro w'
         go_simp
         with_reducible rfl
       rotate_left
       · simp only [Act.put, List.setIfInBounds_toArray, List.set_cons_zero, List.set_cons_succ, i64_w, i32_w]
         rfl
       refine pure_ (i := 4) (N := some 82) (v := ?_) (a' := ?_) #[true, true, true, true, true, false, false, false, false, false, false, false, false, false, false, false, false, false, false, false, false, false, false, false] rfl rfl (by kernel_rfl) (fun _ _ _ h => h) (Or.inl ⟨by rfl, ?_⟩) ?_ ?_
       rotate_left
       · intro w'
         go_simp
         with_reducible rfl
       rotate_left
       · simp only [Act.put, List.setIfInBounds_toArray, List.set_cons_zero, List.set_cons_succ, i64_w, i32_w]
         rfl
       refine pure_ (i := 5) (N := some 83) (v := ?_) (a' := ?_) #[true, true, true, true, true, true, false, false, false, false, false, false, false, false, false, false, false, false, false, false, false, false, false, false] rfl rfl (by kernel_rfl) (fun _ _ _ h => h) (Or.inl ⟨by rfl, ?_⟩) ?_ ?_
       rotate_left
       · intro w'
         go_simp
         with_reducible rfl
       rotate_left
       · simp only [Act.put, List.setIfInBounds_toArray, List.set_cons_zero, List.set_cons_succ, i64_w, i32_w]
         rfl
       refine pure_ (i := 6) (N := some 84) (v := ?_) (a' := ?_) #[true, true, true, true, true, true, true, false, false, false, false, false, false, false, false, false, false, false, false, false, false, false, false, false] rfl rfl (by kernel_rfl) (fun _ _ _ h => h) (Or.inl ⟨by rfl, ?_⟩) ?_ ?_
       rotate_left
       · intro w'
         go_simp
         with_reducible rfl
       rotate_left
       · simp only [Act.put, List.setIfInBounds_toArray, List.set_cons_zero, List.set_cons_succ, i64_w, i32_w]
         rfl
       refine pure_ (i := 7) (N := some 85) (v := ?_) (a' := ?_) #[true, true, true, true, true, true, true, true, false, false, false, false, false, false, false, false, false, false, false, false, false, false, false, false] rfl rfl (by kernel_rfl) (fun _ _ _ h => h) (Or.inl ⟨by rfl, ?_⟩) ?_ ?_
       rotate_left
       · intro w'
         go_simp
         with_reducible rfl
       rotate_left
       · simp only [Act.put, List.setIfInBounds_toArray, List.set_cons_zero, List.set_cons_succ, i64_w, i32_w]
         rfl
       refine pure_ (i := 8) (N := some 86) (v := ?_) (a' := ?_) #[true, true, true, true, true, true, true, true, true, false, false, false, false, false, false, false, false, false, false, false, false, false, false, false] rfl rfl (by kernel_rfl) (fun _ _ _ h => h) (Or.inl ⟨by rfl, ?_⟩) ?_ ?_
       rotate_left
       · intro w'
         go_simp
         with_reducible rfl
       rotate_left
       · simp only [Act.put, List.setIfInBounds_toArray, List.set_cons_zero, List.set_cons_succ, i64_w, i32_w]
         rfl
       refine pure_ (i := 9) (N := some 87) (v := ?_) (a' := ?_) #[true, true, true, true, true, true, true, true, true, true, false, false, false, false, false, false, false, false, false, false, false, false, false, false] rfl rfl (by kernel_rfl) (fun _ _ _ h => h) (Or.inl ⟨by rfl, ?_⟩) ?_ ?_
       rotate_left
       · intro w'
         go_simp
         with_reducible rfl
       rotate_left
       · simp only [Act.put, List.setIfInBounds_toArray, List.set_cons_zero, List.set_cons_succ, i64_w, i32_w]
         rfl
       refine pure_ (i := 10) (N := some 88) (v := ?_) (a' := ?_) #[true, true, true, true, true, true, true, true, true, true, true, false, false, false, false, false, false, false, false, false, false, false, false, false] rfl rfl (by kernel_rfl) (fun _ _ _ h => h) (Or.inl ⟨by rfl, ?_⟩) ?_ ?_
       rotate_left
       · intro w'
         go_simp
         with_reducible rfl
       rotate_left
       · simp only [Act.put, List.setIfInBounds_toArray, List.set_cons_zero, List.set_cons_succ, i64_w, i32_w]
         rfl
       refine take_ (i := 11) (N := some 89) (v := ?_) (a' := ?_) #[true, true, true, true, true, true, true, true, true, true, true, true, false, false, false, false, false, false, false, false, false, false, false, false] rfl rfl (by kernel_rfl) (fun _ _ _ h => h) (Or.inl ⟨by rfl, ?_⟩) hHeld ?_ ?_
       rotate_left
       · rintro w' ⟨s0, s1⟩
         go_simp
         with_reducible rfl
       rotate_left
       · simp only [Act.put, List.setIfInBounds_toArray, List.set_cons_zero, List.set_cons_succ, i64_w, i32_w]
         rfl
       refine take_ (i := 12) (N := some 90) (v := ?_) (a' := ?_) #[true, true, true, true, true, true, true, true, true, true, true, true, true, false, false, false, false, false, false, false, false, false, false, false] rfl rfl (by kernel_rfl) (fun _ _ _ h => h) (Or.inl ⟨by rfl, ?_⟩) hHeld ?_ ?_
       rotate_left
       · rintro w' ⟨s0, s1⟩
         go_simp
         with_reducible rfl
       rotate_left
       · simp only [Act.put, List.setIfInBounds_toArray, List.set_cons_zero, List.set_cons_succ, i64_w, i32_w]
         rfl
       refine pure_ (i := 13) (N := some 91) (v := ?_) (a' := ?_) #[true, true, true, true, true, true, true, true, true, true, true, true, true, true, false, false, false, false, false, false, false, false, false, false] rfl rfl (by kernel_rfl) (fun _ _ _ h => h) (Or.inl ⟨by rfl, ?_⟩) ?_ ?_
       rotate_left
       · intro w'
         go_simp
         with_reducible rfl
       rotate_left
       · simp only [Act.put, List.setIfInBounds_toArray, List.set_cons_zero, List.set_cons_succ, i64_w, i32_w]
         rfl
       refine pure_ (i := 14) (N := some 92) (v := ?_) (a' := ?_) #[true, true, true, true, true, true, true, true, true, true, true, true, true, true, true, false, false, false, false, false, false, false, false, false] rfl rfl (by kernel_rfl) (fun _ _ _ h => h) (Or.inl ⟨by rfl, ?_⟩) ?_ ?_
       rotate_left
       · intro w'
         go_simp
         with_reducible rfl
       rotate_left
       · simp only [Act.put, List.setIfInBounds_toArray, List.set_cons_zero, List.set_cons_succ, i64_w, i32_w]
         rfl
       refine pure_ (i := 15) (N := some 93) (v := ?_) (a' := ?_) #[true, true, true, true, true, true, true, true, true, true, true, true, true, true, true, true, false, false, false, false, false, false, false, false] rfl rfl (by kernel_rfl) (fun _ _ _ h => h) (Or.inl ⟨by rfl, ?_⟩) ?_ ?_
       rotate_left
       · intro w'
         go_simp
         with_reducible rfl
       rotate_left
       · simp only [Act.put, List.setIfInBounds_toArray, List.set_cons_zero, List.set_cons_succ, i64_w, i32_w]
         rfl
       refine pure_ (i := 16) (N := some 94) (v := ?_) (a' := ?_) #[true, true, true, true, true, true, true, true, true, true, true, true, true, true, true, true, true, false, false, false, false, false, false, false] rfl rfl (by kernel_rfl) (fun _ _ _ h => h) (Or.inl ⟨by rfl, ?_⟩) ?_ ?_
       rotate_left
       · intro w'
         go_simp
         with_reducible rfl
       rotate_left
       · simp only [Act.put, List.setIfInBounds_toArray, List.set_cons_zero, List.set_cons_succ, i64_w, i32_w]
         rfl
       refine pure_ (i := 17) (N := some 95) (v := ?_) (a' := ?_) #[true, true, true, true, true, true, true, true, true, true, true, true, true, true, true, true, true, true, false, false, false, false, false, false] rfl rfl (by kernel_rfl) (fun _ _ _ h => h) (Or.inl ⟨by rfl, ?_⟩) ?_ ?_
       rotate_left
       · intro w'
         go_simp
         with_reducible rfl
       rotate_left
       · simp only [Act.put, List.setIfInBounds_toArray, List.set_cons_zero, List.set_cons_succ, i64_w, i32_w]
         rfl
       refine pure_ (i := 19) (N := some 97) (v := ?_) (a' := ?_) #[true, true, true, true, true, true, true, true, true, true, true, true, true, true, true, true, true, true, false, true, false, false, false, false] rfl rfl (by kernel_rfl) (fun _ _ _ h => h) (Or.inl ⟨by rfl, ?_⟩) ?_ ?_
       rotate_left
       · intro w'
         go_simp
         with_reducible rfl
       rotate_left
       · simp only [Act.put, List.setIfInBounds_toArray, List.set_cons_zero, List.set_cons_succ, i64_w, i32_w]
         rfl
       refine one_ (i := 18) (N := some 96) #[true, true, true, true, true, true, true, true, true, true, true, true, true, true, true, true, true, true, true, true, false, false, false, false] rfl rfl (by kernel_rfl) (by decide) (fun K hK => ?_)
       obtain ⟨s0, s1⟩ := hHeld
       refine value_ (w1 := ?_) (v := ?_) (by rfl) rfl ?_ ?_
       rotate_left 2
       · go_simp
         rw [Lib.run_convert_string_bytes _ 9 22 5 s Tryd.underlying9 Tryd.underlying22 Tryd.underlying5]
         rfl
       refine hK.out _ _ ⟨pw_cell_below (bytesWorld_below _ _ _) s0, pw_cell_below (bytesWorld_below _ _ _) s1⟩ (fun hHeld => ?_)
       clear hK K
       refine norm_ (a' := ?_) ?_ ?_
       rotate_left
       · show Act.put _ (some 96) _ = _
         simp only [Act.put, List.setIfInBounds_toArray, List.set_cons_zero, List.set_cons_succ, i64_w, i32_w]
         rfl
       refine one_ (i := 20) (N := some 98) #[true, true, true, true, true, true, true, true, true, true, true, true, true, true, true, true, true, true, true, true, true, false, false, false] rfl rfl (by kernel_rfl) (by decide) (fun K hK => ?_)
       refine goes_ Tryd.func23 (by kernel_rfl) rfl #[.slice (some ⟨w5.drew.heap.size, 0, none⟩) s.size (grownCap w5.drew s.size 0 5), .slice (some ⟨gr, 0, none⟩) u.length c5] (by rfl) rfl rfl (by simp only [List.map_toArray, List.map_cons, List.map_nil]; rfl) ?_
       obtain ⟨v7, hv7, ⟨A7, c7, e7, hc7, hr7⟩, hb7⟩ := conv_bytes.calls (e := 5) s b w5.drew HCV.out
       injection hv7 with hv7
       rw [← hv7, HBL.out] at e7
       rw [HBL.out]
       injection e7 with e7a e7b e7c
       subst e7a e7c
       skip
       refine (decode_Literal.calls k (some ⟨w5.drew.heap.size, 0, none⟩) _ b (some ⟨gr, 0, none⟩) c5 u false _ ?q1 ?q2 ?q3 ?q4 HLT.out).mono ?_
       case q1 => exact hr7 _ (fun _ _ _ => rfl)
       case q2 => exact hc7
       case q3 => exact Kd.C_below (Kd.C_below (Kd.R_reads' HO5.out).2.2 (below_drew (Below.refl _ _))) (bytesWorld_below _ _ _)
       case q4 => exact (Kd.R_reads' HO5.out).2.1
       rintro e w6 ⟨rfl, hb⟩
       have b1 := below_drew HB.out
       have b2 := below_then b1 (below_size b1) (bytesWorld_below _ 5 s)
       have n1 := Aside0.mk (below_then b2 (below_size b2) hb)
       clear b1 b2
       obtain ⟨s0, s1⟩ := hHeld
       have s2 := pw_cell_below hb s0
       have s3 := pw_cell_below hb s1
       refine ⟨_, rfl, ?_⟩
       refine hK.out _ _ ⟨s2, s3⟩ (fun hHeld => ?_)
       clear hK K
       refine norm_ (a' := ?_) ?_ ?_
       rotate_left
       · show Act.put _ (some 98) _ = _
         simp only [Act.put, List.setIfInBounds_toArray, List.set_cons_zero, List.set_cons_succ, i64_w, i32_w]
         rfl
       refine pure_ (i := 21) (N := some 99) (v := ?_) (a' := ?_) #[true, true, true, true, true, true, true, true, true, true, true, true, true, true, true, true, true, true, true, true, true, true, false, false] rfl rfl (by kernel_rfl) (fun _ _ _ h => h) (Or.inl ⟨by rfl, ?_⟩) ?_ ?_
       rotate_left
       · intro w'
         go_simp
         with_reducible rfl
       rotate_left
       · simp only [Act.put, List.setIfInBounds_toArray, List.set_cons_zero, List.set_cons_succ, i64_w, i32_w]
         rfl
       refine pure_ (i := 22) (N := some 100) (v := ?_) (a' := ?_) #[true, true, true, true, true, true, true, true, true, true, true, true, true, true, true, true, true, true, true, true, true, true, true, false] rfl rfl (by kernel_rfl) (fun _ _ _ h => h) (Or.inl ⟨by rfl, ?_⟩) ?_ ?_
       rotate_left
       · intro w'
         go_simp
         with_reducible rfl
       rotate_left
       · simp only [Act.put, List.setIfInBounds_toArray, List.set_cons_zero, List.set_cons_succ, i64_w, i32_w]
         rfl
       refine pure_ (i := 23) (N := some 4) (v := ?_) (a' := ?_) #[true, true, true, true, true, true, true, true, true, true, true, true, true, true, true, true, true, true, true, true, true, true, true, true] rfl rfl (by kernel_rfl) (fun _ _ _ h => h) (Or.inl ⟨by rfl, ?_⟩) ?_ ?_
       rotate_left
       · intro w'
         go_simp
         with_reducible rfl
       rotate_left
       · simp only [Act.put, List.setIfInBounds_toArray, List.set_cons_zero, List.set_cons_succ, i64_w, i32_w]
         rfl
       refine done_ (by kernel_rfl) ?_

       go_wp2
       go_ret
       exact ⟨rfl, n1.out⟩
   · rw [if_neg cr] at h
     by_cases c2 : 1 < u.length
     case neg => rw [if_neg c2] at h; cases h
     rw [if_pos c2] at h
     obtain ⟨t2, ht2, h⟩ := Option.bind_eq_some_iff.mp h
     have d4 : (t2.toList != ([] : List UInt8)) = true := by simpa using h
     have d4b : t2.toList.isEmpty = false := by cases hq : t2.toList <;> simp_all
     have d5 := decide_eq_true (show (1 : Int) < (u.length : Int) by omega)
     have HTX := Aside0.mk ht2
     have d2 : decide (0 < n) = false ∨ decide (0 < n) = true ∧ decide (55296 ≤ n) = true ∧ decide (n < 57344) = true := by
       by_cases z : 0 < n
       · have z2 : 55296 ≤ n ∧ n < 57344 := Classical.not_not.1 (fun y => cr ⟨z, y⟩)
         exact .inr ⟨decide_eq_true z, decide_eq_true z2.1, decide_eq_true z2.2⟩
       · exact .inl (decide_eq_false z)
     clear h ht2 cr c2
     go_enter Tryd.func6, Tryd.ntmps6
     go_upto_region 1 with fail
     rw [← HW0.out, ← HGB.out]
     go_upto_region 4 with (first | (go_at_call 9; refine (redpenlaw15_Awake.calls k true _ HA.out ?sideL).mono ?_; (case sideL => first | exact HL.out | exact HL.out.below HB.out | exact HL.out.below (by repeat (first | (with_reducible first | exact HB.out | apply below_alloc | apply pw_below_drewN | apply below_drew1 | refine below_set ?_ (Aside0.out (by assumption))) | exact HB.out))); rintro e w1 ⟨rfl, hb⟩; have n1 := Aside0.mk (below_then HB.out (below_size HB.out) hb); have n2 := Aside0.mk (blk_below BK.out hb); clear HB BK; have HB := n1; have BK := n2; clear n1 n2 hb; have hx := blk_cell BK.out 0; have hf := blk_frozen BK.out 0; simp at hx))
     have BK := Aside0.mk (blk_put BK.out 0 (.int .u32 n) (cs' := #[.int .u32 n]) rfl)
     have HB := Aside0.mk (show Below w.heap.size w (w1.setCell ⟨gb, 0, none⟩ (.int .u32 n)) from HB.out.setCell GE.out _)
     try rw [HNN.out]
     generalize w1.setCell ⟨gb, 0, none⟩ (.int .u32 n) = w2 at BK HB ⊢
     go_upto_region 15 with (first | (go_at_call 25; refine (redpenlaw15_DecodeBack_1.calls k 10 1 n d _ HD.out ((blk_cell BK.out 0).trans rfl)).mono ?_; rintro e w3 ⟨rfl, hb⟩; have n1 := Aside0.mk (below_then HB.out (below_size HB.out) hb); have n2 := Aside0.mk (blk_below BK.out hb); clear HB BK; have HB := n1; have BK := n2; clear n1 n2 hb))
     rw [← HS.out]
     go_upto_region 16 with (first | ((with_reducible refine gate_dst (N := 44) rfl ?_); refine cv_goes (N := some 44) rfl rfl (s := s) rfl (by first | rfl | (simp; done)) Tryd.underlying9 Tryd.underlying22 Tryd.underlying5 ?_; refine (conv_bytes.calls (e := 5) s b _ HCV.out).mono ?_; rintro e w4 ⟨v4, rfl, hv4, hb⟩; obtain ⟨A4, c4, ev4, hc4, hr4⟩ := hv4; subst ev4; have HR4 := Aside0.mk (hr4 _ (fun _ _ _ => rfl)); have HC4 := Aside0.mk hc4; clear hr4 hc4; have n1 := Aside0.mk (below_then HB.out (below_size HB.out) hb); have n2 := Aside0.mk (blk_below BK.out hb); clear HB BK; have HB := n1; have BK := n2; clear n1 n2 hb; refine ⟨_, rfl, ?_⟩) | (go_at_call 16; refine (decode_Units.calls k 1 A4 c4 b 1 0 (s.size : Int) u 0 _ HR4.out HC4.out HU.out ?sideL).mono ?_; (case sideL => first | exact HL.out | exact HL.out.below HB.out | exact HL.out.below (by repeat (first | (with_reducible first | exact HB.out | apply below_alloc | apply pw_below_drewN | apply below_drew1 | refine below_set ?_ (Aside0.out (by assumption))) | exact HB.out))); rintro e w5 ⟨v5, rfl, ho, hb⟩; obtain ⟨A5, c5, ev5⟩ := Kd.R_slice ho; subst ev5; have HO5 := Aside0.mk ho; clear ho; have n1 := Aside0.mk (below_then HB.out (below_size HB.out) hb); have n2 := Aside0.mk (blk_below BK.out hb); clear HB BK; have HB := n1; have BK := n2; clear n1 n2 hb))
     have hx := blk_cell BK.out 0
     simp at hx
     rcases d2 with d6 | ⟨d6, d7, d8⟩
     · go_wp2_with (first | (go_at_call 21; refine (decode_Text.calls k A5 c5 u t2 _ (Kd.R_reads' HO5.out).2.2 (Kd.R_reads' HO5.out).2.1 HTX.out).mono ?_; rintro e w6 ⟨rfl, hb⟩; have n1 := Aside0.mk (below_then HB.out (below_size HB.out) hb); clear hb))
       go_ret
       exact ⟨rfl, n1.out⟩
     · go_wp2_with (first | (go_at_call 21; refine (decode_Text.calls k A5 c5 u t2 _ (Kd.R_reads' HO5.out).2.2 (Kd.R_reads' HO5.out).2.1 HTX.out).mono ?_; rintro e w6 ⟨rfl, hb⟩; have n1 := Aside0.mk (below_then HB.out (below_size HB.out) hb); clear hb))
       go_ret
       exact ⟨rfl, n1.out⟩
 by_cases q1 : kk = 1
 · subst q1
   rw [if_neg (by decide)] at h; rw [if_pos rfl] at h
   generalize hn : Int.tmod a0 1114112 = n at h
   have HNN := Aside0.mk hn
   obtain ⟨d, hd, h⟩ := Option.bind_eq_some_iff.mp h
   by_cases hds : d.size < 1000
   case neg => rw [if_neg hds] at h; cases h
   rw [if_pos hds] at h
   obtain ⟨s, hs⟩ : ∃ s : ByteArray, s = ((⟨#[38, 35, 120]⟩ : ByteArray) ++ d) ++ (⟨#[59]⟩ : ByteArray) := ⟨_, rfl⟩
   rw [← hs] at h
   have hsz : s.size < 2000 := by rw [hs]; simp only [ByteArray.size_append]; have e1 : (⟨#[38, 35, 120]⟩ : ByteArray).size = 3 := rfl; have e2 : (⟨#[59]⟩ : ByteArray).size = 1 := rfl; omega
   unfold redpenlaw15_DecodeBack.T at h
   rw [if_pos (by omega)] at h
   obtain ⟨b, hcv, h⟩ := Option.bind_eq_some_iff.mp h
   obtain ⟨⟨u, u2⟩, hu, h⟩ := Option.bind_eq_some_iff.mp h
   have HD := Aside0.mk hd
   have HCV := Aside0.mk hcv
   have HU := Aside0.mk hu
   have HS := Aside0.mk hs
   have HSZ := Aside0.mk hsz
   have HBL := Aside0.mk (show s.size = b.length by have hq := hcv; unfold conv_bytes.f at hq; rw [if_pos (by omega)] at hq; rw [← Option.some.inj hq, bytesOf_length])
   have k1 : (3 + d.size ≤ 9223372036854775807) = True := eq_true (by omega)
   have k2 : decide (3 + d.size ≤ 9223372036854775807) = true := decide_eq_true (by omega)
   have k3 : (9223372036854775807 < 3 + d.size) = False := eq_false (by omega)
   have e1 : ((⟨#[38, 35, 120]⟩ : ByteArray) ++ d).size = 3 + d.size := by rw [ByteArray.size_append]; rfl
   have k4 : (((⟨#[38, 35, 120]⟩ : ByteArray) ++ d).size + 1 ≤ 9223372036854775807) = True := eq_true (by omega)
   have k5 : decide (((⟨#[38, 35, 120]⟩ : ByteArray) ++ d).size + 1 ≤ 9223372036854775807) = true := decide_eq_true (by omega)
   have k6 : (9223372036854775807 < ((⟨#[38, 35, 120]⟩ : ByteArray) ++ d).size + 1) = False := eq_false (by omega)
   have k7 : (9223372036854775807 < 3 + d.size + 1) = False := eq_false (by omega)
   have k8 : (3 + d.size + 1 ≤ 9223372036854775807) = True := eq_true (by omega)
   clear e1
   clear hd hcv hu hs hsz hds
   by_cases c1 : u2 = 0
   case neg => simp only [if_neg c1] at h; cases h
   subst c1
   simp only [if_true] at h
   by_cases cr : 0 < n ∧ ¬ (55296 ≤ n ∧ n < 57344)
   · rw [if_pos cr] at h
     by_cases c2 : u.length = 1
     case neg => rw [if_neg c2] at h; cases h
     rw [if_pos c2] at h
     by_cases c3 : (rd_T45 u 0).f0 = wrap32 n
     case neg => rw [if_neg c3] at h; cases h
     rw [if_pos c3] at h
     obtain ⟨t2, ht2, h⟩ := Option.bind_eq_some_iff.mp h
     obtain rfl : t2 = false := by simpa using h
     have HLT := Aside0.mk ht2
     clear h ht2
     have d1 := decide_eq_true cr.1
     have d2 : decide (55296 ≤ n) = true ∧ decide (n < 57344) = false ∨ decide (55296 ≤ n) = false := by
       by_cases z : 55296 ≤ n
       · exact .inl ⟨decide_eq_true z, decide_eq_false (fun y => cr.2 ⟨z, y⟩)⟩
       · exact .inr (decide_eq_false z)
     have d3 : ((rd_T45 u 0).f0 == wrap32 n) = true := beq_iff_eq.mpr c3
     have d4 : ((u.length : Int) == 1) = true := beq_iff_eq.mpr (by omega)
     have HL1 := Aside0.mk c2
     clear cr c3 c2
     go_enter Tryd.func6, Tryd.ntmps6
     go_upto_region 1 with fail
     rw [← HW0.out, ← HGB.out]
     go_upto_region 4 with (first | (go_at_call 9; refine (redpenlaw15_Awake.calls k true _ HA.out ?sideL).mono ?_; (case sideL => first | exact HL.out | exact HL.out.below HB.out | exact HL.out.below (by repeat (first | (with_reducible first | exact HB.out | apply below_alloc | apply pw_below_drewN | apply below_drew1 | refine below_set ?_ (Aside0.out (by assumption))) | exact HB.out))); rintro e w1 ⟨rfl, hb⟩; have n1 := Aside0.mk (below_then HB.out (below_size HB.out) hb); have n2 := Aside0.mk (blk_below BK.out hb); clear HB BK; have HB := n1; have BK := n2; clear n1 n2 hb; have hx := blk_cell BK.out 0; have hf := blk_frozen BK.out 0; simp at hx))
     have BK := Aside0.mk (blk_put BK.out 0 (.int .u32 n) (cs' := #[.int .u32 n]) rfl)
     have HB := Aside0.mk (show Below w.heap.size w (w1.setCell ⟨gb, 0, none⟩ (.int .u32 n)) from HB.out.setCell GE.out _)
     try rw [HNN.out]
     generalize w1.setCell ⟨gb, 0, none⟩ (.int .u32 n) = w2 at BK HB ⊢
     go_upto_region 15 with (first | (go_at_call 25; refine (redpenlaw15_DecodeBack_1.calls k 16 1 n d _ HD.out ((blk_cell BK.out 0).trans rfl)).mono ?_; rintro e w3 ⟨rfl, hb⟩; have n1 := Aside0.mk (below_then HB.out (below_size HB.out) hb); have n2 := Aside0.mk (blk_below BK.out hb); clear HB BK; have HB := n1; have BK := n2; clear n1 n2 hb))
     rw [← HS.out]
     go_upto_region 16 with (first | ((with_reducible refine gate_dst (N := 44) rfl ?_); refine cv_goes (N := some 44) rfl rfl (s := s) rfl (by first | rfl | (simp; done)) Tryd.underlying9 Tryd.underlying22 Tryd.underlying5 ?_; refine (conv_bytes.calls (e := 5) s b _ HCV.out).mono ?_; rintro e w4 ⟨v4, rfl, hv4, hb⟩; obtain ⟨A4, c4, ev4, hc4, hr4⟩ := hv4; subst ev4; have HR4 := Aside0.mk (hr4 _ (fun _ _ _ => rfl)); have HC4 := Aside0.mk hc4; clear hr4 hc4; have n1 := Aside0.mk (below_then HB.out (below_size HB.out) hb); have n2 := Aside0.mk (blk_below BK.out hb); clear HB BK; have HB := n1; have BK := n2; clear n1 n2 hb; refine ⟨_, rfl, ?_⟩) | (go_at_call 16; refine (decode_Units.calls k 1 A4 c4 b 1 0 (s.size : Int) u 0 _ HR4.out HC4.out HU.out ?sideL).mono ?_; (case sideL => first | exact HL.out | exact HL.out.below HB.out | exact HL.out.below (by repeat (first | (with_reducible first | exact HB.out | apply below_alloc | apply pw_below_drewN | apply below_drew1 | refine below_set ?_ (Aside0.out (by assumption))) | exact HB.out))); rintro e w5 ⟨v5, rfl, ho, hb⟩; obtain ⟨A5, c5, ev5⟩ := Kd.R_slice ho; subst ev5; have HO5 := Aside0.mk ho; clear ho; have n1 := Aside0.mk (below_then HB.out (below_size HB.out) hb); have n2 := Aside0.mk (blk_below BK.out hb); clear HB BK; have HB := n1; have BK := n2; clear n1 n2 hb))
     have hx := blk_cell BK.out 0
     simp at hx
     obtain ⟨gr, rfl⟩ : ∃ gr, A5 = some ⟨gr, 0, none⟩ := unit_row HO5.out (by have := HL1.out; omega)
     have hx5 := Aside0.mk (unit_cell HO5.out (by have := HL1.out; omega))
     have d8 : (0 < u.length) = True := eq_true (by have := HL1.out; omega)
     have d9 : ((0 : Int) < (u.length : Int)) = True := eq_true (by have := HL1.out; omega)
     rcases d2 with ⟨d5, d6⟩ | d5
     · go_upto_region 19 with fail
       refine start_ (n := 24) (S := fun w' => w'.cell? ⟨gr, 0, none⟩ = some (.int .i32 (rd_T45 u 0).f0) ∧ w'.cell? ⟨gb, 0, none⟩ = some (.int .u32 n)) (ds := []) #[false, false, false, false, false, false, false, false, false, false, false, false, false, false, false, false, false, false, false, false, false, false, false, false] (by kernel_rfl) rfl rfl ⟨(pw_cell_below (below_drew (Below.refl _ _)) hx5.out), (pw_cell_below (below_drew (Below.refl _ _)) ((blk_cell BK.out 0).trans rfl))⟩ (fun hHeld => ?_)
       refine pure_ (i := 0) (N := some 78) (v := ?_) (a' := ?_) #[true, false, false, false, false, false, false, false, false, false, false, false, false, false, false, false, false, false, false, false, false, false, false, false] rfl rfl (by kernel_rfl) (fun _ _ _ h => h) (Or.inl ⟨by rfl, ?_⟩) ?_ ?_
       rotate_left
       · intro w'
         go_simp
         with_reducible rfl
       rotate_left
       · simp only [Act.put, List.setIfInBounds_toArray, List.set_cons_zero, List.set_cons_succ, i64_w, i32_w]
         rfl
       refine pure_ (i := 1) (N := some 79) (v := ?_) (a' := ?_) #[true, true, false, false, false, false, false, false, false, false, false, false, false, false, false, false, false, false, false, false, false, false, false, false] rfl rfl (by kernel_rfl) (fun _ _ _ h => h) (Or.inl ⟨by rfl, ?_⟩) ?_ ?_
       rotate_left
       · intro w'
         go_simp
         with_reducible rfl
       rotate_left
       · simp only [Act.put, List.setIfInBounds_toArray, List.set_cons_zero, List.set_cons_succ, i64_w, i32_w]
         rfl
       refine pure_ (i := 2) (N := some 80) (v := ?_) (a' := ?_) #[true, true, true, false, false, false, false, false, false, false, false, false, false, false, false, false, false, false, false, false, false, false, false, false] rfl rfl (by kernel_rfl) (fun _ _ _ h => h) (Or.inl ⟨by rfl, ?_⟩) ?_ ?_
       rotate_left
       · intro w'
         go_simp
         with_reducible rfl
       rotate_left
       · simp only [Act.put, List.setIfInBounds_toArray, List.set_cons_zero, List.set_cons_succ, i64_w, i32_w]
         rfl
       refine pure_ (i := 3) (N := some 81) (v := ?_) (a' := ?_) #[true, true, true, true, false, false, false, false, false, false, false, false, false, false, false, false, false, false, false, false, false, false, false, false] rfl rfl (by kernel_rfl) (fun _ _ _ h => h) (Or.inl ⟨by rfl, ?_⟩) ?_ ?_
       rotate_left
       · intro w'
         go_simp
         with_reducible rfl
       rotate_left
       · simp only [Act.put, List.setIfInBounds_toArray, List.set_cons_zero, List.set_cons_succ, i64_w, i32_w]
         rfl
       refine pure_ (i := 4) (N := some 82) (v := ?_) (a' := ?_) #[true, true, true, true, true, false, false, false, false, false, false, false, false, false, false, false, false, false, false, false, false, false, false, false] rfl rfl (by kernel_rfl) (fun _ _ _ h => h) (Or.inl ⟨by rfl, ?_⟩) ?_ ?_
       rotate_left
       · intro w'
         go_simp
         with_reducible rfl
       rotate_left
       · simp only [Act.put, List.setIfInBounds_toArray, List.set_cons_zero, List.set_cons_succ, i64_w, i32_w]
         rfl
       refine pure_ (i := 5) (N := some 83) (v := ?_) (a' := ?_) #[true, true, true, true, true, true, false, false, false, false, false, false, false, false, false, false, false, false, false, false, false, false, false, false] rfl rfl (by kernel_rfl) (fun _ _ _ h => h) (Or.inl ⟨by rfl, ?_⟩) ?_ ?_
       rotate_left
       · intro w'
         go_simp
         with_reducible rfl
       rotate_left
       · simp only [Act.put, List.setIfInBounds_toArray, List.set_cons_zero, List.set_cons_succ, i64_w, i32_w]
         rfl
       refine pure_ (i := 6) (N := some 84) (v := ?_) (a' := ?_) #[true, true, true, true, true, true, true, false, false, false, false, false, false, false, false, false, false, false, false, false, false, false, false, false] rfl rfl (by kernel_rfl) (fun _ _ _ h => h) (Or.inl ⟨by rfl, ?_⟩) ?_ ?_
       rotate_left
       · intro w'
         go_simp
         with_reducible rfl
       rotate_left
       · simp only [Act.put, List.setIfInBounds_toArray, List.set_cons_zero, List.set_cons_succ, i64_w, i32_w]
         rfl
       refine pure_ (i := 7) (N := some 85) (v := ?_) (a' := ?_) #[true, true, true, true, true, true, true, true, false, false, false, false, false, false, false, false, false, false, false, false, false, false, false, false] rfl rfl (by kernel_rfl) (fun _ _ _ h => h) (Or.inl ⟨by rfl, ?_⟩) ?_ ?_
       rotate_left
       · intro w'
         go_simp
         with_reducible rfl
       rotate_left
       · simp only [Act.put, List.setIfInBounds_toArray, List.set_cons_zero, List.set_cons_succ, i64_w, i32_w]
         rfl
       refine pure_ (i := 8) (N := some 86) (v := ?_) (a' := ?_) #[true, true, true, true, true, true, true, true, true, false, false, false, false, false, false, false, false, false, false, false, false, false, false, false] rfl rfl (by kernel_rfl) (fun _ _ _ h => h) (Or.inl ⟨by rfl, ?_⟩) ?_ ?_
       rotate_left
       · intro w'
         go_simp
         with_reducible rfl
       rotate_left
       · simp only [Act.put, List.setIfInBounds_toArray, List.set_cons_zero, List.set_cons_succ, i64_w, i32_w]
         rfl
       refine pure_ (i := 9) (N := some 87) (v := ?_) (a' := ?_) #[true, true, true, true, true, true, true, true, true, true, false, false, false, false, false, false, false, false, false, false, false, false, false, false] rfl rfl (by kernel_rfl) (fun _ _ _ h => h) (Or.inl ⟨by rfl, ?_⟩) ?_ ?_
       rotate_left
       · intro w'
         go_simp
         with_reducible rfl
       rotate_left
       · simp only [Act.put, List.setIfInBounds_toArray, List.set_cons_zero, List.set_cons_succ, i64_w, i32_w]
         rfl
       refine pure_ (i := 10) (N := some 88) (v := ?_) (a' := ?_) #[true, true, true, true, true, true, true, true, true, true, true, false, false, false, false, false, false, false, false, false, false, false, false, false] rfl rfl (by kernel_rfl) (fun _ _ _ h => h) (Or.inl ⟨by rfl, ?_⟩) ?_ ?_
       rotate_left
       · intro w'
         go_simp
         with_reducible rfl
       rotate_left
       · simp only [Act.put, List.setIfInBounds_toArray, List.set_cons_zero, List.set_cons_succ, i64_w, i32_w]
         rfl
       refine take_ (i := 11) (N := some 89) (v := ?_) (a' := ?_) #[true, true, true, true, true, true, true, true, true, true, true, true, false, false, false, false, false, false, false, false, false, false, false, false] rfl rfl (by kernel_rfl) (fun _ _ _ h => h) (Or.inl ⟨by rfl, ?_⟩) hHeld ?_ ?_
       rotate_left
       · rintro w' ⟨s0, s1⟩
         go_simp
         with_reducible rfl
       rotate_left
       · simp only [Act.put, List.setIfInBounds_toArray, List.set_cons_zero, List.set_cons_succ, i64_w, i32_w]
         rfl
       refine take_ (i := 12) (N := some 90) (v := ?_) (a' := ?_) #[true, true, true, true, true, true, true, true, true, true, true, true, true, false, false, false, false, false, false, false, false, false, false, false] rfl rfl (by kernel_rfl) (fun _ _ _ h => h) (Or.inl ⟨by rfl, ?_⟩) hHeld ?_ ?_
       rotate_left
       · rintro w' ⟨s0, s1⟩
         go_simp
         with_reducible rfl
       rotate_left
       · simp only [Act.put, List.setIfInBounds_toArray, List.set_cons_zero, List.set_cons_succ, i64_w, i32_w]
         rfl
       refine pure_ (i := 13) (N := some 91) (v := ?_) (a' := ?_) #[true, true, true, true, true, true, true, true, true, true, true, true, true, true, false, false, false, false, false, false, false, false, false, false] rfl rfl (by kernel_rfl) (fun _ _ _ h => h) (Or.inl ⟨by rfl, ?_⟩) ?_ ?_
       rotate_left
       · intro w'
         go_simp
         with_reducible rfl
       rotate_left
       · simp only [Act.put, List.setIfInBounds_toArray, List.set_cons_zero, List.set_cons_succ, i64_w, i32_w]
         rfl
       refine pure_ (i := 14) (N := some 92) (v := ?_) (a' := ?_) #[true, true, true, true, true, true, true, true, true, true, true, true, true, true, true, false, false, false, false, false, false, false, false, false] rfl rfl (by kernel_rfl) (fun _ _ _ h => h) (Or.inl ⟨by rfl, ?_⟩) ?_ ?_
       rotate_left
       · intro w'
         go_simp
         with_reducible rfl
       rotate_left
       · simp only [Act.put, List.setIfInBounds_toArray, List.set_cons_zero, List.set_cons_succ, i64_w, i32_w]
         rfl
       refine pure_ (i := 15) (N := some 93) (v := ?_) (a' := ?_) #[true, true, true, true, true, true, true, true, true, true, true, true, true, true, true, true, false, false, false, false, false, false, false, false] rfl rfl (by kernel_rfl) (fun _ _ _ h => h) (Or.inl ⟨by rfl, ?_⟩) ?_ ?_
       rotate_left
       · intro w'
         go_simp
         with_reducible rfl
       rotate_left
       · simp only [Act.put, List.setIfInBounds_toArray, List.set_cons_zero, List.set_cons_succ, i64_w, i32_w]
         rfl
       refine pure_ (i := 16) (N := some 94) (v := ?_) (a' := ?_) #[true, true, true, true, true, true, true, true, true, true, true, true, true, true, true, true, true, false, false, false, false, false, false, false] rfl rfl (by kernel_rfl) (fun _ _ _ h => h) (Or.inl ⟨by rfl, ?_⟩) ?_ ?_
       rotate_left
       · intro w'
         go_simp
         with_reducible rfl
       rotate_left
       · simp only [Act.put, List.setIfInBounds_toArray, List.set_cons_zero, List.set_cons_succ, i64_w, i32_w]
         rfl
       refine pure_ (i := 17) (N := some 95) (v := ?_) (a' := ?_) #[true, true, true, true, true, true, true, true, true, true, true, true, true, true, true, true, true, true, false, false, false, false, false, false] rfl rfl (by kernel_rfl) (fun _ _ _ h => h) (Or.inl ⟨by rfl, ?_⟩) ?_ ?_
       rotate_left
       · intro w'
         go_simp
         with_reducible rfl
       rotate_left
       · simp only [Act.put, List.setIfInBounds_toArray, List.set_cons_zero, List.set_cons_succ, i64_w, i32_w]
         rfl
       refine pure_ (i := 19) (N := some 97) (v := ?_) (a' := ?_) #[true, true, true, true, true, true, true, true, true, true, true, true, true, true, true, true, true, true, false, true, false, false, false, false] rfl rfl (by kernel_rfl) (fun _ _ _ h => h) (Or.inl ⟨by rfl, ?_⟩) ?_ ?_
       rotate_left
       · intro w'
         go_simp
         with_reducible rfl
       rotate_left
       · simp only [Act.put, List.setIfInBounds_toArray, List.set_cons_zero, List.set_cons_succ, i64_w, i32_w]
         rfl
       refine one_ (i := 18) (N := some 96) #[true, true, true, true, true, true, true, true, true, true, true, true, true, true, true, true, true, true, true, true, false, false, false, false] rfl rfl (by kernel_rfl) (by decide) (fun K hK => ?_)
       obtain ⟨s0, s1⟩ := hHeld
       refine value_ (w1 := ?_) (v := ?_) (by rfl) rfl ?_ ?_
       rotate_left 2
       · go_simp
         rw [Lib.run_convert_string_bytes _ 9 22 5 s Tryd.underlying9 Tryd.underlying22 Tryd.underlying5]
         rfl
       refine hK.out _ _ ⟨pw_cell_below (bytesWorld_below _ _ _) s0, pw_cell_below (bytesWorld_below _ _ _) s1⟩ (fun hHeld => ?_)
       clear hK K
       refine norm_ (a' := ?_) ?_ ?_
       rotate_left
       · show Act.put _ (some 96) _ = _
         simp only [Act.put, List.setIfInBounds_toArray, List.set_cons_zero, List.set_cons_succ, i64_w, i32_w]
         rfl
       refine one_ (i := 20) (N := some 98) #[true, true, true, true, true, true, true, true, true, true, true, true, true, true, true, true, true, true, true, true, true, false, false, false] rfl rfl (by kernel_rfl) (by decide) (fun K hK => ?_)
       refine goes_ Tryd.func23 (by kernel_rfl) rfl #[.slice (some ⟨w5.drew.heap.size, 0, none⟩) s.size (grownCap w5.drew s.size 0 5), .slice (some ⟨gr, 0, none⟩) u.length c5] (by rfl) rfl rfl (by simp only [List.map_toArray, List.map_cons, List.map_nil]; rfl) ?_
       obtain ⟨v7, hv7, ⟨A7, c7, e7, hc7, hr7⟩, hb7⟩ := conv_bytes.calls (e := 5) s b w5.drew HCV.out
       injection hv7 with hv7
       rw [← hv7, HBL.out] at e7
       rw [HBL.out]
       injection e7 with e7a e7b e7c
       subst e7a e7c
       skip
       refine (decode_Literal.calls k (some ⟨w5.drew.heap.size, 0, none⟩) _ b (some ⟨gr, 0, none⟩) c5 u false _ ?q1 ?q2 ?q3 ?q4 HLT.out).mono ?_
       case q1 => exact hr7 _ (fun _ _ _ => rfl)
       case q2 => exact hc7
       case q3 => exact Kd.C_below (Kd.C_below (Kd.R_reads' HO5.out).2.2 (below_drew (Below.refl _ _))) (bytesWorld_below _ _ _)
       case q4 => exact (Kd.R_reads' HO5.out).2.1
       rintro e w6 ⟨rfl, hb⟩
       have b1 := below_drew HB.out
       have b2 := below_then b1 (below_size b1) (bytesWorld_below _ 5 s)
       have n1 := Aside0.mk (below_then b2 (below_size b2) hb)
       clear b1 b2
       obtain ⟨s0, s1⟩ := hHeld
       have s2 := pw_cell_below hb s0
       have s3 := pw_cell_below hb s1
       refine ⟨_, rfl, ?_⟩
       refine hK.out _ _ ⟨s2, s3⟩ (fun hHeld => ?_)
       clear hK K
       refine norm_ (a' := ?_) ?_ ?_
       rotate_left
       · show Act.put _ (some 98) _ = _
         simp only [Act.put, List.setIfInBounds_toArray, List.set_cons_zero, List.set_cons_succ, i64_w, i32_w]
         rfl
       refine pure_ (i := 21) (N := some 99) (v := ?_) (a' := ?_) #[true, true, true, true, true, true, true, true, true, true, true, true, true, true, true, true, true, true, true, true, true, true, false, false] rfl rfl (by kernel_rfl) (fun _ _ _ h => h) (Or.inl ⟨by rfl, ?_⟩) ?_ ?_
       rotate_left
       · intro w'
         go_simp
         with_reducible rfl
       rotate_left
       · simp only [Act.put, List.setIfInBounds_toArray, List.set_cons_zero, List.set_cons_succ, i64_w, i32_w]
         rfl
       refine pure_ (i := 22) (N := some 100) (v := ?_) (a' := ?_) #[true, true, true, true, true, true, true, true, true, true, true, true, true, true, true, true, true, true, true, true, true, true, true, false] rfl rfl (by kernel_rfl) (fun _ _ _ h => h) (Or.inl ⟨by rfl, ?_⟩) ?_ ?_
       rotate_left
       · intro w'
         go_simp
         with_reducible rfl
       rotate_left
       · simp only [Act.put, List.setIfInBounds_toArray, List.set_cons_zero, List.set_cons_succ, i64_w, i32_w]
         rfl
       refine pure_ (i := 23) (N := some 4) (v := ?_) (a' := ?_) #[true, true, true, true, true, true, true, true, true, true, true, true, true, true, true, true, true, true, true, true, true, true, true, true] rfl rfl (by kernel_rfl) (fun _ _ _ h => h) (Or.inl ⟨by rfl, ?_⟩) ?_ ?_
       rotate_left
       · intro w'
         go_simp
         with_reducible rfl
       rotate_left
       · simp only [Act.put, List.setIfInBounds_toArray, List.set_cons_zero, List.set_cons_succ, i64_w, i32_w]
         rfl
       refine done_ (by kernel_rfl) ?_

       go_wp2
       go_ret
       exact ⟨rfl, n1.out⟩
     · go_upto_region 19 with fail
       refine start_ (n := 24) (S := fun w' => w'.cell? ⟨gr, 0, none⟩ = some (.int .i32 (rd_T45 u 0).f0) ∧ w'.cell? ⟨gb, 0, none⟩ = some (.int .u32 n)) (ds := []) #[false, false, false, false, false, false, false, false, false, false, false, false, false, false, false, false, false, false, false, false, false, false, false, false] (by kernel_rfl) rfl rfl ⟨(pw_cell_below (below_drew (Below.refl _ _)) hx5.out), (pw_cell_below (below_drew (Below.refl _ _)) ((blk_cell BK.out 0).trans rfl))⟩ (fun hHeld => ?_)
       refine pure_ (i := 0) (N := some 78) (v := ?_) (a' := ?_) #[true, false, false, false, false, false, false, false, false, false, false, false, false, false, false, false, false, false, false, false, false, false, false, false] rfl rfl (by kernel_rfl) (fun _ _ _ h => h) (Or.inl ⟨by rfl, ?_⟩) ?_ ?_
       rotate_left
       · intro w'
         go_simp
         with_reducible rfl
       rotate_left
       · simp only [Act.put, List.setIfInBounds_toArray, List.set_cons_zero, List.set_cons_succ, i64_w, i32_w]
         rfl
       refine pure_ (i := 1) (N := some 79) (v := ?_) (a' := ?_) #[true, true, false, false, false, false, false, false, false, false, false, false, false, false, false, false, false, false, false, false, false, false, false, false] rfl rfl (by kernel_rfl) (fun _ _ _ h => h) (Or.inl ⟨by rfl, ?_⟩) ?_ ?_
       rotate_left
       · intro w'
         go_simp
         with_reducible rfl
       rotate_left
       · simp only [Act.put, List.setIfInBounds_toArray, List.set_cons_zero, List.set_cons_succ, i64_w, i32_w]
         rfl
       refine pure_ (i := 2) (N := some 80) (v := ?_) (a' := ?_) #[true, true, true, false, false, false, false, false, false, false, false, false, false, false, false, false, false, false, false, false, false, false, false, false] rfl rfl (by kernel_rfl) (fun _ _ _ h => h) (Or.inl ⟨by rfl, ?_⟩) ?_ ?_
       rotate_left
       · intro w'
         go_simp
         with_reducible rfl
       rotate_left
       · simp only [Act.put, List.setIfInBounds_toArray, List.set_cons_zero, List.set_cons_succ, i64_w, i32_w]
         rfl
       refine pure_ (i := 3) (N := some 81) (v := ?_) (a' := ?_) #[true, true, true, true, false, false, false, false, false, false, false, false, false, false, false, false, false, false, false, false, false, false, false, false] rfl rfl (by kernel_rfl) (fun _ _ _ h => h) (Or.inl ⟨by rfl, ?_⟩) ?_ ?_
       rotate_left
       · intro w'
         go_simp
         with_reducible rfl
       rotate_left
       · simp only [Act.put, List.setIfInBounds_toArray, List.set_cons_zero, List.set_cons_succ, i64_w, i32_w]
         rfl
       refine pure_ (i := 4) (N := some 82) (v := ?_) (a' := ?_) #[true, true, true, true, true, false, false, false, false, false, false, false, false, false, false, false, false, false, false, false, false, false, false, false] rfl rfl (by kernel_rfl) (fun _ _ _ h => h) (Or.inl ⟨by rfl, ?_⟩) ?_ ?_
       rotate_left
       · intro w'
         go_simp
         with_reducible rfl
       rotate_left
       · simp only [Act.put, List.setIfInBounds_toArray, List.set_cons_zero, List.set_cons_succ, i64_w, i32_w]
         rfl
       refine pure_ (i := 5) (N := some 83) (v := ?_) (a' := ?_) #[true, true, true, true, true, true, false, false, false, false, false, false, false, false, false, false, false, false, false, false, false, false, false, false] rfl rfl (by kernel_rfl) (fun _ _ _ h => h) (Or.inl ⟨by rfl, ?_⟩) ?_ ?_
       rotate_left
       · intro w'
         go_simp
         with_reducible rfl
       rotate_left
       · simp only [Act.put, List.setIfInBounds_toArray, List.set_cons_zero, List.set_cons_succ, i64_w, i32_w]
         rfl
       refine pure_ (i := 6) (N := some 84) (v := ?_) (a' := ?_) #[true, true, true, true, true, true, true, false, false, false, false, false, false, false, false, false, false, false, false, false, false, false, false, false] rfl rfl (by kernel_rfl) (fun _ _ _ h => h) (Or.inl ⟨by rfl, ?_⟩) ?_ ?_
       rotate_left
       · intro w'
         go_simp
         with_reducible rfl
       rotate_left
       · simp only [Act.put, List.setIfInBounds_toArray, List.set_cons_zero, List.set_cons_succ, i64_w, i32_w]
         rfl
       refine pure_ (i := 7) (N := some 85) (v := ?_) (a' := ?_) #[true, true, true, true, true, true, true, true, false, false, false, false, false, false, false, false, false, false, false, false, false, false, false, false] rfl rfl (by kernel_rfl) (fun _ _ _ h => h) (Or.inl ⟨by rfl, ?_⟩) ?_ ?_
       rotate_left
       · intro w'
         go_simp
         with_reducible rfl
       rotate_left
       · simp only [Act.put, List.setIfInBounds_toArray, List.set_cons_zero, List.set_cons_succ, i64_w, i32_w]
         rfl
       refine pure_ (i := 8) (N := some 86) (v := ?_) (a' := ?_) #[true, true, true, true, true, true, true, true, true, false, false, false, false, false, false, false, false, false, false, false, false, false, false, false] rfl rfl (by kernel_rfl) (fun _ _ _ h => h) (Or.inl ⟨by rfl, ?_⟩) ?_ ?_
       rotate_left
       · intro w'
         go_simp
         with_reducible rfl
       rotate_left
       · simp only [Act.put, List.setIfInBounds_toArray, List.set_cons_zero, List.set_cons_succ, i64_w, i32_w]
         rfl
       refine pure_ (i := 9) (N := some 87) (v := ?_) (a' := ?_) #[true, true, true, true, true, true, true, true, true, true, false, false, false, false, false, false, false, false, false, false, false, false, false, false] rfl rfl (by kernel_rfl) (fun _ _ _ h => h) (Or.inl ⟨by rfl, ?_⟩) ?_ ?_
       rotate_left
       · intro w'
         go_simp
         with_reducible rfl
       rotate_left
       · simp only [Act.put, List.setIfInBounds_toArray, List.set_cons_zero, List.set_cons_succ, i64_w, i32_w]
         rfl
       refine pure_ (i := 10) (N := some 88) (v := ?_) (a' := ?_) #[true, true, true, true, true, true, true, true, true, true, true, false, false, false, false, false, false, false, false, false, false, false, false, false] rfl rfl (by kernel_rfl) (fun _ _ _ h => h) (Or.inl ⟨by rfl, ?_⟩) ?_ ?_
       rotate_left
       · intro w'
         go_simp
         with_reducible rfl
       rotate_left
       · simp only [Act.put, List.setIfInBounds_toArray, List.set_cons_zero, List.set_cons_succ, i64_w, i32_w]
         rfl
       refine take_ (i := 11) (N := some 89) (v := ?_) (a' := ?_) #[true, true, true, true, true, true, true, true, true, true, true, true, false, false, false, false, false, false, false, false, false, false, false, false] rfl rfl (by kernel_rfl) (fun _ _ _ h => h) (Or.inl ⟨by rfl, ?_⟩) hHeld ?_ ?_
       rotate_left
       · rintro w' ⟨s0, s1⟩
         go_simp
         with_reducible rfl
       rotate_left
       · simp only [Act.put, List.setIfInBounds_toArray, List.set_cons_zero, List.set_cons_succ, i64_w, i32_w]
         rfl
       refine take_ (i := 12) (N := some 90) (v := ?_) (a' := ?_) #[true, true, true, true, true, true, true, true, true, true, true, true, true, false, false, false, false, false, false, false, false, false, false, false] rfl rfl (by kernel_rfl) (fun _ _ _ h => h) (Or.inl ⟨by rfl, ?_⟩) hHeld ?_ ?_
       rotate_left
       · rintro w' ⟨s0, s1⟩
         go_simp
         with_reducible rfl
       rotate_left
       · simp only [Act.put, List.setIfInBounds_toArray, List.set_cons_zero, List.set_cons_succ, i64_w, i32_w]
         rfl
       refine pure_ (i := 13) (N := some 91) (v := ?_) (a' := ?_) #[true, true, true, true, true, true, true, true, true, true, true, true, true, true, false, false, false, false, false, false, false, false, false, false] rfl rfl (by kernel_rfl) (fun _ _ _ h => h) (Or.inl ⟨by rfl, ?_⟩) ?_ ?_
       rotate_left
       · intro w'
         go_simp
         with_reducible rfl
       rotate_left
       · simp only [Act.put, List.setIfInBounds_toArray, List.set_cons_zero, List.set_cons_succ, i64_w, i32_w]
         rfl
       refine pure_ (i := 14) (N := some 92) (v := ?_) (a' := ?_) #[true, true, true, true, true, true, true, true, true, true, true, true, true, true, true, false, false, false, false, false, false, false, false, false] rfl rfl (by kernel_rfl) (fun _ _ _ h => h) (Or.inl ⟨by rfl, ?_⟩) ?_ ?_
       rotate_left
       · intro w'
         go_simp
         with_reducible rfl
       rotate_left
       · simp only [Act.put, List.setIfInBounds_toArray, List.set_cons_zero, List.set_cons_succ, i64_w, i32_w]
         rfl
       refine pure_ (i := 15) (N := some 93) (v := ?_) (a' := ?_) #[true, true, true, true, true, true, true, true, true, true, true, true, true, true, true, true, false, false, false, false, false, false, false, false] rfl rfl (by kernel_rfl) (fun _ _ _ h => h) (Or.inl ⟨by rfl, ?_⟩) ?_ ?_
       rotate_left
       · intro w'
         go_simp
         with_reducible rfl
       rotate_left
       · simp only [Act.put, List.setIfInBounds_toArray, List.set_cons_zero, List.set_cons_succ, i64_w, i32_w]
         rfl
       refine pure_ (i := 16) (N := some 94) (v := ?_) (a' := ?_) #[true, true, true, true, true, true, true, true, true, true, true, true, true, true, true, true, true, false, false, false, false, false, false, false] rfl rfl (by kernel_rfl) (fun _ _ _ h => h) (Or.inl ⟨by rfl, ?_⟩) ?_ ?_
       rotate_left
       · intro w'
         go_simp
         with_reducible rfl
       rotate_left
       · simp only [Act.put, List.setIfInBounds_toArray, List.set_cons_zero, List.set_cons_succ, i64_w, i32_w]
         rfl
       refine pure_ (i := 17) (N := some 95) (v := ?_) (a' := ?_) #[true, true, true, true, true, true, true, true, true, true, true, true, true, true, true, true, true, true, false, false, false, false, false, false] rfl rfl (by kernel_rfl) (fun _ _ _ h => h) (Or.inl ⟨by rfl, ?_⟩) ?_ ?_
       rotate_left
       · intro w'
         go_simp
         with_reducible rfl
       rotate_left
       · simp only [Act.put, List.setIfInBounds_toArray, List.set_cons_zero, List.set_cons_succ, i64_w, i32_w]
         rfl
       refine pure_ (i := 19) (N := some 97) (v := ?_) (a' := ?_) #[true, true, true, true, true, true, true, true, true, true, true, true, true, true, true, true, true, true, false, true, false, false, false, false] rfl rfl (by kernel_rfl) (fun _ _ _ h => h) (Or.inl ⟨by rfl, ?_⟩) ?_ ?_
       rotate_left
       · intro w'
         go_simp
         with_reducible rfl
       rotate_left
       · simp only [Act.put, List.setIfInBounds_toArray, List.set_cons_zero, List.set_cons_succ, i64_w, i32_w]
         rfl
       refine one_ (i := 18) (N := some 96) #[true, true, true, true, true, true, true, true, true, true, true, true, true, true, true, true, true, true, true, true, false, false, false, false] rfl rfl (by kernel_rfl) (by decide) (fun K hK => ?_)
       obtain ⟨s0, s1⟩ := hHeld
       refine value_ (w1 := ?_) (v := ?_) (by rfl) rfl ?_ ?_
       rotate_left 2
       · go_simp
         rw [Lib.run_convert_string_bytes _ 9 22 5 s Tryd.underlying9 Tryd.underlying22 Tryd.underlying5]
         rfl
       refine hK.out _ _ ⟨pw_cell_below (bytesWorld_below _ _ _) s0, pw_cell_below (bytesWorld_below _ _ _) s1⟩ (fun hHeld => ?_)
       clear hK K
       refine norm_ (a' := ?_) ?_ ?_
       rotate_left
       · show Act.put _ (some 96) _ = _
         simp only [Act.put, List.setIfInBounds_toArray, List.set_cons_zero, List.set_cons_succ, i64_w, i32_w]
         rfl
       refine one_ (i := 20) (N := some 98) #[true, true, true, true, true, true, true, true, true, true, true, true, true, true, true, true, true, true, true, true, true, false, false, false] rfl rfl (by kernel_rfl) (by decide) (fun K hK => ?_)
       refine goes_ Tryd.func23 (by kernel_rfl) rfl #[.slice (some ⟨w5.drew.heap.size, 0, none⟩) s.size (grownCap w5.drew s.size 0 5), .slice (some ⟨gr, 0, none⟩) u.length c5] (by rfl) rfl rfl (by simp only [List.map_toArray, List.map_cons, List.map_nil]; rfl) ?_
       obtain ⟨v7, hv7, ⟨A7, c7, e7, hc7, hr7⟩, hb7⟩ := conv_bytes.calls (e := 5) s b w5.drew HCV.out
       injection hv7 with hv7
       rw [← hv7, HBL.out] at e7
       rw [HBL.out]
       injection e7 with e7a e7b e7c
       subst e7a e7c
       skip
       refine (decode_Literal.calls k (some ⟨w5.drew.heap.size, 0, none⟩) _ b (some ⟨gr, 0, none⟩) c5 u false _ ?q1 ?q2 ?q3 ?q4 HLT.out).mono ?_
       case q1 => exact hr7 _ (fun _ _ _ => rfl)
       case q2 => exact hc7
       case q3 => exact Kd.C_below (Kd.C_below (Kd.R_reads' HO5.out).2.2 (below_drew (Below.refl _ _))) (bytesWorld_below _ _ _)
       case q4 => exact (Kd.R_reads' HO5.out).2.1
       rintro e w6 ⟨rfl, hb⟩
       have b1 := below_drew HB.out
       have b2 := below_then b1 (below_size b1) (bytesWorld_below _ 5 s)
       have n1 := Aside0.mk (below_then b2 (below_size b2) hb)
       clear b1 b2
       obtain ⟨s0, s1⟩ := hHeld
       have s2 := pw_cell_below hb s0
       have s3 := pw_cell_below hb s1
       refine ⟨_, rfl, ?_⟩
       refine hK.out _ _ ⟨s2, s3⟩ (fun hHeld => ?_)
       clear hK K
       refine norm_ (a' := ?_) ?_ ?_
       rotate_left
       · show Act.put _ (some 98) _ = _
         simp only [Act.put, List.setIfInBounds_toArray, List.set_cons_zero, List.set_cons_succ, i64_w, i32_w]
         rfl
       refine pure_ (i := 21) (N := some 99) (v := ?_) (a' := ?_) #[true, true, true, true, true, true, true, true, true, true, true, true, true, true, true, true, true, true, true, true, true, true, false, false] rfl rfl (by kernel_rfl) (fun _ _ _ h => h) (Or.inl ⟨by rfl, ?_⟩) ?_ ?_
       rotate_left
       · intro w'
         go_simp
         with_reducible rfl
       rotate_left
       · simp only [Act.put, List.setIfInBounds_toArray, List.set_cons_zero, List.set_cons_succ, i64_w, i32_w]
         rfl
       refine pure_ (i := 22) (N := some 100) (v := ?_) (a' := ?_) #[true, true, true, true, true, true, true, true, true, true, true, true, true, true, true, true, true, true, true, true, true, true, true, false] rfl rfl (by kernel_rfl) (fun _ _ _ h => h) (Or.inl ⟨by rfl, ?_⟩) ?_ ?_
       rotate_left
       · intro w'
         go_simp
         with_reducible rfl
       rotate_left
       · simp only [Act.put, List.setIfInBounds_toArray, List.set_cons_zero, List.set_cons_succ, i64_w, i32_w]
         rfl
       refine pure_ (i := 23) (N := some 4) (v := ?_) (a' := ?_) #[true, true, true, true, true, true, true, true, true, true, true, true, true, true, true, true, true, true, true, true, true, true, true, true] rfl rfl (by kernel_rfl) (fun _ _ _ h => h) (Or.inl ⟨by rfl, ?_⟩) ?_ ?_
       rotate_left
       · intro w'
         go_simp
         with_reducible rfl
       rotate_left
       · simp only [Act.put, List.setIfInBounds_toArray, List.set_cons_zero, List.set_cons_succ, i64_w, i32_w]
         rfl
       refine done_ (by kernel_rfl) ?_

       go_wp2
       go_ret
       exact ⟨rfl, n1.out⟩
   · rw [if_neg cr] at h
     by_cases c2 : 1 < u.length
     case neg => rw [if_neg c2] at h; cases h
     rw [if_pos c2] at h
     obtain ⟨t2, ht2, h⟩ := Option.bind_eq_some_iff.mp h
     have d4 : (t2.toList != ([] : List UInt8)) = true := by simpa using h
     have d4b : t2.toList.isEmpty = false := by cases hq : t2.toList <;> simp_all
     have d5 := decide_eq_true (show (1 : Int) < (u.length : Int) by omega)
     have HTX := Aside0.mk ht2
     have d2 : decide (0 < n) = false ∨ decide (0 < n) = true ∧ decide (55296 ≤ n) = true ∧ decide (n < 57344) = true := by
       by_cases z : 0 < n
       · have z2 : 55296 ≤ n ∧ n < 57344 := Classical.not_not.1 (fun y => cr ⟨z, y⟩)
         exact .inr ⟨decide_eq_true z, decide_eq_true z2.1, decide_eq_true z2.2⟩
       · exact .inl (decide_eq_false z)
     clear h ht2 cr c2
     go_enter Tryd.func6, Tryd.ntmps6
     go_upto_region 1 with fail
     rw [← HW0.out, ← HGB.out]
     go_upto_region 4 with (first | (go_at_call 9; refine (redpenlaw15_Awake.calls k true _ HA.out ?sideL).mono ?_; (case sideL => first | exact HL.out | exact HL.out.below HB.out | exact HL.out.below (by repeat (first | (with_reducible first | exact HB.out | apply below_alloc | apply pw_below_drewN | apply below_drew1 | refine below_set ?_ (Aside0.out (by assumption))) | exact HB.out))); rintro e w1 ⟨rfl, hb⟩; have n1 := Aside0.mk (below_then HB.out (below_size HB.out) hb); have n2 := Aside0.mk (blk_below BK.out hb); clear HB BK; have HB := n1; have BK := n2; clear n1 n2 hb; have hx := blk_cell BK.out 0; have hf := blk_frozen BK.out 0; simp at hx))
     have BK := Aside0.mk (blk_put BK.out 0 (.int .u32 n) (cs' := #[.int .u32 n]) rfl)
     have HB := Aside0.mk (show Below w.heap.size w (w1.setCell ⟨gb, 0, none⟩ (.int .u32 n)) from HB.out.setCell GE.out _)
     try rw [HNN.out]
     generalize w1.setCell ⟨gb, 0, none⟩ (.int .u32 n) = w2 at BK HB ⊢
     go_upto_region 15 with (first | (go_at_call 25; refine (redpenlaw15_DecodeBack_1.calls k 16 1 n d _ HD.out ((blk_cell BK.out 0).trans rfl)).mono ?_; rintro e w3 ⟨rfl, hb⟩; have n1 := Aside0.mk (below_then HB.out (below_size HB.out) hb); have n2 := Aside0.mk (blk_below BK.out hb); clear HB BK; have HB := n1; have BK := n2; clear n1 n2 hb))
     rw [← HS.out]
     go_upto_region 16 with (first | ((with_reducible refine gate_dst (N := 44) rfl ?_); refine cv_goes (N := some 44) rfl rfl (s := s) rfl (by first | rfl | (simp; done)) Tryd.underlying9 Tryd.underlying22 Tryd.underlying5 ?_; refine (conv_bytes.calls (e := 5) s b _ HCV.out).mono ?_; rintro e w4 ⟨v4, rfl, hv4, hb⟩; obtain ⟨A4, c4, ev4, hc4, hr4⟩ := hv4; subst ev4; have HR4 := Aside0.mk (hr4 _ (fun _ _ _ => rfl)); have HC4 := Aside0.mk hc4; clear hr4 hc4; have n1 := Aside0.mk (below_then HB.out (below_size HB.out) hb); have n2 := Aside0.mk (blk_below BK.out hb); clear HB BK; have HB := n1; have BK := n2; clear n1 n2 hb; refine ⟨_, rfl, ?_⟩) | (go_at_call 16; refine (decode_Units.calls k 1 A4 c4 b 1 0 (s.size : Int) u 0 _ HR4.out HC4.out HU.out ?sideL).mono ?_; (case sideL => first | exact HL.out | exact HL.out.below HB.out | exact HL.out.below (by repeat (first | (with_reducible first | exact HB.out | apply below_alloc | apply pw_below_drewN | apply below_drew1 | refine below_set ?_ (Aside0.out (by assumption))) | exact HB.out))); rintro e w5 ⟨v5, rfl, ho, hb⟩; obtain ⟨A5, c5, ev5⟩ := Kd.R_slice ho; subst ev5; have HO5 := Aside0.mk ho; clear ho; have n1 := Aside0.mk (below_then HB.out (below_size HB.out) hb); have n2 := Aside0.mk (blk_below BK.out hb); clear HB BK; have HB := n1; have BK := n2; clear n1 n2 hb))
     have hx := blk_cell BK.out 0
     simp at hx
     rcases d2 with d6 | ⟨d6, d7, d8⟩
     · go_wp2_with (first | (go_at_call 21; refine (decode_Text.calls k A5 c5 u t2 _ (Kd.R_reads' HO5.out).2.2 (Kd.R_reads' HO5.out).2.1 HTX.out).mono ?_; rintro e w6 ⟨rfl, hb⟩; have n1 := Aside0.mk (below_then HB.out (below_size HB.out) hb); clear hb))
       go_ret
       exact ⟨rfl, n1.out⟩
     · go_wp2_with (first | (go_at_call 21; refine (decode_Text.calls k A5 c5 u t2 _ (Kd.R_reads' HO5.out).2.2 (Kd.R_reads' HO5.out).2.1 HTX.out).mono ?_; rintro e w6 ⟨rfl, hb⟩; have n1 := Aside0.mk (below_then HB.out (below_size HB.out) hb); clear hb))
       go_ret
       exact ⟨rfl, n1.out⟩
 by_cases q2 : kk = 2
 · subst q2
   rw [if_neg (by decide)] at h; rw [if_neg (by decide)] at h; rw [if_pos rfl] at h
   generalize hn : Int.tmod a0 1114112 = n at h
   have HNN := Aside0.mk hn
   obtain ⟨d, hd, h⟩ := Option.bind_eq_some_iff.mp h
   by_cases hds : d.size < 1000
   case neg => rw [if_neg hds] at h; cases h
   rw [if_pos hds] at h
   obtain ⟨s, hs⟩ : ∃ s : ByteArray, s = ((⟨#[92, 85]⟩ : ByteArray) ++ d) := ⟨_, rfl⟩
   rw [← hs] at h
   have hsz : s.size < 2000 := by rw [hs]; simp only [ByteArray.size_append]; have e1 : (⟨#[92, 85]⟩ : ByteArray).size = 2 := rfl; omega
   unfold redpenlaw15_DecodeBack.T at h
   rw [if_pos (by omega)] at h
   obtain ⟨b, hcv, h⟩ := Option.bind_eq_some_iff.mp h
   obtain ⟨⟨u, u2⟩, hu, h⟩ := Option.bind_eq_some_iff.mp h
   have HD := Aside0.mk hd
   have HCV := Aside0.mk hcv
   have HU := Aside0.mk hu
   have HS := Aside0.mk hs
   have HSZ := Aside0.mk hsz
   have HBL := Aside0.mk (show s.size = b.length by have hq := hcv; unfold conv_bytes.f at hq; rw [if_pos (by omega)] at hq; rw [← Option.some.inj hq, bytesOf_length])
   have k1 : (2 + d.size ≤ 9223372036854775807) = True := eq_true (by omega)
   have k2 : decide (2 + d.size ≤ 9223372036854775807) = true := decide_eq_true (by omega)
   have k3 : (9223372036854775807 < 2 + d.size) = False := eq_false (by omega)
   clear hd hcv hu hs hsz hds
   by_cases c1 : u2 = 0
   case neg => simp only [if_neg c1] at h; cases h
   subst c1
   simp only [if_true] at h
   by_cases cr : 0 < n ∧ ¬ (55296 ≤ n ∧ n < 57344)
   · rw [if_pos cr] at h
     by_cases c2 : u.length = 1
     case neg => rw [if_neg c2] at h; cases h
     rw [if_pos c2] at h
     by_cases c3 : (rd_T45 u 0).f0 = wrap32 n
     case neg => rw [if_neg c3] at h; cases h
     rw [if_pos c3] at h
     obtain ⟨t2, ht2, h⟩ := Option.bind_eq_some_iff.mp h
     obtain rfl : t2 = false := by simpa using h
     have HLT := Aside0.mk ht2
     clear h ht2
     have d1 := decide_eq_true cr.1
     have d2 : decide (55296 ≤ n) = true ∧ decide (n < 57344) = false ∨ decide (55296 ≤ n) = false := by
       by_cases z : 55296 ≤ n
       · exact .inl ⟨decide_eq_true z, decide_eq_false (fun y => cr.2 ⟨z, y⟩)⟩
       · exact .inr (decide_eq_false z)
     have d3 : ((rd_T45 u 0).f0 == wrap32 n) = true := beq_iff_eq.mpr c3
     have d4 : ((u.length : Int) == 1) = true := beq_iff_eq.mpr (by omega)
     have HL1 := Aside0.mk c2
     clear cr c3 c2
     go_enter Tryd.func6, Tryd.ntmps6
     go_upto_region 1 with fail
     rw [← HW0.out, ← HGB.out]
     go_upto_region 4 with (first | (go_at_call 9; refine (redpenlaw15_Awake.calls k true _ HA.out ?sideL).mono ?_; (case sideL => first | exact HL.out | exact HL.out.below HB.out | exact HL.out.below (by repeat (first | (with_reducible first | exact HB.out | apply below_alloc | apply pw_below_drewN | apply below_drew1 | refine below_set ?_ (Aside0.out (by assumption))) | exact HB.out))); rintro e w1 ⟨rfl, hb⟩; have n1 := Aside0.mk (below_then HB.out (below_size HB.out) hb); have n2 := Aside0.mk (blk_below BK.out hb); clear HB BK; have HB := n1; have BK := n2; clear n1 n2 hb; have hx := blk_cell BK.out 0; have hf := blk_frozen BK.out 0; simp at hx))
     have BK := Aside0.mk (blk_put BK.out 0 (.int .u32 n) (cs' := #[.int .u32 n]) rfl)
     have HB := Aside0.mk (show Below w.heap.size w (w1.setCell ⟨gb, 0, none⟩ (.int .u32 n)) from HB.out.setCell GE.out _)
     try rw [HNN.out]
     generalize w1.setCell ⟨gb, 0, none⟩ (.int .u32 n) = w2 at BK HB ⊢
     go_upto_region 15 with (first | (go_at_call 25; refine (redpenlaw15_DecodeBack_1.calls k 16 8 n d _ HD.out ((blk_cell BK.out 0).trans rfl)).mono ?_; rintro e w3 ⟨rfl, hb⟩; have n1 := Aside0.mk (below_then HB.out (below_size HB.out) hb); have n2 := Aside0.mk (blk_below BK.out hb); clear HB BK; have HB := n1; have BK := n2; clear n1 n2 hb))
     rw [← HS.out]
     go_upto_region 16 with (first | ((with_reducible refine gate_dst (N := 44) rfl ?_); refine cv_goes (N := some 44) rfl rfl (s := s) rfl (by first | rfl | (simp; done)) Tryd.underlying9 Tryd.underlying22 Tryd.underlying5 ?_; refine (conv_bytes.calls (e := 5) s b _ HCV.out).mono ?_; rintro e w4 ⟨v4, rfl, hv4, hb⟩; obtain ⟨A4, c4, ev4, hc4, hr4⟩ := hv4; subst ev4; have HR4 := Aside0.mk (hr4 _ (fun _ _ _ => rfl)); have HC4 := Aside0.mk hc4; clear hr4 hc4; have n1 := Aside0.mk (below_then HB.out (below_size HB.out) hb); have n2 := Aside0.mk (blk_below BK.out hb); clear HB BK; have HB := n1; have BK := n2; clear n1 n2 hb; refine ⟨_, rfl, ?_⟩) | (go_at_call 16; refine (decode_Units.calls k 6 A4 c4 b 5 0 (s.size : Int) u 0 _ HR4.out HC4.out HU.out ?sideL).mono ?_; (case sideL => first | exact HL.out | exact HL.out.below HB.out | exact HL.out.below (by repeat (first | (with_reducible first | exact HB.out | apply below_alloc | apply pw_below_drewN | apply below_drew1 | refine below_set ?_ (Aside0.out (by assumption))) | exact HB.out))); rintro e w5 ⟨v5, rfl, ho, hb⟩; obtain ⟨A5, c5, ev5⟩ := Kd.R_slice ho; subst ev5; have HO5 := Aside0.mk ho; clear ho; have n1 := Aside0.mk (below_then HB.out (below_size HB.out) hb); have n2 := Aside0.mk (blk_below BK.out hb); clear HB BK; have HB := n1; have BK := n2; clear n1 n2 hb))
     have hx := blk_cell BK.out 0
     simp at hx
     obtain ⟨gr, rfl⟩ : ∃ gr, A5 = some ⟨gr, 0, none⟩ := unit_row HO5.out (by have := HL1.out; omega)
     have hx5 := Aside0.mk (unit_cell HO5.out (by have := HL1.out; omega))
     have d8 : (0 < u.length) = True := eq_true (by have := HL1.out; omega)
     have d9 : ((0 : Int) < (u.length : Int)) = True := eq_true (by have := HL1.out; omega)
     rcases d2 with ⟨d5, d6⟩ | d5
     · go_upto_region 19 with fail
       refine start_ (n := 24) (S := fun w' => w'.cell? ⟨gr, 0, none⟩ = some (.int .i32 (rd_T45 u 0).f0) ∧ w'.cell? ⟨gb, 0, none⟩ = some (.int .u32 n)) (ds := []) #[false, false, false, false, false, false, false, false, false, false, false, false, false, false, false, false, false, false, false, false, false, false, false, false] (by kernel_rfl) rfl rfl ⟨(pw_cell_below (below_drew (Below.refl _ _)) hx5.out), (pw_cell_below (below_drew (Below.refl _ _)) ((blk_cell BK.out 0).trans rfl))⟩ (fun hHeld => ?_)
       refine pure_ (i := 0) (N := some 78) (v := ?_) (a' := ?_) #[true, false, false, false, false, false, false, false, false, false, false, false, false, false, false, false, false, false, false, false, false, false, false, false] rfl rfl (by kernel_rfl) (fun _ _ _ h => h) (Or.inl ⟨by rfl, ?_⟩) ?_ ?_
       rotate_left
       · intro w'
         go_simp
         with_reducible rfl
       rotate_left
       · simp only [Act.put, List.setIfInBounds_toArray, List.set_cons_zero, List.set_cons_succ, i64_w, i32_w]
         rfl
       refine pure_ (i := 1) (N := some 79) (v := ?_) (a' := ?_) #[true, true, false, false, false, false, false, false, false, false, false, false, false, false, false, false, false, false, false, false, false, false, false, false] rfl rfl (by kernel_rfl) (fun _ _ _ h => h) (Or.inl ⟨by rfl, ?_⟩) ?_ ?_
       rotate_left
       · intro w'
         go_simp
         with_reducible rfl
       rotate_left
       · simp only [Act.put, List.setIfInBounds_toArray, List.set_cons_zero, List.set_cons_succ, i64_w, i32_w]
         rfl
       refine pure_ (i := 2) (N := some 80) (v := ?_) (a' := ?_) #[true, true, true, false, false, false, false, false, false, false, false, false, false, false, false, false, false, false, false, false, false, false, false, false] rfl rfl (by kernel_rfl) (fun _ _ _ h => h) (Or.inl ⟨by rfl, ?_⟩) ?_ ?_
       rotate_left
       · intro w'
         go_simp
         with_reducible rfl
       rotate_left
       · simp only [Act.put, List.setIfInBounds_toArray, List.set_cons_zero, List.set_cons_succ, i64_w, i32_w]
         rfl
       refine pure_ (i := 3) (N := some 81) (v := ?_) (a' := ?_) #[true, true, true, true, false, false, false, false, false, false, false, false, false, false, false, false, false, false, false, false, false, false, false, false] rfl rfl (by kernel_rfl) (fun _ _ _ h => h) (Or.inl ⟨by rfl, ?_⟩) ?_ ?_
       rotate_left
       · intro w'
         go_simp
         with_reducible rfl
       rotate_left
       · simp only [Act.put, List.setIfInBounds_toArray, List.set_cons_zero, List.set_cons_succ, i64_w, i32_w]
         rfl
       refine pure_ (i := 4) (N := some 82) (v := ?_) (a' := ?_) #[true, true, true, true, true, false, false, false, false, false, false, false, false, false, false, false, false, false, false, false, false, false, false, false] rfl rfl (by kernel_rfl) (fun _ _ _ h => h) (Or.inl ⟨by rfl, ?_⟩) ?_ ?_
       rotate_left
       · intro w'
         go_simp
         with_reducible rfl
       rotate_left
       · simp only [Act.put, List.setIfInBounds_toArray, List.set_cons_zero, List.set_cons_succ, i64_w, i32_w]
         rfl
       refine pure_ (i := 5) (N := some 83) (v := ?_) (a' := ?_) #[true, true, true, true, true, true, false, false, false, false, false, false, false, false, false, false, false, false, false, false, false, false, false, false] rfl rfl (by kernel_rfl) (fun _ _ _ h => h) (Or.inl ⟨by rfl, ?_⟩) ?_ ?_
       rotate_left
       · intro w'
         go_simp
         with_reducible rfl
       rotate_left
       · simp only [Act.put, List.setIfInBounds_toArray, List.set_cons_zero, List.set_cons_succ, i64_w, i32_w]
         rfl
       refine pure_ (i := 6) (N := some 84) (v := ?_) (a' := ?_) #[true, true, true, true, true, true, true, false, false, false, false, false, false, false, false, false, false, false, false, false, false, false, false, false] rfl rfl (by kernel_rfl) (fun _ _ _ h => h) (Or.inl ⟨by rfl, ?_⟩) ?_ ?_
       rotate_left
       · intro w'
         go_simp
         with_reducible rfl
       rotate_left
       · simp only [Act.put, List.setIfInBounds_toArray, List.set_cons_zero, List.set_cons_succ, i64_w, i32_w]
         rfl
       refine pure_ (i := 7) (N := some 85) (v := ?_) (a' := ?_) #[true, true, true, true, true, true, true, true, false, false, false, false, false, false, false, false, false, false, false, false, false, false, false, false] rfl rfl (by kernel_rfl) (fun _ _ _ h => h) (Or.inl ⟨by rfl, ?_⟩) ?_ ?_
       rotate_left
       · intro w'
         go_simp
         with_reducible rfl
       rotate_left
       · simp only [Act.put, List.setIfInBounds_toArray, List.set_cons_zero, List.set_cons_succ, i64_w, i32_w]
         rfl
       refine pure_ (i := 8) (N := some 86) (v := ?_) (a' := ?_) #[true, true, true, true, true, true, true, true, true, false, false, false, false, false, false, false, false, false, false, false, false, false, false, false] rfl rfl (by kernel_rfl) (fun _ _ _ h => h) (Or.inl ⟨by rfl, ?_⟩) ?_ ?_
       rotate_left
       · intro w'
         go_simp
         with_reducible rfl
       rotate_left
       · simp only [Act.put, List.setIfInBounds_toArray, List.set_cons_zero, List.set_cons_succ, i64_w, i32_w]
         rfl
       refine pure_ (i := 9) (N := some 87) (v := ?_) (a' := ?_) #[true, true, true, true, true, true, true, true, true, true, false, false, false, false, false, false, false, false, false, false, false, false, false, false] rfl rfl (by kernel_rfl) (fun _ _ _ h => h) (Or.inl ⟨by rfl, ?_⟩) ?_ ?_
       rotate_left
       · intro w'
         go_simp
         with_reducible rfl
       rotate_left
       · simp only [Act.put, List.setIfInBounds_toArray, List.set_cons_zero, List.set_cons_succ, i64_w, i32_w]
         rfl
       refine pure_ (i := 10) (N := some 88) (v := ?_) (a' := ?_) #[true, true, true, true, true, true, true, true, true, true, true, false, false, false, false, false, false, false, false, false, false, false, false, false] rfl rfl (by kernel_rfl) (fun _ _ _ h => h) (Or.inl ⟨by rfl, ?_⟩) ?_ ?_
       rotate_left
       · intro w'
         go_simp
         with_reducible rfl
       rotate_left
       · simp only [Act.put, List.setIfInBounds_toArray, List.set_cons_zero, List.set_cons_succ, i64_w, i32_w]
         rfl
       refine take_ (i := 11) (N := some 89) (v := ?_) (a' := ?_) #[true, true, true, true, true, true, true, true, true, true, true, true, false, false, false, false, false, false, false, false, false, false, false, false] rfl rfl (by kernel_rfl) (fun _ _ _ h => h) (Or.inl ⟨by rfl, ?_⟩) hHeld ?_ ?_
       rotate_left
       · rintro w' ⟨s0, s1⟩
         go_simp
         with_reducible rfl
       rotate_left
       · simp only [Act.put, List.setIfInBounds_toArray, List.set_cons_zero, List.set_cons_succ, i64_w, i32_w]
         rfl
       refine take_ (i := 12) (N := some 90) (v := ?_) (a' := ?_) #[true, true, true, true, true, true, true, true, true, true, true, true, true, false, false, false, false, false, false, false, false, false, false, false] rfl rfl (by kernel_rfl) (fun _ _ _ h => h) (Or.inl ⟨by rfl, ?_⟩) hHeld ?_ ?_
       rotate_left
       · rintro w' ⟨s0, s1⟩
         go_simp
         with_reducible rfl
       rotate_left
       · simp only [Act.put, List.setIfInBounds_toArray, List.set_cons_zero, List.set_cons_succ, i64_w, i32_w]
         rfl
       refine pure_ (i := 13) (N := some 91) (v := ?_) (a' := ?_) #[true, true, true, true, true, true, true, true, true, true, true, true, true, true, false, false, false, false, false, false, false, false, false, false] rfl rfl (by kernel_rfl) (fun _ _ _ h => h) (Or.inl ⟨by rfl, ?_⟩) ?_ ?_
       rotate_left
       · intro w'
         go_simp
         with_reducible rfl
       rotate_left
       · simp only [Act.put, List.setIfInBounds_toArray, List.set_cons_zero, List.set_cons_succ, i64_w, i32_w]
         rfl
       refine pure_ (i := 14) (N := some 92) (v := ?_) (a' := ?_) #[true, true, true, true, true, true, true, true, true, true, true, true, true, true, true, false, false, false, false, false, false, false, false, false] rfl rfl (by kernel_rfl) (fun _ _ _ h => h) (Or.inl ⟨by rfl, ?_⟩) ?_ ?_
       rotate_left
       · intro w'
         go_simp
         with_reducible rfl
       rotate_left
       · simp only [Act.put, List.setIfInBounds_toArray, List.set_cons_zero, List.set_cons_succ, i64_w, i32_w]
         rfl
       refine pure_ (i := 15) (N := some 93) (v := ?_) (a' := ?_) #[true, true, true, true, true, true, true, true, true, true, true, true, true, true, true, true, false, false, false, false, false, false, false, false] rfl rfl (by kernel_rfl) (fun _ _ _ h => h) (Or.inl ⟨by rfl, ?_⟩) ?_ ?_
       rotate_left
       · intro w'
         go_simp
         with_reducible rfl
       rotate_left
       · simp only [Act.put, List.setIfInBounds_toArray, List.set_cons_zero, List.set_cons_succ, i64_w, i32_w]
         rfl
       refine pure_ (i := 16) (N := some 94) (v := ?_) (a' := ?_) #[true, true, true, true, true, true, true, true, true, true, true, true, true, true, true, true, true, false, false, false, false, false, false, false] rfl rfl (by kernel_rfl) (fun _ _ _ h => h) (Or.inl ⟨by rfl, ?_⟩) ?_ ?_
       rotate_left
       · intro w'
         go_simp
         with_reducible rfl
       rotate_left
       · simp only [Act.put, List.setIfInBounds_toArray, List.set_cons_zero, List.set_cons_succ, i64_w, i32_w]
         rfl
       refine pure_ (i := 17) (N := some 95) (v := ?_) (a' := ?_) #[true, true, true, true, true, true, true, true, true, true, true, true, true, true, true, true, true, true, false, false, false, false, false, false] rfl rfl (by kernel_rfl) (fun _ _ _ h => h) (Or.inl ⟨by rfl, ?_⟩) ?_ ?_
       rotate_left
       · intro w'
         go_simp
         with_reducible rfl
       rotate_left
       · simp only [Act.put, List.setIfInBounds_toArray, List.set_cons_zero, List.set_cons_succ, i64_w, i32_w]
         rfl
       refine pure_ (i := 19) (N := some 97) (v := ?_) (a' := ?_) #[true, true, true, true, true, true, true, true, true, true, true, true, true, true, true, true, true, true, false, true, false, false, false, false] rfl rfl (by kernel_rfl) (fun _ _ _ h => h) (Or.inl ⟨by rfl, ?_⟩) ?_ ?_
       rotate_left
       · intro w'
         go_simp
         with_reducible rfl
       rotate_left
       · simp only [Act.put, List.setIfInBounds_toArray, List.set_cons_zero, List.set_cons_succ, i64_w, i32_w]
         rfl
       refine one_ (i := 18) (N := some 96) #[true, true, true, true, true, true, true, true, true, true, true, true, true, true, true, true, true, true, true, true, false, false, false, false] rfl rfl (by kernel_rfl) (by decide) (fun K hK => ?_)
       obtain ⟨s0, s1⟩ := hHeld
       refine value_ (w1 := ?_) (v := ?_) (by rfl) rfl ?_ ?_
       rotate_left 2
       · go_simp
         rw [Lib.run_convert_string_bytes _ 9 22 5 s Tryd.underlying9 Tryd.underlying22 Tryd.underlying5]
         rfl
       refine hK.out _ _ ⟨pw_cell_below (bytesWorld_below _ _ _) s0, pw_cell_below (bytesWorld_below _ _ _) s1⟩ (fun hHeld => ?_)
       clear hK K
       refine norm_ (a' := ?_) ?_ ?_
       rotate_left
       · show Act.put _ (some 96) _ = _
         simp only [Act.put, List.setIfInBounds_toArray, List.set_cons_zero, List.set_cons_succ, i64_w, i32_w]
         rfl
       refine one_ (i := 20) (N := some 98) #[true, true, true, true, true, true, true, true, true, true, true, true, true, true, true, true, true, true, true, true, true, false, false, false] rfl rfl (by kernel_rfl) (by decide) (fun K hK => ?_)
       refine goes_ Tryd.func23 (by kernel_rfl) rfl #[.slice (some ⟨w5.drew.heap.size, 0, none⟩) s.size (grownCap w5.drew s.size 0 5), .slice (some ⟨gr, 0, none⟩) u.length c5] (by rfl) rfl rfl (by simp only [List.map_toArray, List.map_cons, List.map_nil]; rfl) ?_
       obtain ⟨v7, hv7, ⟨A7, c7, e7, hc7, hr7⟩, hb7⟩ := conv_bytes.calls (e := 5) s b w5.drew HCV.out
       injection hv7 with hv7
       rw [← hv7, HBL.out] at e7
       rw [HBL.out]
       injection e7 with e7a e7b e7c
       subst e7a e7c
       skip
       refine (decode_Literal.calls k (some ⟨w5.drew.heap.size, 0, none⟩) _ b (some ⟨gr, 0, none⟩) c5 u false _ ?q1 ?q2 ?q3 ?q4 HLT.out).mono ?_
       case q1 => exact hr7 _ (fun _ _ _ => rfl)
       case q2 => exact hc7
       case q3 => exact Kd.C_below (Kd.C_below (Kd.R_reads' HO5.out).2.2 (below_drew (Below.refl _ _))) (bytesWorld_below _ _ _)
       case q4 => exact (Kd.R_reads' HO5.out).2.1
       rintro e w6 ⟨rfl, hb⟩
       have b1 := below_drew HB.out
       have b2 := below_then b1 (below_size b1) (bytesWorld_below _ 5 s)
       have n1 := Aside0.mk (below_then b2 (below_size b2) hb)
       clear b1 b2
       obtain ⟨s0, s1⟩ := hHeld
       have s2 := pw_cell_below hb s0
       have s3 := pw_cell_below hb s1
       refine ⟨_, rfl, ?_⟩
       refine hK.out _ _ ⟨s2, s3⟩ (fun hHeld => ?_)
       clear hK K
       refine norm_ (a' := ?_) ?_ ?_
       rotate_left
       · show Act.put _ (some 98) _ = _
         simp only [Act.put, List.setIfInBounds_toArray, List.set_cons_zero, List.set_cons_succ, i64_w, i32_w]
         rfl
       refine pure_ (i := 21) (N := some 99) (v := ?_) (a' := ?_) #[true, true, true, true, true, true, true, true, true, true, true, true, true, true, true, true, true, true, true, true, true, true, false, false] rfl rfl (by kernel_rfl) (fun _ _ _ h => h) (Or.inl ⟨by rfl, ?_⟩) ?_ ?_
       rotate_left
       · intro w'
         go_simp
         with_reducible rfl
       rotate_left
       · simp only [Act.put, List.setIfInBounds_toArray, List.set_cons_zero, List.set_cons_succ, i64_w, i32_w]
         rfl
       refine pure_ (i := 22) (N := some 100) (v := ?_) (a' := ?_) #[true, true, true, true, true, true, true, true, true, true, true, true, true, true, true, true, true, true, true, true, true, true, true, false] rfl rfl (by kernel_rfl) (fun _ _ _ h => h) (Or.inl ⟨by rfl, ?_⟩) ?_ ?_
       rotate_left
       · intro w'
         go_simp
         with_reducible rfl
       rotate_left
       · simp only [Act.put, List.setIfInBounds_toArray, List.set_cons_zero, List.set_cons_succ, i64_w, i32_w]
         rfl
       refine pure_ (i := 23) (N := some 4) (v := ?_) (a' := ?_) #[true, true, true, true, true, true, true, true, true, true, true, true, true, true, true, true, true, true, true, true, true, true, true, true] rfl rfl (by kernel_rfl) (fun _ _ _ h => h) (Or.inl ⟨by rfl, ?_⟩) ?_ ?_
       rotate_left
       · intro w'
         go_simp
         with_reducible rfl
       rotate_left
       · simp only [Act.put, List.setIfInBounds_toArray, List.set_cons_zero, List.set_cons_succ, i64_w, i32_w]
         rfl
       refine done_ (by kernel_rfl) ?_

       go_wp2
       go_ret
       exact ⟨rfl, n1.out⟩
     · go_upto_region 19 with fail
       refine start_ (n := 24) (S := fun w' => w'.cell? ⟨gr, 0, none⟩ = some (.int .i32 (rd_T45 u 0).f0) ∧ w'.cell? ⟨gb, 0, none⟩ = some (.int .u32 n)) (ds := []) #[false, false, false, false, false, false, false, false, false, false, false, false, false, false, false, false, false, false, false, false, false, false, false, false] (by kernel_rfl) rfl rfl ⟨(pw_cell_below (below_drew (Below.refl _ _)) hx5.out), (pw_cell_below (below_drew (Below.refl _ _)) ((blk_cell BK.out 0).trans rfl))⟩ (fun hHeld => ?_)
       refine pure_ (i := 0) (N := some 78) (v := ?_) (a' := ?_) #[true, false, false, false, false, false, false, false, false, false, false, false, false, false, false, false, false, false, false, false, false, false, false, false] rfl rfl (by kernel_rfl) (fun _ _ _ h => h) (Or.inl ⟨by rfl, ?_⟩) ?_ ?_
       rotate_left
       · intro w'
         go_simp
         with_reducible rfl
       rotate_left
       · simp only [Act.put, List.setIfInBounds_toArray, List.set_cons_zero, List.set_cons_succ, i64_w, i32_w]
         rfl
       refine pure_ (i := 1) (N := some 79) (v := ?_) (a' := ?_) #[true, true, false, false, false, false, false, false, false, false, false, false, false, false, false, false, false, false, false, false, false, false, false, false] rfl rfl (by kernel_rfl) (fun _ _ _ h => h) (Or.inl ⟨by rfl, ?_⟩) ?_ ?_
       rotate_left
       · intro w'
         go_simp
         with_reducible rfl
       rotate_left
       · simp only [Act.put, List.setIfInBounds_toArray, List.set_cons_zero, List.set_cons_succ, i64_w, i32_w]
         rfl
       refine pure_ (i := 2) (N := some 80) (v := ?_) (a' := ?_) #[true, true, true, false, false, false, false, false, false, false, false, false, false, false, false, false, false, false, false, false, false, false, false, false] rfl rfl (by kernel_rfl) (fun _ _ _ h => h) (Or.inl ⟨by rfl, ?_⟩) ?_ ?_
       rotate_left
       · intro w'
         go_simp
         with_reducible rfl
       rotate_left
       · simp only [Act.put, List.setIfInBounds_toArray, List.set_cons_zero, List.set_cons_succ, i64_w, i32_w]
         rfl
       refine pure_ (i := 3) (N := some 81) (v := ?_) (a' := ?_) #[true, true, true, true, false, false, false, false, false, false, false, false, false, false, false, false, false, false, false, false, false, false, false, false] rfl rfl (by kernel_rfl) (fun _ _ _ h => h) (Or.inl ⟨by rfl, ?_⟩) ?_ ?_
       rotate_left
       · intro w'
         go_simp
         with_reducible rfl
       rotate_left
       · simp only [Act.put, List.setIfInBounds_toArray, List.set_cons_zero, List.set_cons_succ, i64_w, i32_w]
         rfl
       refine pure_ (i := 4) (N := some 82) (v := ?_) (a' := ?_) #[true, true, true, true, true, false, false, false, false, false, false, false, false, false, false, false, false, false, false, false, false, false, false, false] rfl rfl (by kernel_rfl) (fun _ _ _ h => h) (Or.inl ⟨by rfl, ?_⟩) ?_ ?_
       rotate_left
       · intro w'
         go_simp
         with_reducible rfl
       rotate_left
       · simp only [Act.put, List.setIfInBounds_toArray, List.set_cons_zero, List.set_cons_succ, i64_w, i32_w]
         rfl
       refine pure_ (i := 5) (N := some 83) (v := ?_) (a' := ?_) #[true, true, true, true, true, true, false, false, false, false, false, false, false, false, false, false, false, false, false, false, false, false, false, false] rfl rfl (by kernel_rfl) (fun _ _ _ h => h) (Or.inl ⟨by rfl, ?_⟩) ?_ ?_
       rotate_left
       · intro w'
         go_simp
         with_reducible rfl
       rotate_left
       · simp only [Act.put, List.setIfInBounds_toArray, List.set_cons_zero, List.set_cons_succ, i64_w, i32_w]
         rfl
       refine pure_ (i := 6) (N := some 84) (v := ?_) (a' := ?_) #[true, true, true, true, true, true, true, false, false, false, false, false, false, false, false, false, false, false, false, false, false, false, false, false] rfl rfl (by kernel_rfl) (fun _ _ _ h => h) (Or.inl ⟨by rfl, ?_⟩) ?_ ?_
       rotate_left
       · intro w'
         go_simp
         with_reducible rfl
       rotate_left
       · simp only [Act.put, List.setIfInBounds_toArray, List.set_cons_zero, List.set_cons_succ, i64_w, i32_w]
         rfl
       refine pure_ (i := 7) (N := some 85) (v := ?_) (a' := ?_) #[true, true, true, true, true, true, true, true, false, false, false, false, false, false, false, false, false, false, false, false, false, false, false, false] rfl rfl (by kernel_rfl) (fun _ _ _ h => h) (Or.inl ⟨by rfl, ?_⟩) ?_ ?_
       rotate_left
       · intro w'
         go_simp
         with_reducible rfl
       rotate_left
       · simp only [Act.put, List.setIfInBounds_toArray, List.set_cons_zero, List.set_cons_succ, i64_w, i32_w]
         rfl
       refine pure_ (i := 8) (N := some 86) (v := ?_) (a' := ?_) #[true, true, true, true, true, true, true, true, true, false, false, false, false, false, false, false, false, false, false, false, false, false, false, false] rfl rfl (by kernel_rfl) (fun _ _ _ h => h) (Or.inl ⟨by rfl, ?_⟩) ?_ ?_
       rotate_left
       · intro w'
         go_simp
         with_reducible rfl
       rotate_left
       · simp only [Act.put, List.setIfInBounds_toArray, List.set_cons_zero, List.set_cons_succ, i64_w, i32_w]
         rfl
       refine pure_ (i := 9) (N := some 87) (v := ?_) (a' := ?_) #[true, true, true, true, true, true, true, true, true, true, false, false, false, false, false, false, false, false, false, false, false, false, false, false] rfl rfl (by kernel_rfl) (fun _ _ _ h => h) (Or.inl ⟨by rfl, ?_⟩) ?_ ?_
       rotate_left
       · intro w'
         go_simp
         with_reducible rfl
       rotate_left
       · simp only [Act.put, List.setIfInBounds_toArray, List.set_cons_zero, List.set_cons_succ, i64_w, i32_w]
         rfl
       refine pure_ (i := 10) (N := some 88) (v := ?_) (a' := ?_) #[true, true, true, true, true, true, true, true, true, true, true, false, false, false, false, false, false, false, false, false, false, false, false, false] rfl rfl (by kernel_rfl) (fun _ _ _ h => h) (Or.inl ⟨by rfl, ?_⟩) ?_ ?_
       rotate_left
       · intro w'
         go_simp
         with_reducible rfl
       rotate_left
       · simp only [Act.put, List.setIfInBounds_toArray, List.set_cons_zero, List.set_cons_succ, i64_w, i32_w]
         rfl
       refine take_ (i := 11) (N := some 89) (v := ?_) (a' := ?_) #[true, true, true, true, true, true, true, true, true, true, true, true, false, false, false, false, false, false, false, false, false, false, false, false] rfl rfl (by kernel_rfl) (fun _ _ _ h => h) (Or.inl ⟨by rfl, ?_⟩) hHeld ?_ ?_
       rotate_left
       · rintro w' ⟨s0, s1⟩
         go_simp
         with_reducible rfl
       rotate_left
       · simp only [Act.put, List.setIfInBounds_toArray, List.set_cons_zero, List.set_cons_succ, i64_w, i32_w]
         rfl
       refine take_ (i := 12) (N := some 90) (v := ?_) (a' := ?_) #[true, true, true, true, true, true, true, true, true, true, true, true, true, false, false, false, false, false, false, false, false, false, false, false] rfl rfl (by kernel_rfl) (fun _ _ _ h => h) (Or.inl ⟨by rfl, ?_⟩) hHeld ?_ ?_
       rotate_left
       · rintro w' ⟨s0, s1⟩
         go_simp
         with_reducible rfl
       rotate_left
       · simp only [Act.put, List.setIfInBounds_toArray, List.set_cons_zero, List.set_cons_succ, i64_w, i32_w]
         rfl
       refine pure_ (i := 13) (N := some 91) (v := ?_) (a' := ?_) #[true, true, true, true, true, true, true, true, true, true, true, true, true, true, false, false, false, false, false, false, false, false, false, false] rfl rfl (by kernel_rfl) (fun _ _ _ h => h) (Or.inl ⟨by rfl, ?_⟩) ?_ ?_
       rotate_left
       · intro w'
         go_simp
         with_reducible rfl
       rotate_left
       · simp only [Act.put, List.setIfInBounds_toArray, List.set_cons_zero, List.set_cons_succ, i64_w, i32_w]
         rfl
       refine pure_ (i := 14) (N := some 92) (v := ?_) (a' := ?_) #[true, true, true, true, true, true, true, true, true, true, true, true, true, true, true, false, false, false, false, false, false, false, false, false] rfl rfl (by kernel_rfl) (fun _ _ _ h => h) (Or.inl ⟨by rfl, ?_⟩) ?_ ?_
       rotate_left
       · intro w'
         go_simp
         with_reducible rfl
       rotate_left
       · simp only [Act.put, List.setIfInBounds_toArray, List.set_cons_zero, List.set_cons_succ, i64_w, i32_w]
         rfl
       refine pure_ (i := 15) (N := some 93) (v := ?_) (a' := ?_) #[true, true, true, true, true, true, true, true, true, true, true, true, true, true, true, true, false, false, false, false, false, false, false, false] rfl rfl (by kernel_rfl) (fun _ _ _ h => h) (Or.inl ⟨by rfl, ?_⟩) ?_ ?_
       rotate_left
       · intro w'
         go_simp
         with_reducible rfl
       rotate_left
       · simp only [Act.put, List.setIfInBounds_toArray, List.set_cons_zero, List.set_cons_succ, i64_w, i32_w]
         rfl
       refine pure_ (i := 16) (N := some 94) (v := ?_) (a' := ?_) #[true, true, true, true, true, true, true, true, true, true, true, true, true, true, true, true, true, false, false, false, false, false, false, false] rfl rfl (by kernel_rfl) (fun _ _ _ h => h) (Or.inl ⟨by rfl, ?_⟩) ?_ ?_
       rotate_left
       · intro w'
         go_simp
         with_reducible rfl
       rotate_left
       · simp only [Act.put, List.setIfInBounds_toArray, List.set_cons_zero, List.set_cons_succ, i64_w, i32_w]
         rfl
       refine pure_ (i := 17) (N := some 95) (v := ?_) (a' := ?_) #[true, true, true, true, true, true, true, true, true, true, true, true, true, true, true, true, true, true, false, false, false, false, false, false] rfl rfl (by kernel_rfl) (fun _ _ _ h => h) (Or.inl ⟨by rfl, ?_⟩) ?_ ?_
       rotate_left
       · intro w'
         go_simp
         with_reducible rfl
       rotate_left
       · simp only [Act.put, List.setIfInBounds_toArray, List.set_cons_zero, List.set_cons_succ, i64_w, i32_w]
         rfl
       refine pure_ (i := 19) (N := some 97) (v := ?_) (a' := ?_) #[true, true, true, true, true, true, true, true, true, true, true, true, true, true, true, true, true, true, false, true, false, false, false, false] rfl rfl (by kernel_rfl) (fun _ _ _ h => h) (Or.inl ⟨by rfl, ?_⟩) ?_ ?_
       rotate_left
       · intro w'
         go_simp
         with_reducible rfl
       rotate_left
       · simp only [Act.put, List.setIfInBounds_toArray, List.set_cons_zero, List.set_cons_succ, i64_w, i32_w]
         rfl
       refine one_ (i := 18) (N := some 96) #[true, true, true, true, true, true, true, true, true, true, true, true, true, true, true, true, true, true, true, true, false, false, false, false] rfl rfl (by kernel_rfl) (by decide) (fun K hK => ?_)
       obtain ⟨s0, s1⟩ := hHeld
       refine value_ (w1 := ?_) (v := ?_) (by rfl) rfl ?_ ?_
       rotate_left 2
       · go_simp
         rw [Lib.run_convert_string_bytes _ 9 22 5 s Tryd.underlying9 Tryd.underlying22 Tryd.underlying5]
         rfl
       refine hK.out _ _ ⟨pw_cell_below (bytesWorld_below _ _ _) s0, pw_cell_below (bytesWorld_below _ _ _) s1⟩ (fun hHeld => ?_)
       clear hK K
       refine norm_ (a' := ?_) ?_ ?_
       rotate_left
       · show Act.put _ (some 96) _ = _
         simp only [Act.put, List.setIfInBounds_toArray, List.set_cons_zero, List.set_cons_succ, i64_w, i32_w]
         rfl
       refine one_ (i := 20) (N := some 98) #[true, true, true, true, true, true, true, true, true, true, true, true, true, true, true, true, true, true, true, true, true, false, false, false] rfl rfl (by kernel_rfl) (by decide) (fun K hK => ?_)
       refine goes_ Tryd.func23 (by kernel_rfl) rfl #[.slice (some ⟨w5.drew.heap.size, 0, none⟩) s.size (grownCap w5.drew s.size 0 5), .slice (some ⟨gr, 0, none⟩) u.length c5] (by rfl) rfl rfl (by simp only [List.map_toArray, List.map_cons, List.map_nil]; rfl) ?_
       obtain ⟨v7, hv7, ⟨A7, c7, e7, hc7, hr7⟩, hb7⟩ := conv_bytes.calls (e := 5) s b w5.drew HCV.out
       injection hv7 with hv7
       rw [← hv7, HBL.out] at e7
       rw [HBL.out]
       injection e7 with e7a e7b e7c
       subst e7a e7c
       skip
       refine (decode_Literal.calls k (some ⟨w5.drew.heap.size, 0, none⟩) _ b (some ⟨gr, 0, none⟩) c5 u false _ ?q1 ?q2 ?q3 ?q4 HLT.out).mono ?_
       case q1 => exact hr7 _ (fun _ _ _ => rfl)
       case q2 => exact hc7
       case q3 => exact Kd.C_below (Kd.C_below (Kd.R_reads' HO5.out).2.2 (below_drew (Below.refl _ _))) (bytesWorld_below _ _ _)
       case q4 => exact (Kd.R_reads' HO5.out).2.1
       rintro e w6 ⟨rfl, hb⟩
       have b1 := below_drew HB.out
       have b2 := below_then b1 (below_size b1) (bytesWorld_below _ 5 s)
       have n1 := Aside0.mk (below_then b2 (below_size b2) hb)
       clear b1 b2
       obtain ⟨s0, s1⟩ := hHeld
       have s2 := pw_cell_below hb s0
       have s3 := pw_cell_below hb s1
       refine ⟨_, rfl, ?_⟩
       refine hK.out _ _ ⟨s2, s3⟩ (fun hHeld => ?_)
       clear hK K
       refine norm_ (a' := ?_) ?_ ?_
       rotate_left
       · show Act.put _ (some 98) _ = _
         simp only [Act.put, List.setIfInBounds_toArray, List.set_cons_zero, List.set_cons_succ, i64_w, i32_w]
         rfl
       refine pure_ (i := 21) (N := some 99) (v := ?_) (a' := ?_) #[true, true, true, true, true, true, true, true, true, true, true, true, true, true, true, true, true, true, true, true, true, true, false, false] rfl rfl (by kernel_rfl) (fun _ _ _ h => h) (Or.inl ⟨by rfl, ?_⟩) ?_ ?_
       rotate_left
       · intro w'
         go_simp
         with_reducible rfl
       rotate_left
       · simp only [Act.put, List.setIfInBounds_toArray, List.set_cons_zero, List.set_cons_succ, i64_w, i32_w]
         rfl
       refine pure_ (i := 22) (N := some 100) (v := ?_) (a' := ?_) #[true, true, true, true, true, true, true, true, true, true, true, true, true, true, true, true, true, true, true, true, true, true, true, false] rfl rfl (by kernel_rfl) (fun _ _ _ h => h) (Or.inl ⟨by rfl, ?_⟩) ?_ ?_
       rotate_left
       · intro w'
         go_simp
         with_reducible rfl
       rotate_left
       · simp only [Act.put, List.setIfInBounds_toArray, List.set_cons_zero, List.set_cons_succ, i64_w, i32_w]
         rfl
       refine pure_ (i := 23) (N := some 4) (v := ?_) (a' := ?_) #[true, true, true, true, true, true, true, true, true, true, true, true, true, true, true, true, true, true, true, true, true, true, true, true] rfl rfl (by kernel_rfl) (fun _ _ _ h => h) (Or.inl ⟨by rfl, ?_⟩) ?_ ?_
       rotate_left
       · intro w'
         go_simp
         with_reducible rfl
       rotate_left
       · simp only [Act.put, List.setIfInBounds_toArray, List.set_cons_zero, List.set_cons_succ, i64_w, i32_w]
         rfl
       refine done_ (by kernel_rfl) ?_

       go_wp2
       go_ret
       exact ⟨rfl, n1.out⟩
   · rw [if_neg cr] at h
     by_cases c2 : 1 < u.length
     case neg => rw [if_neg c2] at h; cases h
     rw [if_pos c2] at h
     obtain ⟨t2, ht2, h⟩ := Option.bind_eq_some_iff.mp h
     have d4 : (t2.toList != ([] : List UInt8)) = true := by simpa using h
     have d4b : t2.toList.isEmpty = false := by cases hq : t2.toList <;> simp_all
     have d5 := decide_eq_true (show (1 : Int) < (u.length : Int) by omega)
     have HTX := Aside0.mk ht2
     have d2 : decide (0 < n) = false ∨ decide (0 < n) = true ∧ decide (55296 ≤ n) = true ∧ decide (n < 57344) = true := by
       by_cases z : 0 < n
       · have z2 : 55296 ≤ n ∧ n < 57344 := Classical.not_not.1 (fun y => cr ⟨z, y⟩)
         exact .inr ⟨decide_eq_true z, decide_eq_true z2.1, decide_eq_true z2.2⟩
       · exact .inl (decide_eq_false z)
     clear h ht2 cr c2
     go_enter Tryd.func6, Tryd.ntmps6
     go_upto_region 1 with fail
     rw [← HW0.out, ← HGB.out]
     go_upto_region 4 with (first | (go_at_call 9; refine (redpenlaw15_Awake.calls k true _ HA.out ?sideL).mono ?_; (case sideL => first | exact HL.out | exact HL.out.below HB.out | exact HL.out.below (by repeat (first | (with_reducible first | exact HB.out | apply below_alloc | apply pw_below_drewN | apply below_drew1 | refine below_set ?_ (Aside0.out (by assumption))) | exact HB.out))); rintro e w1 ⟨rfl, hb⟩; have n1 := Aside0.mk (below_then HB.out (below_size HB.out) hb); have n2 := Aside0.mk (blk_below BK.out hb); clear HB BK; have HB := n1; have BK := n2; clear n1 n2 hb; have hx := blk_cell BK.out 0; have hf := blk_frozen BK.out 0; simp at hx))
     have BK := Aside0.mk (blk_put BK.out 0 (.int .u32 n) (cs' := #[.int .u32 n]) rfl)
     have HB := Aside0.mk (show Below w.heap.size w (w1.setCell ⟨gb, 0, none⟩ (.int .u32 n)) from HB.out.setCell GE.out _)
     try rw [HNN.out]
     generalize w1.setCell ⟨gb, 0, none⟩ (.int .u32 n) = w2 at BK HB ⊢
     go_upto_region 15 with (first | (go_at_call 25; refine (redpenlaw15_DecodeBack_1.calls k 16 8 n d _ HD.out ((blk_cell BK.out 0).trans rfl)).mono ?_; rintro e w3 ⟨rfl, hb⟩; have n1 := Aside0.mk (below_then HB.out (below_size HB.out) hb); have n2 := Aside0.mk (blk_below BK.out hb); clear HB BK; have HB := n1; have BK := n2; clear n1 n2 hb))
     rw [← HS.out]
     go_upto_region 16 with (first | ((with_reducible refine gate_dst (N := 44) rfl ?_); refine cv_goes (N := some 44) rfl rfl (s := s) rfl (by first | rfl | (simp; done)) Tryd.underlying9 Tryd.underlying22 Tryd.underlying5 ?_; refine (conv_bytes.calls (e := 5) s b _ HCV.out).mono ?_; rintro e w4 ⟨v4, rfl, hv4, hb⟩; obtain ⟨A4, c4, ev4, hc4, hr4⟩ := hv4; subst ev4; have HR4 := Aside0.mk (hr4 _ (fun _ _ _ => rfl)); have HC4 := Aside0.mk hc4; clear hr4 hc4; have n1 := Aside0.mk (below_then HB.out (below_size HB.out) hb); have n2 := Aside0.mk (blk_below BK.out hb); clear HB BK; have HB := n1; have BK := n2; clear n1 n2 hb; refine ⟨_, rfl, ?_⟩) | (go_at_call 16; refine (decode_Units.calls k 6 A4 c4 b 5 0 (s.size : Int) u 0 _ HR4.out HC4.out HU.out ?sideL).mono ?_; (case sideL => first | exact HL.out | exact HL.out.below HB.out | exact HL.out.below (by repeat (first | (with_reducible first | exact HB.out | apply below_alloc | apply pw_below_drewN | apply below_drew1 | refine below_set ?_ (Aside0.out (by assumption))) | exact HB.out))); rintro e w5 ⟨v5, rfl, ho, hb⟩; obtain ⟨A5, c5, ev5⟩ := Kd.R_slice ho; subst ev5; have HO5 := Aside0.mk ho; clear ho; have n1 := Aside0.mk (below_then HB.out (below_size HB.out) hb); have n2 := Aside0.mk (blk_below BK.out hb); clear HB BK; have HB := n1; have BK := n2; clear n1 n2 hb))
     have hx := blk_cell BK.out 0
     simp at hx
     rcases d2 with d6 | ⟨d6, d7, d8⟩
     · go_wp2_with (first | (go_at_call 21; refine (decode_Text.calls k A5 c5 u t2 _ (Kd.R_reads' HO5.out).2.2 (Kd.R_reads' HO5.out).2.1 HTX.out).mono ?_; rintro e w6 ⟨rfl, hb⟩; have n1 := Aside0.mk (below_then HB.out (below_size HB.out) hb); clear hb))
       go_ret
       exact ⟨rfl, n1.out⟩
     · go_wp2_with (first | (go_at_call 21; refine (decode_Text.calls k A5 c5 u t2 _ (Kd.R_reads' HO5.out).2.2 (Kd.R_reads' HO5.out).2.1 HTX.out).mono ?_; rintro e w6 ⟨rfl, hb⟩; have n1 := Aside0.mk (below_then HB.out (below_size HB.out) hb); clear hb))
       go_ret
       exact ⟨rfl, n1.out⟩
 rw [if_neg q0, if_neg q1, if_neg q2] at h
 have qb0 : (kk == 0) = false := beq_eq_false_iff_ne.mpr q0
 have qb1 : (kk == 1) = false := beq_eq_false_iff_ne.mpr q1
 have qb2 : (kk == 2) = false := beq_eq_false_iff_ne.mpr q2
 clear q0 q1 q2
 generalize hn : Int.tmod a0 1114112 = n at h
 generalize hm : Int.tmod n 65536 = m at h
 have HM := Aside0.mk hm
 have HNN := Aside0.mk hn
 obtain ⟨d, hd, h⟩ := Option.bind_eq_some_iff.mp h
 by_cases hds : d.size < 1000
 case neg => rw [if_neg hds] at h; cases h
 rw [if_pos hds] at h
 obtain ⟨s, hs⟩ : ∃ s : ByteArray, s = ((⟨#[92, 117]⟩ : ByteArray) ++ d) := ⟨_, rfl⟩
 rw [← hs] at h
 have hsz : s.size < 2000 := by rw [hs]; simp only [ByteArray.size_append]; have e1 : (⟨#[92, 117]⟩ : ByteArray).size = 2 := rfl; omega
 unfold redpenlaw15_DecodeBack.T at h
 rw [if_pos (by omega)] at h
 obtain ⟨b, hcv, h⟩ := Option.bind_eq_some_iff.mp h
 obtain ⟨⟨u, u2⟩, hu, h⟩ := Option.bind_eq_some_iff.mp h
 have HD := Aside0.mk hd
 have HCV := Aside0.mk hcv
 have HU := Aside0.mk hu
 have HS := Aside0.mk hs
 have HSZ := Aside0.mk hsz
 have HBL := Aside0.mk (show s.size = b.length by have hq := hcv; unfold conv_bytes.f at hq; rw [if_pos (by omega)] at hq; rw [← Option.some.inj hq, bytesOf_length])
 have k1 : (2 + d.size ≤ 9223372036854775807) = True := eq_true (by omega)
 have k2 : decide (2 + d.size ≤ 9223372036854775807) = true := decide_eq_true (by omega)
 have k3 : (9223372036854775807 < 2 + d.size) = False := eq_false (by omega)
 clear hd hcv hu hs hsz hds
 by_cases c1 : u2 = 0
 case neg => simp only [if_neg c1] at h; cases h
 subst c1
 simp only [if_true] at h
 by_cases cr : 0 < m ∧ ¬ (55296 ≤ m ∧ m < 57344)
 · rw [if_pos cr] at h
   by_cases c2 : u.length = 1
   case neg => rw [if_neg c2] at h; cases h
   rw [if_pos c2] at h
   by_cases c3 : (rd_T45 u 0).f0 = wrap32 m
   case neg => rw [if_neg c3] at h; cases h
   rw [if_pos c3] at h
   obtain ⟨t2, ht2, h⟩ := Option.bind_eq_some_iff.mp h
   obtain rfl : t2 = false := by simpa using h
   have HLT := Aside0.mk ht2
   clear h ht2
   have d1 := decide_eq_true cr.1
   have d2 : decide (55296 ≤ m) = true ∧ decide (m < 57344) = false ∨ decide (55296 ≤ m) = false := by
     by_cases z : 55296 ≤ m
     · exact .inl ⟨decide_eq_true z, decide_eq_false (fun y => cr.2 ⟨z, y⟩)⟩
     · exact .inr (decide_eq_false z)
   have d3 : ((rd_T45 u 0).f0 == wrap32 m) = true := beq_iff_eq.mpr c3
   have d4 : ((u.length : Int) == 1) = true := beq_iff_eq.mpr (by omega)
   have HL1 := Aside0.mk c2
   clear cr c3 c2
   go_enter Tryd.func6, Tryd.ntmps6
   go_upto_region 1 with fail
   rw [← HW0.out, ← HGB.out]
   go_upto_region 4 with (first | (go_at_call 9; refine (redpenlaw15_Awake.calls k true _ HA.out ?sideL).mono ?_; (case sideL => first | exact HL.out | exact HL.out.below HB.out | exact HL.out.below (by repeat (first | (with_reducible first | exact HB.out | apply below_alloc | apply pw_below_drewN | apply below_drew1 | refine below_set ?_ (Aside0.out (by assumption))) | exact HB.out))); rintro e w1 ⟨rfl, hb⟩; have n1 := Aside0.mk (below_then HB.out (below_size HB.out) hb); have n2 := Aside0.mk (blk_below BK.out hb); clear HB BK; have HB := n1; have BK := n2; clear n1 n2 hb; have hx := blk_cell BK.out 0; have hf := blk_frozen BK.out 0; simp at hx))
   have BK := Aside0.mk (blk_put BK.out 0 (.int .u32 n) (cs' := #[.int .u32 n]) rfl)
   have HB := Aside0.mk (show Below w.heap.size w (w1.setCell ⟨gb, 0, none⟩ (.int .u32 n)) from HB.out.setCell GE.out _)
   try rw [HNN.out]
   generalize w1.setCell ⟨gb, 0, none⟩ (.int .u32 n) = w2 at BK HB ⊢
   have hx := blk_cell BK.out 0
   have hf := blk_frozen BK.out 0
   simp at hx
   have hm := HM.out
   go_upto_region 8 with fail
   have BK := Aside0.mk (blk_put BK.out 0 (.int .u32 m) (cs' := #[.int .u32 m]) rfl)
   have HB := Aside0.mk (show Below w.heap.size w (w2.setCell ⟨gb, 0, none⟩ (.int .u32 m)) from HB.out.setCell GE.out _)
   clear hx hf
   try rw [hm]
   clear hm
   generalize w2.setCell ⟨gb, 0, none⟩ (.int .u32 m) = w2 at BK HB ⊢
   go_upto_region 15 with (first | (go_at_call 25; refine (redpenlaw15_DecodeBack_1.calls k 16 4 m d _ HD.out ((blk_cell BK.out 0).trans rfl)).mono ?_; rintro e w3 ⟨rfl, hb⟩; have n1 := Aside0.mk (below_then HB.out (below_size HB.out) hb); have n2 := Aside0.mk (blk_below BK.out hb); clear HB BK; have HB := n1; have BK := n2; clear n1 n2 hb))
   rw [← HS.out]
   go_upto_region 16 with (first | ((with_reducible refine gate_dst (N := 44) rfl ?_); refine cv_goes (N := some 44) rfl rfl (s := s) rfl (by first | rfl | (simp; done)) Tryd.underlying9 Tryd.underlying22 Tryd.underlying5 ?_; refine (conv_bytes.calls (e := 5) s b _ HCV.out).mono ?_; rintro e w4 ⟨v4, rfl, hv4, hb⟩; obtain ⟨A4, c4, ev4, hc4, hr4⟩ := hv4; subst ev4; have HR4 := Aside0.mk (hr4 _ (fun _ _ _ => rfl)); have HC4 := Aside0.mk hc4; clear hr4 hc4; have n1 := Aside0.mk (below_then HB.out (below_size HB.out) hb); have n2 := Aside0.mk (blk_below BK.out hb); clear HB BK; have HB := n1; have BK := n2; clear n1 n2 hb; refine ⟨_, rfl, ?_⟩) | (go_at_call 16; refine (decode_Units.calls k 4 A4 c4 b 5 0 (s.size : Int) u 0 _ HR4.out HC4.out HU.out ?sideL).mono ?_; (case sideL => first | exact HL.out | exact HL.out.below HB.out | exact HL.out.below (by repeat (first | (with_reducible first | exact HB.out | apply below_alloc | apply pw_below_drewN | apply below_drew1 | refine below_set ?_ (Aside0.out (by assumption))) | exact HB.out))); rintro e w5 ⟨v5, rfl, ho, hb⟩; obtain ⟨A5, c5, ev5⟩ := Kd.R_slice ho; subst ev5; have HO5 := Aside0.mk ho; clear ho; have n1 := Aside0.mk (below_then HB.out (below_size HB.out) hb); have n2 := Aside0.mk (blk_below BK.out hb); clear HB BK; have HB := n1; have BK := n2; clear n1 n2 hb))
   have hx := blk_cell BK.out 0
   simp at hx
   obtain ⟨gr, rfl⟩ : ∃ gr, A5 = some ⟨gr, 0, none⟩ := unit_row HO5.out (by have := HL1.out; omega)
   have hx5 := Aside0.mk (unit_cell HO5.out (by have := HL1.out; omega))
   have d8 : (0 < u.length) = True := eq_true (by have := HL1.out; omega)
   have d9 : ((0 : Int) < (u.length : Int)) = True := eq_true (by have := HL1.out; omega)
   rcases d2 with ⟨d5, d6⟩ | d5
   · go_upto_region 19 with fail
     refine start_ (n := 24) (S := fun w' => w'.cell? ⟨gr, 0, none⟩ = some (.int .i32 (rd_T45 u 0).f0) ∧ w'.cell? ⟨gb, 0, none⟩ = some (.int .u32 m)) (ds := []) #[false, false, false, false, false, false, false, false, false, false, false, false, false, false, false, false, false, false, false, false, false, false, false, false] (by kernel_rfl) rfl rfl ⟨(pw_cell_below (below_drew (Below.refl _ _)) hx5.out), (pw_cell_below (below_drew (Below.refl _ _)) ((blk_cell BK.out 0).trans rfl))⟩ (fun hHeld => ?_)
     refine pure_ (i := 0) (N := some 78) (v := ?_) (a' := ?_) #[true, false, false, false, false, false, false, false, false, false, false, false, false, false, false, false, false, false, false, false, false, false, false, false] rfl rfl (by kernel_rfl) (fun _ _ _ h => h) (Or.inl ⟨by rfl, ?_⟩) ?_ ?_
     rotate_left
     · intro w'
       go_simp
       with_reducible rfl
     rotate_left
     · simp only [Act.put, List.setIfInBounds_toArray, List.set_cons_zero, List.set_cons_succ, i64_w, i32_w]
       rfl
     refine pure_ (i := 1) (N := some 79) (v := ?_) (a' := ?_) #[true, true, false, false, false, false, false, false, false, false, false, false, false, false, false, false, false, false, false, false, false, false, false, false] rfl rfl (by kernel_rfl) (fun _ _ _ h => h) (Or.inl ⟨by rfl, ?_⟩) ?_ ?_
     rotate_left
     · intro w'
       go_simp
       with_reducible rfl
     rotate_left
     · simp only [Act.put, List.setIfInBounds_toArray, List.set_cons_zero, List.set_cons_succ, i64_w, i32_w]
       rfl
     refine pure_ (i := 2) (N := some 80) (v := ?_) (a' := ?_) #[true, true, true, false, false, false, false, false, false, false, false, false, false, false, false, false, false, false, false, false, false, false, false, false] rfl rfl (by kernel_rfl) (fun _ _ _ h => h) (Or.inl ⟨by rfl, ?_⟩) ?_ ?_
     rotate_left
     · intro w'
       go_simp
       with_reducible rfl
     rotate_left
     · simp only [Act.put, List.setIfInBounds_toArray, List.set_cons_zero, List.set_cons_succ, i64_w, i32_w]
       rfl
     refine pure_ (i := 3) (N := some 81) (v := ?_) (a' := ?_) #[true, true, true, true, false, false, false, false, false, false, false, false, false, false, false, false, false, false, false, false, false, false, false, false] rfl rfl (by kernel_rfl) (fun _ _ _ h => h) (Or.inl ⟨by rfl, ?_⟩) ?_ ?_
     rotate_left
     · intro w'
       go_simp
       with_reducible rfl
     rotate_left
     · simp only [Act.put, List.setIfInBounds_toArray, List.set_cons_zero, List.set_cons_succ, i64_w, i32_w]
       rfl
     refine pure_ (i := 4) (N := some 82) (v := ?_) (a' := ?_) #[true, true, true, true, true, false, false, false, false, false, false, false, false, false, false, false, false, false, false, false, false, false, false, false] rfl rfl (by kernel_rfl) (fun _ _ _ h => h) (Or.inl ⟨by rfl, ?_⟩) ?_ ?_
     rotate_left
     · intro w'
       go_simp
       with_reducible rfl
     rotate_left
     · simp only [Act.put, List.setIfInBounds_toArray, List.set_cons_zero, List.set_cons_succ, i64_w, i32_w]
       rfl
     refine pure_ (i := 5) (N := some 83) (v := ?_) (a' := ?_) #[true, true, true, true, true, true, false, false, false, false, false, false, false, false, false, false, false, false, false, false, false, false, false, false] rfl rfl (by kernel_rfl) (fun _ _ _ h => h) (Or.inl ⟨by rfl, ?_⟩) ?_ ?_
     rotate_left
     · intro w'
       go_simp
       with_reducible rfl
     rotate_left
     · simp only [Act.put, List.setIfInBounds_toArray, List.set_cons_zero, List.set_cons_succ, i64_w, i32_w]
       rfl
     refine pure_ (i := 6) (N := some 84) (v := ?_) (a' := ?_) #[true, true, true, true, true, true, true, false, false, false, false, false, false, false, false, false, false, false, false, false, false, false, false, false] rfl rfl (by kernel_rfl) (fun _ _ _ h => h) (Or.inl ⟨by rfl, ?_⟩) ?_ ?_
     rotate_left
     · intro w'
       go_simp
       with_reducible rfl
     rotate_left
     · simp only [Act.put, List.setIfInBounds_toArray, List.set_cons_zero, List.set_cons_succ, i64_w, i32_w]
       rfl
     refine pure_ (i := 7) (N := some 85) (v := ?_) (a' := ?_) #[true, true, true, true, true, true, true, true, false, false, false, false, false, false, false, false, false, false, false, false, false, false, false, false] rfl rfl (by kernel_rfl) (fun _ _ _ h => h) (Or.inl ⟨by rfl, ?_⟩) ?_ ?_
     rotate_left
     · intro w'
       go_simp
       with_reducible rfl
     rotate_left
     · simp only [Act.put, List.setIfInBounds_toArray, List.set_cons_zero, List.set_cons_succ, i64_w, i32_w]
       rfl
     refine pure_ (i := 8) (N := some 86) (v := ?_) (a' := ?_) #[true, true, true, true, true, true, true, true, true, false, false, false, false, false, false, false, false, false, false, false, false, false, false, false] rfl rfl (by kernel_rfl) (fun _ _ _ h => h) (Or.inl ⟨by rfl, ?_⟩) ?_ ?_
     rotate_left
     · intro w'
       go_simp
       with_reducible rfl
     rotate_left
     · simp only [Act.put, List.setIfInBounds_toArray, List.set_cons_zero, List.set_cons_succ, i64_w, i32_w]
       rfl
     refine pure_ (i := 9) (N := some 87) (v := ?_) (a' := ?_) #[true, true, true, true, true, true, true, true, true, true, false, false, false, false, false, false, false, false, false, false, false, false, false, false] rfl rfl (by kernel_rfl) (fun _ _ _ h => h) (Or.inl ⟨by rfl, ?_⟩) ?_ ?_
     rotate_left
     · intro w'
       go_simp
       with_reducible rfl
     rotate_left
     · simp only [Act.put, List.setIfInBounds_toArray, List.set_cons_zero, List.set_cons_succ, i64_w, i32_w]
       rfl
     refine pure_ (i := 10) (N := some 88) (v := ?_) (a' := ?_) #[true, true, true, true, true, true, true, true, true, true, true, false, false, false, false, false, false, false, false, false, false, false, false, false] rfl rfl (by kernel_rfl) (fun _ _ _ h => h) (Or.inl ⟨by rfl, ?_⟩) ?_ ?_
     rotate_left
     · intro w'
       go_simp
       with_reducible rfl
     rotate_left
     · simp only [Act.put, List.setIfInBounds_toArray, List.set_cons_zero, List.set_cons_succ, i64_w, i32_w]
       rfl
     refine take_ (i := 11) (N := some 89) (v := ?_) (a' := ?_) #[true, true, true, true, true, true, true, true, true, true, true, true, false, false, false, false, false, false, false, false, false, false, false, false] rfl rfl (by kernel_rfl) (fun _ _ _ h => h) (Or.inl ⟨by rfl, ?_⟩) hHeld ?_ ?_
     rotate_left
     · rintro w' ⟨s0, s1⟩
       go_simp
       with_reducible rfl
     rotate_left
     · simp only [Act.put, List.setIfInBounds_toArray, List.set_cons_zero, List.set_cons_succ, i64_w, i32_w]
       rfl
     refine take_ (i := 12) (N := some 90) (v := ?_) (a' := ?_) #[true, true, true, true, true, true, true, true, true, true, true, true, true, false, false, false, false, false, false, false, false, false, false, false] rfl rfl (by kernel_rfl) (fun _ _ _ h => h) (Or.inl ⟨by rfl, ?_⟩) hHeld ?_ ?_
     rotate_left
     · rintro w' ⟨s0, s1⟩
       go_simp
       with_reducible rfl
     rotate_left
     · simp only [Act.put, List.setIfInBounds_toArray, List.set_cons_zero, List.set_cons_succ, i64_w, i32_w]
       rfl
     refine pure_ (i := 13) (N := some 91) (v := ?_) (a' := ?_) #[true, true, true, true, true, true, true, true, true, true, true, true, true, true, false, false, false, false, false, false, false, false, false, false] rfl rfl (by kernel_rfl) (fun _ _ _ h => h) (Or.inl ⟨by rfl, ?_⟩) ?_ ?_
     rotate_left
     · intro w'
       go_simp
       with_reducible rfl
     rotate_left
     · simp only [Act.put, List.setIfInBounds_toArray, List.set_cons_zero, List.set_cons_succ, i64_w, i32_w]
       rfl
     refine pure_ (i := 14) (N := some 92) (v := ?_) (a' := ?_) #[true, true, true, true, true, true, true, true, true, true, true, true, true, true, true, false, false, false, false, false, false, false, false, false] rfl rfl (by kernel_rfl) (fun _ _ _ h => h) (Or.inl ⟨by rfl, ?_⟩) ?_ ?_
     rotate_left
     · intro w'
       go_simp
       with_reducible rfl
     rotate_left
     · simp only [Act.put, List.setIfInBounds_toArray, List.set_cons_zero, List.set_cons_succ, i64_w, i32_w]
       rfl
     refine pure_ (i := 15) (N := some 93) (v := ?_) (a' := ?_) #[true, true, true, true, true, true, true, true, true, true, true, true, true, true, true, true, false, false, false, false, false, false, false, false] rfl rfl (by kernel_rfl) (fun _ _ _ h => h) (Or.inl ⟨by rfl, ?_⟩) ?_ ?_
     rotate_left
     · intro w'
       go_simp
       with_reducible rfl
     rotate_left
     · simp only [Act.put, List.setIfInBounds_toArray, List.set_cons_zero, List.set_cons_succ, i64_w, i32_w]
       rfl
     refine pure_ (i := 16) (N := some 94) (v := ?_) (a' := ?_) #[true, true, true, true, true, true, true, true, true, true, true, true, true, true, true, true, true, false, false, false, false, false, false, false] rfl rfl (by kernel_rfl) (fun _ _ _ h => h) (Or.inl ⟨by rfl, ?_⟩) ?_ ?_
     rotate_left
     · intro w'
       go_simp
       with_reducible rfl
     rotate_left
     · simp only [Act.put, List.setIfInBounds_toArray, List.set_cons_zero, List.set_cons_succ, i64_w, i32_w]
       rfl
     refine pure_ (i := 17) (N := some 95) (v := ?_) (a' := ?_) #[true, true, true, true, true, true, true, true, true, true, true, true, true, true, true, true, true, true, false, false, false, false, false, false] rfl rfl (by kernel_rfl) (fun _ _ _ h => h) (Or.inl ⟨by rfl, ?_⟩) ?_ ?_
     rotate_left
     · intro w'
       go_simp
       with_reducible rfl
     rotate_left
     · simp only [Act.put, List.setIfInBounds_toArray, List.set_cons_zero, List.set_cons_succ, i64_w, i32_w]
       rfl
     refine pure_ (i := 19) (N := some 97) (v := ?_) (a' := ?_) #[true, true, true, true, true, true, true, true, true, true, true, true, true, true, true, true, true, true, false, true, false, false, false, false] rfl rfl (by kernel_rfl) (fun _ _ _ h => h) (Or.inl ⟨by rfl, ?_⟩) ?_ ?_
     rotate_left
     · intro w'
       go_simp
       with_reducible rfl
     rotate_left
     · simp only [Act.put, List.setIfInBounds_toArray, List.set_cons_zero, List.set_cons_succ, i64_w, i32_w]
       rfl
     refine one_ (i := 18) (N := some 96) #[true, true, true, true, true, true, true, true, true, true, true, true, true, true, true, true, true, true, true, true, false, false, false, false] rfl rfl (by kernel_rfl) (by decide) (fun K hK => ?_)
     obtain ⟨s0, s1⟩ := hHeld
     refine value_ (w1 := ?_) (v := ?_) (by rfl) rfl ?_ ?_
     rotate_left 2
     · go_simp
       rw [Lib.run_convert_string_bytes _ 9 22 5 s Tryd.underlying9 Tryd.underlying22 Tryd.underlying5]
       rfl
     refine hK.out _ _ ⟨pw_cell_below (bytesWorld_below _ _ _) s0, pw_cell_below (bytesWorld_below _ _ _) s1⟩ (fun hHeld => ?_)
     clear hK K
     refine norm_ (a' := ?_) ?_ ?_
     rotate_left
     · show Act.put _ (some 96) _ = _
       simp only [Act.put, List.setIfInBounds_toArray, List.set_cons_zero, List.set_cons_succ, i64_w, i32_w]
       rfl
     refine one_ (i := 20) (N := some 98) #[true, true, true, true, true, true, true, true, true, true, true, true, true, true, true, true, true, true, true, true, true, false, false, false] rfl rfl (by kernel_rfl) (by decide) (fun K hK => ?_)
     refine goes_ Tryd.func23 (by kernel_rfl) rfl #[.slice (some ⟨w5.drew.heap.size, 0, none⟩) s.size (grownCap w5.drew s.size 0 5), .slice (some ⟨gr, 0, none⟩) u.length c5] (by rfl) rfl rfl (by simp only [List.map_toArray, List.map_cons, List.map_nil]; rfl) ?_
     obtain ⟨v7, hv7, ⟨A7, c7, e7, hc7, hr7⟩, hb7⟩ := conv_bytes.calls (e := 5) s b w5.drew HCV.out
     injection hv7 with hv7
     rw [← hv7, HBL.out] at e7
     rw [HBL.out]
     injection e7 with e7a e7b e7c
     subst e7a e7c
     skip
     refine (decode_Literal.calls k (some ⟨w5.drew.heap.size, 0, none⟩) _ b (some ⟨gr, 0, none⟩) c5 u false _ ?q1 ?q2 ?q3 ?q4 HLT.out).mono ?_
     case q1 => exact hr7 _ (fun _ _ _ => rfl)
     case q2 => exact hc7
     case q3 => exact Kd.C_below (Kd.C_below (Kd.R_reads' HO5.out).2.2 (below_drew (Below.refl _ _))) (bytesWorld_below _ _ _)
     case q4 => exact (Kd.R_reads' HO5.out).2.1
     rintro e w6 ⟨rfl, hb⟩
     have b1 := below_drew HB.out
     have b2 := below_then b1 (below_size b1) (bytesWorld_below _ 5 s)
     have n1 := Aside0.mk (below_then b2 (below_size b2) hb)
     clear b1 b2
     obtain ⟨s0, s1⟩ := hHeld
     have s2 := pw_cell_below hb s0
     have s3 := pw_cell_below hb s1
     refine ⟨_, rfl, ?_⟩
     refine hK.out _ _ ⟨s2, s3⟩ (fun hHeld => ?_)
     clear hK K
     refine norm_ (a' := ?_) ?_ ?_
     rotate_left
     · show Act.put _ (some 98) _ = _
       simp only [Act.put, List.setIfInBounds_toArray, List.set_cons_zero, List.set_cons_succ, i64_w, i32_w]
       rfl
     refine pure_ (i := 21) (N := some 99) (v := ?_) (a' := ?_) #[true, true, true, true, true, true, true, true, true, true, true, true, true, true, true, true, true, true, true, true, true, true, false, false] rfl rfl (by kernel_rfl) (fun _ _ _ h => h) (Or.inl ⟨by rfl, ?_⟩) ?_ ?_
     rotate_left
     · intro w'
       go_simp
       with_reducible rfl
     rotate_left
     · simp only [Act.put, List.setIfInBounds_toArray, List.set_cons_zero, List.set_cons_succ, i64_w, i32_w]
       rfl
     refine pure_ (i := 22) (N := some 100) (v := ?_) (a' := ?_) #[true, true, true, true, true, true, true, true, true, true, true, true, true, true, true, true, true, true, true, true, true, true, true, false] rfl rfl (by kernel_rfl) (fun _ _ _ h => h) (Or.inl ⟨by rfl, ?_⟩) ?_ ?_
     rotate_left
     · intro w'
       go_simp
       with_reducible rfl
     rotate_left
     · simp only [Act.put, List.setIfInBounds_toArray, List.set_cons_zero, List.set_cons_succ, i64_w, i32_w]
       rfl
     refine pure_ (i := 23) (N := some 4) (v := ?_) (a' := ?_) #[true, true, true, true, true, true, true, true, true, true, true, true, true, true, true, true, true, true, true, true, true, true, true, true] rfl rfl (by kernel_rfl) (fun _ _ _ h => h) (Or.inl ⟨by rfl, ?_⟩) ?_ ?_
     rotate_left
     · intro w'
       go_simp
       with_reducible rfl
     rotate_left
     · simp only [Act.put, List.setIfInBounds_toArray, List.set_cons_zero, List.set_cons_succ, i64_w, i32_w]
       rfl
     refine done_ (by kernel_rfl) ?_

     go_wp2
     go_ret
     exact ⟨rfl, n1.out⟩
   · go_upto_region 19 with fail
     refine start_ (n := 24) (S := fun w' => w'.cell? ⟨gr, 0, none⟩ = some (.int .i32 (rd_T45 u 0).f0) ∧ w'.cell? ⟨gb, 0, none⟩ = some (.int .u32 m)) (ds := []) #[false, false, false, false, false, false, false, false, false, false, false, false, false, false, false, false, false, false, false, false, false, false, false, false] (by kernel_rfl) rfl rfl ⟨(pw_cell_below (below_drew (Below.refl _ _)) hx5.out), (pw_cell_below (below_drew (Below.refl _ _)) ((blk_cell BK.out 0).trans rfl))⟩ (fun hHeld => ?_)
     refine pure_ (i := 0) (N := some 78) (v := ?_) (a' := ?_) #[true, false, false, false, false, false, false, false, false, false, false, false, false, false, false, false, false, false, false, false, false, false, false, false] rfl rfl (by kernel_rfl) (fun _ _ _ h => h) (Or.inl ⟨by rfl, ?_⟩) ?_ ?_
     rotate_left
     · intro w'
       go_simp
       with_reducible rfl
     rotate_left
     · simp only [Act.put, List.setIfInBounds_toArray, List.set_cons_zero, List.set_cons_succ, i64_w, i32_w]
       rfl
     refine pure_ (i := 1) (N := some 79) (v := ?_) (a' := ?_) #[true, true, false, false, false, false, false, false, false, false, false, false, false, false, false, false, false, false, false, false, false, false, false, false] rfl rfl (by kernel_rfl) (fun _ _ _ h => h) (Or.inl ⟨by rfl, ?_⟩) ?_ ?_
     rotate_left
     · intro w'
       go_simp
       with_reducible rfl
     rotate_left
     · simp only [Act.put, List.setIfInBounds_toArray, List.set_cons_zero, List.set_cons_succ, i64_w, i32_w]
       rfl
     refine pure_ (i := 2) (N := some 80) (v := ?_) (a' := ?_) #[true, true, true, false, false, false, false, false, false, false, false, false, false, false, false, false, false, false, false, false, false, false, false, false] rfl rfl (by kernel_rfl) (fun _ _ _ h => h) (Or.inl ⟨by rfl, ?_⟩) ?_ ?_
     rotate_left
     · intro w'
       go_simp
       with_reducible rfl
     rotate_left
     · simp only [Act.put, List.setIfInBounds_toArray, List.set_cons_zero, List.set_cons_succ, i64_w, i32_w]
       rfl
     refine pure_ (i := 3) (N := some 81) (v := ?_) (a' := ?_) #[true, true, true, true, false, false, false, false, false, false, false, false, false, false, false, false, false, false, false, false, false, false, false, false] rfl rfl (by kernel_rfl) (fun _ _ _ h => h) (Or.inl ⟨by rfl, ?_⟩) ?_ ?_
     rotate_left
     · intro w'
       go_simp
       with_reducible rfl
     rotate_left
     · simp only [Act.put, List.setIfInBounds_toArray, List.set_cons_zero, List.set_cons_succ, i64_w, i32_w]
       rfl
     refine pure_ (i := 4) (N := some 82) (v := ?_) (a' := ?_) #[true, true, true, true, true, false, false, false, false, false, false, false, false, false, false, false, false, false, false, false, false, false, false, false] rfl rfl (by kernel_rfl) (fun _ _ _ h => h) (Or.inl ⟨by rfl, ?_⟩) ?_ ?_
     rotate_left
     · intro w'
       go_simp
       with_reducible rfl
     rotate_left
     · simp only [Act.put, List.setIfInBounds_toArray, List.set_cons_zero, List.set_cons_succ, i64_w, i32_w]
       rfl
     refine pure_ (i := 5) (N := some 83) (v := ?_) (a' := ?_) #[true, true, true, true, true, true, false, false, false, false, false, false, false, false, false, false, false, false, false, false, false, false, false, false] rfl rfl (by kernel_rfl) (fun _ _ _ h => h) (Or.inl ⟨by rfl, ?_⟩) ?_ ?_
     rotate_left
     · intro w'
       go_simp
       with_reducible rfl
     rotate_left
     · simp only [Act.put, List.setIfInBounds_toArray, List.set_cons_zero, List.set_cons_succ, i64_w, i32_w]
       rfl
     refine pure_ (i := 6) (N := some 84) (v := ?_) (a' := ?_) #[true, true, true, true, true, true, true, false, false, false, false, false, false, false, false, false, false, false, false, false, false, false, false, false] rfl rfl (by kernel_rfl) (fun _ _ _ h => h) (Or.inl ⟨by rfl, ?_⟩) ?_ ?_
     rotate_left
     · intro w'
       go_simp
       with_reducible rfl
     rotate_left
     · simp only [Act.put, List.setIfInBounds_toArray, List.set_cons_zero, List.set_cons_succ, i64_w, i32_w]
       rfl
     refine pure_ (i := 7) (N := some 85) (v := ?_) (a' := ?_) #[true, true, true, true, true, true, true, true, false, false, false, false, false, false, false, false, false, false, false, false, false, false, false, false] rfl rfl (by kernel_rfl) (fun _ _ _ h => h) (Or.inl ⟨by rfl, ?_⟩) ?_ ?_
     rotate_left
     · intro w'
       go_simp
       with_reducible rfl
     rotate_left
     · simp only [Act.put, List.setIfInBounds_toArray, List.set_cons_zero, List.set_cons_succ, i64_w, i32_w]
       rfl
     refine pure_ (i := 8) (N := some 86) (v := ?_) (a' := ?_) #[true, true, true, true, true, true, true, true, true, false, false, false, false, false, false, false, false, false, false, false, false, false, false, false] rfl rfl (by kernel_rfl) (fun _ _ _ h => h) (Or.inl ⟨by rfl, ?_⟩) ?_ ?_
     rotate_left
     · intro w'
       go_simp
       with_reducible rfl
     rotate_left
     · simp only [Act.put, List.setIfInBounds_toArray, List.set_cons_zero, List.set_cons_succ, i64_w, i32_w]
       rfl
     refine pure_ (i := 9) (N := some 87) (v := ?_) (a' := ?_) #[true, true, true, true, true, true, true, true, true, true, false, false, false, false, false, false, false, false, false, false, false, false, false, false] rfl rfl (by kernel_rfl) (fun _ _ _ h => h) (Or.inl ⟨by rfl, ?_⟩) ?_ ?_
     rotate_left
     · intro w'
       go_simp
       with_reducible rfl
     rotate_left
     · simp only [Act.put, List.setIfInBounds_toArray, List.set_cons_zero, List.set_cons_succ, i64_w, i32_w]
       rfl
     refine pure_ (i := 10) (N := some 88) (v := ?_) (a' := ?_) #[true, true, true, true, true, true, true, true, true, true, true, false, false, false, false, false, false, false, false, false, false, false, false, false] rfl rfl (by kernel_rfl) (fun _ _ _ h => h) (Or.inl ⟨by rfl, ?_⟩) ?_ ?_
     rotate_left
     · intro w'
       go_simp
       with_reducible rfl
     rotate_left
     · simp only [Act.put, List.setIfInBounds_toArray, List.set_cons_zero, List.set_cons_succ, i64_w, i32_w]
       rfl
     refine take_ (i := 11) (N := some 89) (v := ?_) (a' := ?_) #[true, true, true, true, true, true, true, true, true, true, true, true, false, false, false, false, false, false, false, false, false, false, false, false] rfl rfl (by kernel_rfl) (fun _ _ _ h => h) (Or.inl ⟨by rfl, ?_⟩) hHeld ?_ ?_
     rotate_left
     · rintro w' ⟨s0, s1⟩
       go_simp
       with_reducible rfl
     rotate_left
     · simp only [Act.put, List.setIfInBounds_toArray, List.set_cons_zero, List.set_cons_succ, i64_w, i32_w]
       rfl
     refine take_ (i := 12) (N := some 90) (v := ?_) (a' := ?_) #[true, true, true, true, true, true, true, true, true, true, true, true, true, false, false, false, false, false, false, false, false, false, false, false] rfl rfl (by kernel_rfl) (fun _ _ _ h => h) (Or.inl ⟨by rfl, ?_⟩) hHeld ?_ ?_
     rotate_left
     · rintro w' ⟨s0, s1⟩
       go_simp
       with_reducible rfl
     rotate_left
     · simp only [Act.put, List.setIfInBounds_toArray, List.set_cons_zero, List.set_cons_succ, i64_w, i32_w]
       rfl
     refine pure_ (i := 13) (N := some 91) (v := ?_) (a' := ?_) #[true, true, true, true, true, true, true, true, true, true, true, true, true, true, false, false, false, false, false, false, false, false, false, false] rfl rfl (by kernel_rfl) (fun _ _ _ h => h) (Or.inl ⟨by rfl, ?_⟩) ?_ ?_
     rotate_left
     · intro w'
       go_simp
       with_reducible rfl
     rotate_left
     · simp only [Act.put, List.setIfInBounds_toArray, List.set_cons_zero, List.set_cons_succ, i64_w, i32_w]
       rfl
     refine pure_ (i := 14) (N := some 92) (v := ?_) (a' := ?_) #[true, true, true, true, true, true, true, true, true, true, true, true, true, true, true, false, false, false, false, false, false, false, false, false] rfl rfl (by kernel_rfl) (fun _ _ _ h => h) (Or.inl ⟨by rfl, ?_⟩) ?_ ?_
     rotate_left
     · intro w'
       go_simp
       with_reducible rfl
     rotate_left
     · simp only [Act.put, List.setIfInBounds_toArray, List.set_cons_zero, List.set_cons_succ, i64_w, i32_w]
       rfl
     refine pure_ (i := 15) (N := some 93) (v := ?_) (a' := ?_) #[true, true, true, true, true, true, true, true, true, true, true, true, true, true, true, true, false, false, false, false, false, false, false, false] rfl rfl (by kernel_rfl) (fun _ _ _ h => h) (Or.inl ⟨by rfl, ?_⟩) ?_ ?_
     rotate_left
     · intro w'
       go_simp
       with_reducible rfl
     rotate_left
     · simp only [Act.put, List.setIfInBounds_toArray, List.set_cons_zero, List.set_cons_succ, i64_w, i32_w]
       rfl
     refine pure_ (i := 16) (N := some 94) (v := ?_) (a' := ?_) #[true, true, true, true, true, true, true, true, true, true, true, true, true, true, true, true, true, false, false, false, false, false, false, false] rfl rfl (by kernel_rfl) (fun _ _ _ h => h) (Or.inl ⟨by rfl, ?_⟩) ?_ ?_
     rotate_left
     · intro w'
       go_simp
       with_reducible rfl
     rotate_left
     · simp only [Act.put, List.setIfInBounds_toArray, List.set_cons_zero, List.set_cons_succ, i64_w, i32_w]
       rfl
     refine pure_ (i := 17) (N := some 95) (v := ?_) (a' := ?_) #[true, true, true, true, true, true, true, true, true, true, true, true, true, true, true, true, true, true, false, false, false, false, false, false] rfl rfl (by kernel_rfl) (fun _ _ _ h => h) (Or.inl ⟨by rfl, ?_⟩) ?_ ?_
     rotate_left
     · intro w'
       go_simp
       with_reducible rfl
     rotate_left
     · simp only [Act.put, List.setIfInBounds_toArray, List.set_cons_zero, List.set_cons_succ, i64_w, i32_w]
       rfl
     refine pure_ (i := 19) (N := some 97) (v := ?_) (a' := ?_) #[true, true, true, true, true, true, true, true, true, true, true, true, true, true, true, true, true, true, false, true, false, false, false, false] rfl rfl (by kernel_rfl) (fun _ _ _ h => h) (Or.inl ⟨by rfl, ?_⟩) ?_ ?_
     rotate_left
     · intro w'
       go_simp
       with_reducible rfl
     rotate_left
     · simp only [Act.put, List.setIfInBounds_toArray, List.set_cons_zero, List.set_cons_succ, i64_w, i32_w]
       rfl
     refine one_ (i := 18) (N := some 96) #[true, true, true, true, true, true, true, true, true, true, true, true, true, true, true, true, true, true, true, true, false, false, false, false] rfl rfl (by kernel_rfl) (by decide) (fun K hK => ?_)
     obtain ⟨s0, s1⟩ := hHeld
     refine value_ (w1 := ?_) (v := ?_) (by rfl) rfl ?_ ?_
     rotate_left 2
     · go_simp
       rw [Lib.run_convert_string_bytes _ 9 22 5 s Tryd.underlying9 Tryd.underlying22 Tryd.underlying5]
       rfl
     refine hK.out _ _ ⟨pw_cell_below (bytesWorld_below _ _ _) s0, pw_cell_below (bytesWorld_below _ _ _) s1⟩ (fun hHeld => ?_)
     clear hK K
     refine norm_ (a' := ?_) ?_ ?_
     rotate_left
     · show Act.put _ (some 96) _ = _
       simp only [Act.put, List.setIfInBounds_toArray, List.set_cons_zero, List.set_cons_succ, i64_w, i32_w]
       rfl
     refine one_ (i := 20) (N := some 98) #[true, true, true, true, true, true, true, true, true, true, true, true, true, true, true, true, true, true, true, true, true, false, false, false] rfl rfl (by kernel_rfl) (by decide) (fun K hK => ?_)
     refine goes_ Tryd.func23 (by kernel_rfl) rfl #[.slice (some ⟨w5.drew.heap.size, 0, none⟩) s.size (grownCap w5.drew s.size 0 5), .slice (some ⟨gr, 0, none⟩) u.length c5] (by rfl) rfl rfl (by simp only [List.map_toArray, List.map_cons, List.map_nil]; rfl) ?_
     obtain ⟨v7, hv7, ⟨A7, c7, e7, hc7, hr7⟩, hb7⟩ := conv_bytes.calls (e := 5) s b w5.drew HCV.out
     injection hv7 with hv7
     rw [← hv7, HBL.out] at e7
     rw [HBL.out]
     injection e7 with e7a e7b e7c
     subst e7a e7c
     skip
     refine (decode_Literal.calls k (some ⟨w5.drew.heap.size, 0, none⟩) _ b (some ⟨gr, 0, none⟩) c5 u false _ ?q1 ?q2 ?q3 ?q4 HLT.out).mono ?_
     case q1 => exact hr7 _ (fun _ _ _ => rfl)
     case q2 => exact hc7
     case q3 => exact Kd.C_below (Kd.C_below (Kd.R_reads' HO5.out).2.2 (below_drew (Below.refl _ _))) (bytesWorld_below _ _ _)
     case q4 => exact (Kd.R_reads' HO5.out).2.1
     rintro e w6 ⟨rfl, hb⟩
     have b1 := below_drew HB.out
     have b2 := below_then b1 (below_size b1) (bytesWorld_below _ 5 s)
     have n1 := Aside0.mk (below_then b2 (below_size b2) hb)
     clear b1 b2
     obtain ⟨s0, s1⟩ := hHeld
     have s2 := pw_cell_below hb s0
     have s3 := pw_cell_below hb s1
     refine ⟨_, rfl, ?_⟩
     refine hK.out _ _ ⟨s2, s3⟩ (fun hHeld => ?_)
     clear hK K
     refine norm_ (a' := ?_) ?_ ?_
     rotate_left
     · show Act.put _ (some 98) _ = _
       simp only [Act.put, List.setIfInBounds_toArray, List.set_cons_zero, List.set_cons_succ, i64_w, i32_w]
       rfl
     refine pure_ (i := 21) (N := some 99) (v := ?_) (a' := ?_) #[true, true, true, true, true, true, true, true, true, true, true, true, true, true, true, true, true, true, true, true, true, true, false, false] rfl rfl (by kernel_rfl) (fun _ _ _ h => h) (Or.inl ⟨by rfl, ?_⟩) ?_ ?_
     rotate_left
     · intro w'
       go_simp
       with_reducible rfl
     rotate_left
     · simp only [Act.put, List.setIfInBounds_toArray, List.set_cons_zero, List.set_cons_succ, i64_w, i32_w]
       rfl
     refine pure_ (i := 22) (N := some 100) (v := ?_) (a' := ?_) #[true, true, true, true, true, true, true, true, true, true, true, true, true, true, true, true, true, true, true, true, true, true, true, false] rfl rfl (by kernel_rfl) (fun _ _ _ h => h) (Or.inl ⟨by rfl, ?_⟩) ?_ ?_
     rotate_left
     · intro w'
       go_simp
       with_reducible rfl
     rotate_left
     · simp only [Act.put, List.setIfInBounds_toArray, List.set_cons_zero, List.set_cons_succ, i64_w, i32_w]
       rfl
     refine pure_ (i := 23) (N := some 4) (v := ?_) (a' := ?_) #[true, true, true, true, true, true, true, true, true, true, true, true, true, true, true, true, true, true, true, true, true, true, true, true] rfl rfl (by kernel_rfl) (fun _ _ _ h => h) (Or.inl ⟨by rfl, ?_⟩) ?_ ?_
     rotate_left
     · intro w'
       go_simp
       with_reducible rfl
     rotate_left
     · simp only [Act.put, List.setIfInBounds_toArray, List.set_cons_zero, List.set_cons_succ, i64_w, i32_w]
       rfl
     refine done_ (by kernel_rfl) ?_

     go_wp2
     go_ret
     exact ⟨rfl, n1.out⟩
 · rw [if_neg cr] at h
   by_cases c2 : 1 < u.length
   case neg => rw [if_neg c2] at h; cases h
   rw [if_pos c2] at h
   obtain ⟨t2, ht2, h⟩ := Option.bind_eq_some_iff.mp h
   have d4 : (t2.toList != ([] : List UInt8)) = true := by simpa using h
   have d4b : t2.toList.isEmpty = false := by cases hq : t2.toList <;> simp_all
   have d5 := decide_eq_true (show (1 : Int) < (u.length : Int) by omega)
   have HTX := Aside0.mk ht2
   have d2 : decide (0 < m) = false ∨ decide (0 < m) = true ∧ decide (55296 ≤ m) = true ∧ decide (m < 57344) = true := by
     by_cases z : 0 < m
     · have z2 : 55296 ≤ m ∧ m < 57344 := Classical.not_not.1 (fun y => cr ⟨z, y⟩)
       exact .inr ⟨decide_eq_true z, decide_eq_true z2.1, decide_eq_true z2.2⟩
     · exact .inl (decide_eq_false z)
   clear h ht2 cr c2
   go_enter Tryd.func6, Tryd.ntmps6
   go_upto_region 1 with fail
   rw [← HW0.out, ← HGB.out]
   go_upto_region 4 with (first | (go_at_call 9; refine (redpenlaw15_Awake.calls k true _ HA.out ?sideL).mono ?_; (case sideL => first | exact HL.out | exact HL.out.below HB.out | exact HL.out.below (by repeat (first | (with_reducible first | exact HB.out | apply below_alloc | apply pw_below_drewN | apply below_drew1 | refine below_set ?_ (Aside0.out (by assumption))) | exact HB.out))); rintro e w1 ⟨rfl, hb⟩; have n1 := Aside0.mk (below_then HB.out (below_size HB.out) hb); have n2 := Aside0.mk (blk_below BK.out hb); clear HB BK; have HB := n1; have BK := n2; clear n1 n2 hb; have hx := blk_cell BK.out 0; have hf := blk_frozen BK.out 0; simp at hx))
   have BK := Aside0.mk (blk_put BK.out 0 (.int .u32 n) (cs' := #[.int .u32 n]) rfl)
   have HB := Aside0.mk (show Below w.heap.size w (w1.setCell ⟨gb, 0, none⟩ (.int .u32 n)) from HB.out.setCell GE.out _)
   try rw [HNN.out]
   generalize w1.setCell ⟨gb, 0, none⟩ (.int .u32 n) = w2 at BK HB ⊢
   have hx := blk_cell BK.out 0
   have hf := blk_frozen BK.out 0
   simp at hx
   have hm := HM.out
   go_upto_region 8 with fail
   have BK := Aside0.mk (blk_put BK.out 0 (.int .u32 m) (cs' := #[.int .u32 m]) rfl)
   have HB := Aside0.mk (show Below w.heap.size w (w2.setCell ⟨gb, 0, none⟩ (.int .u32 m)) from HB.out.setCell GE.out _)
   clear hx hf
   try rw [hm]
   clear hm
   generalize w2.setCell ⟨gb, 0, none⟩ (.int .u32 m) = w2 at BK HB ⊢
   go_upto_region 15 with (first | (go_at_call 25; refine (redpenlaw15_DecodeBack_1.calls k 16 4 m d _ HD.out ((blk_cell BK.out 0).trans rfl)).mono ?_; rintro e w3 ⟨rfl, hb⟩; have n1 := Aside0.mk (below_then HB.out (below_size HB.out) hb); have n2 := Aside0.mk (blk_below BK.out hb); clear HB BK; have HB := n1; have BK := n2; clear n1 n2 hb))
   rw [← HS.out]
   go_upto_region 16 with (first | ((with_reducible refine gate_dst (N := 44) rfl ?_); refine cv_goes (N := some 44) rfl rfl (s := s) rfl (by first | rfl | (simp; done)) Tryd.underlying9 Tryd.underlying22 Tryd.underlying5 ?_; refine (conv_bytes.calls (e := 5) s b _ HCV.out).mono ?_; rintro e w4 ⟨v4, rfl, hv4, hb⟩; obtain ⟨A4, c4, ev4, hc4, hr4⟩ := hv4; subst ev4; have HR4 := Aside0.mk (hr4 _ (fun _ _ _ => rfl)); have HC4 := Aside0.mk hc4; clear hr4 hc4; have n1 := Aside0.mk (below_then HB.out (below_size HB.out) hb); have n2 := Aside0.mk (blk_below BK.out hb); clear HB BK; have HB := n1; have BK := n2; clear n1 n2 hb; refine ⟨_, rfl, ?_⟩) | (go_at_call 16; refine (decode_Units.calls k 4 A4 c4 b 5 0 (s.size : Int) u 0 _ HR4.out HC4.out HU.out ?sideL).mono ?_; (case sideL => first | exact HL.out | exact HL.out.below HB.out | exact HL.out.below (by repeat (first | (with_reducible first | exact HB.out | apply below_alloc | apply pw_below_drewN | apply below_drew1 | refine below_set ?_ (Aside0.out (by assumption))) | exact HB.out))); rintro e w5 ⟨v5, rfl, ho, hb⟩; obtain ⟨A5, c5, ev5⟩ := Kd.R_slice ho; subst ev5; have HO5 := Aside0.mk ho; clear ho; have n1 := Aside0.mk (below_then HB.out (below_size HB.out) hb); have n2 := Aside0.mk (blk_below BK.out hb); clear HB BK; have HB := n1; have BK := n2; clear n1 n2 hb))
   have hx := blk_cell BK.out 0
   simp at hx
   rcases d2 with d6 | ⟨d6, d7, d8⟩
   · go_wp2_with (first | (go_at_call 21; refine (decode_Text.calls k A5 c5 u t2 _ (Kd.R_reads' HO5.out).2.2 (Kd.R_reads' HO5.out).2.1 HTX.out).mono ?_; rintro e w6 ⟨rfl, hb⟩; have n1 := Aside0.mk (below_then HB.out (below_size HB.out) hb); clear hb))
     go_ret
     exact ⟨rfl, n1.out⟩
   · go_wp2_with (first | (go_at_call 21; refine (decode_Text.calls k A5 c5 u t2 _ (Kd.R_reads' HO5.out).2.2 (Kd.R_reads' HO5.out).2.1 HTX.out).mono ?_; rintro e w6 ⟨rfl, hb⟩; have n1 := Aside0.mk (below_then HB.out (below_size HB.out) hb); clear hb))
     go_ret
     exact ⟨rfl, n1.out⟩

end Go.Proofs.YtekalnhackjldaaDoor.PDecodeBack
