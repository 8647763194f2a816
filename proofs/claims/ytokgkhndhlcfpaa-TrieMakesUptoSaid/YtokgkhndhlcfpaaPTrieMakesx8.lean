-- Laid by a program of ours (the kit's print with words and contracts of our own beside it).
import Derived.Test.YtokgkhndhlcfpaaPTrieMakesx0
import Derived.Test.YtokgkhndhlcfpaaPTrieMakesx2
import Derived.Test.YtokgkhndhlcfpaaPTrieMakesx3
import Derived.Test.YtokgkhndhlcfpaaPTrieMakesx4
import Derived.Test.YtokgkhndhlcfpaaPTrieMakesx7
namespace Go.Proofs.Ytokgkhndhlcfpaa.PTrieMakes
open Go.RowKit Go.Proofs.Ytokgkhndhlcfpaa.X Go.Proofs.YtokgkhndhlcfpaaW.PrintWords Go.Proofs.YtokgkhndhlcfpaaW.PrintLast Go.Proofs.YtokgkhndhlcfpaaW.PrintMore
attribute [local go_sem] max2_int min2_int max_two min_two max_three min_three max_four min_four   -- for this text's walks alone
set_option linter.unusedVariables false
set_option linter.unusedSimpArgs false

/-! ### trie_Trie_walk: function 49 -/
section
open Go.Proofs.Ytokgkhndhlcfpaa.M
theorem winfo_str : (Try.prog.info? 9).map (fun i => (i.zero, i.size, i.bytes)) = some (some (.string ⟨#[]⟩), 1, 16) := by kernel_rfl
theorem winfo_i32' : (Try.prog.info? 21).isSome = true := by kernel_rfl
theorem winfo_i32 : Try.prog.info? 21 = some ((Try.prog.info? 21).get winfo_i32') := (Option.some_get _).symm
/-- Blocks that hold no texts, but for g, are as they were. -/
def NKs (g : Nat) (w w1 : World) : Prop := w.heap.size ≤ w1.heap.size ∧ ∀ k, k < w.heap.size → k ≠ g → (∀ cs m, w.heap[k]? ≠ some (.cells cs 9 m)) → w1.heap[k]? = w.heap[k]?
theorem NKs.refl (g : Nat) (w : World) : NKs g w w := ⟨Nat.le_refl _, fun _ _ _ _ => rfl⟩
theorem NKs.trans {g : Nat} {w w1 w2 : World} (h : NKs g w w1) (k : NKs g w1 w2) : NKs g w w2 :=
  ⟨Nat.le_trans h.1 k.1, fun i hi hg hn => (k.2 i (Nat.lt_of_lt_of_le hi h.1) hg (fun cs m => by rw [h.2 i hi hg hn]; exact hn cs m)).trans (h.2 i hi hg hn)⟩
theorem NKs.drew1 {g : Nat} {w w1 : World} (h : NKs g w w1) : NKs g w w1.drew := ⟨h.1, fun k hk hg hn => h.2 k hk hg hn⟩
theorem NKs.drew {g : Nat} {w w1 : World} (h : NKs g w w1) (n : Nat) : NKs g w (w1.drewN n) := ⟨h.1, fun k hk hg hn => h.2 k hk hg hn⟩
theorem NKs.set_ {g j : Nat} {v : Value} {w w1 : World} (h : NKs g w w1) : NKs g w (w1.setCell ⟨g, j, none⟩ v) :=
  ⟨by simpa using h.1, fun k hk hg hn => (Below.heap_setCell w1 _ v k hg).trans (h.2 k hk hg hn)⟩
theorem NKs.below {g : Nat} {w w1 w2 : World} (h : NKs g w w1) (hb : Below w1.heap.size w1 w2) : NKs g w w2 := h.trans ⟨hb.size, fun k hk _ _ => hb.block k hk⟩
/-- The row of words that is being made: its box (block g) and itself; what else was there is as it was. -/
structure WkS (g B : Nat) (A : Option Addr) (c : Nat) (out : List ByteArray) (w w0 W : World) : Prop where
  blk : W.heap[g]? = some (.cells #[.slice A out.length c] 29 (0, 0))
  row : Kd.R Kd.string 9 W B (fun _ => True) (.slice A out.length c) out
  below : Below B w0 W
  nk : NKs g w W
section
variable {g B c : Nat} {A : Option Addr} {out : List ByteArray} {w w0 W W1 : World}
theorem WkS.drew1 (h : WkS g B A c out w w0 W) : WkS g B A c out w w0 W.drew := ⟨blk_drew h.blk, Kd.R_drew h.row, below_drew h.below, h.nk.drew1⟩
theorem WkS.below_ (h : WkS g B A c out w w0 W) (hb : Below W.heap.size W W1) (hB : B ≤ w0.heap.size := by exact Nat.le_refl _) : WkS g B A c out w w0 W1 :=
  ⟨blk_below h.blk hb, Kd.R_below h.row hb, below_then h.below (Nat.le_trans hB h.below.size) hb, h.nk.below hb⟩
theorem WkS.again (h : WkS g B A c out w w0 W) : WkS g B A c out W w0 W := ⟨h.blk, h.row, h.below, NKs.refl _ _⟩
theorem WkS.over (h : WkS g B A c out w w0 W) (hb : Below B w0 W1) (hg : W.grownBy W1 none) : WkS g B A c out w w0 W1 :=
  ⟨(hg.block g (Array.getElem?_eq_some_iff.1 h.blk).1 (by simp)).trans h.blk, Kd.R_grown h.row hg (fun _ _ => by simp), hb, h.nk.trans ⟨hg.size, fun k hk _ _ => hg.block k hk (by simp)⟩⟩
/-- Behind the append of a text, ahead of the store into the box. -/
theorem WkS.pushed {A1 : Option Addr} {c1 m1 : Nat} {o1 : List ByteArray} (h : WkS g B A c out w w0 W) (ho : Kd.R Kd.string 9 W1 B (fun _ => True) (.slice A1 m1 c1) o1) (hb : Below B w0 W1) (hg : W.grownBy W1 (Value.slice A out.length c).ownBlock) :
    W1.heap[g]? = some (.cells #[.slice A out.length c] 29 (0, 0)) ∧ Kd.R Kd.string 9 W1 B (fun _ => True) (.slice A1 m1 c1) o1 ∧ Below B w0 W1 ∧ NKs g w W1 := by
  refine ⟨blk_grown h.blk hg (Kd.R_ne h.row h.blk (by decide)), ho, hb, h.nk.trans ⟨hg.size, fun k hk hkg hn => hg.block k hk (fun he => ?_)⟩⟩
  cases A with
  | none => simp [Value.ownBlock] at he
  | some ad =>
    obtain ⟨gr, rfl⟩ : ∃ gr, ad = ⟨gr, 0, none⟩ := by
      obtain ⟨_, inner, hown, _⟩ := h.row
      rcases hown.2 with ⟨hv, _⟩ | ⟨g', cap', cur, hv, _⟩
      · cases hv
      · cases hv
        exact ⟨g', rfl⟩
    simp only [Value.ownBlock, Option.some.injEq] at he
    subst he
    obtain ⟨cur, hcur⟩ := Kd.R_typed h.row k rfl
    exact hn _ _ hcur
end
theorem WkS.stored {g B c1 : Nat} {A A1 : Option Addr} {c : Nat} {out : List ByteArray} {o1 : List ByteArray} {w w0 W1 : World} (hBg : B ≤ g)
    (h : W1.heap[g]? = some (.cells #[.slice A out.length c] 29 (0, 0)) ∧ Kd.R Kd.string 9 W1 B (fun _ => True) (.slice A1 o1.length c1) o1 ∧ Below B w0 W1 ∧ NKs g w W1) :
    WkS g B A1 c1 o1 w w0 (W1.setCell ⟨g, 0, none⟩ (.slice A1 o1.length c1)) :=
  ⟨blk_put h.1 0 _ rfl, Kd.R_set h.2.1 h.1 (by decide) 0 _, h.2.2.1.setCell hBg _, h.2.2.2.set_⟩
/-- What the walk of a node leaves. -/
def WkE (g B : Nat) (out : List ByteArray) (w w0 W : World) : Prop := ∃ A c, WkS g B A c out w w0 W
theorem WkE.since {g B : Nat} {out : List ByteArray} {w w1 w0 W : World} (h : WkE g B out w1 w0 W) (k : NKs g w w1) : WkE g B out w w0 W := by
  obtain ⟨A, c, h⟩ := h
  exact ⟨A, c, h.blk, h.row, h.below, k.trans h.nk⟩
theorem WkE.below1 {g B : Nat} {out : List ByteArray} {w w0 W : World} (h : WkE g B out w w0 W) : Below B w0 W := by
  obtain ⟨A, c, h⟩ := h
  exact h.below
theorem R_none_nil {k : IntKind} {e : Nat} {w : World} {base n c : Nat} {ok : Nat → Prop} {xs : List Int} (h : (Kd.int k).R e w base ok (.slice none n c) xs) : xs = [] := by
  obtain ⟨_, inner, hown, _⟩ := h
  rcases hown.2 with ⟨_, hz⟩ | ⟨g', cap', cur, hv, _⟩
  · exact List.eq_nil_of_length_eq_zero hz
  · cases hv
/-- A row of what is no text, over what only changes those. -/
theorem R_NKs {α : Type} {d : Kd α} {e b g : Nat} {ok : Nat → Prop} {w w1 : World} {v : Value} {xs : List α} {cs : Array Value} (h : d.R e w b ok v xs) (hT : NKs g w w1) (hg : w.heap[g]? = some (.cells cs 29 (0, 0)))
    (he : ∀ q, q ∈ e :: d.E → q ≠ 9 ∧ q ≠ 29) : d.R e w1 b ok v xs := by
  refine Kd.R_mono (Kd.R_step (Kd.R_bound h) (fun k hk hlt => ?_)) (fun k hk => hk.1)
  obtain ⟨_, _, _, q, hq, cells, hc⟩ := hk
  refine hT.2 k hlt ?_ ?_
  · rintro rfl
    rw [hc] at hg
    injection hg with hg
    injection hg with _ hg _
    exact (he q hq).2 hg
  · intro cs' m hh
    rw [hc] at hh
    injection hh with hh
    injection hh with _ hh _
    exact (he q hq).1 hh
set_option maxHeartbeats 8000000 in
set_option maxRecDepth 100000 in
theorem trie_walk_at (k gt gr ct g : Nat) (words : Int) (ns : List Nd) (w0 : World) (hgT : w0.heap[gt]? = some (.cells #[.slice (some ⟨gr, 0, none⟩) ns.length ct, .int .i64 words] 79 (0, 0))) (hC0 : Kd.C kNd w0 (some ⟨gr, 0, none⟩) ns.length ns) (hgB : w0.heap.size ≤ g) :
    ∀ (f : Nat) (at_ : Int) (l : List Int) (Al : Option Addr) (cl : Nat) (out res : List ByteArray) (w w1 : World) {A : Option Addr} {c : Nat}, WkS g w0.heap.size A c out w w0 w1 → (∀ w', NKs g w w' → Kd.C (Kd.int .i32) w' Al l.length l) → (Al = none → l = []) → l.length ≤ cl →
      walkF (fun x => utf_Text.f k x) f ns true at_ l out = some res →
      Calls Try.prog 49 #[.pointer (some ⟨gt, 0, none⟩), .int .i64 at_, .slice Al l.length cl, .pointer (some ⟨g, 0, none⟩)] w1 fun e w' => e = .returned (.tuple #[]) ∧ WkE g w0.heap.size res w w0 w' := by
  intro f
  induction f using Nat.strongRecOn with
  | ind f ih =>
    intro at_ l Al cl out res w w1 A c hs hl hn hcl h
    have IH := Aside0.mk ih
    have HS := Aside0.mk hs
    have HL := Aside0.mk hl
    have HAN := Aside0.mk hn
    have HCL := Aside0.mk hcl
    have HX0 := Aside0.mk (show w0.cell? ⟨gt, 0, none⟩ = some (.slice (some ⟨gr, 0, none⟩) ns.length ct) from (blk_cell hgT 0).trans rfl)
    have HN := Aside0.mk hC0
    clear ih hs hl hn hcl
    cases f with
    | zero => exact absurd h (by simp [walkF])
    | succ f1 =>
      have HF1 := Aside0.mk (show f1 < f1 + 1 by omega)
      simp only [walkF] at h
      by_cases h0 : 0 ≤ at_
      case neg => rw [if_neg h0] at h; cases h
      rw [if_pos h0] at h
      by_cases h1 : at_ < (ns.length : Int)
      case neg => rw [if_neg h1] at h; cases h
      rw [if_pos h1] at h
      have g0 := pw_cell_below HS.out.below HX0.out
      have he1 := nd_cells hC0 at_ h0 h1 1 _ rfl
      have he2 := Aside0.mk (nd_cells hC0 at_ h0 h1 2 _ rfl)
      have g1 := pw_cell_below HS.out.below he1
      clear hC0 hgT he1
      have HGB := Aside0.mk hgB
      clear hgB
      replace h0 := eq_true h0
      replace h1 := eq_true h1
      generalize hfe : f1 + 1 = f at IH HF1
      clear hfe
      by_cases ce : (ndAt ns at_).e = true
      · rw [if_pos ce] at h
        rw [ce] at g1
        obtain ⟨s, hs, h⟩ := Option.bind_eq_some_iff.mp h
        by_cases hol : out.length < 1000000000000
        case neg => rw [if_neg hol] at h; cases h
        rw [if_pos hol] at h
        have HTX := Aside0.mk hs
        have HW := Aside0.mk h
        have HOL := Aside0.mk hol
        clear hs h hol
        go_enter Try.func49, Try.ntmps49
        go_upto_region 1 with fail
        rename_i Q0_ K0_ hK0_
        refine start_ (n := 10) (S := fun w' => w'.cell? ⟨g, 0, none⟩ = some (.slice A out.length c)) (ds := [9]) #[false, false, false, false, false, false, false, false, false, false] (by kernel_rfl) rfl rfl ((blk_cell (blk_drew HS.out.blk) 0).trans rfl) (fun hHeld => ?_)
        refine pure_ (i := 0) (N := some 17) (v := ?_) (a' := ?_) #[true, false, false, false, false, false, false, false, false, false] rfl rfl (by kernel_rfl) (fun _ _ _ h => h) (Or.inl ⟨by rfl, ?_⟩) ?_ ?_
        rotate_left
        · intro w'
          go_simp
          with_reducible rfl
        rotate_left
        · simp only [Act.put, List.setIfInBounds_toArray, List.set_cons_zero, List.set_cons_succ, i64_w, i32_w]
          rfl
        refine pure_ (i := 1) (N := some 18) (v := ?_) (a' := ?_) #[true, true, false, false, false, false, false, false, false, false] rfl rfl (by kernel_rfl) (fun _ _ _ h => h) (Or.inl ⟨by rfl, ?_⟩) ?_ ?_
        rotate_left
        · intro w'
          go_simp
          with_reducible rfl
        rotate_left
        · simp only [Act.put, List.setIfInBounds_toArray, List.set_cons_zero, List.set_cons_succ, i64_w, i32_w]
          rfl
        refine pure_ (i := 2) (N := some 19) (v := ?_) (a' := ?_) #[true, true, true, false, false, false, false, false, false, false] rfl rfl (by kernel_rfl) (fun _ _ _ h => h) (Or.inl ⟨by rfl, ?_⟩) ?_ ?_
        rotate_left
        · intro w'
          go_simp
          with_reducible rfl
        rotate_left
        · simp only [Act.put, List.setIfInBounds_toArray, List.set_cons_zero, List.set_cons_succ, i64_w, i32_w]
          rfl
        refine pure_ (i := 4) (N := some 21) (v := ?_) (a' := ?_) #[true, true, true, false, true, false, false, false, false, false] rfl rfl (by kernel_rfl) (fun _ _ _ h => h) (Or.inl ⟨by rfl, ?_⟩) ?_ ?_
        rotate_left
        · intro w'
          go_simp
          with_reducible rfl
        rotate_left
        · simp only [Act.put, List.setIfInBounds_toArray, List.set_cons_zero, List.set_cons_succ, i64_w, i32_w]
          rfl
        refine take_ (i := 3) (N := some 20) (v := ?_) (a' := ?_) #[true, true, true, true, true, false, false, false, false, false] rfl rfl (by kernel_rfl) (fun _ _ _ h => h) (Or.inl ⟨by rfl, ?_⟩) hHeld ?_ ?_
        rotate_left
        · intro w' s0
          go_simp
          with_reducible rfl
        rotate_left
        · simp only [Act.put, List.setIfInBounds_toArray, List.set_cons_zero, List.set_cons_succ, i64_w, i32_w]
          rfl
        refine one_ (i := 5) (N := some 22) #[true, true, true, true, true, true, false, false, false, false] rfl rfl (by kernel_rfl) (by decide) (fun K hK => ?_)
        refine goes_ Try.func30 (by kernel_rfl) rfl #[.slice Al l.length cl] (by rfl) rfl rfl (by simp only [List.map_toArray, List.map_cons, List.map_nil]; rfl) ?_
        with_reducible refine (utf_Text.calls k _ _ l s _ ?side1 ?side2 HTX.out).mono ?_
        case side1 => exact HL.out _ (HS.out.nk.drew1)
        case side2 => exact HCL.out
        rintro e w3 ⟨rfl, hb⟩
        have HS2 := Aside0.mk (HS.out.drew1.below_ hb)
        clear hb HS
        refine ⟨_, rfl, ?_⟩
        refine hK.out _ _ ((blk_cell HS2.out.blk 0).trans rfl) (fun hHeld => ?_)
        clear hK K
        refine norm_ (a' := ?_) ?_ ?_
        rotate_left
        · show Act.put _ (some 22) _ = _
          simp only [Act.put, List.setIfInBounds_toArray, List.set_cons_zero, List.set_cons_succ, i64_w, i32_w]
          rfl
        refine one_ (i := 6) (N := some 23) #[true, true, true, true, true, true, true, false, false, false] rfl rfl (by kernel_rfl) (by decide) (fun K hK => ?_)
        refine value_ (w1 := ?_) (v := ?_) (by rfl) rfl ?_ ?_
        rotate_left 2
        · go_simp
          constructor
          · rfl
          · rfl
        refine hK.out _ _ ((blk_cell (blk_alloc HS2.out.blk _) 0).trans rfl) (fun hHeld => ?_)
        clear hK K
        refine norm_ (a' := ?_) ?_ ?_
        rotate_left
        · show Act.put _ (some 23) _ = _
          simp only [Act.put, List.setIfInBounds_toArray, List.set_cons_zero, List.set_cons_succ, i64_w, i32_w]
          rfl
        refine one_ (i := 7) (N := some 24) #[true, true, true, true, true, true, true, true, false, false] rfl rfl (by kernel_rfl) (by decide) (fun K hK => ?_)
        refine Kd.R_append_step Kd.string (w0 := w0) w0.heap.size (by rfl) (.tmp 20) (.tmp 23) 29 9 (.string ⟨#[]⟩) 16 rfl Try.underlying29 winfo_str rfl (by decide) (by omega) (.slice A out.length c) out s [.string s] (fun _ => True) (fun _ => False) rfl rfl rfl (fun _ hk => hk.elim) (fun _ _ => trivial) HS2.out.row HS2.out.below (below_size HS2.out.below) (by have := HOL.out; omega) ?_
        intro v1 w4 ho hb hgw hat
        obtain ⟨o1, ho1⟩ : ∃ o1, o1 = out ++ [s] := ⟨_, rfl⟩
        rw [← ho1] at ho HW
        clear ho1
        obtain ⟨A1, c1, e1⟩ := Kd.R_slice ho
        subst e1
        have HP := Aside0.mk (HS2.out.pushed ho hb hgw)
        have hx4 : w4.cell? ⟨g, 0, none⟩ = some (.slice A out.length c) := (blk_cell HP.out.1 0).trans rfl
        have hf4 := blk_frozen HP.out.1 0
        clear ho hb hgw hat HS2
        refine hK.out _ _ ((blk_cell HP.out.1 0).trans rfl) (fun hHeld => ?_)
        clear hK K
        refine norm_ (a' := ?_) ?_ ?_
        rotate_left
        · show Act.put _ (some 24) _ = _
          simp only [Act.put, List.setIfInBounds_toArray, List.set_cons_zero, List.set_cons_succ, i64_w, i32_w]
          rfl
        refine pure_ (i := 8) (N := some 25) (v := ?_) (a' := ?_) #[true, true, true, true, true, true, true, true, true, false] rfl rfl (by kernel_rfl) (fun _ _ _ h => h) (Or.inl ⟨by rfl, ?_⟩) ?_ ?_
        rotate_left
        · intro w'
          go_simp
          with_reducible rfl
        rotate_left
        · simp only [Act.put, List.setIfInBounds_toArray, List.set_cons_zero, List.set_cons_succ, i64_w, i32_w]
          rfl
        refine last_ (i := 9) (N := none) #[true, true, true, true, true, true, true, true, true, true] rfl rfl (by kernel_rfl) (by decide) (fun K hK => ?_)
        refine skip_ (w1 := ?_) (by rfl) rfl ?_ ?_
        rotate_left
        · go_simp
          rfl
        refine hK.out _ _ ?_
        clear hK K
        refine done_ (by kernel_rfl) ?_

        refine hK0_ _ _ ?_
        clear hK0_
        have HSZ := Aside0.mk (WkS.stored HGB.out HP.out)
        clear HP hx4 hf4
        generalize w4.setCell ⟨g, 0, none⟩ (.slice A1 o1.length c1) = w6 at HSZ ⊢
        have g0 := pw_cell_below HSZ.out.below HX0.out
        have g2 := pw_cell_below HSZ.out.below he2.out
        go_wp2
        go_loopg [8] f1 (fun kq v8 w' => ∃ (k8 : Int) (o8 : List ByteArray), v8 = .int .i64 k8 ∧ Aside0 (kq ≤ f1) ∧ Aside0 (walkF (fun x => utf_Text.f k x) kq ns false k8 l o8 = some res) ∧ Aside0 (∃ A c, WkS g w0.heap.size A c o8 w w0 w'))
        case atStart => exact ⟨_, o1, rfl, ⟨Nat.le_refl _⟩, HW, ⟨_, _, HSZ.out⟩⟩
        case round =>
          clear HW HSZ
          obtain ⟨k8, o8, rfl, HQ, HW, HSE⟩ := hrel
          cases gk with
          | zero => exact absurd HW.out (by simp [walkF])
          | succ f2 =>
            have H := HW.out
            clear HW
            simp only [walkF] at H
            obtain ⟨Aq, cq, hsq⟩ := HSE.out
            have HSq := Aside0.mk hsq
            clear hsq HSE
            by_cases c1 : 0 < k8
            · rw [if_pos c1] at H
              by_cases c2 : k8 < (ns.length : Int)
              · rw [if_pos c2] at H
                by_cases c3 : l.length < 1000000000000
                · rw [if_pos c3] at H
                  obtain ⟨o9, hi, hw⟩ := Option.bind_eq_some_iff.mp H
                  have HI := Aside0.mk hi
                  have HW := Aside0.mk hw
                  have HLL := Aside0.mk c3
                  have HF := Aside0.mk (show f2 < f by have := HQ.out; have := HF1.out; omega)
                  have p1 : 0 ≤ k8 := by omega
                  have hk0 := Aside0.mk (show w0.cell? ⟨gr, k8.toNat * 4, none⟩ = some (.int .i32 (ndAt ns k8).r) from nd_cells HN.out k8 p1 c2 0 _ rfl)
                  have hk3 := Aside0.mk (nd_cells HN.out k8 p1 c2 3 _ rfl)
                  clear H hi hw c3
                  have dd := decide_eq_true c1
                  replace c1 := eq_true c1
                  replace c2 := eq_true c2
                  replace p1 := eq_true p1
                  have hsl := cut_full 63 21 Try.underlying63 winfo_i32 Al l.length cl HCL.out
                  go_upto_region 5 with fail
                  refine start_ (n := 20) (S := fun w' => w'.cell? ⟨gt, 0, none⟩ = some (.slice (some ⟨gr, 0, none⟩) ns.length ct) ∧ w'.cell? ⟨gr, k8.toNat * 4, none⟩ = some (.int .i32 (ndAt ns k8).r)) (ds := []) #[false, false, false, false, false, false, false, false, false, false, false, false, false, false, false, false, false, false, false, false] (by kernel_rfl) rfl rfl ⟨pw_cell_below (HSq.out.drew1).below HX0.out, pw_cell_below (HSq.out.drew1).below hk0.out⟩ (fun hHeld => ?_)
                  refine pure_ (i := 0) (N := some 44) (v := ?_) (a' := ?_) #[true, false, false, false, false, false, false, false, false, false, false, false, false, false, false, false, false, false, false, false] rfl rfl (by kernel_rfl) (fun _ _ _ h => h) (Or.inl ⟨by rfl, ?_⟩) ?_ ?_
                  rotate_left
                  · intro w'
                    go_simp
                    with_reducible rfl
                  rotate_left
                  · simp only [Act.put, List.setIfInBounds_toArray, List.set_cons_zero, List.set_cons_succ, i64_w, i32_w]
                    rfl
                  refine pure_ (i := 1) (N := some 45) (v := ?_) (a' := ?_) #[true, true, false, false, false, false, false, false, false, false, false, false, false, false, false, false, false, false, false, false] rfl rfl (by kernel_rfl) (fun _ _ _ h => h) (Or.inl ⟨by rfl, ?_⟩) ?_ ?_
                  rotate_left
                  · intro w'
                    go_simp
                    with_reducible rfl
                  rotate_left
                  · simp only [Act.put, List.setIfInBounds_toArray, List.set_cons_zero, List.set_cons_succ, i64_w, i32_w]
                    rfl
                  refine pure_ (i := 2) (N := some 46) (v := ?_) (a' := ?_) #[true, true, true, false, false, false, false, false, false, false, false, false, false, false, false, false, false, false, false, false] rfl rfl (by kernel_rfl) (fun _ _ _ h => h) (Or.inl ⟨by rfl, ?_⟩) ?_ ?_
                  rotate_left
                  · intro w'
                    go_simp
                    with_reducible rfl
                  rotate_left
                  · simp only [Act.put, List.setIfInBounds_toArray, List.set_cons_zero, List.set_cons_succ, i64_w, i32_w]
                    rfl
                  refine pure_ (i := 3) (N := some 47) (v := ?_) (a' := ?_) #[true, true, true, true, false, false, false, false, false, false, false, false, false, false, false, false, false, false, false, false] rfl rfl (by kernel_rfl) (fun _ _ _ h => h) (Or.inl ⟨by rfl, ?_⟩) ?_ ?_
                  rotate_left
                  · intro w'
                    go_simp
                    with_reducible rfl
                  rotate_left
                  · simp only [Act.put, List.setIfInBounds_toArray, List.set_cons_zero, List.set_cons_succ, i64_w, i32_w]
                    rfl
                  refine pure_ (i := 4) (N := some 48) (v := ?_) (a' := ?_) #[true, true, true, true, true, false, false, false, false, false, false, false, false, false, false, false, false, false, false, false] rfl rfl (by kernel_rfl) (fun _ _ _ h => h) (Or.inl ⟨by rfl, ?_⟩) ?_ ?_
                  rotate_left
                  · intro w'
                    go_simp
                    with_reducible rfl
                  rotate_left
                  · simp only [Act.put, List.setIfInBounds_toArray, List.set_cons_zero, List.set_cons_succ, i64_w, i32_w]
                    rfl
                  refine pure_ (i := 5) (N := some 49) (v := ?_) (a' := ?_) #[true, true, true, true, true, true, false, false, false, false, false, false, false, false, false, false, false, false, false, false] rfl rfl (by kernel_rfl) (fun _ _ _ h => h) (Or.inl ⟨by rfl, ?_⟩) ?_ ?_
                  rotate_left
                  · intro w'
                    go_simp
                    with_reducible rfl
                  rotate_left
                  · simp only [Act.put, List.setIfInBounds_toArray, List.set_cons_zero, List.set_cons_succ, i64_w, i32_w]
                    rfl
                  refine pure_ (i := 6) (N := some 50) (v := ?_) (a' := ?_) #[true, true, true, true, true, true, true, false, false, false, false, false, false, false, false, false, false, false, false, false] rfl rfl (by kernel_rfl) (fun _ _ _ h => h) (Or.inl ⟨by rfl, ?_⟩) ?_ ?_
                  rotate_left
                  · intro w'
                    go_simp
                    with_reducible rfl
                  rotate_left
                  · simp only [Act.put, List.setIfInBounds_toArray, List.set_cons_zero, List.set_cons_succ, i64_w, i32_w]
                    rfl
                  refine pure_ (i := 7) (N := some 51) (v := ?_) (a' := ?_) #[true, true, true, true, true, true, true, true, false, false, false, false, false, false, false, false, false, false, false, false] rfl rfl (by kernel_rfl) (fun _ _ _ h => h) (Or.inl ⟨by rfl, ?_⟩) ?_ ?_
                  rotate_left
                  · intro w'
                    go_simp
                    with_reducible rfl
                  rotate_left
                  · simp only [Act.put, List.setIfInBounds_toArray, List.set_cons_zero, List.set_cons_succ, i64_w, i32_w]
                    rfl
                  refine pure_ (i := 8) (N := some 52) (v := ?_) (a' := ?_) #[true, true, true, true, true, true, true, true, true, false, false, false, false, false, false, false, false, false, false, false] rfl rfl (by kernel_rfl) (fun _ _ _ h => h) (Or.inl ⟨by rfl, ?_⟩) ?_ ?_
                  rotate_left
                  · intro w'
                    go_simp
                    with_reducible rfl
                  rotate_left
                  · simp only [Act.put, List.setIfInBounds_toArray, List.set_cons_zero, List.set_cons_succ, i64_w, i32_w]
                    rfl
                  refine pure_ (i := 9) (N := some 53) (v := ?_) (a' := ?_) #[true, true, true, true, true, true, true, true, true, true, false, false, false, false, false, false, false, false, false, false] rfl rfl (by kernel_rfl) (fun _ _ _ h => h) (Or.inl ⟨by rfl, ?_⟩) ?_ ?_
                  rotate_left
                  · intro w'
                    go_simp
                    with_reducible rfl
                  rotate_left
                  · simp only [Act.put, List.setIfInBounds_toArray, List.set_cons_zero, List.set_cons_succ, i64_w, i32_w]
                    rfl
                  refine pure_ (i := 10) (N := some 54) (v := ?_) (a' := ?_) #[true, true, true, true, true, true, true, true, true, true, true, false, false, false, false, false, false, false, false, false] rfl rfl (by kernel_rfl) (fun _ _ _ h => h) (Or.inl ⟨by rfl, ?_⟩) ?_ ?_
                  rotate_left
                  · intro w'
                    go_simp
                    with_reducible rfl
                  rotate_left
                  · simp only [Act.put, List.setIfInBounds_toArray, List.set_cons_zero, List.set_cons_succ, i64_w, i32_w]
                    rfl
                  refine pure_ (i := 12) (N := some 56) (v := ?_) (a' := ?_) #[true, true, true, true, true, true, true, true, true, true, true, false, true, false, false, false, false, false, false, false] rfl rfl (by kernel_rfl) (fun _ _ _ h => h) (Or.inl ⟨by rfl, ?_⟩) ?_ ?_
                  rotate_left
                  · intro w'
                    go_simp
                    with_reducible rfl
                  rotate_left
                  · simp only [Act.put, List.setIfInBounds_toArray, List.set_cons_zero, List.set_cons_succ, i64_w, i32_w]
                    rfl
                  refine pure_ (i := 18) (N := some 62) (v := ?_) (a' := ?_) #[true, true, true, true, true, true, true, true, true, true, true, false, true, false, false, false, false, false, true, false] rfl rfl (by kernel_rfl) (fun _ _ _ h => h) (Or.inl ⟨by rfl, ?_⟩) ?_ ?_
                  rotate_left
                  · intro w'
                    go_simp
                    with_reducible rfl
                  rotate_left
                  · simp only [Act.put, List.setIfInBounds_toArray, List.set_cons_zero, List.set_cons_succ, i64_w, i32_w]
                    rfl
                  refine take_ (i := 11) (N := some 55) (v := ?_) (a' := ?_) #[true, true, true, true, true, true, true, true, true, true, true, true, true, false, false, false, false, false, true, false] rfl rfl (by kernel_rfl) (fun _ _ _ h => h) (Or.inl ⟨by rfl, ?_⟩) hHeld ?_ ?_
                  rotate_left
                  · rintro w' ⟨s0, s1⟩
                    go_simp
                    with_reducible rfl
                  rotate_left
                  · simp only [Act.put, List.setIfInBounds_toArray, List.set_cons_zero, List.set_cons_succ, i64_w, i32_w]
                    rfl
                  refine pure_ (i := 13) (N := some 57) (v := ?_) (a' := ?_) #[true, true, true, true, true, true, true, true, true, true, true, true, true, true, false, false, false, false, true, false] rfl rfl (by kernel_rfl) (fun _ _ _ h => h) (Or.inl ⟨by rfl, ?_⟩) ?_ ?_
                  rotate_left
                  · intro w'
                    go_simp
                    with_reducible rfl
                  rotate_left
                  · simp only [Act.put, List.setIfInBounds_toArray, List.set_cons_zero, List.set_cons_succ, i64_w, i32_w]
                    rfl
                  refine pure_ (i := 14) (N := some 58) (v := ?_) (a' := ?_) #[true, true, true, true, true, true, true, true, true, true, true, true, true, true, true, false, false, false, true, false] rfl rfl (by kernel_rfl) (fun _ _ _ h => h) (Or.inl ⟨by rfl, ?_⟩) ?_ ?_
                  rotate_left
                  · intro w'
                    go_simp
                    with_reducible rfl
                  rotate_left
                  · simp only [Act.put, List.setIfInBounds_toArray, List.set_cons_zero, List.set_cons_succ, i64_w, i32_w]
                    rfl
                  refine take_ (i := 15) (N := some 59) (v := ?_) (a' := ?_) #[true, true, true, true, true, true, true, true, true, true, true, true, true, true, true, true, false, false, true, false] rfl rfl (by kernel_rfl) (fun _ _ _ h => h) (Or.inl ⟨by rfl, ?_⟩) hHeld ?_ ?_
                  rotate_left
                  · rintro w' ⟨s0, s1⟩
                    go_simp
                    with_reducible rfl
                  rotate_left
                  · simp only [Act.put, List.setIfInBounds_toArray, List.set_cons_zero, List.set_cons_succ, i64_w, i32_w]
                    rfl
                  refine one_ (i := 16) (N := some 60) #[true, true, true, true, true, true, true, true, true, true, true, true, true, true, true, true, true, false, true, false] rfl rfl (by kernel_rfl) (by decide) (fun K hK => ?_)
                  refine value_ (w1 := ?_) (v := ?_) (by rfl) rfl ?_ ?_
                  rotate_left 2
                  · go_simp
                    constructor
                    · rfl
                    · rfl
                  refine hK.out _ _ ⟨pw_cell_below (below_alloc (HSq.out.drew1).below _) HX0.out, pw_cell_below (below_alloc (HSq.out.drew1).below _) hk0.out⟩ (fun hHeld => ?_)
                  clear hK K
                  refine norm_ (a' := ?_) ?_ ?_
                  rotate_left
                  · show Act.put _ (some 60) _ = _
                    simp only [Act.put, List.setIfInBounds_toArray, List.set_cons_zero, List.set_cons_succ, i64_w, i32_w]
                    rfl
                  refine one_ (i := 17) (N := some 61) #[true, true, true, true, true, true, true, true, true, true, true, true, true, true, true, true, true, true, true, false] rfl rfl (by kernel_rfl) (by decide) (fun K hK => ?_)
                  refine full_append_step (w0 := w0) w0.heap.size (by rfl) (.tmp 51) (.tmp 60) 63 21 .i32 4 rfl Try.underlying63 hinfo_i32 (by omega) Al l (ndAt ns k8).r rfl rfl (HL.out _ HSq.out.nk.drew1) HAN.out (HSq.out.drew1).below (below_size (HSq.out.drew1).below) (by have := HLL.out; omega) ?_
                  intro v1 w4 ho hb hgw
                  obtain ⟨A1, c1, e1⟩ := Kd.R_slice ho
                  subst e1
                  have HS4 := Aside0.mk (HSq.out.drew1.over hb hgw)
                  have HO4 := Aside0.mk ho
                  have hrs := Kd.R_reads' ho
                  have HC4 := Aside0.mk hrs.2.1
                  clear ho hb hgw hrs HSq
                  refine hK.out _ _ ⟨pw_cell_below HS4.out.below HX0.out, pw_cell_below HS4.out.below hk0.out⟩ (fun hHeld => ?_)
                  clear hK K
                  refine norm_ (a' := ?_) ?_ ?_
                  rotate_left
                  · show Act.put _ (some 61) _ = _
                    simp only [Act.put, List.setIfInBounds_toArray, List.set_cons_zero, List.set_cons_succ, i64_w, i32_w]
                    rfl
                  refine one_ (i := 19) (N := some 63) #[true, true, true, true, true, true, true, true, true, true, true, true, true, true, true, true, true, true, true, true] rfl rfl (by kernel_rfl) (by decide) (fun K hK => ?_)
                  refine goes_ Try.func49 (by kernel_rfl) rfl #[.pointer (some ⟨gt, 0, none⟩), .int .i64 k8, .slice A1 (l ++ [(ndAt ns k8).r]).length c1, .pointer (some ⟨g, 0, none⟩)] (by rfl) rfl rfl (by simp only [List.map_toArray, List.map_cons, List.map_nil]; rfl) ?_
                  refine (IH.out f2 HF.out k8 (l ++ [(ndAt ns k8).r]) A1 c1 o8 o9 w4 w4 (HS4.out.again) ?hl4 ?hn4 ?hc4 HI.out).mono ?_
                  case hl4 => exact fun w' hT => (Kd.R_reads' (R_NKs HO4.out hT HS4.out.blk (by decide))).2.2
                  case hn4 => exact fun e => by have := HO4.out; subst e; exact R_none_nil this
                  case hc4 => exact HC4.out
                  rintro e w5 ⟨rfl, hs5⟩
                  have HS5 := Aside0.mk (hs5.since HS4.out.nk)
                  clear hs5
                  refine ⟨_, rfl, ?_⟩
                  refine hK.out _ _ ⟨pw_cell_below HS5.out.below1 HX0.out, pw_cell_below HS5.out.below1 hk0.out⟩ (fun hHeld => ?_)
                  clear hK K
                  refine norm_ (a' := ?_) ?_ ?_
                  rotate_left
                  · show Act.put _ (some 63) _ = _
                    simp only [Act.put, List.setIfInBounds_toArray, List.set_cons_zero, List.set_cons_succ, i64_w, i32_w]
                    rfl
                  refine done_ (by kernel_rfl) ?_

                  have g0 := pw_cell_below HS5.out.below1 HX0.out
                  have g3 := pw_cell_below HS5.out.below1 hk3.out
                  clear hHeld
                  go_wp2
                  go_roundg f2
                  case measure => omega
                  case rel => exact ⟨_, o9, rfl, ⟨by have := HQ.out; omega⟩, HW, HS5⟩
                · rw [if_neg c3] at H
                  cases H
              · rw [if_neg c2] at H
                cases H
            · rw [if_neg c1] at H
              obtain rfl : o8 = res := by simpa using H
              have dd := decide_eq_false c1
              clear c1 H
              go_wp2
              exact bodyPost_end (results_none rfl _ _ _) rfl ⟨rfl, _, _, HSq.out⟩
      · rw [if_neg ce] at h
        rw [eq_false_of_ne_true ce] at g1
        have HW := Aside0.mk h
        have g2 := pw_cell_below HS.out.below he2.out
        have HSZ := HS
        clear h HS
        go_enter Try.func49, Try.ntmps49
        go_wp2
        go_loopg [8] f1 (fun kq v8 w' => ∃ (k8 : Int) (o8 : List ByteArray), v8 = .int .i64 k8 ∧ Aside0 (kq ≤ f1) ∧ Aside0 (walkF (fun x => utf_Text.f k x) kq ns false k8 l o8 = some res) ∧ Aside0 (∃ A c, WkS g w0.heap.size A c o8 w w0 w'))
        case atStart => exact ⟨_, out, rfl, ⟨Nat.le_refl _⟩, HW, ⟨_, _, HSZ.out⟩⟩
        case round =>
          clear HW HSZ
          obtain ⟨k8, o8, rfl, HQ, HW, HSE⟩ := hrel
          cases gk with
          | zero => exact absurd HW.out (by simp [walkF])
          | succ f2 =>
            have H := HW.out
            clear HW
            simp only [walkF] at H
            obtain ⟨Aq, cq, hsq⟩ := HSE.out
            have HSq := Aside0.mk hsq
            clear hsq HSE
            by_cases c1 : 0 < k8
            · rw [if_pos c1] at H
              by_cases c2 : k8 < (ns.length : Int)
              · rw [if_pos c2] at H
                by_cases c3 : l.length < 1000000000000
                · rw [if_pos c3] at H
                  obtain ⟨o9, hi, hw⟩ := Option.bind_eq_some_iff.mp H
                  have HI := Aside0.mk hi
                  have HW := Aside0.mk hw
                  have HLL := Aside0.mk c3
                  have HF := Aside0.mk (show f2 < f by have := HQ.out; have := HF1.out; omega)
                  have p1 : 0 ≤ k8 := by omega
                  have hk0 := Aside0.mk (show w0.cell? ⟨gr, k8.toNat * 4, none⟩ = some (.int .i32 (ndAt ns k8).r) from nd_cells HN.out k8 p1 c2 0 _ rfl)
                  have hk3 := Aside0.mk (nd_cells HN.out k8 p1 c2 3 _ rfl)
                  clear H hi hw c3
                  have dd := decide_eq_true c1
                  replace c1 := eq_true c1
                  replace c2 := eq_true c2
                  replace p1 := eq_true p1
                  have hsl := cut_full 63 21 Try.underlying63 winfo_i32 Al l.length cl HCL.out
                  go_upto_region 5 with fail
                  refine start_ (n := 20) (S := fun w' => w'.cell? ⟨gt, 0, none⟩ = some (.slice (some ⟨gr, 0, none⟩) ns.length ct) ∧ w'.cell? ⟨gr, k8.toNat * 4, none⟩ = some (.int .i32 (ndAt ns k8).r)) (ds := []) #[false, false, false, false, false, false, false, false, false, false, false, false, false, false, false, false, false, false, false, false] (by kernel_rfl) rfl rfl ⟨pw_cell_below (HSq.out.drew1).below HX0.out, pw_cell_below (HSq.out.drew1).below hk0.out⟩ (fun hHeld => ?_)
                  refine pure_ (i := 0) (N := some 44) (v := ?_) (a' := ?_) #[true, false, false, false, false, false, false, false, false, false, false, false, false, false, false, false, false, false, false, false] rfl rfl (by kernel_rfl) (fun _ _ _ h => h) (Or.inl ⟨by rfl, ?_⟩) ?_ ?_
                  rotate_left
                  · intro w'
                    go_simp
                    with_reducible rfl
                  rotate_left
                  · simp only [Act.put, List.setIfInBounds_toArray, List.set_cons_zero, List.set_cons_succ, i64_w, i32_w]
                    rfl
                  refine pure_ (i := 1) (N := some 45) (v := ?_) (a' := ?_) #[true, true, false, false, false, false, false, false, false, false, false, false, false, false, false, false, false, false, false, false] rfl rfl (by kernel_rfl) (fun _ _ _ h => h) (Or.inl ⟨by rfl, ?_⟩) ?_ ?_
                  rotate_left
                  · intro w'
                    go_simp
                    with_reducible rfl
                  rotate_left
                  · simp only [Act.put, List.setIfInBounds_toArray, List.set_cons_zero, List.set_cons_succ, i64_w, i32_w]
                    rfl
                  refine pure_ (i := 2) (N := some 46) (v := ?_) (a' := ?_) #[true, true, true, false, false, false, false, false, false, false, false, false, false, false, false, false, false, false, false, false] rfl rfl (by kernel_rfl) (fun _ _ _ h => h) (Or.inl ⟨by rfl, ?_⟩) ?_ ?_
                  rotate_left
                  · intro w'
                    go_simp
                    with_reducible rfl
                  rotate_left
                  · simp only [Act.put, List.setIfInBounds_toArray, List.set_cons_zero, List.set_cons_succ, i64_w, i32_w]
                    rfl
                  refine pure_ (i := 3) (N := some 47) (v := ?_) (a' := ?_) #[true, true, true, true, false, false, false, false, false, false, false, false, false, false, false, false, false, false, false, false] rfl rfl (by kernel_rfl) (fun _ _ _ h => h) (Or.inl ⟨by rfl, ?_⟩) ?_ ?_
                  rotate_left
                  · intro w'
                    go_simp
                    with_reducible rfl
                  rotate_left
                  · simp only [Act.put, List.setIfInBounds_toArray, List.set_cons_zero, List.set_cons_succ, i64_w, i32_w]
                    rfl
                  refine pure_ (i := 4) (N := some 48) (v := ?_) (a' := ?_) #[true, true, true, true, true, false, false, false, false, false, false, false, false, false, false, false, false, false, false, false] rfl rfl (by kernel_rfl) (fun _ _ _ h => h) (Or.inl ⟨by rfl, ?_⟩) ?_ ?_
                  rotate_left
                  · intro w'
                    go_simp
                    with_reducible rfl
                  rotate_left
                  · simp only [Act.put, List.setIfInBounds_toArray, List.set_cons_zero, List.set_cons_succ, i64_w, i32_w]
                    rfl
                  refine pure_ (i := 5) (N := some 49) (v := ?_) (a' := ?_) #[true, true, true, true, true, true, false, false, false, false, false, false, false, false, false, false, false, false, false, false] rfl rfl (by kernel_rfl) (fun _ _ _ h => h) (Or.inl ⟨by rfl, ?_⟩) ?_ ?_
                  rotate_left
                  · intro w'
                    go_simp
                    with_reducible rfl
                  rotate_left
                  · simp only [Act.put, List.setIfInBounds_toArray, List.set_cons_zero, List.set_cons_succ, i64_w, i32_w]
                    rfl
                  refine pure_ (i := 6) (N := some 50) (v := ?_) (a' := ?_) #[true, true, true, true, true, true, true, false, false, false, false, false, false, false, false, false, false, false, false, false] rfl rfl (by kernel_rfl) (fun _ _ _ h => h) (Or.inl ⟨by rfl, ?_⟩) ?_ ?_
                  rotate_left
                  · intro w'
                    go_simp
                    with_reducible rfl
                  rotate_left
                  · simp only [Act.put, List.setIfInBounds_toArray, List.set_cons_zero, List.set_cons_succ, i64_w, i32_w]
                    rfl
                  refine pure_ (i := 7) (N := some 51) (v := ?_) (a' := ?_) #[true, true, true, true, true, true, true, true, false, false, false, false, false, false, false, false, false, false, false, false] rfl rfl (by kernel_rfl) (fun _ _ _ h => h) (Or.inl ⟨by rfl, ?_⟩) ?_ ?_
                  rotate_left
                  · intro w'
                    go_simp
                    with_reducible rfl
                  rotate_left
                  · simp only [Act.put, List.setIfInBounds_toArray, List.set_cons_zero, List.set_cons_succ, i64_w, i32_w]
                    rfl
                  refine pure_ (i := 8) (N := some 52) (v := ?_) (a' := ?_) #[true, true, true, true, true, true, true, true, true, false, false, false, false, false, false, false, false, false, false, false] rfl rfl (by kernel_rfl) (fun _ _ _ h => h) (Or.inl ⟨by rfl, ?_⟩) ?_ ?_
                  rotate_left
                  · intro w'
                    go_simp
                    with_reducible rfl
                  rotate_left
                  · simp only [Act.put, List.setIfInBounds_toArray, List.set_cons_zero, List.set_cons_succ, i64_w, i32_w]
                    rfl
                  refine pure_ (i := 9) (N := some 53) (v := ?_) (a' := ?_) #[true, true, true, true, true, true, true, true, true, true, false, false, false, false, false, false, false, false, false, false] rfl rfl (by kernel_rfl) (fun _ _ _ h => h) (Or.inl ⟨by rfl, ?_⟩) ?_ ?_
                  rotate_left
                  · intro w'
                    go_simp
                    with_reducible rfl
                  rotate_left
                  · simp only [Act.put, List.setIfInBounds_toArray, List.set_cons_zero, List.set_cons_succ, i64_w, i32_w]
                    rfl
                  refine pure_ (i := 10) (N := some 54) (v := ?_) (a' := ?_) #[true, true, true, true, true, true, true, true, true, true, true, false, false, false, false, false, false, false, false, false] rfl rfl (by kernel_rfl) (fun _ _ _ h => h) (Or.inl ⟨by rfl, ?_⟩) ?_ ?_
                  rotate_left
                  · intro w'
                    go_simp
                    with_reducible rfl
                  rotate_left
                  · simp only [Act.put, List.setIfInBounds_toArray, List.set_cons_zero, List.set_cons_succ, i64_w, i32_w]
                    rfl
                  refine pure_ (i := 12) (N := some 56) (v := ?_) (a' := ?_) #[true, true, true, true, true, true, true, true, true, true, true, false, true, false, false, false, false, false, false, false] rfl rfl (by kernel_rfl) (fun _ _ _ h => h) (Or.inl ⟨by rfl, ?_⟩) ?_ ?_
                  rotate_left
                  · intro w'
                    go_simp
                    with_reducible rfl
                  rotate_left
                  · simp only [Act.put, List.setIfInBounds_toArray, List.set_cons_zero, List.set_cons_succ, i64_w, i32_w]
                    rfl
                  refine pure_ (i := 18) (N := some 62) (v := ?_) (a' := ?_) #[true, true, true, true, true, true, true, true, true, true, true, false, true, false, false, false, false, false, true, false] rfl rfl (by kernel_rfl) (fun _ _ _ h => h) (Or.inl ⟨by rfl, ?_⟩) ?_ ?_
                  rotate_left
                  · intro w'
                    go_simp
                    with_reducible rfl
                  rotate_left
                  · simp only [Act.put, List.setIfInBounds_toArray, List.set_cons_zero, List.set_cons_succ, i64_w, i32_w]
                    rfl
                  refine take_ (i := 11) (N := some 55) (v := ?_) (a' := ?_) #[true, true, true, true, true, true, true, true, true, true, true, true, true, false, false, false, false, false, true, false] rfl rfl (by kernel_rfl) (fun _ _ _ h => h) (Or.inl ⟨by rfl, ?_⟩) hHeld ?_ ?_
                  rotate_left
                  · rintro w' ⟨s0, s1⟩
                    go_simp
                    with_reducible rfl
                  rotate_left
                  · simp only [Act.put, List.setIfInBounds_toArray, List.set_cons_zero, List.set_cons_succ, i64_w, i32_w]
                    rfl
                  refine pure_ (i := 13) (N := some 57) (v := ?_) (a' := ?_) #[true, true, true, true, true, true, true, true, true, true, true, true, true, true, false, false, false, false, true, false] rfl rfl (by kernel_rfl) (fun _ _ _ h => h) (Or.inl ⟨by rfl, ?_⟩) ?_ ?_
                  rotate_left
                  · intro w'
                    go_simp
                    with_reducible rfl
                  rotate_left
                  · simp only [Act.put, List.setIfInBounds_toArray, List.set_cons_zero, List.set_cons_succ, i64_w, i32_w]
                    rfl
                  refine pure_ (i := 14) (N := some 58) (v := ?_) (a' := ?_) #[true, true, true, true, true, true, true, true, true, true, true, true, true, true, true, false, false, false, true, false] rfl rfl (by kernel_rfl) (fun _ _ _ h => h) (Or.inl ⟨by rfl, ?_⟩) ?_ ?_
                  rotate_left
                  · intro w'
                    go_simp
                    with_reducible rfl
                  rotate_left
                  · simp only [Act.put, List.setIfInBounds_toArray, List.set_cons_zero, List.set_cons_succ, i64_w, i32_w]
                    rfl
                  refine take_ (i := 15) (N := some 59) (v := ?_) (a' := ?_) #[true, true, true, true, true, true, true, true, true, true, true, true, true, true, true, true, false, false, true, false] rfl rfl (by kernel_rfl) (fun _ _ _ h => h) (Or.inl ⟨by rfl, ?_⟩) hHeld ?_ ?_
                  rotate_left
                  · rintro w' ⟨s0, s1⟩
                    go_simp
                    with_reducible rfl
                  rotate_left
                  · simp only [Act.put, List.setIfInBounds_toArray, List.set_cons_zero, List.set_cons_succ, i64_w, i32_w]
                    rfl
                  refine one_ (i := 16) (N := some 60) #[true, true, true, true, true, true, true, true, true, true, true, true, true, true, true, true, true, false, true, false] rfl rfl (by kernel_rfl) (by decide) (fun K hK => ?_)
                  refine value_ (w1 := ?_) (v := ?_) (by rfl) rfl ?_ ?_
                  rotate_left 2
                  · go_simp
                    constructor
                    · rfl
                    · rfl
                  refine hK.out _ _ ⟨pw_cell_below (below_alloc (HSq.out.drew1).below _) HX0.out, pw_cell_below (below_alloc (HSq.out.drew1).below _) hk0.out⟩ (fun hHeld => ?_)
                  clear hK K
                  refine norm_ (a' := ?_) ?_ ?_
                  rotate_left
                  · show Act.put _ (some 60) _ = _
                    simp only [Act.put, List.setIfInBounds_toArray, List.set_cons_zero, List.set_cons_succ, i64_w, i32_w]
                    rfl
                  refine one_ (i := 17) (N := some 61) #[true, true, true, true, true, true, true, true, true, true, true, true, true, true, true, true, true, true, true, false] rfl rfl (by kernel_rfl) (by decide) (fun K hK => ?_)
                  refine full_append_step (w0 := w0) w0.heap.size (by rfl) (.tmp 51) (.tmp 60) 63 21 .i32 4 rfl Try.underlying63 hinfo_i32 (by omega) Al l (ndAt ns k8).r rfl rfl (HL.out _ HSq.out.nk.drew1) HAN.out (HSq.out.drew1).below (below_size (HSq.out.drew1).below) (by have := HLL.out; omega) ?_
                  intro v1 w4 ho hb hgw
                  obtain ⟨A1, c1, e1⟩ := Kd.R_slice ho
                  subst e1
                  have HS4 := Aside0.mk (HSq.out.drew1.over hb hgw)
                  have HO4 := Aside0.mk ho
                  have hrs := Kd.R_reads' ho
                  have HC4 := Aside0.mk hrs.2.1
                  clear ho hb hgw hrs HSq
                  refine hK.out _ _ ⟨pw_cell_below HS4.out.below HX0.out, pw_cell_below HS4.out.below hk0.out⟩ (fun hHeld => ?_)
                  clear hK K
                  refine norm_ (a' := ?_) ?_ ?_
                  rotate_left
                  · show Act.put _ (some 61) _ = _
                    simp only [Act.put, List.setIfInBounds_toArray, List.set_cons_zero, List.set_cons_succ, i64_w, i32_w]
                    rfl
                  refine one_ (i := 19) (N := some 63) #[true, true, true, true, true, true, true, true, true, true, true, true, true, true, true, true, true, true, true, true] rfl rfl (by kernel_rfl) (by decide) (fun K hK => ?_)
                  refine goes_ Try.func49 (by kernel_rfl) rfl #[.pointer (some ⟨gt, 0, none⟩), .int .i64 k8, .slice A1 (l ++ [(ndAt ns k8).r]).length c1, .pointer (some ⟨g, 0, none⟩)] (by rfl) rfl rfl (by simp only [List.map_toArray, List.map_cons, List.map_nil]; rfl) ?_
                  refine (IH.out f2 HF.out k8 (l ++ [(ndAt ns k8).r]) A1 c1 o8 o9 w4 w4 (HS4.out.again) ?hl4 ?hn4 ?hc4 HI.out).mono ?_
                  case hl4 => exact fun w' hT => (Kd.R_reads' (R_NKs HO4.out hT HS4.out.blk (by decide))).2.2
                  case hn4 => exact fun e => by have := HO4.out; subst e; exact R_none_nil this
                  case hc4 => exact HC4.out
                  rintro e w5 ⟨rfl, hs5⟩
                  have HS5 := Aside0.mk (hs5.since HS4.out.nk)
                  clear hs5
                  refine ⟨_, rfl, ?_⟩
                  refine hK.out _ _ ⟨pw_cell_below HS5.out.below1 HX0.out, pw_cell_below HS5.out.below1 hk0.out⟩ (fun hHeld => ?_)
                  clear hK K
                  refine norm_ (a' := ?_) ?_ ?_
                  rotate_left
                  · show Act.put _ (some 63) _ = _
                    simp only [Act.put, List.setIfInBounds_toArray, List.set_cons_zero, List.set_cons_succ, i64_w, i32_w]
                    rfl
                  refine done_ (by kernel_rfl) ?_

                  have g0 := pw_cell_below HS5.out.below1 HX0.out
                  have g3 := pw_cell_below HS5.out.below1 hk3.out
                  clear hHeld
                  go_wp2
                  go_roundg f2
                  case measure => omega
                  case rel => exact ⟨_, o9, rfl, ⟨by have := HQ.out; omega⟩, HW, HS5⟩
                · rw [if_neg c3] at H
                  cases H
              · rw [if_neg c2] at H
                cases H
            · rw [if_neg c1] at H
              obtain rfl : o8 = res := by simpa using H
              have dd := decide_eq_false c1
              clear c1 H
              go_wp2
              exact bodyPost_end (results_none rfl _ _ _) rfl ⟨rfl, _, _, HSq.out⟩
end

/-! ### trie_Trie_Words: function 38 -/
def trie_Trie_Words.f (k : Nat) (l0 : List TrT) : Option (List ByteArray) := match l0 with
  | [] => some []
  | (ns, _) :: _ => walkF (fun x => utf_Text.f k x) k ns true 0 [] []
theorem trie_Trie_Words.mono : ∀ a0 k, LeO (trie_Trie_Words.f k a0) (trie_Trie_Words.f (k + 1) a0) := by
  intro a0 k
  unfold trie_Trie_Words.f
  rcases a0 with _ | ⟨⟨ns, n⟩, t⟩
  · exact LeO.refl _
  · exact walkF_mono (fun l => utf_Text.mono l k) _ _ _ _ _ _
set_option maxHeartbeats 4000000 in
theorem trie_Trie_Words.calls (k : Nat) (V0 : Value) (l0 : List TrT) (r : List ByteArray) (w : World) (hs0 : TrP w V0 l0) (h : trie_Trie_Words.f k l0 = some r) :
    Calls Try.prog 38 #[V0] w fun e w' => ∃ v0_ : Value, e = .returned v0_ ∧ Kd.R Kd.string 9 w' w.heap.size (fun _ => True) v0_ r ∧ Below w.heap.size w w' := by
  rcases hs0 with ⟨rfl, rfl⟩ | ⟨ns, words, gt, A, ct, rfl, rfl, hg, hR⟩
  · obtain rfl : [] = r := by simpa [trie_Trie_Words.f] using h
    have HB := Aside0.mk (below_alloc (Below.refl w.heap.size w) (.cells #[.slice none 0 0] 29))
    go_enter Try.func38, Try.ntmps38
    go_wp2
    go_ret
    exact ⟨_, rfl, Kd.R_nil _ _ _ _ _, HB.out⟩
  · have h : walkF (fun x => utf_Text.f k x) k ns true 0 [] [] = some r := h
    have hpos : 0 < ns.length := by
      cases k with
      | zero => simp [walkF] at h
      | succ k =>
        simp only [walkF] at h
        by_cases c : (0 : Int) < (ns.length : Int)
        · omega
        · rw [if_pos (by omega), if_neg c] at h
          cases h
    obtain ⟨gr, rfl⟩ := nd_row hR hpos
    have HC := (Kd.R_reads' hR).2.2
    have HS := Aside0.mk (show WkS w.heap.size w.heap.size none 0 [] (w.alloc (.cells #[.slice none 0 0] 29)) w (w.alloc (.cells #[.slice none 0 0] 29)) from
      ⟨heap_alloc_new w _, Kd.R_nil _ _ _ _ _, below_alloc (Below.refl _ _) _, NKs.refl _ _⟩)
    have HG := Aside0.mk hg
    have HCC := Aside0.mk HC
    have HH := Aside0.mk h
    clear hg hR HC h hpos
    go_enter Try.func38, Try.ntmps38
    go_wp2_with (go_at_call 49; refine (trie_walk_at k gt gr ct w.heap.size words ns w HG.out HCC.out (Nat.le_refl _) k 0 [] none 0 [] r _ _ HS.out (fun w' _ => ⟨rfl, by simp, fun h => absurd h (by simp)⟩) (fun _ => rfl) (Nat.le_refl _) HH.out).mono ?_; rintro e w' ⟨rfl, A1, c1, hs1⟩; have hx1 : w'.cell? ⟨w.heap.size, 0, none⟩ = some (.slice A1 r.length c1) := (blk_cell hs1.blk 0).trans rfl; have HS1 := Aside0.mk hs1; clear hs1)
    go_ret
    exact ⟨_, rfl, HS1.out.row, HS1.out.below⟩

/-! ### redpenlaw07_TrieMakes: function 13 -/
def redpenlaw07_TrieMakes.g (k : Nat) (l : List ByteArray) : Option Bool := (trie_Make.f k l).bind fun m => (redpenref06_Right.f k l).bind fun c => if c = 0 then (if m.2 = 0 then (trie_Trie_Len.f m.1).bind fun n => if n = (l.length : Int) then (trie_Trie_Words.f k m.1).bind fun ws => redpenref06_Same.f k ws l else some false else some false) else some (decide (m.2 = c) && m.1.isEmpty)
def redpenlaw07_TrieMakes.f (k : Nat) (l0 : List ByteArray) (a1 : Bool) : Option Bool := (redpenlaw07_Awake.f k).bind fun t => if t = true then (if 200 < l0.length then some true else if a1 = true then (redpenlaw07_Sorted.f k l0).bind fun l => redpenlaw07_TrieMakes.g k l else redpenlaw07_TrieMakes.g k l0) else some false
set_option maxHeartbeats 8000000 in
set_option maxRecDepth 100000 in
theorem redpenlaw07_TrieMakes.calls (k : Nat) (A0 : Option Addr) (c0 : Nat) (l0 : List ByteArray) (a1 : Bool) (r : Bool) (w : World) (hr0 : Kd.C Kd.string w A0 l0.length l0) (hc0 : l0.length ≤ c0) (h : redpenlaw07_TrieMakes.f k l0 a1 = some r) (hr_ : r = true) :
    Calls Try.prog 13 #[.slice A0 l0.length c0, .bool a1] w fun e w' => e = .returned (.bool r) ∧ Below w.heap.size w w' := by
  subst hr_
  have HR0 := Aside0.mk hr0
  clear hr0
  unfold redpenlaw07_TrieMakes.f at h
  obtain ⟨t, ha, h⟩ := Option.bind_eq_some_iff.mp h
  have HA := Aside0.mk ha
  clear ha
  cases t with
  | false => simp at h
  | true =>
  rw [if_pos rfl] at h
  by_cases c2 : 200 < l0.length
  · have d2 := decide_eq_true (show (200 : Int) < (l0.length : Int) by omega)
    clear c2 h
    go_enter Try.func13, Try.ntmps13
    go_wp2_with (go_at_call 14; refine (redpenlaw07_Awake.calls k true _ HA.out).mono ?_; rintro e w1 ⟨rfl, hb⟩; have HB := Aside0.mk hb; clear hb)
    go_ret
    exact ⟨rfl, HB.out⟩
  rw [if_neg c2] at h
  have d2 := decide_eq_false (show ¬ (200 : Int) < (l0.length : Int) by omega)
  clear c2
  cases a1 with
  | true =>
    rw [if_pos rfl] at h
    obtain ⟨l1, hl1, h⟩ := Option.bind_eq_some_iff.mp h
    have HL1 := Aside0.mk hl1
    clear hl1
    unfold redpenlaw07_TrieMakes.g at h
    obtain ⟨⟨m1, m2⟩, hm, h⟩ := Option.bind_eq_some_iff.mp h
    obtain ⟨c, hc, h⟩ := Option.bind_eq_some_iff.mp h
    have HC := Aside0.mk hc
    have HM := Aside0.mk hm
    clear hc hm
    by_cases c1 : c = 0
    · subst c1
      rw [if_pos rfl] at h
      by_cases c3 : m2 = 0
      case neg => rw [if_neg c3] at h; cases h
      subst c3
      rw [if_pos rfl] at h
      obtain ⟨n, hn, h⟩ := Option.bind_eq_some_iff.mp h
      by_cases c4 : n = (l1.length : Int)
      case neg => rw [if_neg c4] at h; cases h
      subst c4
      rw [if_pos rfl] at h
      obtain ⟨ws, hw, h⟩ := Option.bind_eq_some_iff.mp h
      have HN := Aside0.mk hn
      have HWS := Aside0.mk hw
      have HSM := Aside0.mk h
      clear hn hw h
      go_enter Try.func13, Try.ntmps13
      go_wp2_with (first | (go_at_call 14; refine (redpenlaw07_Awake.calls k true _ HA.out).mono ?_; rintro e w1 ⟨rfl, hb⟩; have HB := Aside0.mk hb; clear hb) | (go_at_call 26; refine (redpenlaw07_Sorted.calls k A0 c0 l0 l1 _ (Kd.C_below HR0.out HB.out) hc0 HL1.out).mono ?_; rintro e w2 ⟨v2, rfl, ho, hb⟩; obtain ⟨A2, c2, e2⟩ := Kd.R_slice ho; subst e2; have hrr := Kd.R_reads' ho; have HRS := Aside0.mk (fun W' (hW : Below w2.heap.size w2 W') => Kd.C_below hrr.2.2 hW); have HCS := Aside0.mk hrr.2.1; have HBL := Aside0.mk (Below.refl w2.heap.size w2); have n1 := Aside0.mk (below_then HB.out (below_size HB.out) hb); clear HB; have HB := n1; clear n1 ho hb hrr) | (go_at_call 15; refine (trie_Make.calls k A2 c2 l1 m1 0 _ (HRS.out _ HBL.out) HCS.out HM.out).mono ?_; rintro e w3 ⟨v0, rfl, hP, hb⟩; have n1 := Aside0.mk (below_then HB.out (below_size HB.out) hb); clear HB; have HB := n1; clear n1; have n1 := Aside0.mk (below_then HBL.out (below_size HBL.out) hb); clear HBL; have HBL := n1; clear n1; have HP := Aside0.mk hP; clear hP; have HW3 := Aside0.mk (Below.refl w3.heap.size w3);  clear hb) | (go_at_call 36; refine (redpenref06_Right.calls k A2 c2 l1 0 _ (HRS.out _ HBL.out) HCS.out HC.out).mono ?_; rintro e w4 ⟨rfl, hb⟩; have n1 := Aside0.mk (below_then HB.out (below_size HB.out) hb); clear HB; have HB := n1; clear n1; have n1 := Aside0.mk (below_then HBL.out (below_size HBL.out) hb); clear HBL; have HBL := n1; clear n1; have n1 := Aside0.mk (below_then HW3.out (Nat.le_refl _) hb); clear HW3; have HW3 := n1; clear n1 hb) | (go_at_call 16; refine (trie_Trie_Len.calls v0 m1 (l1.length : Int) _ (TrP_below (Kd.P_now HP.out) HW3.out) HN.out).mono ?_; rintro e w5 ⟨rfl, ⟨nd, rfl⟩⟩; have n1 := Aside0.mk (pw_below_drewN HB.out nd); clear HB; have HB := n1; clear n1; have n1 := Aside0.mk (pw_below_drewN HBL.out nd); clear HBL; have HBL := n1; clear n1; have n1 := Aside0.mk (pw_below_drewN HW3.out nd); clear HW3; have HW3 := n1; clear n1) | (go_at_call 38; refine (trie_Trie_Words.calls k v0 m1 ws _ (TrP_below (Kd.P_now HP.out) HW3.out) HWS.out).mono ?_; rintro e w6 ⟨v6, rfl, ho, hb⟩; obtain ⟨A6, c6, e6⟩ := Kd.R_slice ho; subst e6; have HO6 := Aside0.mk (Kd.R_reads' ho); have n1 := Aside0.mk (below_then HB.out (below_size HB.out) hb); clear HB; have HB := n1; clear n1; have n1 := Aside0.mk (below_then HBL.out (below_size HBL.out) hb); clear HBL; have HBL := n1; clear n1; clear ho hb) | (go_at_call 37; refine (redpenref06_Same.calls k A6 c6 ws A2 c2 l1 true _ HO6.out.2.2 HO6.out.2.1 (HRS.out _ HBL.out) HCS.out HSM.out).mono ?_; rintro e w7 ⟨rfl, ⟨nd7, rfl⟩⟩; have n1 := Aside0.mk (pw_below_drewN HB.out nd7); clear HB; have HB := n1; clear n1; have n1 := Aside0.mk (pw_below_drewN HBL.out nd7); clear HBL; have HBL := n1; clear n1))
      go_ret
      exact ⟨rfl, HB.out⟩
    · rw [if_neg c1] at h
      have hq : m2 = c ∧ m1 = [] := by simpa using h
      obtain ⟨rfl, rfl⟩ := hq
      have cb : (m2 != 0) = true := bne_iff_ne.mpr c1
      clear h c1
      go_enter Try.func13, Try.ntmps13
      go_wp2_with (first | (go_at_call 14; refine (redpenlaw07_Awake.calls k true _ HA.out).mono ?_; rintro e w1 ⟨rfl, hb⟩; have HB := Aside0.mk hb; clear hb) | (go_at_call 26; refine (redpenlaw07_Sorted.calls k A0 c0 l0 l1 _ (Kd.C_below HR0.out HB.out) hc0 HL1.out).mono ?_; rintro e w2 ⟨v2, rfl, ho, hb⟩; obtain ⟨A2, c2, e2⟩ := Kd.R_slice ho; subst e2; have hrr := Kd.R_reads' ho; have HRS := Aside0.mk (fun W' (hW : Below w2.heap.size w2 W') => Kd.C_below hrr.2.2 hW); have HCS := Aside0.mk hrr.2.1; have HBL := Aside0.mk (Below.refl w2.heap.size w2); have n1 := Aside0.mk (below_then HB.out (below_size HB.out) hb); clear HB; have HB := n1; clear n1 ho hb hrr) | (go_at_call 15; refine (trie_Make.calls k A2 c2 l1 [] m2 _ (HRS.out _ HBL.out) HCS.out HM.out).mono ?_; rintro e w3 ⟨v0, rfl, hP, hb⟩; have n1 := Aside0.mk (below_then HB.out (below_size HB.out) hb); clear HB; have HB := n1; clear n1; have n1 := Aside0.mk (below_then HBL.out (below_size HBL.out) hb); clear HBL; have HBL := n1; clear n1; have HP := Aside0.mk hP; clear hP; have HW3 := Aside0.mk (Below.refl w3.heap.size w3); obtain rfl : v0 = .pointer none := (by rcases Kd.P_now HP.out with ⟨_, e_⟩ | ⟨_, _, _, _, _, e_, _⟩; exact e_; cases e_); clear hb) | (go_at_call 36; refine (redpenref06_Right.calls k A2 c2 l1 m2 _ (HRS.out _ HBL.out) HCS.out HC.out).mono ?_; rintro e w4 ⟨rfl, hb⟩; have n1 := Aside0.mk (below_then HB.out (below_size HB.out) hb); clear HB; have HB := n1; clear n1; have n1 := Aside0.mk (below_then HBL.out (below_size HBL.out) hb); clear HBL; have HBL := n1; clear n1; have n1 := Aside0.mk (below_then HW3.out (Nat.le_refl _) hb); clear HW3; have HW3 := n1; clear n1 hb))
      go_ret
      exact ⟨rfl, HB.out⟩
  | false =>
    rw [if_neg (by simp)] at h
    unfold redpenlaw07_TrieMakes.g at h
    obtain ⟨⟨m1, m2⟩, hm, h⟩ := Option.bind_eq_some_iff.mp h
    obtain ⟨c, hc, h⟩ := Option.bind_eq_some_iff.mp h
    have HC := Aside0.mk hc
    have HM := Aside0.mk hm
    clear hc hm
    by_cases c1 : c = 0
    · subst c1
      rw [if_pos rfl] at h
      by_cases c3 : m2 = 0
      case neg => rw [if_neg c3] at h; cases h
      subst c3
      rw [if_pos rfl] at h
      obtain ⟨n, hn, h⟩ := Option.bind_eq_some_iff.mp h
      by_cases c4 : n = (l0.length : Int)
      case neg => rw [if_neg c4] at h; cases h
      subst c4
      rw [if_pos rfl] at h
      obtain ⟨ws, hw, h⟩ := Option.bind_eq_some_iff.mp h
      have HN := Aside0.mk hn
      have HWS := Aside0.mk hw
      have HSM := Aside0.mk h
      clear hn hw h
      go_enter Try.func13, Try.ntmps13
      go_wp2_with (first | (go_at_call 14; refine (redpenlaw07_Awake.calls k true _ HA.out).mono ?_; rintro e w1 ⟨rfl, hb⟩; have HB := Aside0.mk hb; clear hb) | (go_at_call 15; refine (trie_Make.calls k A0 c0 l0 m1 0 _ (Kd.C_below HR0.out HB.out) hc0 HM.out).mono ?_; rintro e w3 ⟨v0, rfl, hP, hb⟩; have n1 := Aside0.mk (below_then HB.out (below_size HB.out) hb); clear HB; have HB := n1; clear n1; have HP := Aside0.mk hP; clear hP; have HW3 := Aside0.mk (Below.refl w3.heap.size w3);  clear hb) | (go_at_call 36; refine (redpenref06_Right.calls k A0 c0 l0 0 _ (Kd.C_below HR0.out HB.out) hc0 HC.out).mono ?_; rintro e w4 ⟨rfl, hb⟩; have n1 := Aside0.mk (below_then HB.out (below_size HB.out) hb); clear HB; have HB := n1; clear n1; have n1 := Aside0.mk (below_then HW3.out (Nat.le_refl _) hb); clear HW3; have HW3 := n1; clear n1 hb) | (go_at_call 16; refine (trie_Trie_Len.calls v0 m1 (l0.length : Int) _ (TrP_below (Kd.P_now HP.out) HW3.out) HN.out).mono ?_; rintro e w5 ⟨rfl, ⟨nd, rfl⟩⟩; have n1 := Aside0.mk (pw_below_drewN HB.out nd); clear HB; have HB := n1; clear n1; have n1 := Aside0.mk (pw_below_drewN HW3.out nd); clear HW3; have HW3 := n1; clear n1) | (go_at_call 38; refine (trie_Trie_Words.calls k v0 m1 ws _ (TrP_below (Kd.P_now HP.out) HW3.out) HWS.out).mono ?_; rintro e w6 ⟨v6, rfl, ho, hb⟩; obtain ⟨A6, c6, e6⟩ := Kd.R_slice ho; subst e6; have HO6 := Aside0.mk (Kd.R_reads' ho); have n1 := Aside0.mk (below_then HB.out (below_size HB.out) hb); clear HB; have HB := n1; clear n1; clear ho hb) | (go_at_call 37; refine (redpenref06_Same.calls k A6 c6 ws A0 c0 l0 true _ HO6.out.2.2 HO6.out.2.1 (Kd.C_below HR0.out HB.out) hc0 HSM.out).mono ?_; rintro e w7 ⟨rfl, ⟨nd7, rfl⟩⟩; have n1 := Aside0.mk (pw_below_drewN HB.out nd7); clear HB; have HB := n1; clear n1))
      go_ret
      exact ⟨rfl, HB.out⟩
    · rw [if_neg c1] at h
      have hq : m2 = c ∧ m1 = [] := by simpa using h
      obtain ⟨rfl, rfl⟩ := hq
      have cb : (m2 != 0) = true := bne_iff_ne.mpr c1
      clear h c1
      go_enter Try.func13, Try.ntmps13
      go_wp2_with (first | (go_at_call 14; refine (redpenlaw07_Awake.calls k true _ HA.out).mono ?_; rintro e w1 ⟨rfl, hb⟩; have HB := Aside0.mk hb; clear hb) | (go_at_call 15; refine (trie_Make.calls k A0 c0 l0 [] m2 _ (Kd.C_below HR0.out HB.out) hc0 HM.out).mono ?_; rintro e w3 ⟨v0, rfl, hP, hb⟩; have n1 := Aside0.mk (below_then HB.out (below_size HB.out) hb); clear HB; have HB := n1; clear n1; have HP := Aside0.mk hP; clear hP; have HW3 := Aside0.mk (Below.refl w3.heap.size w3); obtain rfl : v0 = .pointer none := (by rcases Kd.P_now HP.out with ⟨_, e_⟩ | ⟨_, _, _, _, _, e_, _⟩; exact e_; cases e_); clear hb) | (go_at_call 36; refine (redpenref06_Right.calls k A0 c0 l0 m2 _ (Kd.C_below HR0.out HB.out) hc0 HC.out).mono ?_; rintro e w4 ⟨rfl, hb⟩; have n1 := Aside0.mk (below_then HB.out (below_size HB.out) hb); clear HB; have HB := n1; clear n1; have n1 := Aside0.mk (below_then HW3.out (Nat.le_refl _) hb); clear HW3; have HW3 := n1; clear n1 hb))
      go_ret
      exact ⟨rfl, HB.out⟩

end Go.Proofs.Ytokgkhndhlcfpaa.PTrieMakes
