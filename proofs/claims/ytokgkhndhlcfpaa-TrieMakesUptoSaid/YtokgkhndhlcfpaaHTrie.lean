/- The functions of package trie that make and read the nodes, proved by hand: child, put, Len, Size, Ends, Kids; told by plain functions on the list of nodes. -/
import Derived.Test.YtokgkhndhlcfpaaXP
import Derived.Test.YtokgkhndhlcfpaaMUtf
import Derived.Test.YtokgkhndhlcfpaaProg
import Derived.Deep.QuietTactic
import Derived.BigQuiet
namespace Go.Proofs.Ytokgkhndhlcfpaa.X
open Go.RowKit Go.Proofs.YtokgkhndhlcfpaaW.PrintWords Go.Proofs.YtokgkhndhlcfpaaW.PrintLast Go.Proofs.YtokgkhndhlcfpaaW.PrintMore
open Go.Proofs.Ytokgkhndhlcfpaa.M
set_option linter.unusedVariables false
set_option linter.unusedSimpArgs false

/-- A node: its sign, whether a word ends there, its first child, the one behind it. -/
structure Nd where
  r : Int
  e : Bool
  kid : Int
  oth : Int
def nd0 : Nd := ⟨0, false, 0, 0⟩
def kNd : Kd Nd := Kd.iso (Kd.pair (Kd.int .i32) (Kd.pair Kd.bool (Kd.pair (Kd.int .i64) (Kd.int .i64)))) (fun x : Nd => (x.r, x.e, x.kid, x.oth))
abbrev ndc (x : Nd) : List Value := [.int .i32 x.r, .bool x.e, .int .i64 x.kid, .int .i64 x.oth]
theorem kNd_open {w : World} {x : Nd} {cs : List Value} (h : kNd.K w x cs) : cs = ndc x := by
  obtain ⟨_, _, rfl, rfl, _, _, rfl, rfl, _, _, rfl, rfl, rfl⟩ := h
  exact rfl
theorem kNd_mkM (w : World) (base : Nat) (ok : Nat → Prop) (x : Nd) : kNd.M w base ok x (ndc x) :=
  ⟨[.int .i32 x.r], [.bool x.e, .int .i64 x.kid, .int .i64 x.oth], rfl, rfl, [.bool x.e], [.int .i64 x.kid, .int .i64 x.oth], rfl, rfl, [.int .i64 x.kid], [.int .i64 x.oth], rfl, rfl, rfl⟩
def ndAt (ns : List Nd) (i : Int) : Nd := ns.getD i.toNat nd0
theorem info_nd : (Try.prog.info? 96).map (fun i => (i.zero, i.size, i.bytes)) = some (some (.agg #[.int .i32 0, .bool false, .int .i64 0, .int .i64 0]), 4, 24) := by kernel_rfl
/-- The cells of a node of a row of one's own. -/
theorem nd_cells {w : World} {g : Nat} {n : Nat} {ns : List Nd} (h : Kd.C kNd w (some ⟨g, 0, none⟩) n ns) (i : Int) (h0 : 0 ≤ i) (h1 : i < n) :
    ∀ j u, (ndc (ndAt ns i))[j]? = some u → w.cell? ⟨g, i.toNat * 4 + j, none⟩ = some u := by
  obtain ⟨ad, c, e, _, hK, hc0⟩ := Kd.C_get h nd0 i h0 h1
  cases e
  obtain rfl := kNd_open hK
  intro j u hu
  have := hc0 j u hu
  rw [add_plain] at this
  exact this
theorem nd_row {w : World} {b e : Nat} {ok : Nat → Prop} {A : Option Addr} {c n : Nat} {ns : List Nd} (h : kNd.R e w b ok (.slice A n c) ns) (hn : 0 < n) : ∃ gr, A = some ⟨gr, 0, none⟩ := by
  obtain ⟨_, inner, hown, hr⟩ := h
  rcases hown.2 with ⟨hv, hz⟩ | ⟨g', cap', cur, hv, _⟩
  · cases hv
    omega
  · cases hv
    exact ⟨g', rfl⟩
/-- Where a child of a sign stands among a node's children: the one before it, and it (0: none). -/
def seekF (ns : List Nd) (r : Int) : Nat → Int → Int → Option (Int × Int)
  | 0, _, _ => none
  | f + 1, b, k => if 0 < k then (if k < (ns.length : Int) then (if (ndAt ns k).r < r then seekF ns r f k (ndAt ns k).oth else some (b, k)) else none) else some (b, k)
def setOth (ns : List Nd) (i n : Int) : List Nd := ns.set i.toNat ⟨(ndAt ns i).r, (ndAt ns i).e, (ndAt ns i).kid, n⟩
def setKid (ns : List Nd) (i n : Int) : List Nd := ns.set i.toNat ⟨(ndAt ns i).r, (ndAt ns i).e, n, (ndAt ns i).oth⟩
def setEnd (ns : List Nd) (i : Int) : List Nd := ns.set i.toNat ⟨(ndAt ns i).r, true, (ndAt ns i).kid, (ndAt ns i).oth⟩
/-- What is made of the nodes by a child that isn't there. -/
def growF (ns : List Nd) (at_ r b k : Int) : Option (List Nd × Int) :=
  if ns.length < 1000000000000 then (if 0 < b then (if b < (ns.length : Int) then some (setOth (ns ++ [⟨r, false, 0, k⟩]) b (ns.length : Int), (ns.length : Int)) else none)
    else some (setKid (ns ++ [⟨r, false, 0, k⟩]) at_ (ns.length : Int), (ns.length : Int))) else none
def childF (f : Nat) (ns : List Nd) (at_ r : Int) : Option (List Nd × Int) :=
  if 0 ≤ at_ then (if at_ < (ns.length : Int) then (seekF ns r f 0 (ndAt ns at_).kid).bind fun q =>
    if 0 < q.2 then (if (ndAt ns q.2).r = r then some (ns, q.2) else growF ns at_ r q.1 q.2) else growF ns at_ r q.1 q.2 else none) else none
/-- Blocks that hold no nodes, but for g, are as they were. -/
def NKp (g : Nat) (w w1 : World) : Prop := w.heap.size ≤ w1.heap.size ∧ ∀ k, k < w.heap.size → k ≠ g → (∀ cs m, w.heap[k]? ≠ some (.cells cs 96 m)) → w1.heap[k]? = w.heap[k]?
theorem NKp.refl (g : Nat) (w : World) : NKp g w w := ⟨Nat.le_refl _, fun _ _ _ _ => rfl⟩
theorem NKp.trans {g : Nat} {w w1 w2 : World} (h : NKp g w w1) (k : NKp g w1 w2) : NKp g w w2 :=
  ⟨Nat.le_trans h.1 k.1, fun i hi hg hn => (k.2 i (Nat.lt_of_lt_of_le hi h.1) hg (fun cs m => by rw [h.2 i hi hg hn]; exact hn cs m)).trans (h.2 i hi hg hn)⟩
theorem NKp.drew {g : Nat} {w w1 : World} (h : NKp g w w1) (n : Nat) : NKp g w (w1.drewN n) := ⟨h.1, fun k hk hg hn => h.2 k hk hg hn⟩
theorem NKp.set_ {g j : Nat} {v : Value} {w w1 : World} (h : NKp g w w1) : NKp g w (w1.setCell ⟨g, j, none⟩ v) :=
  ⟨by simpa using h.1, fun k hk hg hn => (Below.heap_setCell w1 _ v k hg).trans (h.2 k hk hg hn)⟩
theorem NKp.grown {g gr : Nat} {w w1 w2 : World} (h : NKp g w w1) (hg : w1.grownBy w2 (some gr)) {cs : Array Value} {m : Nat × Nat} (ht : w1.heap[gr]? = some (.cells cs 96 m)) : NKp g w w2 :=
  h.trans ⟨hg.size, fun k hk _ hn => hg.block k hk (fun he => by injection he with he; subst he; exact hn _ _ ht)⟩
theorem nd_typed {w : World} {b gr c n : Nat} {ok : Nat → Prop} {ns : List Nd} (h : kNd.R 96 w b ok (.slice (some ⟨gr, 0, none⟩) n c) ns) : ∃ cs, w.heap[gr]? = some (.cells cs 96 (0, 0)) := Kd.R_typed h gr rfl
theorem nd_drewN {w : World} {b : Nat} {ok : Nat → Prop} {v : Value} {ns : List Nd} (h : kNd.R 96 w b ok v ns) (n : Nat) : kNd.R 96 (w.drewN n) b ok v ns := Kd.R_below h (pw_below_drewN (Below.refl _ _) n)
/-- Behind the append of a node, and the store of the row into the trie. -/
structure Pushed (g B gr1 c1 : Nat) (words : Int) (ns1 : List Nd) (w w0 w2 : World) : Prop where
  row : kNd.R 96 w2 B (fun _ => True) (.slice (some ⟨gr1, 0, none⟩) ns1.length c1) ns1
  blk : w2.heap[g]? = some (.cells #[.slice (some ⟨gr1, 0, none⟩) ns1.length c1, .int .i64 words] 79 (0, 0))
  below : Below B w0 w2
  kept : NKp g w w2
theorem nd_pushed {g B gr c m : Nat} {words : Int} {ns ns1 : List Nd} {p : Nd} {w w0 w1 : World} {v1 : Value} (hns : ns1 = ns ++ [p]) (hBg : B ≤ g)
    (hg : w.heap[g]? = some (.cells #[.slice (some ⟨gr, 0, none⟩) ns.length c, .int .i64 words] 79 (0, 0))) (hR : kNd.R 96 w B (fun _ => True) (.slice (some ⟨gr, 0, none⟩) ns.length c) ns)
    (ho : kNd.R 96 w1 B (fun _ => True) v1 (ns ++ [p])) (hb : Below B w0 w1) (hgw : (w.drewN m).grownBy w1 (Value.slice (some ⟨gr, 0, none⟩) ns.length c).ownBlock) :
    ∃ gr1 c1, v1 = .slice (some ⟨gr1, 0, none⟩) ns1.length c1 ∧ w1.cell? ⟨g, 0, none⟩ = some (.slice (some ⟨gr, 0, none⟩) ns.length c) ∧ w1.frozen? ⟨g, 0, none⟩ = false ∧ Pushed g B gr1 c1 words ns1 w w0 (w1.setCell ⟨g, 0, none⟩ (.slice (some ⟨gr1, 0, none⟩) ns1.length c1)) := by
  rw [← hns] at ho
  obtain ⟨A1, c1, rfl⟩ := Kd.R_slice ho
  obtain ⟨gr1, rfl⟩ := nd_row ho (by rw [hns]; simp)
  have hg1 := blk_grown (blk_drewN hg m) hgw (Kd.R_ne (nd_drewN hR m) (blk_drewN hg m) (by decide))
  obtain ⟨cur, hcur⟩ := nd_typed hR
  refine ⟨gr1, c1, rfl, (blk_cell hg1 0).trans (by simp), blk_frozen hg1 0, Kd.R_set ho hg1 (by decide) 0 _, blk_put hg1 0 _ rfl, hb.setCell hBg _, NKp.set_ (((NKp.refl g w).drew m).grown hgw (blk_drewN hcur m))⟩
theorem nd_stored {g B gr c i : Nat} {words : Int} {ns1 : List Nd} {x : Nd} {w w0 w2 w3 : World} (hP : Pushed g B gr c words ns1 w w0 w2)
    (ho : kNd.R 96 w3 B (fun _ => True) (.slice (some ⟨gr, 0, none⟩) ns1.length c) (ns1.set i x)) (hb : Below B w0 w3) (hg : w2.grownBy w3 (some gr)) : Pushed g B gr c words (ns1.set i x) w w0 w3 := by
  obtain ⟨cur, hcur⟩ := nd_typed hP.row
  exact ⟨by rw [List.length_set]; exact ho, by rw [List.length_set]; exact blk_grown hP.blk hg (Kd.R_ne hP.row hP.blk (by decide)), hb, hP.kept.grown hg hcur⟩
/-- What child leaves. -/
def ChildPost (g B : Nat) (words : Int) (w w0 : World) (ns' : List Nd) (n : Int) (e : Ending) (w' : World) : Prop :=
  ∃ A c, e = .returned (.int .i64 n) ∧ w'.heap[g]? = some (.cells #[.slice A ns'.length c, .int .i64 words] 79 (0, 0)) ∧ kNd.R 96 w' B (fun _ => True) (.slice A ns'.length c) ns' ∧ Below B w0 w' ∧ NKp g w w'
set_option maxHeartbeats 8000000 in
set_option maxRecDepth 100000 in
theorem child_at (f g B : Nat) (ns : List Nd) (words : Int) (A : Option Addr) (c : Nat) (at_ r n : Int) (ns' : List Nd) (w w0 : World) (hB0 : Below B w0 w) (hBw : B ≤ w.heap.size) (hBg : B ≤ g)
    (hg : w.heap[g]? = some (.cells #[.slice A ns.length c, .int .i64 words] 79 (0, 0))) (hR : kNd.R 96 w B (fun _ => True) (.slice A ns.length c) ns) (h : childF f ns at_ r = some (ns', n)) :
    Calls Try.prog 51 #[.pointer (some ⟨g, 0, none⟩), .int .i64 at_, .int .i32 r] w (ChildPost g B words w w0 ns' n) := by
  unfold childF at h
  split at h
  case isFalse => cases h
  case isTrue h0 =>
  split at h
  case isFalse => cases h
  case isTrue h1 =>
  obtain ⟨⟨b1, k1⟩, hs, h⟩ := Option.bind_eq_some_iff.mp h
  obtain ⟨gr, rfl⟩ := nd_row hR (by omega)
  have hC := (Kd.R_reads' hR).2.2
  have hk2 := nd_cells hC at_ h0 h1 2 _ rfl
  have hx := blk_cell hg 0
  simp at hx
  have HS := Aside0.mk hs
  have HH := Aside0.mk h
  have HG := Aside0.mk hg
  have HR := Aside0.mk hR
  have HB0 := Aside0.mk hB0
  have HBw := Aside0.mk hBw
  have HBg := Aside0.mk hBg
  have H0 := Aside0.mk h0
  have H1 := Aside0.mk h1
  clear hs h hg hR hB0 hBw hBg hC
  replace h0 := eq_true h0
  replace h1 := eq_true h1
  have a1 : (⟨gr, 0, none⟩ : Addr).add (at_.toNat * 4) = ⟨gr, at_.toNat * 4, none⟩ := add_plain _ _
  go_enter Try.func51, Try.ntmps51
  go_wp2
  go_quiet (fail)
  go_wp2
  go_loopg [7, 8] f (fun kq v7 v8 w' => ∃ (b k : Int), v7 = .int .i64 b ∧ v8 = .int .i64 k ∧ Aside0 (seekF ns r kq b k = some (b1, k1)) ∧ Drawn0 w w')
  case atStart => exact ⟨0, (ndAt ns at_).kid, rfl, rfl, HS, ⟨⟨_, rfl⟩⟩⟩
  case round =>
    obtain ⟨b, k, rfl, rfl, HS, ⟨m, rfl⟩⟩ := hrel
    cases gk with
    | zero => exact absurd HS.out (by simp [seekF])
    | succ f1 =>
      have H := HS.out
      clear HS
      simp only [seekF] at H
      by_cases c1 : 0 < k
      · rw [if_pos c1] at H
        by_cases c2 : k < (ns.length : Int)
        · rw [if_pos c2] at H
          have p1 : 0 ≤ k := by omega
          have hC := (Kd.R_reads' HR.out).2.2
          have hk0 : w.cell? ⟨gr, k.toNat * 4, none⟩ = some (.int .i32 (ndAt ns k).r) := nd_cells hC k p1 c2 0 _ rfl
          have hk3 := nd_cells hC k p1 c2 3 _ rfl
          clear hC
          by_cases c3 : (ndAt ns k).r < r
          · rw [if_pos c3] at H
            have HS := Aside0.mk H
            clear H
            have d1 := decide_eq_true c1
            have d3 := decide_eq_true c3
            replace c1 := eq_true c1
            replace c2 := eq_true c2
            replace p1 := eq_true p1
            clear c3
            go_wp2
            go_quiet (fail)
            go_wp2
            go_roundg f1
            case measure => omega
            case rel => exact ⟨k, (ndAt ns k).oth, rfl, rfl, HS, ⟨⟨_, by first | rfl | exact World.drewN_drewN ..⟩⟩⟩
          · rw [if_neg c3] at H
            obtain ⟨rfl, rfl⟩ : b = b1 ∧ k = k1 := by simpa using H
            have d1 := decide_eq_true c1
            have d3 := decide_eq_false c3
            clear H
            by_cases c4 : (ndAt ns k).r = r
            · have hres : ns = ns' ∧ k = n := by
                have := HH.out
                simp only [if_pos c1, if_pos c4] at this
                simpa using this
              obtain ⟨rfl, rfl⟩ := hres
              have d4 : ((ndAt ns k).r == r) = true := beq_iff_eq.mpr c4
              replace c1 := eq_true c1
              replace c2 := eq_true c2
              replace p1 := eq_true p1
              clear c3 c4
              go_wp2
              go_ret
              exact ⟨_, c, rfl, HG.out, nd_drewN HR.out _, pw_below_drewN HB0.out _, (NKp.refl _ _).drew _⟩
            · have hgr : growF ns at_ r b k = some (ns', n) := by
                have := HH.out
                simp only [if_pos c1, if_neg c4] at this
                exact this
              have d4 : ((ndAt ns k).r == r) = false := beq_eq_false_iff_ne.mpr c4
              replace c1 := eq_true c1
              replace c2 := eq_true c2
              replace p1 := eq_true p1
              clear c3 c4
              obtain ⟨hlen, hres⟩ : ns.length < 1000000000000 ∧ (if 0 < b then (if b < (ns.length : Int) then some (setOth (ns ++ [⟨r, false, 0, k⟩]) b (ns.length : Int), (ns.length : Int)) else none) else some (setKid (ns ++ [⟨r, false, 0, k⟩]) at_ (ns.length : Int), (ns.length : Int))) = some (ns', n) := by
                unfold growF at hgr
                split at hgr
                · exact ⟨by assumption, hgr⟩
                · cases hgr
              clear hgr
              have HRES := Aside0.mk hres
              have HLEN := Aside0.mk hlen
              clear hres hlen
              have hCur := Aside0.mk (nd_typed HR.out)
              by_cases cb : 0 < b
              · have db := decide_eq_true cb
                have hq := HRES.out
                rw [if_pos cb] at hq
                have cbl : b < (ns.length : Int) := by
                  by_cases h : b < (ns.length : Int)
                  · exact h
                  · rw [if_neg h] at hq
                    cases hq
                rw [if_pos cbl] at hq
                obtain ⟨hn1, hn2⟩ := Prod.mk.inj (Option.some.inj hq)
                have HN1 := Aside0.mk hn1
                have HN2 := Aside0.mk hn2
                have HCB := Aside0.mk cb
                have HCL := Aside0.mk cbl
                have pb := eq_true (show (0 : Int) ≤ b by omega)
                clear hq hn1 hn2 cb
                go_wp2_with (first | ((with_reducible refine gate_builtin (b := .append) (xs := #[.tmp 65, .tmp 69]) rfl ?_); at_builtin; refine Kd.R_append kNd (w0 := w0) B rfl (.tmp 65) (.tmp 69) 77 96 (.agg #[.int .i32 0, .bool false, .int .i64 0, .int .i64 0]) 24 rfl Try.underlying77 info_nd rfl (by decide) (by omega) (.slice (some ⟨gr, 0, none⟩) ns.length c) ns ⟨r, false, 0, k⟩ (ndc ⟨r, false, 0, k⟩) (fun _ => True) (fun _ => False) rfl rfl (kNd_mkM _ _ _ _) (fun _ hk => hk.elim) (fun _ _ => trivial) (nd_drewN HR.out _) (pw_below_drewN HB0.out _) HBw.out (by have := HLEN.out; omega) ?_; intro v1 w1 ho hb hgw hat; obtain ⟨ns1, hns1⟩ : ∃ l, l = ns ++ [⟨r, false, 0, k⟩] := ⟨_, rfl⟩; obtain ⟨gr1, c1', e1, hx1, hf1, hp⟩ := nd_pushed hns1 HBg.out HG.out HR.out ho hb hgw; subst e1; have HP := Aside0.mk hp; have hx2 : World.cell? _ ⟨g, 0, none⟩ = some (Value.slice (some ⟨gr1, 0, none⟩) ns1.length c1') := (blk_cell hp.blk 0).trans (by simp); have q1 := eq_true (show b < (ns1.length : Int) by have := HCL.out; rw [hns1, List.length_append]; omega); have HNS := Aside0.mk hns1; clear ho hb hgw hat hns1 hp) | ((with_reducible refine gate_ (.store 3 (.tmp 82) (.tmp 80)) rfl ?_); refine Kd.R_store kNd (w0 := w0) B rfl rfl 3 (.tmp 82) (.tmp 80) rfl 96 (o' := b.toNat * 4 + 3) b 3 ns1 ⟨(ndAt ns1 b).r, (ndAt ns1 b).e, (ndAt ns1 b).kid, (ns.length : Int)⟩ (.int .i64 (ns.length : Int)) [.int .i64 (ns.length : Int)] (ndc (ndAt ns1 b)) (fun _ => True) (fun _ => False) rfl rfl rfl rfl (by kernel_rfl) (by simp [Value.oneCell']) HP.out.row (of_eq_true pb) (of_eq_true q1) rfl (nd_cells (Kd.R_reads' HP.out.row).2.2 b (of_eq_true pb) (of_eq_true q1)) (by show 3 + 1 ≤ 4; omega) (kNd_mkM _ _ _ _) (fun _ hk => hk.elim) HP.out.below ?_; intro w3 ho3 hb3 hg3; have HF := Aside0.mk (nd_stored HP.out ho3 hb3 hg3); clear ho3 hb3 hg3))
                go_ret
                rw [HNS.out] at HF
                rw [← HN2.out, ← HN1.out]
                exact ⟨_, _, rfl, HF.out.blk, HF.out.row, HF.out.below, HF.out.kept⟩
              · have db := decide_eq_false cb
                have hq := HRES.out
                rw [if_neg cb] at hq
                obtain ⟨hn1, hn2⟩ := Prod.mk.inj (Option.some.inj hq)
                have HN1 := Aside0.mk hn1
                have HN2 := Aside0.mk hn2
                clear hq hn1 hn2 cb
                go_wp2_with (first | ((with_reducible refine gate_builtin (b := .append) (xs := #[.tmp 65, .tmp 69]) rfl ?_); at_builtin; refine Kd.R_append kNd (w0 := w0) B rfl (.tmp 65) (.tmp 69) 77 96 (.agg #[.int .i32 0, .bool false, .int .i64 0, .int .i64 0]) 24 rfl Try.underlying77 info_nd rfl (by decide) (by omega) (.slice (some ⟨gr, 0, none⟩) ns.length c) ns ⟨r, false, 0, k⟩ (ndc ⟨r, false, 0, k⟩) (fun _ => True) (fun _ => False) rfl rfl (kNd_mkM _ _ _ _) (fun _ hk => hk.elim) (fun _ _ => trivial) (nd_drewN HR.out _) (pw_below_drewN HB0.out _) HBw.out (by have := HLEN.out; omega) ?_; intro v1 w1 ho hb hgw hat; obtain ⟨ns1, hns1⟩ : ∃ l, l = ns ++ [⟨r, false, 0, k⟩] := ⟨_, rfl⟩; obtain ⟨gr1, c1', e1, hx1, hf1, hp⟩ := nd_pushed hns1 HBg.out HG.out HR.out ho hb hgw; subst e1; have HP := Aside0.mk hp; have hx2 : World.cell? _ ⟨g, 0, none⟩ = some (Value.slice (some ⟨gr1, 0, none⟩) ns1.length c1') := (blk_cell hp.blk 0).trans (by simp); have q1 := eq_true (show at_ < (ns1.length : Int) by have := H1.out; rw [hns1, List.length_append]; omega); have HNS := Aside0.mk hns1; clear ho hb hgw hat hns1 hp) | ((with_reducible refine gate_ (.store 3 (.tmp 90) (.tmp 88)) rfl ?_); refine Kd.R_store kNd (w0 := w0) B rfl rfl 3 (.tmp 90) (.tmp 88) rfl 96 (o' := at_.toNat * 4 + 2) at_ 2 ns1 ⟨(ndAt ns1 at_).r, (ndAt ns1 at_).e, (ns.length : Int), (ndAt ns1 at_).oth⟩ (.int .i64 (ns.length : Int)) [.int .i64 (ns.length : Int)] (ndc (ndAt ns1 at_)) (fun _ => True) (fun _ => False) rfl rfl rfl rfl (by kernel_rfl) (by simp [Value.oneCell']) HP.out.row H0.out (of_eq_true q1) rfl (nd_cells (Kd.R_reads' HP.out.row).2.2 at_ H0.out (of_eq_true q1)) (by show 2 + 1 ≤ 4; omega) (kNd_mkM _ _ _ _) (fun _ hk => hk.elim) HP.out.below ?_; intro w3 ho3 hb3 hg3; have HF := Aside0.mk (nd_stored HP.out ho3 hb3 hg3); clear ho3 hb3 hg3))
                go_ret
                rw [HNS.out] at HF
                rw [← HN2.out, ← HN1.out]
                exact ⟨_, _, rfl, HF.out.blk, HF.out.row, HF.out.below, HF.out.kept⟩
        · rw [if_neg c2] at H
          cases H
      · rw [if_neg c1] at H
        obtain ⟨rfl, rfl⟩ : b = b1 ∧ k = k1 := by simpa using H
        have d1 := decide_eq_false c1
        have hgr : growF ns at_ r b k = some (ns', n) := by
          have := HH.out
          simp only [if_neg c1] at this
          exact this
        clear H c1
        obtain ⟨hlen, hres⟩ : ns.length < 1000000000000 ∧ (if 0 < b then (if b < (ns.length : Int) then some (setOth (ns ++ [⟨r, false, 0, k⟩]) b (ns.length : Int), (ns.length : Int)) else none) else some (setKid (ns ++ [⟨r, false, 0, k⟩]) at_ (ns.length : Int), (ns.length : Int))) = some (ns', n) := by
          unfold growF at hgr
          split at hgr
          · exact ⟨by assumption, hgr⟩
          · cases hgr
        clear hgr
        have HRES := Aside0.mk hres
        have HLEN := Aside0.mk hlen
        clear hres hlen
        have hCur := Aside0.mk (nd_typed HR.out)
        by_cases cb : 0 < b
        · have db := decide_eq_true cb
          have hq := HRES.out
          rw [if_pos cb] at hq
          have cbl : b < (ns.length : Int) := by
            by_cases h : b < (ns.length : Int)
            · exact h
            · rw [if_neg h] at hq
              cases hq
          rw [if_pos cbl] at hq
          obtain ⟨hn1, hn2⟩ := Prod.mk.inj (Option.some.inj hq)
          have HN1 := Aside0.mk hn1
          have HN2 := Aside0.mk hn2
          have HCB := Aside0.mk cb
          have HCL := Aside0.mk cbl
          have pb := eq_true (show (0 : Int) ≤ b by omega)
          clear hq hn1 hn2 cb
          go_wp2_with (first | ((with_reducible refine gate_builtin (b := .append) (xs := #[.tmp 65, .tmp 69]) rfl ?_); at_builtin; refine Kd.R_append kNd (w0 := w0) B rfl (.tmp 65) (.tmp 69) 77 96 (.agg #[.int .i32 0, .bool false, .int .i64 0, .int .i64 0]) 24 rfl Try.underlying77 info_nd rfl (by decide) (by omega) (.slice (some ⟨gr, 0, none⟩) ns.length c) ns ⟨r, false, 0, k⟩ (ndc ⟨r, false, 0, k⟩) (fun _ => True) (fun _ => False) rfl rfl (kNd_mkM _ _ _ _) (fun _ hk => hk.elim) (fun _ _ => trivial) (nd_drewN HR.out _) (pw_below_drewN HB0.out _) HBw.out (by have := HLEN.out; omega) ?_; intro v1 w1 ho hb hgw hat; obtain ⟨ns1, hns1⟩ : ∃ l, l = ns ++ [⟨r, false, 0, k⟩] := ⟨_, rfl⟩; obtain ⟨gr1, c1', e1, hx1, hf1, hp⟩ := nd_pushed hns1 HBg.out HG.out HR.out ho hb hgw; subst e1; have HP := Aside0.mk hp; have hx2 : World.cell? _ ⟨g, 0, none⟩ = some (Value.slice (some ⟨gr1, 0, none⟩) ns1.length c1') := (blk_cell hp.blk 0).trans (by simp); have q1 := eq_true (show b < (ns1.length : Int) by have := HCL.out; rw [hns1, List.length_append]; omega); have HNS := Aside0.mk hns1; clear ho hb hgw hat hns1 hp) | ((with_reducible refine gate_ (.store 3 (.tmp 82) (.tmp 80)) rfl ?_); refine Kd.R_store kNd (w0 := w0) B rfl rfl 3 (.tmp 82) (.tmp 80) rfl 96 (o' := b.toNat * 4 + 3) b 3 ns1 ⟨(ndAt ns1 b).r, (ndAt ns1 b).e, (ndAt ns1 b).kid, (ns.length : Int)⟩ (.int .i64 (ns.length : Int)) [.int .i64 (ns.length : Int)] (ndc (ndAt ns1 b)) (fun _ => True) (fun _ => False) rfl rfl rfl rfl (by kernel_rfl) (by simp [Value.oneCell']) HP.out.row (of_eq_true pb) (of_eq_true q1) rfl (nd_cells (Kd.R_reads' HP.out.row).2.2 b (of_eq_true pb) (of_eq_true q1)) (by show 3 + 1 ≤ 4; omega) (kNd_mkM _ _ _ _) (fun _ hk => hk.elim) HP.out.below ?_; intro w3 ho3 hb3 hg3; have HF := Aside0.mk (nd_stored HP.out ho3 hb3 hg3); clear ho3 hb3 hg3))
          go_ret
          rw [HNS.out] at HF
          rw [← HN2.out, ← HN1.out]
          exact ⟨_, _, rfl, HF.out.blk, HF.out.row, HF.out.below, HF.out.kept⟩
        · have db := decide_eq_false cb
          have hq := HRES.out
          rw [if_neg cb] at hq
          obtain ⟨hn1, hn2⟩ := Prod.mk.inj (Option.some.inj hq)
          have HN1 := Aside0.mk hn1
          have HN2 := Aside0.mk hn2
          clear hq hn1 hn2 cb
          go_wp2_with (first | ((with_reducible refine gate_builtin (b := .append) (xs := #[.tmp 65, .tmp 69]) rfl ?_); at_builtin; refine Kd.R_append kNd (w0 := w0) B rfl (.tmp 65) (.tmp 69) 77 96 (.agg #[.int .i32 0, .bool false, .int .i64 0, .int .i64 0]) 24 rfl Try.underlying77 info_nd rfl (by decide) (by omega) (.slice (some ⟨gr, 0, none⟩) ns.length c) ns ⟨r, false, 0, k⟩ (ndc ⟨r, false, 0, k⟩) (fun _ => True) (fun _ => False) rfl rfl (kNd_mkM _ _ _ _) (fun _ hk => hk.elim) (fun _ _ => trivial) (nd_drewN HR.out _) (pw_below_drewN HB0.out _) HBw.out (by have := HLEN.out; omega) ?_; intro v1 w1 ho hb hgw hat; obtain ⟨ns1, hns1⟩ : ∃ l, l = ns ++ [⟨r, false, 0, k⟩] := ⟨_, rfl⟩; obtain ⟨gr1, c1', e1, hx1, hf1, hp⟩ := nd_pushed hns1 HBg.out HG.out HR.out ho hb hgw; subst e1; have HP := Aside0.mk hp; have hx2 : World.cell? _ ⟨g, 0, none⟩ = some (Value.slice (some ⟨gr1, 0, none⟩) ns1.length c1') := (blk_cell hp.blk 0).trans (by simp); have q1 := eq_true (show at_ < (ns1.length : Int) by have := H1.out; rw [hns1, List.length_append]; omega); have HNS := Aside0.mk hns1; clear ho hb hgw hat hns1 hp) | ((with_reducible refine gate_ (.store 3 (.tmp 90) (.tmp 88)) rfl ?_); refine Kd.R_store kNd (w0 := w0) B rfl rfl 3 (.tmp 90) (.tmp 88) rfl 96 (o' := at_.toNat * 4 + 2) at_ 2 ns1 ⟨(ndAt ns1 at_).r, (ndAt ns1 at_).e, (ns.length : Int), (ndAt ns1 at_).oth⟩ (.int .i64 (ns.length : Int)) [.int .i64 (ns.length : Int)] (ndc (ndAt ns1 at_)) (fun _ => True) (fun _ => False) rfl rfl rfl rfl (by kernel_rfl) (by simp [Value.oneCell']) HP.out.row H0.out (of_eq_true q1) rfl (nd_cells (Kd.R_reads' HP.out.row).2.2 at_ H0.out (of_eq_true q1)) (by show 2 + 1 ≤ 4; omega) (kNd_mkM _ _ _ _) (fun _ hk => hk.elim) HP.out.below ?_; intro w3 ho3 hb3 hg3; have HF := Aside0.mk (nd_stored HP.out ho3 hb3 hg3); clear ho3 hb3 hg3))
          go_ret
          rw [HNS.out] at HF
          rw [← HN2.out, ← HN1.out]
          exact ⟨_, _, rfl, HF.out.blk, HF.out.row, HF.out.below, HF.out.kept⟩
end Go.Proofs.Ytokgkhndhlcfpaa.X
