/- The functions of package trie that only read the nodes, proved by hand: Len, Size, Ends, Kids. -/
import Derived.Test.YtokgkhndhlcfpaaHTrie2
namespace Go.Proofs.Ytokgkhndhlcfpaa.X
open Go.RowKit Go.Proofs.YtokgkhndhlcfpaaW.PrintWords Go.Proofs.YtokgkhndhlcfpaaW.PrintLast Go.Proofs.YtokgkhndhlcfpaaW.PrintMore
open Go.Proofs.Ytokgkhndhlcfpaa.M
set_option linter.unusedVariables false
set_option linter.unusedSimpArgs false

/-- What a trie is: its nodes, and how many words there are. -/
abbrev TrT := List Nd × Int
/-- What a pointer to a trie leads to. -/
def TrP : Pd TrT := fun W v xs => (xs = [] ∧ v = .pointer none) ∨ ∃ ns words g A c, xs = [(ns, words)] ∧ v = .pointer (some ⟨g, 0, none⟩) ∧
  W.heap[g]? = some (.cells #[.slice A ns.length c, .int .i64 words] 79 (0, 0)) ∧ kNd.R 96 W 0 (fun _ => True) (.slice A ns.length c) ns
theorem TrP_nil (W : World) : TrP W (.pointer none) [] := .inl ⟨rfl, rfl⟩
theorem TrP_below {W W1 : World} {v : Value} {xs : List TrT} (h : TrP W v xs) (hb : Below W.heap.size W W1) : TrP W1 v xs := by
  rcases h with h | ⟨ns, words, g, A, c, h1, h2, hg, hR⟩
  · exact .inl h
  · exact .inr ⟨ns, words, g, A, c, h1, h2, (hb.block g (Array.getElem?_eq_some_iff.1 hg).1).trans hg, Kd.R_below hR hb⟩
def trie_Trie_Len.f (l0 : List TrT) : Option Int := match l0 with
  | [] => some 0
  | (_, n) :: _ => some n
theorem trie_Trie_Len.calls (V0 : Value) (l0 : List TrT) (r : Int) (w : World) (hs0 : TrP w V0 l0) (h : trie_Trie_Len.f l0 = some r) :
    Calls Try.prog 16 #[V0] w fun e w' => e = .returned (.int .i64 r) ∧ Drawn0 w w' := by
  rcases hs0 with ⟨rfl, rfl⟩ | ⟨ns, words, g, A, c, rfl, rfl, hg, hR⟩
  · injection h with h
    subst h
    go_enter Try.func16, Try.ntmps16
    go_wp2
    go_ret
    exact ⟨rfl, Drawn0.refl _⟩
  · injection h with h
    subst h
    have hx := blk_cell hg 1
    simp at hx
    clear hg hR
    go_enter Try.func16, Try.ntmps16
    go_wp2
    go_ret
    exact ⟨rfl, Drawn0.refl _⟩
def trie_Trie_Root.f (l0 : List TrT) : Option Int := some 0
theorem trie_Trie_Root.calls (V0 : Value) (l0 : List TrT) (r : Int) (w : World) (hs0 : TrP w V0 l0) (h : trie_Trie_Root.f l0 = some r) :
    Calls Try.prog 34 #[V0] w fun e w' => e = .returned (.int .i64 r) ∧ Drawn0 w w' := by
  injection h with h
  subst h
  clear hs0
  go_enter Try.func34, Try.ntmps34
  go_wp2
  go_ret
  exact ⟨rfl, Drawn0.refl _⟩
def trie_Trie_Size.f (l0 : List TrT) : Option Int := match l0 with
  | [] => some 0
  | (ns, _) :: _ => if ns.length < 1000000000000 then some ((ns.length : Int) - 1) else none
theorem trie_Trie_Size.calls (V0 : Value) (l0 : List TrT) (r : Int) (w : World) (hs0 : TrP w V0 l0) (h : trie_Trie_Size.f l0 = some r) :
    Calls Try.prog 35 #[V0] w fun e w' => e = .returned (.int .i64 r) ∧ Drawn0 w w' := by
  rcases hs0 with ⟨rfl, rfl⟩ | ⟨ns, words, g, A, c, rfl, rfl, hg, hR⟩
  · injection h with h
    subst h
    go_enter Try.func35, Try.ntmps35
    go_wp2
    go_ret
    exact ⟨rfl, Drawn0.refl _⟩
  · have h : (if ns.length < 1000000000000 then some ((ns.length : Int) - 1) else none) = some r := h
    split at h
    case isFalse => cases h
    case isTrue hl =>
    injection h with h
    have hx := blk_cell hg 0
    simp at hx
    have hw : wrap64 ((ns.length : Int) - 1) = r := by rw [← h]; exact w64 (by omega) (by omega)
    have HW := Aside0.mk hw
    clear hg hR h hl hw
    go_enter Try.func35, Try.ntmps35
    go_wp2
    go_ret
    exact ⟨by (rw [← HW.out]; rfl), Drawn0.refl _⟩
def trie_Trie_Ends.f (l0 : List TrT) (a1 : Int) : Option Bool := match l0 with
  | [] => some false
  | (ns, _) :: _ => if 0 ≤ a1 then (if a1 < (ns.length : Int) then some (ndAt ns a1).e else some false) else some false
set_option maxHeartbeats 4000000 in
theorem trie_Trie_Ends.calls (V0 : Value) (l0 : List TrT) (a1 : Int) (r : Bool) (w : World) (hs0 : TrP w V0 l0) (h : trie_Trie_Ends.f l0 a1 = some r) :
    Calls Try.prog 33 #[V0, .int .i64 a1] w fun e w' => e = .returned (.bool r) ∧ Drawn0 w w' := by
  rcases hs0 with ⟨rfl, rfl⟩ | ⟨ns, words, g, A, c, rfl, rfl, hg, hR⟩
  · injection h with h
    subst h
    go_enter Try.func33, Try.ntmps33
    go_wp2
    go_ret
    exact ⟨rfl, Drawn0.refl _⟩
  · have h : (if 0 ≤ a1 then (if a1 < (ns.length : Int) then some (ndAt ns a1).e else some false) else some false) = some r := h
    have hx := blk_cell hg 0
    simp at hx
    clear hg
    by_cases h0 : 0 ≤ a1
    · rw [if_pos h0] at h
      have d0 := decide_eq_true h0
      by_cases h1 : a1 < (ns.length : Int)
      · rw [if_pos h1] at h
        injection h with h
        obtain ⟨gr, rfl⟩ := nd_row hR (by omega)
        have he := nd_cells (Kd.R_reads' hR).2.2 a1 h0 h1 1 _ rfl
        rw [h] at he
        have d1 := decide_eq_true h1
        have e0 := eq_true h0
        have e1 := eq_true h1
        clear hR h h0 h1
        go_enter Try.func33, Try.ntmps33
        go_wp2
        go_ret
        exact ⟨rfl, Drawn0.refl _⟩
      · rw [if_neg h1] at h
        injection h with h
        subst h
        have d1 := decide_eq_false h1
        clear hR h0 h1
        go_enter Try.func33, Try.ntmps33
        go_wp2
        go_ret
        exact ⟨rfl, Drawn0.refl _⟩
    · rw [if_neg h0] at h
      injection h with h
      subst h
      have d0 := decide_eq_false h0
      clear hR h0
      go_enter Try.func33, Try.ntmps33
      go_wp2
      go_ret
      exact ⟨rfl, Drawn0.refl _⟩
def trie_Trie_Kids.l0 : Nat → List Nd → Int → List Int → List Int → Option (List Int × List Int)
  | 0, _, _, _, _ => none
  | f + 1, ns, k, rs, ls => if 0 < k then (if k < (ns.length : Int) then (if rs.length < 1000000000000 ∧ ls.length < 1000000000000 then trie_Trie_Kids.l0 f ns (ndAt ns k).oth (rs ++ [(ndAt ns k).r]) (ls ++ [k]) else none) else none) else some (rs, ls)
def trie_Trie_Kids.f (k : Nat) (l0 : List TrT) (a1 : Int) : Option (List Int × List Int) := match l0 with
  | [] => some ([], [])
  | (ns, _) :: _ => if 0 ≤ a1 then (if a1 < (ns.length : Int) then trie_Trie_Kids.l0 k ns (ndAt ns a1).kid [] [] else some ([], [])) else some ([], [])
theorem trie_Trie_Kids.mono_l : ∀ k ns a b c, LeO (trie_Trie_Kids.l0 k ns a b c) (trie_Trie_Kids.l0 (k + 1) ns a b c)
  | 0 => fun _ _ _ _ r h => by simp [trie_Trie_Kids.l0] at h
  | k + 1 => by
    intro ns a b c
    unfold trie_Trie_Kids.l0
    exact LeO.ite (LeO.ite (LeO.ite (trie_Trie_Kids.mono_l k _ _ _ _) (LeO.refl _)) (LeO.refl _)) (LeO.refl _)
theorem trie_Trie_Kids.mono : ∀ a0 a1 k, LeO (trie_Trie_Kids.f k a0 a1) (trie_Trie_Kids.f (k + 1) a0 a1) := by
  intro a0 a1 k
  unfold trie_Trie_Kids.f
  rcases a0 with _ | ⟨⟨ns, n⟩, t⟩
  · exact LeO.refl _
  · exact LeO.ite (LeO.ite (trie_Trie_Kids.mono_l _ _ _ _ _) (LeO.refl _)) (LeO.refl _)
theorem hinfo_i32 : (Try.prog.info? 21).map (fun i => (i.zero, i.size, i.bytes)) = some (some (.int .i32 0), 1, 4) := by kernel_rfl
theorem hinfo_i64 : (Try.prog.info? 3).map (fun i => (i.zero, i.size, i.bytes)) = some (some (.int .i64 0), 1, 8) := by kernel_rfl
/-- What Kids hands back. -/
def KidsPost (w : World) (r1 r2 : List Int) (e : Ending) (w' : World) : Prop :=
  ∃ v0_ v1_ : Value, e = .returned (.tuple #[v0_, v1_]) ∧ Kd.R (Kd.int .i32) 21 w' w.heap.size (fun _ => True) v0_ r1 ∧ Kd.R (Kd.int .i64) 3 w' w.heap.size (fun _ => True) v1_ r2 ∧ Below w.heap.size w w'
set_option maxHeartbeats 8000000 in
set_option maxRecDepth 100000 in
theorem kids_at (k : Nat) (V0 : Value) (l0 : List TrT) (a1 : Int) (r1 r2 : List Int) (w : World) (hs0 : TrP w V0 l0) (h : trie_Trie_Kids.f k l0 a1 = some (r1, r2)) :
    Calls Try.prog 32 #[V0, .int .i64 a1] w (KidsPost w r1 r2) := by
  have nil : KidsPost w [] [] (.returned (.tuple #[.slice none 0 0, .slice none 0 0])) w := ⟨_, _, rfl, Kd.R_nil _ _ _ _ _, Kd.R_nil _ _ _ _ _, Below.refl _ _⟩
  have NIL := Aside0.mk nil
  clear nil
  rcases hs0 with ⟨rfl, rfl⟩ | ⟨ns, words, g, A, c, rfl, rfl, hg, hR⟩
  · obtain ⟨rfl, rfl⟩ : [] = r1 ∧ [] = r2 := by simpa [trie_Trie_Kids.f] using h
    go_enter Try.func32, Try.ntmps32
    go_wp2
    go_ret2
    exact NIL.out
  · have h : (if 0 ≤ a1 then (if a1 < (ns.length : Int) then trie_Trie_Kids.l0 k ns (ndAt ns a1).kid [] [] else some ([], [])) else some ([], [])) = some (r1, r2) := h
    have hx := blk_cell hg 0
    simp at hx
    clear hg
    by_cases h0 : 0 ≤ a1
    · rw [if_pos h0] at h
      have d0 := decide_eq_false (show ¬ a1 < 0 by omega)
      by_cases h1 : a1 < (ns.length : Int)
      · rw [if_pos h1] at h
        obtain ⟨gr, rfl⟩ := nd_row hR (by omega)
        have he := nd_cells (Kd.R_reads' hR).2.2 a1 h0 h1 2 _ rfl
        have d1 := decide_eq_false (show ¬ (ns.length : Int) ≤ a1 by omega)
        have e0 := eq_true h0
        have e1 := eq_true h1
        have HH := Aside0.mk h
        have HR := Aside0.mk hR
        have HX := Aside0.mk hx
        clear hR h h0 h1
        go_enter Try.func32, Try.ntmps32
        go_wp2
        go_loopg [6, 7, 8] k (fun kq v6 v7 v8 w' => ∃ (k8 : Int) (rs ls : List Int), v8 = .int .i64 k8 ∧ Aside0 (trie_Trie_Kids.l0 kq ns k8 rs ls = some (r1, r2)) ∧ Aside0 (Kd.R (Kd.int .i32) 21 w' w.heap.size (fun _ => True) v6 rs) ∧ Aside0 (Kd.R (Kd.int .i64) 3 w' w.heap.size (fun _ => True) v7 ls) ∧ Aside0 (Below w.heap.size w w'))
        case atStart => exact ⟨_, [], [], rfl, HH, ⟨Kd.R_nil _ _ _ _ _⟩, ⟨Kd.R_nil _ _ _ _ _⟩, ⟨Below.refl _ _⟩⟩
        case round =>
          clear HH hx
          obtain ⟨k8, rs, ls, rfl, HH, HO6, HO7, HB⟩ := hrel
          cases gk with
          | zero => exact absurd HH.out (by simp [trie_Trie_Kids.l0])
          | succ f1 =>
            have H := HH.out
            clear HH
            simp only [trie_Trie_Kids.l0] at H
            by_cases c1 : 0 < k8
            · rw [if_pos c1] at H
              by_cases c2 : k8 < (ns.length : Int)
              · rw [if_pos c2] at H
                by_cases c3 : rs.length < 1000000000000 ∧ ls.length < 1000000000000
                · rw [if_pos c3] at H
                  have HC3 := Aside0.mk c3
                  have HH := Aside0.mk H
                  clear H c3
                  have p1 : 0 ≤ k8 := by omega
                  have hC := (Kd.R_reads' HR.out).2.2
                  have hk0 := Aside0.mk (show w.cell? ⟨gr, k8.toNat * 4, none⟩ = some (.int .i32 (ndAt ns k8).r) from nd_cells hC k8 p1 c2 0 _ rfl)
                  have hk3 := Aside0.mk (nd_cells hC k8 p1 c2 3 _ rfl)
                  clear hC
                  have g0 := pw_cell_below HB.out HX.out
                  have g1 := pw_cell_below HB.out hk0.out
                  have dd := decide_eq_true c1
                  replace c1 := eq_true c1
                  replace c2 := eq_true c2
                  replace p1 := eq_true p1
                  go_wp2_with (first
                    | ((with_reducible refine gate_builtin (b := .append) (xs := #[.tmp 42, .tmp 51]) rfl ?_); at_builtin; refine Kd.R_append (Kd.int .i32) (w0 := w) w.heap.size rfl (.tmp 42) (.tmp 51) 63 21 (.int .i32 0) 4 rfl Try.underlying63 hinfo_i32 rfl (by decide) (by omega) _ rs (ndAt ns k8).r [.int .i32 (ndAt ns k8).r] (fun _ => True) (fun _ => False) rfl rfl rfl (fun _ hk => hk.elim) (fun _ _ => trivial) HO6.out HB.out (below_size HB.out) (by have := HC3.out; omega) ?_; intro v1 w1 ho hb hgw hat; have n6 := Aside0.mk ho; have n7 := Aside0.mk (Kd.R_over HO7.out HO6.out (by decide) hgw); clear HO6 HO7 HB g0 g1; have HO6 := n6; have HO7 := n7; have HB := Aside0.mk hb; clear n6 n7 ho hb hgw hat)
                    | ((with_reducible refine gate_builtin (b := .append) (xs := #[.tmp 53, .tmp 55]) rfl ?_); at_builtin; refine Kd.R_append (Kd.int .i64) (w0 := w) w.heap.size rfl (.tmp 53) (.tmp 55) 67 3 (.int .i64 0) 8 rfl Try.underlying67 hinfo_i64 rfl (by decide) (by omega) _ ls k8 [.int .i64 k8] (fun _ => True) (fun _ => False) rfl rfl rfl (fun _ hk => hk.elim) (fun _ _ => trivial) HO7.out HB.out (below_size HB.out) (by have := HC3.out; omega) ?_; intro v2 w2 ho hb hgw hat; have n7 := Aside0.mk ho; have n6 := Aside0.mk (Kd.R_over HO6.out HO7.out (by decide) hgw); clear HO6 HO7 HB; have HO6 := n6; have HO7 := n7; have HB := Aside0.mk hb; clear n6 n7 ho hb hgw hat; have g0 := pw_cell_below HB.out HX.out; have g1 := pw_cell_below HB.out hk3.out))
                  go_roundg f1
                  case measure => omega
                  case rel => exact ⟨_, _, _, rfl, HH, HO6, HO7, HB⟩
                · rw [if_neg c3] at H
                  cases H
              · rw [if_neg c2] at H
                cases H
            · rw [if_neg c1] at H
              obtain ⟨rfl, rfl⟩ : rs = r1 ∧ ls = r2 := by simpa using H
              have dd := decide_eq_false c1
              clear c1 H
              go_wp2
              go_ret2
              exact ⟨_, _, rfl, HO6.out, HO7.out, HB.out⟩
      · obtain ⟨rfl, rfl⟩ : [] = r1 ∧ [] = r2 := by rw [if_neg h1] at h; simpa using h
        have d1 := decide_eq_true (show (ns.length : Int) ≤ a1 by omega)
        clear hR h0 h1 h
        go_enter Try.func32, Try.ntmps32
        go_wp2
        go_ret2
        exact NIL.out
    · obtain ⟨rfl, rfl⟩ : [] = r1 ∧ [] = r2 := by rw [if_neg h0] at h; simpa using h
      have d0 := decide_eq_true (show a1 < 0 by omega)
      clear hR h0 h
      go_enter Try.func32, Try.ntmps32
      go_wp2
      go_ret2
      exact NIL.out
theorem trie_Trie_Kids.calls (k : Nat) (V0 : Value) (l0 : List TrT) (a1 : Int) (r1 r2 : List Int) (w : World) (hs0 : TrP w V0 l0) (h : trie_Trie_Kids.f k l0 a1 = some (r1, r2)) :
    Calls Try.prog 32 #[V0, .int .i64 a1] w fun e w' => ∃ v0_ v1_ : Value, e = .returned (.tuple #[v0_, v1_]) ∧ Kd.R (Kd.int .i32) 21 w' w.heap.size (fun _ => True) v0_ r1 ∧ Kd.R (Kd.int .i64) 3 w' w.heap.size (fun _ => True) v1_ r2 ∧ Below w.heap.size w w' :=
  kids_at k V0 l0 a1 r1 r2 w hs0 h
end Go.Proofs.Ytokgkhndhlcfpaa.X
