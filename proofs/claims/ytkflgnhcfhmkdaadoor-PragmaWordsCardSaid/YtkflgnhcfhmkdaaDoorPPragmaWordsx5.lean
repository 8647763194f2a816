-- x
import Derived.Test.YtkflgnhcfhmkdaaDoorPPragmaWordsx0
import Derived.Test.YtkflgnhcfhmkdaaDoorPPragmaWordsx1
import Derived.Test.YtkflgnhcfhmkdaaDoorPPragmaWordsx2
import Derived.Test.YtkflgnhcfhmkdaaDoorPPragmaWordsx3
import Derived.Test.YtkflgnhcfhmkdaaDoorPPragmaWordsx4
namespace Go.Proofs.YtkflgnhcfhmkdaaDoor.PPragmaWords
open Go.RowKit Go.Proofs.YtkflgnhcfhmkdaaDoor.X Go.Proofs.YtkflgnhcfhmkdaaDoorW.PrintWords Go.Proofs.YtkflgnhcfhmkdaaDoorW.PrintLast Go.Proofs.YtkflgnhcfhmkdaaDoorW.PrintMore
attribute [local go_sem] max2_int min2_int max_two min_two max_three min_three max_four min_four   -- for this text's walks alone
set_option linter.unusedVariables false
set_option linter.unusedSimpArgs false

/-! ### pragma_Rules_known: function 22 -/
section
open Go.Proofs.YtkflgnhcfhmkdaaDoor.H
theorem pragma_Rules_known.gr (x : Int) : ∃ b, fold_great.f x = some b := by
  unfold fold_great.f
  repeat' first | exact ⟨_, rfl⟩ | split
theorem pragma_Rules_known.sm (x : Int) : ∃ b, fold_small.f x = some b := by
  unfold fold_small.f
  repeat' first | exact ⟨_, rfl⟩ | split
theorem pragma_Rules_known.lt (x : Int) : ∃ b, fold_Letter.f x = some b := by
  obtain ⟨g, hg⟩ := pragma_Rules_known.gr x
  obtain ⟨s, hs⟩ := pragma_Rules_known.sm x
  unfold fold_Letter.f
  rw [hg, hs]
  simp only [Option.bind_some]
  repeat' first | exact ⟨_, rfl⟩ | split
theorem pragma_Rules_known.pt (x : Int) : ∃ b, pragma_Rules_known_1.f x = some b := by
  obtain ⟨b, hb⟩ := pragma_Rules_known.lt x
  unfold pragma_Rules_known_1.f
  rw [hb]
  simp only [Option.bind_some]
  repeat' first | exact ⟨_, rfl⟩ | split
/-- What ends a word. -/
def pragma_Rules_known.p (x : Nat) : Bool := (pragma_Rules_known_1.f (x : Int)).getD false
/-- How many bytes a word has, at a text's beginning. -/
def pragma_Rules_known.n (t : ByteArray) : Nat := if Lib.idxFunc pragma_Rules_known.p true t < 0 then t.size else (Lib.idxFunc pragma_Rules_known.p true t).toNat
def pragma_Rules_known.f : Nat → ByteArray → List ByteArray → Option (List ByteArray)
  | 0, _, _ => none
  | k + 1, s, ws => if pragma_Rules_known.n (trimB s) ≤ (trimB s).size then (lists_Check.f k ((trimB s).extract 0 (pragma_Rules_known.n (trimB s)))).bind fun c =>
      if c = 0 then (fold_Fold.f k ((trimB s).extract 0 (pragma_Rules_known.n (trimB s)))).bind fun u => if ws.length < 1000000000000 then (if u.size ≤ 140737488351232 then pragma_Rules_known.f k ((trimB s).extract (pragma_Rules_known.n (trimB s)) (trimB s).size) (ws ++ [u]) else none) else none
      else some ws else none
theorem pragma_Rules_known.mono : ∀ k a0 a1, LeO (pragma_Rules_known.f k a0 a1) (pragma_Rules_known.f (k + 1) a0 a1)
  | 0, a0, a1 => fun r h => by simp [pragma_Rules_known.f] at h
  | k + 1, a0, a1 => by
    unfold pragma_Rules_known.f
    exact LeO.ite (LeO.bind (lists_Check.mono _ _) (fun _ => LeO.ite (LeO.bind (fold_Fold.mono _ _) (fun _ => LeO.ite (LeO.ite (pragma_Rules_known.mono k _ _) (LeO.refl _)) (LeO.refl _))) (LeO.refl _))) (LeO.refl _)
set_option maxHeartbeats 8000000 in
set_option maxRecDepth 100000 in
theorem pragma_Rules_known.at (k g m B C : Nat) (wB : World) (off : List (Int × Int)) (s : ByteArray) (ws r : List ByteArray) (w0 w : World) (hS : RlSt g m B C wB off ws w0 w) (h : pragma_Rules_known.f k s ws = some r) :
    Calls Tryd.prog 22 #[.pointer (some ⟨g, 0, none⟩), .string s] w fun e w' => e = .returned (.tuple #[]) ∧ RlSt g m B C wB off r w0 w' := by
  have HS := Aside0.mk hS
  have HH := Aside0.mk h
  clear hS h
  go_enter Tryd.func22, Tryd.ntmps22
  go_wp2
  go_loopg [1] k (fun kq v1 w' => ∃ (s1 : ByteArray) (ws1 : List ByteArray), v1 = .string s1 ∧ Aside0 (pragma_Rules_known.f kq s1 ws1 = some r) ∧ Aside0 (RlSt g m B C wB off ws1 w0 w'))
  case atStart => exact ⟨_, _, rfl, HH, HS⟩
  case round =>
    clear HH HS
    obtain ⟨s1, ws1, rfl, HH, HS⟩ := hrel
    cases gk with
    | zero => exact absurd HH.out (by simp [pragma_Rules_known.f])
    | succ k1 =>
      have H := HH.out
      clear HH
      simp only [pragma_Rules_known.f] at H
      have hid : Lib.idxFunc pragma_Rules_known.p true (trimB s1) = -1 ∨ Lib.idxFunc pragma_Rules_known.p true (trimB s1) = (pragma_Rules_known.n (trimB s1) : Int) := by
        unfold pragma_Rules_known.n
        have hr := Lib.idxFuncFrom_range pragma_Rules_known.p true (trimB s1) (trimB s1).size 0
        rcases hr with hr | hr
        · exact .inl hr
        · right
          have h0 : 0 ≤ Lib.idxFunc pragma_Rules_known.p true (trimB s1) := hr.1
          rw [if_neg (by omega)]
          omega
      have hne : Lib.idxFunc pragma_Rules_known.p true (trimB s1) = -1 → pragma_Rules_known.n (trimB s1) = (trimB s1).size := by
        intro e
        unfold pragma_Rules_known.n
        rw [e, if_pos (by decide)]
      obtain ⟨t, ht⟩ : ∃ t, t = trimB s1 := ⟨_, rfl⟩
      have TR := fun (W : World) => (show Calls Tryd.prog 28 #[.string s1, .string ⟨#[32, 9, 44]⟩] W fun e w' => e = .returned (.string t) ∧ Below W.heap.size W w' by rw [ht]; exact trim_at s1 W)
      rw [← ht] at H hid hne
      clear ht
      generalize pragma_Rules_known.n t = n at H hid hne
      split at H
      case isFalse => cases H
      case isTrue hn =>
      obtain ⟨c, hc, H⟩ := Option.bind_eq_some_iff.mp H
      have HCK := Aside0.mk hc
      have HNE := Aside0.mk hne
      have IX := fun (W : World) => index_at 30 pragma_Rules_known.p t W (fun args w => by first | rfl | exact enters_of Tryd.func30 (by kernel_rfl) rfl) (fun W x => by
        obtain ⟨b, hb⟩ := pragma_Rules_known.pt (x : Int)
        have : pragma_Rules_known.p x = b := by unfold pragma_Rules_known.p; rw [hb]; rfl
        rw [this]
        exact pragma_Rules_known_1.calls (x : Int) b W hb)
      have HN := Aside0.mk hn
      have hn1 := eq_true (show (n : Int) ≤ (t.size : Int) by omega)
      have hn2 := eq_true hn
      have hn0 := eq_true (show (0 : Int) ≤ (n : Int) by omega)
      have ext : t.extract 0 t.size = t := ByteArray.extract_zero_size
      by_cases hc0 : c = 0
      · rw [if_pos hc0] at H
        subst hc0
        obtain ⟨u, hu, H⟩ := Option.bind_eq_some_iff.mp H
        split at H
        case isFalse => cases H
        case isTrue hwl =>
        split at H
        case isFalse => cases H
        case isTrue husz =>
        have HF := Aside0.mk hu
        have HWL := Aside0.mk hwl
        have HUS := Aside0.mk (show u.size ≤ maxLen by unfold maxLen; omega)
        have HH := Aside0.mk H
        clear H hu hwl husz hc hne hn
        rcases hid with hid | hid
        · obtain rfl := HNE.out hid
          have IX1 := fun W => (show Calls Tryd.prog 29 #[.string t, .func (.func 30) #[] #[]] W fun e w' => e = .returned (.int .i64 (-1)) ∧ Below W.heap.size W w' by have := IX W; rw [hid] at this; exact this)
          rw [ext] at HCK HF
          clear IX hid ext hn1 hn2 hn0
          go_upto_region 5 with (first
            | (go_at_call 28; ((with_reducible refine (TR _).mono ?_); rintro e w2 ⟨rfl, hb⟩; have HSa := Aside0.mk (HS.out.below hb); clear hb))
            | (go_at_call 29; ((with_reducible refine (IX1 _).mono ?_); rintro e w3 ⟨rfl, hb⟩; have HSb := Aside0.mk (HSa.out.below hb); clear hb))
            | (go_at_call 32; ((with_reducible refine (lists_Check.calls k1 t 0 _ HCK.out).mono ?_); rintro e w4 ⟨rfl, hb⟩; have HSc := Aside0.mk (HSb.out.below hb); clear hb)))
          refine start_ (n := 9) (S := fun w' => w'.cell? ⟨g, 1, none⟩ = some (.map (some m))) (ds := [8]) #[false, false, false, false, false, false, false, false, false] (by kernel_rfl) rfl rfl (HSc.out.drew1.cell1) (fun hHeld => ?_)
          refine pure_ (i := 0) (N := some 18) (v := ?_) (a' := ?_) #[true, false, false, false, false, false, false, false, false] rfl rfl (by kernel_rfl) (fun _ _ _ h => h) (Or.inl ⟨by rfl, ?_⟩) ?_ ?_
          rotate_left
          · intro w'
            go_simp
            with_reducible rfl
          rotate_left
          · simp only [Act.put, List.setIfInBounds_toArray, List.set_cons_zero, List.set_cons_succ, i64_w, i32_w]
            rfl
          refine pure_ (i := 1) (N := some 19) (v := ?_) (a' := ?_) #[true, true, false, false, false, false, false, false, false] rfl rfl (by kernel_rfl) (fun _ _ _ h => h) (Or.inl ⟨by rfl, ?_⟩) ?_ ?_
          rotate_left
          · intro w'
            go_simp
            with_reducible rfl
          rotate_left
          · simp only [Act.put, List.setIfInBounds_toArray, List.set_cons_zero, List.set_cons_succ, i64_w, i32_w]
            rfl
          refine pure_ (i := 2) (N := some 20) (v := ?_) (a' := ?_) #[true, true, true, false, false, false, false, false, false] rfl rfl (by kernel_rfl) (fun _ _ _ h => h) (Or.inl ⟨by rfl, ?_⟩) ?_ ?_
          rotate_left
          · intro w'
            go_simp
            with_reducible rfl
          rotate_left
          · simp only [Act.put, List.setIfInBounds_toArray, List.set_cons_zero, List.set_cons_succ, i64_w, i32_w]
            rfl
          refine pure_ (i := 4) (N := some 22) (v := ?_) (a' := ?_) #[true, true, true, false, true, false, false, false, false] rfl rfl (by kernel_rfl) (fun _ _ _ h => h) (Or.inl ⟨by rfl, ?_⟩) ?_ ?_
          rotate_left
          · intro w'
            go_simp
            with_reducible rfl
          rotate_left
          · simp only [Act.put, List.setIfInBounds_toArray, List.set_cons_zero, List.set_cons_succ, i64_w, i32_w]
            rfl
          refine pure_ (i := 5) (N := some 23) (v := ?_) (a' := ?_) #[true, true, true, false, true, true, false, false, false] rfl rfl (by kernel_rfl) (fun _ _ _ h => h) (Or.inl ⟨by rfl, ?_⟩) ?_ ?_
          rotate_left
          · intro w'
            go_simp
            with_reducible rfl
          rotate_left
          · simp only [Act.put, List.setIfInBounds_toArray, List.set_cons_zero, List.set_cons_succ, i64_w, i32_w]
            rfl
          refine pure_ (i := 6) (N := some 24) (v := ?_) (a' := ?_) #[true, true, true, false, true, true, true, false, false] rfl rfl (by kernel_rfl) (fun _ _ _ h => h) (Or.inl ⟨by rfl, ?_⟩) ?_ ?_
          rotate_left
          · intro w'
            go_simp
            with_reducible rfl
          rotate_left
          · simp only [Act.put, List.setIfInBounds_toArray, List.set_cons_zero, List.set_cons_succ, i64_w, i32_w]
            rfl
          refine take_ (i := 3) (N := some 21) (v := ?_) (a' := ?_) #[true, true, true, true, true, true, true, false, false] rfl rfl (by kernel_rfl) (fun _ _ _ h => h) (Or.inl ⟨by rfl, ?_⟩) hHeld ?_ ?_
          rotate_left
          · intro w' s0
            go_simp
            with_reducible rfl
          rotate_left
          · simp only [Act.put, List.setIfInBounds_toArray, List.set_cons_zero, List.set_cons_succ, i64_w, i32_w]
            rfl
          refine one_ (i := 7) (N := some 25) #[true, true, true, true, true, true, true, true, false] rfl rfl (by kernel_rfl) (by decide) (fun K hK => ?_)
          refine goes_ Tryd.func25 (by kernel_rfl) rfl #[.string t] (by rfl) rfl rfl (by simp only [List.map_toArray, List.map_cons, List.map_nil]; rfl) ?_
          with_reducible refine (fold_Fold.calls k1 t u _ HF.out).mono ?_
          rintro e w3 ⟨rfl, hb⟩
          have HS3 := Aside0.mk (HSc.out.drew1.below hb)
          clear hb
          refine ⟨_, rfl, ?_⟩
          refine hK.out _ _ (HS3.out.cell1) (fun hHeld => ?_)
          clear hK K
          refine norm_ (a' := ?_) ?_ ?_
          rotate_left
          · show Act.put _ (some 25) _ = _
            simp only [Act.put, List.setIfInBounds_toArray, List.set_cons_zero, List.set_cons_succ, i64_w, i32_w]
            rfl
          refine last_ (i := 8) (N := none) #[true, true, true, true, true, true, true, true, true] rfl rfl (by kernel_rfl) (by decide) (fun K hK => ?_)
          obtain ⟨w5, hrun, hs5⟩ := HS3.out.put HWL.out u HUS.out
          have hrun2 := (show (Instr.mapUpdate 43 (.map (some m)) (.string u) (.bool true)).run Tryd.prog w3 = .ok () w5 from hrun)
          clear hrun
          have HS5 := Aside0.mk hs5
          clear hs5
          refine skip_ (w1 := ?_) (by rfl) rfl ?_ ?_
          rotate_left
          · go_simp
            rfl
          refine hK.out _ _ ?_
          clear hK K
          refine done_ (by kernel_rfl) ?_

          clear hHeld
          go_wp2
          go_roundg k1
          case measure => omega
          case rel => exact ⟨_, _, by first | rfl | (simp; done), HH, HS5⟩
        · have IX1 := fun W => (show Calls Tryd.prog 29 #[.string t, .func (.func 30) #[] #[]] W fun e w' => e = .returned (.int .i64 (n : Int)) ∧ Below W.heap.size W w' by have := IX W; rw [hid] at this; exact this)
          clear IX hid ext
          go_upto_region 5 with (first
            | (go_at_call 28; ((with_reducible refine (TR _).mono ?_); rintro e w2 ⟨rfl, hb⟩; have HSa := Aside0.mk (HS.out.below hb); clear hb))
            | (go_at_call 29; ((with_reducible refine (IX1 _).mono ?_); rintro e w3 ⟨rfl, hb⟩; have HSb := Aside0.mk (HSa.out.below hb); clear hb))
            | (go_at_call 32; ((with_reducible refine (lists_Check.calls k1 (t.extract 0 n) 0 _ HCK.out).mono ?_); rintro e w4 ⟨rfl, hb⟩; have HSc := Aside0.mk (HSb.out.below hb); clear hb)))
          refine start_ (n := 9) (S := fun w' => w'.cell? ⟨g, 1, none⟩ = some (.map (some m))) (ds := [8]) #[false, false, false, false, false, false, false, false, false] (by kernel_rfl) rfl rfl (HSc.out.drew1.cell1) (fun hHeld => ?_)
          refine pure_ (i := 0) (N := some 18) (v := ?_) (a' := ?_) #[true, false, false, false, false, false, false, false, false] rfl rfl (by kernel_rfl) (fun _ _ _ h => h) (Or.inl ⟨by rfl, ?_⟩) ?_ ?_
          rotate_left
          · intro w'
            go_simp
            with_reducible rfl
          rotate_left
          · simp only [Act.put, List.setIfInBounds_toArray, List.set_cons_zero, List.set_cons_succ, i64_w, i32_w]
            rfl
          refine pure_ (i := 1) (N := some 19) (v := ?_) (a' := ?_) #[true, true, false, false, false, false, false, false, false] rfl rfl (by kernel_rfl) (fun _ _ _ h => h) (Or.inl ⟨by rfl, ?_⟩) ?_ ?_
          rotate_left
          · intro w'
            go_simp
            with_reducible rfl
          rotate_left
          · simp only [Act.put, List.setIfInBounds_toArray, List.set_cons_zero, List.set_cons_succ, i64_w, i32_w]
            rfl
          refine pure_ (i := 2) (N := some 20) (v := ?_) (a' := ?_) #[true, true, true, false, false, false, false, false, false] rfl rfl (by kernel_rfl) (fun _ _ _ h => h) (Or.inl ⟨by rfl, ?_⟩) ?_ ?_
          rotate_left
          · intro w'
            go_simp
            with_reducible rfl
          rotate_left
          · simp only [Act.put, List.setIfInBounds_toArray, List.set_cons_zero, List.set_cons_succ, i64_w, i32_w]
            rfl
          refine pure_ (i := 4) (N := some 22) (v := ?_) (a' := ?_) #[true, true, true, false, true, false, false, false, false] rfl rfl (by kernel_rfl) (fun _ _ _ h => h) (Or.inl ⟨by rfl, ?_⟩) ?_ ?_
          rotate_left
          · intro w'
            go_simp
            with_reducible rfl
          rotate_left
          · simp only [Act.put, List.setIfInBounds_toArray, List.set_cons_zero, List.set_cons_succ, i64_w, i32_w]
            rfl
          refine pure_ (i := 5) (N := some 23) (v := ?_) (a' := ?_) #[true, true, true, false, true, true, false, false, false] rfl rfl (by kernel_rfl) (fun _ _ _ h => h) (Or.inl ⟨by rfl, ?_⟩) ?_ ?_
          rotate_left
          · intro w'
            go_simp
            with_reducible rfl
          rotate_left
          · simp only [Act.put, List.setIfInBounds_toArray, List.set_cons_zero, List.set_cons_succ, i64_w, i32_w]
            rfl
          refine pure_ (i := 6) (N := some 24) (v := ?_) (a' := ?_) #[true, true, true, false, true, true, true, false, false] rfl rfl (by kernel_rfl) (fun _ _ _ h => h) (Or.inl ⟨by rfl, ?_⟩) ?_ ?_
          rotate_left
          · intro w'
            go_simp
            with_reducible rfl
          rotate_left
          · simp only [Act.put, List.setIfInBounds_toArray, List.set_cons_zero, List.set_cons_succ, i64_w, i32_w]
            rfl
          refine take_ (i := 3) (N := some 21) (v := ?_) (a' := ?_) #[true, true, true, true, true, true, true, false, false] rfl rfl (by kernel_rfl) (fun _ _ _ h => h) (Or.inl ⟨by rfl, ?_⟩) hHeld ?_ ?_
          rotate_left
          · intro w' s0
            go_simp
            with_reducible rfl
          rotate_left
          · simp only [Act.put, List.setIfInBounds_toArray, List.set_cons_zero, List.set_cons_succ, i64_w, i32_w]
            rfl
          refine one_ (i := 7) (N := some 25) #[true, true, true, true, true, true, true, true, false] rfl rfl (by kernel_rfl) (by decide) (fun K hK => ?_)
          refine goes_ Tryd.func25 (by kernel_rfl) rfl #[.string (t.extract 0 n)] (by rfl) rfl rfl (by simp only [List.map_toArray, List.map_cons, List.map_nil]; rfl) ?_
          with_reducible refine (fold_Fold.calls k1 (t.extract 0 n) u _ HF.out).mono ?_
          rintro e w3 ⟨rfl, hb⟩
          have HS3 := Aside0.mk (HSc.out.drew1.below hb)
          clear hb
          refine ⟨_, rfl, ?_⟩
          refine hK.out _ _ (HS3.out.cell1) (fun hHeld => ?_)
          clear hK K
          refine norm_ (a' := ?_) ?_ ?_
          rotate_left
          · show Act.put _ (some 25) _ = _
            simp only [Act.put, List.setIfInBounds_toArray, List.set_cons_zero, List.set_cons_succ, i64_w, i32_w]
            rfl
          refine last_ (i := 8) (N := none) #[true, true, true, true, true, true, true, true, true] rfl rfl (by kernel_rfl) (by decide) (fun K hK => ?_)
          obtain ⟨w5, hrun, hs5⟩ := HS3.out.put HWL.out u HUS.out
          have hrun2 := (show (Instr.mapUpdate 43 (.map (some m)) (.string u) (.bool true)).run Tryd.prog w3 = .ok () w5 from hrun)
          clear hrun
          have HS5 := Aside0.mk hs5
          clear hs5
          refine skip_ (w1 := ?_) (by rfl) rfl ?_ ?_
          rotate_left
          · go_simp
            rfl
          refine hK.out _ _ ?_
          clear hK K
          refine done_ (by kernel_rfl) ?_

          clear hHeld
          go_wp2
          go_roundg k1
          case measure => omega
          case rel => exact ⟨_, _, by first | rfl | (simp; done), HH, HS5⟩
      · rw [if_neg hc0] at H
        obtain rfl := Option.some.inj H
        have cb1 : (c != 0) = true := bne_iff_ne.2 hc0
        have cb2 : (c == 0) = false := beq_eq_false_iff_ne.2 hc0
        clear H hc hne hn hc0
        rcases hid with hid | hid
        · obtain rfl := HNE.out hid
          have IX1 := fun W => (show Calls Tryd.prog 29 #[.string t, .func (.func 30) #[] #[]] W fun e w' => e = .returned (.int .i64 (-1)) ∧ Below W.heap.size W w' by have := IX W; rw [hid] at this; exact this)
          rw [ext] at HCK
          clear IX hid ext hn1 hn2 hn0
          go_wp2_with (first
            | (go_at_call 28; ((with_reducible refine (TR _).mono ?_); rintro e w2 ⟨rfl, hb⟩; have HSa := Aside0.mk (HS.out.below hb); clear hb))
            | (go_at_call 29; ((with_reducible refine (IX1 _).mono ?_); rintro e w3 ⟨rfl, hb⟩; have HSb := Aside0.mk (HSa.out.below hb); clear hb))
            | (go_at_call 32; ((with_reducible refine (lists_Check.calls k1 t c _ HCK.out).mono ?_); rintro e w4 ⟨rfl, hb⟩; have HSc := Aside0.mk (HSb.out.below hb); clear hb)))
          exact bodyPost_ret (results_none rfl _ _ _) rfl ⟨rfl, HSc.out⟩
        · have IX1 := fun W => (show Calls Tryd.prog 29 #[.string t, .func (.func 30) #[] #[]] W fun e w' => e = .returned (.int .i64 (n : Int)) ∧ Below W.heap.size W w' by have := IX W; rw [hid] at this; exact this)
          clear IX hid ext
          go_wp2_with (first
            | (go_at_call 28; ((with_reducible refine (TR _).mono ?_); rintro e w2 ⟨rfl, hb⟩; have HSa := Aside0.mk (HS.out.below hb); clear hb))
            | (go_at_call 29; ((with_reducible refine (IX1 _).mono ?_); rintro e w3 ⟨rfl, hb⟩; have HSb := Aside0.mk (HSa.out.below hb); clear hb))
            | (go_at_call 32; ((with_reducible refine (lists_Check.calls k1 (t.extract 0 n) c _ HCK.out).mono ?_); rintro e w4 ⟨rfl, hb⟩; have HSc := Aside0.mk (HSb.out.below hb); clear hb)))
          exact bodyPost_ret (results_none rfl _ _ _) rfl ⟨rfl, HSc.out⟩
end

/-! ### pragma_Read: function 9 -/
section
open Go.Proofs.YtkflgnhcfhmkdaaDoor.H
def pragma_Read.l1 (k : Nat) : List S57 → Bool → Bool → Bool → List ByteArray → Option (Bool × Bool × Bool × List ByteArray)
  | [], off, next, skip, ws => some (off, next, skip, ws)
  | a :: t, off, next, skip, ws =>
    if a.f0.toList = ([111, 102, 102] : List UInt8) then pragma_Read.l1 k t true next true ws
    else if a.f0.toList = ([108, 105, 110, 101] : List UInt8) then pragma_Read.l1 k t off next true ws
    else if a.f0.toList = ([111, 110] : List UInt8) then pragma_Read.l1 k t false next skip ws
    else if a.f0.toList = ([110, 101, 120, 116] : List UInt8) then pragma_Read.l1 k t off true skip ws
    else if a.f0.toList = ([119, 111, 114, 100, 115] : List UInt8) then (pragma_Rules_known.f k a.f1 ws).bind fun ws2 => pragma_Read.l1 k t off next skip ws2
    else pragma_Read.l1 k t off next skip ws
def pragma_Read.l0 (k : Nat) (b : List Int) (ix : List IxT) : Nat → Nat → Bool → Bool → List (Int × Int) → List ByteArray → Option (List RlT)
  | 0, _, _, _, offs, ws => some [⟨offs, ws⟩]
  | d + 1, i, off, next, offs, ws => (lines_Index_Span.f ix ((i + 1 : Nat) : Int)).bind fun sp =>
      if 0 ≤ sp.1 then (if sp.1 ≤ wrap64 (sp.1 + sp.2.1) then (if wrap64 (sp.1 + sp.2.1) ≤ (b.length : Int) then
        (pragma_asks.f k (strOfNums ((b.take (wrap64 (sp.1 + sp.2.1)).toNat).drop sp.1.toNat))).bind fun qs => if qs.length < 1000000000000 then (pragma_Read.l1 k qs off false (off || next) ws).bind fun q =>
          if offs.length < 1000000000000 then pragma_Read.l0 k b ix d (i + 1) q.1 q.2.1 (if q.2.2.1 = true then offs ++ [(sp.1, sp.2.1)] else offs) q.2.2.2 else none else none else none) else none) else none
def pragma_Read.f (k : Nat) (l0 : List Int) : Option (List RlT) := (lines_New.f l0).bind fun ix => (lines_Index_Lines.f ix).bind fun n => if n < 1000000000000 then pragma_Read.l0 k l0 ix n.toNat 0 false false [] [] else none
theorem pragma_Read.mono_1 (k : Nat) : ∀ l off next skip ws, LeO (pragma_Read.l1 k l off next skip ws) (pragma_Read.l1 (k + 1) l off next skip ws)
  | [], _, _, _, _ => LeO.refl _
  | a :: t, off, next, skip, ws => by
    unfold pragma_Read.l1
    exact LeO.ite (pragma_Read.mono_1 k t _ _ _ _) (LeO.ite (pragma_Read.mono_1 k t _ _ _ _) (LeO.ite (pragma_Read.mono_1 k t _ _ _ _) (LeO.ite (pragma_Read.mono_1 k t _ _ _ _) (LeO.ite (LeO.bind (pragma_Rules_known.mono _ _ _) (fun _ => pragma_Read.mono_1 k t _ _ _ _)) (pragma_Read.mono_1 k t _ _ _ _)))))
theorem pragma_Read.mono_0 (k : Nat) (b : List Int) (ix : List IxT) : ∀ d i off next offs ws, LeO (pragma_Read.l0 k b ix d i off next offs ws) (pragma_Read.l0 (k + 1) b ix d i off next offs ws)
  | 0, _, _, _, _, _ => LeO.refl _
  | d + 1, i, off, next, offs, ws => by
    unfold pragma_Read.l0
    refine LeO.bind (LeO.refl _) (fun _ => LeO.ite (LeO.ite (LeO.ite (LeO.bind (pragma_asks.mono _ _) (fun _ => LeO.ite (LeO.bind (pragma_Read.mono_1 k _ _ _ _ _) (fun _ => ?_)) (LeO.refl _))) (LeO.refl _)) (LeO.refl _)) (LeO.refl _))
    exact LeO.ite (pragma_Read.mono_0 k b ix d _ _ _ _ _) (LeO.refl _)
theorem pragma_Read.mono : ∀ a0 k, LeO (pragma_Read.f k a0) (pragma_Read.f (k + 1) a0) := by
  intro a0 k
  unfold pragma_Read.f
  exact LeO.bind (LeO.refl _) (fun _ => LeO.bind (LeO.refl _) (fun _ => LeO.ite (pragma_Read.mono_0 k _ _ _ _ _ _ _ _) (LeO.refl _)))
theorem rl_start (w w2 : World) (hb : Below ((w.alloc (.map #[] 0)).alloc (.cells #[.slice none 0 0, .map (some w.heap.size)] rT)).heap.size ((w.alloc (.map #[] 0)).alloc (.cells #[.slice none 0 0, .map (some w.heap.size)] rT)) w2) :
    RlSt (w.heap.size + 1) w.heap.size w2.heap.size w2.heap.size w2 [] [] w w2 := by
  have e1 : (w.alloc (.map #[] 0)).heap.size = w.heap.size + 1 := by simp
  have b1 : Below (w.alloc (.map #[] 0)).heap.size (w.alloc (.map #[] 0)) w2 := by
    refine below_step (below_alloc (Below.refl _ _) _) hb
  have b0 : Below w.heap.size w w2 := below_step (below_alloc (Below.refl _ _) _) b1
  have hg : w2.heap[w.heap.size + 1]? = some (.cells #[.slice none 0 0, .map (some w.heap.size)] rT (0, 0)) := by
    have := blk_new (w.alloc (.map #[] 0)) (.cells #[.slice none 0 0, .map (some w.heap.size)] rT (0, 0))
    rw [e1] at this
    exact (hb.block _ (by simp)).trans this
  exact ⟨⟨none, 0, hg, Kd.R_nil _ _ _ _ _⟩, (SetOf.made w).kept (b1.block _ (by simp)), b0, by omega, Nat.le_refl _, Nat.le_refl _, fun _ _ _ _ => rfl⟩
set_option maxHeartbeats 8000000 in
set_option maxRecDepth 100000 in
theorem pragma_Read.calls (k : Nat) (A0 : Option Addr) (c0 : Nat) (l0 : List Int) (r : List RlT) (w : World) (hr0 : Kd.C (Kd.int .u8) w A0 l0.length l0) (hc0 : l0.length ≤ c0) (h : pragma_Read.f k l0 = some r) (hL : Laid w) :
    Calls Tryd.prog 9 #[.slice A0 l0.length c0] w fun e w' => ∃ v0_ : Value, e = .returned v0_ ∧ Kd.P RlP 900026 w' w.heap.size (fun k_ => (w.heap.size ≤ k_)) v0_ r ∧ Below w.heap.size w w' := by
  unfold pragma_Read.f at h
  obtain ⟨ix, hix, h⟩ := Option.bind_eq_some_iff.mp h
  obtain ⟨n, hn, h⟩ := Option.bind_eq_some_iff.mp h
  split at h
  case isFalse => cases h
  case isTrue hnl =>
  have HIX := Aside0.mk hix
  have HN := Aside0.mk hn
  have HNL := Aside0.mk hnl
  have H := Aside0.mk h
  have HR0 := Aside0.mk hr0
  have HC0 := Aside0.mk hc0
  have HLD := Aside0.mk hL
  have hmm := @run_makeMap Tryd.prog
  clear hix hn hnl h hr0 hc0 hL
  go_enter Tryd.func9, Tryd.ntmps9
  go_wp2_with (first
    | (go_at_call 18; ((refine (lines_New.calls A0 c0 l0 ix _ ?sN HC0.out HIX.out).mono ?_); (case sN => exact Kd.C_below HR0.out (below_alloc (below_alloc (Below.refl _ _) _) _)); rintro e w2 ⟨vx, rfl, hp, hb⟩; have HS := Aside0.mk (rl_start w w2 hb); have HPX := Aside0.mk (show ∀ (w' : World) (off : List (Int × Int)) (ws : List ByteArray), RlSt (w.heap.size + 1) w.heap.size w2.heap.size w2.heap.size w2 off ws w w' → IxP w' vx ix from fun w' off ws hs => Kd.P_now (Kd.P_step (Kd.P_bound hp) (fun k hk hlt => hs.same k hlt (by have := hk.1; simp at this; omega) (by have := hk.1; simp at this; omega)))); clear hp hb))
    | (go_at_call 19; ((refine (lines_Index_Lines.calls _ ix n _ (HPX.out _ _ _ HS.out) HN.out).mono ?_); rintro e w3 ⟨rfl, ⟨nd, rfl⟩⟩; have HS1 := Aside0.mk (HS.out.below (pw_below_drewN (Below.refl _ _) nd)); clear HS)))
  go_loopg [5, 6, 20] (n.toNat + 1) (fun kq v5 v6 v20 w' => ∃ (i : Nat) (off next : Bool) (offs : List (Int × Int)) (ws : List ByteArray), v5 = .bool off ∧ v6 = .bool next ∧ v20 = .int .i64 (i : Int) ∧ Aside0 (i ≤ n.toNat ∧ kq = n.toNat - i + 1) ∧ Aside0 (pragma_Read.l0 k l0 ix (n.toNat - i) i off next offs ws = some r) ∧ Aside0 (RlSt (w.heap.size + 1) w.heap.size w2.heap.size w2.heap.size w2 offs ws w w'))
  case atStart => exact ⟨0, false, false, [], [], rfl, rfl, rfl, ⟨⟨Nat.zero_le _, rfl⟩⟩, ⟨by simpa using H.out⟩, HS1⟩
  case round =>
    clear H HS1
    obtain ⟨i, off, next, offs, ws, rfl, rfl, rfl, HK, H, HS⟩ := hrel
    by_cases hlt : i < n.toNat
    · have d1 := decide_eq_true (show (i : Int) < n by omega)
      have hh := H.out
      rw [show n.toNat - i = (n.toNat - (i + 1)) + 1 by omega] at hh
      unfold pragma_Read.l0 at hh
      obtain ⟨⟨at_, len, e_⟩, hsp, hh⟩ := Option.bind_eq_some_iff.mp hh
      simp only at hh
      split at hh
      case isFalse => cases hh
      case isTrue a0 =>
      split at hh
      case isFalse => cases hh
      case isTrue a1 =>
      split at hh
      case isFalse => cases hh
      case isTrue a2 =>
      obtain ⟨qs, hqs, hh⟩ := Option.bind_eq_some_iff.mp hh
      split at hh
      case isFalse => cases hh
      case isTrue hql =>
      obtain ⟨⟨off2, next2, skip2, ws2⟩, hq, hh⟩ := Option.bind_eq_some_iff.mp hh
      simp only at hh
      split at hh
      case isFalse => cases hh
      case isTrue holen =>
      have hew : wrap64 ((i : Int) + 1) = ((i + 1 : Nat) : Int) := by have := HNL.out; rw [Go.Proofs.YtkflgnhcfhmkdaaDoor.M.w64 (by omega) (by omega)]; omega
      obtain ⟨hi_, hhi⟩ : ∃ z, z = wrap64 (at_ + len) := ⟨_, rfl⟩
      rw [← hhi] at a1 a2 hqs
      obtain ⟨y, hy⟩ : ∃ y, y = (l0.take hi_.toNat).drop at_.toNat := ⟨_, rfl⟩
      rw [← hy] at hqs
      have hyl : y.length = hi_.toNat - at_.toNat := by rw [hy, List.length_drop, List.length_take]; omega
      obtain ⟨i0, hi0, _, hsz, _⟩ := info_parts info5
      have hcut := cut_mid (P := Tryd.prog) 22 5 .i64 .i64 Tryd.underlying22 hi0 1 hsz A0 l0.length c0 at_ hi_ a0 a1 a2 HC0.out
      have hr16 := Kd.C_mid (lo := at_.toNat) (hi := hi_.toNat) (c := c0) HR0.out (by omega) (by omega) HC0.out
      obtain ⟨A16, hA16⟩ : ∃ A1z_, A1z_ = (if c0 = at_.toNat then A0 else (A0 : Option Addr).map (·.add (at_.toNat * 1))) := ⟨_, rfl⟩
      obtain ⟨c16, hc16⟩ : ∃ c1z_, c1z_ = c0 - at_.toNat := ⟨_, rfl⟩
      rw [show (l0.take hi_.toNat).drop at_.toNat = y from hy.symm] at hr16
      replace hr16 : Kd.C (Kd.int .u8) w A16 y.length y := (by rw [hA16]; exact hr16)
      rw [← hyl, ← hA16, ← hc16] at hcut
      have HY := Aside0.mk hr16
      have HQL := Aside0.mk (show qs.length < 1000000000000 from hql)
      have HSP := Aside0.mk hsp
      have HQS := Aside0.mk hqs
      have HQ := Aside0.mk hq
      have HH := Aside0.mk hh
      have HOL := Aside0.mk holen
      have HEW := Aside0.mk hew
      have HLT := Aside0.mk hlt
      have HSUM := Aside0.mk hhi.symm
      have a0t := eq_true a0
      have a1t := eq_true a1
      have a2t := eq_true a2
      clear hsp hqs hq hh holen hlt H hyl hr16 hA16 hc16 hi0 hsz hy a0 a1 a2 hhi
      have hsum : wrap64 (at_ + len) = hi_ := HSUM.out
      obtain ⟨W0, hW0⟩ : ∃ W0, W0 = wr := ⟨_, rfl⟩
      clear hW0
      cases off
      all_goals
        go_wp2_with (first
          | (go_at_call 20; ((refine (lines_Index_Span.calls _ ix ((i + 1 : Nat) : Int) at_ len e_ _ (HPX.out _ _ _ HS.out) HSP.out).mono ?_); rintro e w4 ⟨rfl, hb⟩; have HS4 := Aside0.mk (HS.out.below hb); clear hb))
          | ((with_reducible refine gate_dst (N := 8) rfl ?_); refine box_event ?hg (N := 8) ?hd (cs := #[.int .i64 0, .int .i64 0]) (t := 40) ?hr ?_; (case hd => rfl); (case hg => rfl); (case hr => first | (go_simp; done) | (go_simp; rfl)); intro gb hg w8 hbox hb; have BX := Aside0.mk hbox; have HBX := Aside0.mk hb; have HGB := Aside0.mk hg; clear hbox hb hg; have hcz0 : w8.cell? ⟨gb, 0, none⟩ = some (.int .i64 0) := (blk_cell BX.out 0).trans rfl; have hcz1 : w8.cell? ⟨gb, 1, none⟩ = some (.int .i64 0) := (blk_cell BX.out 1).trans rfl; have hfz0 := blk_frozen BX.out 0; have hfz1 := blk_frozen BX.out 1)
          | ((with_reducible refine gate_store (t := 40) (p := 8) rfl ?_); refine store_event (t := 40) (p := 8) (v := ?vo) (w1 := ((w8.setCell ⟨gb, 0, none⟩ (.int .i64 at_)).setCell ⟨gb, 1, none⟩ (.int .i64 len))) ?hg ?ho ?hn ?hr ?_; (case ho => rfl); (case hg => rfl); (case hn => rfl); (case hr => first | (go_simp; done) | (go_simp; rfl)); intro w9 hw; have n1_ : Aside0 (w9.heap[gb]? = some (.cells #[.int .i64 at_, .int .i64 len] 40 (0, 0))) := ⟨by rw [hw]; exact blk_put (blk_put BX.out 0 _ rfl) 1 _ rfl⟩; have n2_ : Aside0 (Below w4.heap.size w4 w9) := ⟨by rw [hw]; exact (HBX.out.setCell (Nat.le_of_eq HGB.out.symm) _).setCell (Nat.le_of_eq HGB.out.symm) _⟩; clear hw hcz0 hcz1 hfz0 hfz1 BX HBX; have BK9 := n1_; have HB9 := n2_; clear n1_ n2_; have hcz0 : w9.cell? ⟨gb, 0, none⟩ = some (.int .i64 at_) := (blk_cell BK9.out 0).trans rfl; have hcz1 : w9.cell? ⟨gb, 1, none⟩ = some (.int .i64 len) := (blk_cell BK9.out 1).trans rfl; have hfz0 := blk_frozen BK9.out 0; have hfz1 := blk_frozen BK9.out 1; have hcv := Kd.C_string (P := Tryd.prog) (A := A16) (c := c16) Tryd.underlying22 Tryd.underlying5 Tryd.underlying9 (Kd.C_below HY.out (below_step HS4.out.bel HB9.out)))
          | (go_at_call 21; ((refine (pragma_asks.calls k (strOfNums y) qs _ HQS.out (HLD.out.below (below_step HS4.out.bel HB9.out))).mono ?_); rintro e w10 ⟨vq, rfl, hq, hb⟩; obtain ⟨Aq, cq, e1⟩ := Kd.R_slice hq; subst e1; have HS10 := Aside0.mk (HS4.out.below (below_step HB9.out hb)); have BK10 := Aside0.mk (blk_below BK9.out hb); have HQR := Aside0.mk hq; have hcw0 : w10.cell? ⟨gb, 0, none⟩ = some (.int .i64 at_) := (blk_cell BK10.out 0).trans rfl; have hcw1 : w10.cell? ⟨gb, 1, none⟩ = some (.int .i64 len) := (blk_cell BK10.out 1).trans rfl; clear hq hb)))
        go_loopg [5, 6, 10, 46] (qs.length + 1) (fun kq v5 v6 v10 v46 w' => ∃ (j : Nat) (o1 n1 s1 : Bool) (ws1 : List ByteArray), v5 = .bool o1 ∧ v6 = .bool n1 ∧ v10 = .bool s1 ∧ v46 = .int .i64 (j : Int) ∧ Aside0 (j ≤ qs.length ∧ kq = qs.length - j + 1) ∧ Aside0 (pragma_Read.l1 k (qs.drop j) o1 n1 s1 ws1 = some (off2, next2, skip2, ws2)) ∧ Aside0 (RlSt (w.heap.size + 1) w.heap.size w2.heap.size w2.heap.size w2 offs ws1 w w') ∧ Aside0 (w'.heap[gb]? = some (.cells #[.int .i64 at_, .int .i64 len] 40 (0, 0))) ∧ Aside0 (k57.R 57 w' w9.heap.size (fun _ => True) (.slice Aq qs.length cq) qs))
        case atStart => exact ⟨0, _, _, _, _, rfl, rfl, rfl, rfl, ⟨⟨Nat.zero_le _, rfl⟩⟩, ⟨HQ.out⟩, HS10, BK10, HQR⟩
        case round =>
          clear HQ HS10 BK10 HQR hcw0 hcw1
          obtain ⟨j, o1, n1, s1, ws1, rfl, rfl, rfl, rfl, HKi, Hi, HSi, BKi, HQi⟩ := hrel
          by_cases hjt : j < qs.length
          · have e1 := decide_eq_true (show (j : Int) < (qs.length : Int) by omega)
            have e2 := decide_eq_true hjt
            obtain ⟨a, ha⟩ : ∃ a, a = rd_T57 qs (j : Int) := ⟨_, rfl⟩
            have hdr : qs.drop j = a :: qs.drop (j + 1) := by
              rw [List.drop_eq_getElem_cons hjt, ha]
              unfold rd_T57
              rw [Int.toNat_natCast, List.getD_eq_getElem?_getD, List.getElem?_eq_getElem hjt]
              rfl
            have hh := Hi.out
            rw [hdr] at hh
            unfold pragma_Read.l1 at hh
            obtain ⟨ad, ea, hx0, hx1⟩ := at_T57 (Kd.R_reads' HQi.out).2.2 (j : Int) (by omega) (by omega)
            rw [← ha, Int.toNat_natCast] at hx0 hx1
            subst ea
            have e3 := eq_true (show 0 ≤ (j : Int) by omega)
            have e4 := eq_true (show (j : Int) < (qs.length : Int) by omega)
            have e5 := eq_true hjt
            have hej : wrap64 ((j : Int) + 1) = ((j + 1 : Nat) : Int) := by have := (Kd.R_reads' HQi.out).2.2; have hz := HQL.out; rw [Go.Proofs.YtkflgnhcfhmkdaaDoor.M.w64 (by omega) (by omega)]; omega
            have HEJ := Aside0.mk hej
            have HJT := Aside0.mk hjt
            have HHi := Aside0.mk hh
            clear Hi ha hdr hh hjt
            by_cases f0 : a.f0.toList = ([111, 102, 102] : List UInt8)
            · have f0b : (a.f0.toList == ([111, 102, 102] : List UInt8)) = true := beq_iff_eq.mpr f0
              have hq := HHi.out
              rw [if_pos f0] at hq
              have H9 := Aside0.mk hq
              clear hq HHi f0
              go_wp2_with (first | ((with_reducible refine gate_dst (N := 12) rfl ?_); refine box_event ?hg (N := 12) ?hd (cs := #[.string ⟨#[]⟩, .string ⟨#[]⟩]) (t := 57) ?hr ?_; (case hd => rfl); (case hg => rfl); (case hr => first | (go_simp; done) | (go_simp; rfl)); intro gc hg w12 hbox hb; have BX := Aside0.mk hbox; have HBX := Aside0.mk hb; have HGB := Aside0.mk hg; clear hbox hb hg; have hd0 : w12.cell? ⟨gc, 0, none⟩ = some (.string ⟨#[]⟩) := (blk_cell BX.out 0).trans rfl; have hd1 : w12.cell? ⟨gc, 1, none⟩ = some (.string ⟨#[]⟩) := (blk_cell BX.out 1).trans rfl; have hfd0 := blk_frozen BX.out 0; have hfd1 := blk_frozen BX.out 1; replace hx0 := pw_cell_below HBX.out hx0; replace hx1 := pw_cell_below HBX.out hx1) | ((with_reducible refine gate_store (t := 57) (p := 12) rfl ?_); refine store_event (t := 57) (p := 12) (v := .tmp 49) (w1 := ((w12.setCell ⟨gc, 0, none⟩ (.string a.f0)).setCell ⟨gc, 1, none⟩ (.string a.f1))) ?hg ?ho ?hn ?hr ?_; (case ho => rfl); (case hg => rfl); (case hn => rfl); (case hr => first | (go_simp; done) | (go_simp; rfl)); intro w13 hw; have n1_ : Aside0 (w13.heap[gc]? = some (.cells #[.string a.f0, .string a.f1] 57 (0, 0))) := ⟨by rw [hw]; exact blk_put (blk_put BX.out 0 _ rfl) 1 _ rfl⟩; have n2_ : Aside0 (Below wr.heap.size wr w13) := ⟨by rw [hw]; exact (HBX.out.setCell (Nat.le_of_eq HGB.out.symm) _).setCell (Nat.le_of_eq HGB.out.symm) _⟩; clear hw hd0 hd1 hfd0 hfd1 BX HBX hx0 hx1; have BC := n1_; have HS13 := Aside0.mk (HSi.out.below n2_.out); have BK13 := Aside0.mk (blk_below BKi.out n2_.out); have HQ13 := Aside0.mk (Kd.R_below HQi.out n2_.out); clear n1_ n2_; have hd0 : w13.cell? ⟨gc, 0, none⟩ = some (.string a.f0) := (blk_cell BC.out 0).trans rfl; have hd1 : w13.cell? ⟨gc, 1, none⟩ = some (.string a.f1) := (blk_cell BC.out 1).trans rfl; have hfd0 := blk_frozen BC.out 0; have hfd1 := blk_frozen BC.out 1))
              go_roundg (qs.length - (j + 1) + 1)
              case measure => have := HKi.out; have := HJT.out; omega
              case rel => exact ⟨j + 1, _, _, _, _, rfl, rfl, rfl, by first | rfl | (rw [HEJ.out]), ⟨⟨by have := HJT.out; omega, rfl⟩⟩, H9, HS13, BK13, HQ13⟩
            have f0b : (a.f0.toList == ([111, 102, 102] : List UInt8)) = false := beq_eq_false_iff_ne.mpr f0
            by_cases f1 : a.f0.toList = ([108, 105, 110, 101] : List UInt8)
            · have f1b : (a.f0.toList == ([108, 105, 110, 101] : List UInt8)) = true := beq_iff_eq.mpr f1
              have hq := HHi.out
              rw [if_neg f0, if_pos f1] at hq
              have H9 := Aside0.mk hq
              clear hq HHi f0 f1
              go_wp2_with (first | ((with_reducible refine gate_dst (N := 12) rfl ?_); refine box_event ?hg (N := 12) ?hd (cs := #[.string ⟨#[]⟩, .string ⟨#[]⟩]) (t := 57) ?hr ?_; (case hd => rfl); (case hg => rfl); (case hr => first | (go_simp; done) | (go_simp; rfl)); intro gc hg w12 hbox hb; have BX := Aside0.mk hbox; have HBX := Aside0.mk hb; have HGB := Aside0.mk hg; clear hbox hb hg; have hd0 : w12.cell? ⟨gc, 0, none⟩ = some (.string ⟨#[]⟩) := (blk_cell BX.out 0).trans rfl; have hd1 : w12.cell? ⟨gc, 1, none⟩ = some (.string ⟨#[]⟩) := (blk_cell BX.out 1).trans rfl; have hfd0 := blk_frozen BX.out 0; have hfd1 := blk_frozen BX.out 1; replace hx0 := pw_cell_below HBX.out hx0; replace hx1 := pw_cell_below HBX.out hx1) | ((with_reducible refine gate_store (t := 57) (p := 12) rfl ?_); refine store_event (t := 57) (p := 12) (v := .tmp 49) (w1 := ((w12.setCell ⟨gc, 0, none⟩ (.string a.f0)).setCell ⟨gc, 1, none⟩ (.string a.f1))) ?hg ?ho ?hn ?hr ?_; (case ho => rfl); (case hg => rfl); (case hn => rfl); (case hr => first | (go_simp; done) | (go_simp; rfl)); intro w13 hw; have n1_ : Aside0 (w13.heap[gc]? = some (.cells #[.string a.f0, .string a.f1] 57 (0, 0))) := ⟨by rw [hw]; exact blk_put (blk_put BX.out 0 _ rfl) 1 _ rfl⟩; have n2_ : Aside0 (Below wr.heap.size wr w13) := ⟨by rw [hw]; exact (HBX.out.setCell (Nat.le_of_eq HGB.out.symm) _).setCell (Nat.le_of_eq HGB.out.symm) _⟩; clear hw hd0 hd1 hfd0 hfd1 BX HBX hx0 hx1; have BC := n1_; have HS13 := Aside0.mk (HSi.out.below n2_.out); have BK13 := Aside0.mk (blk_below BKi.out n2_.out); have HQ13 := Aside0.mk (Kd.R_below HQi.out n2_.out); clear n1_ n2_; have hd0 : w13.cell? ⟨gc, 0, none⟩ = some (.string a.f0) := (blk_cell BC.out 0).trans rfl; have hd1 : w13.cell? ⟨gc, 1, none⟩ = some (.string a.f1) := (blk_cell BC.out 1).trans rfl; have hfd0 := blk_frozen BC.out 0; have hfd1 := blk_frozen BC.out 1))
              go_roundg (qs.length - (j + 1) + 1)
              case measure => have := HKi.out; have := HJT.out; omega
              case rel => exact ⟨j + 1, _, _, _, _, rfl, rfl, rfl, by first | rfl | (rw [HEJ.out]), ⟨⟨by have := HJT.out; omega, rfl⟩⟩, H9, HS13, BK13, HQ13⟩
            have f1b : (a.f0.toList == ([108, 105, 110, 101] : List UInt8)) = false := beq_eq_false_iff_ne.mpr f1
            by_cases f2 : a.f0.toList = ([111, 110] : List UInt8)
            · have f2b : (a.f0.toList == ([111, 110] : List UInt8)) = true := beq_iff_eq.mpr f2
              have hq := HHi.out
              rw [if_neg f0, if_neg f1, if_pos f2] at hq
              have H9 := Aside0.mk hq
              clear hq HHi f0 f1 f2
              go_wp2_with (first | ((with_reducible refine gate_dst (N := 12) rfl ?_); refine box_event ?hg (N := 12) ?hd (cs := #[.string ⟨#[]⟩, .string ⟨#[]⟩]) (t := 57) ?hr ?_; (case hd => rfl); (case hg => rfl); (case hr => first | (go_simp; done) | (go_simp; rfl)); intro gc hg w12 hbox hb; have BX := Aside0.mk hbox; have HBX := Aside0.mk hb; have HGB := Aside0.mk hg; clear hbox hb hg; have hd0 : w12.cell? ⟨gc, 0, none⟩ = some (.string ⟨#[]⟩) := (blk_cell BX.out 0).trans rfl; have hd1 : w12.cell? ⟨gc, 1, none⟩ = some (.string ⟨#[]⟩) := (blk_cell BX.out 1).trans rfl; have hfd0 := blk_frozen BX.out 0; have hfd1 := blk_frozen BX.out 1; replace hx0 := pw_cell_below HBX.out hx0; replace hx1 := pw_cell_below HBX.out hx1) | ((with_reducible refine gate_store (t := 57) (p := 12) rfl ?_); refine store_event (t := 57) (p := 12) (v := .tmp 49) (w1 := ((w12.setCell ⟨gc, 0, none⟩ (.string a.f0)).setCell ⟨gc, 1, none⟩ (.string a.f1))) ?hg ?ho ?hn ?hr ?_; (case ho => rfl); (case hg => rfl); (case hn => rfl); (case hr => first | (go_simp; done) | (go_simp; rfl)); intro w13 hw; have n1_ : Aside0 (w13.heap[gc]? = some (.cells #[.string a.f0, .string a.f1] 57 (0, 0))) := ⟨by rw [hw]; exact blk_put (blk_put BX.out 0 _ rfl) 1 _ rfl⟩; have n2_ : Aside0 (Below wr.heap.size wr w13) := ⟨by rw [hw]; exact (HBX.out.setCell (Nat.le_of_eq HGB.out.symm) _).setCell (Nat.le_of_eq HGB.out.symm) _⟩; clear hw hd0 hd1 hfd0 hfd1 BX HBX hx0 hx1; have BC := n1_; have HS13 := Aside0.mk (HSi.out.below n2_.out); have BK13 := Aside0.mk (blk_below BKi.out n2_.out); have HQ13 := Aside0.mk (Kd.R_below HQi.out n2_.out); clear n1_ n2_; have hd0 : w13.cell? ⟨gc, 0, none⟩ = some (.string a.f0) := (blk_cell BC.out 0).trans rfl; have hd1 : w13.cell? ⟨gc, 1, none⟩ = some (.string a.f1) := (blk_cell BC.out 1).trans rfl; have hfd0 := blk_frozen BC.out 0; have hfd1 := blk_frozen BC.out 1))
              go_roundg (qs.length - (j + 1) + 1)
              case measure => have := HKi.out; have := HJT.out; omega
              case rel => exact ⟨j + 1, _, _, _, _, rfl, rfl, rfl, by first | rfl | (rw [HEJ.out]), ⟨⟨by have := HJT.out; omega, rfl⟩⟩, H9, HS13, BK13, HQ13⟩
            have f2b : (a.f0.toList == ([111, 110] : List UInt8)) = false := beq_eq_false_iff_ne.mpr f2
            by_cases f3 : a.f0.toList = ([110, 101, 120, 116] : List UInt8)
            · have f3b : (a.f0.toList == ([110, 101, 120, 116] : List UInt8)) = true := beq_iff_eq.mpr f3
              have hq := HHi.out
              rw [if_neg f0, if_neg f1, if_neg f2, if_pos f3] at hq
              have H9 := Aside0.mk hq
              clear hq HHi f0 f1 f2 f3
              go_wp2_with (first | ((with_reducible refine gate_dst (N := 12) rfl ?_); refine box_event ?hg (N := 12) ?hd (cs := #[.string ⟨#[]⟩, .string ⟨#[]⟩]) (t := 57) ?hr ?_; (case hd => rfl); (case hg => rfl); (case hr => first | (go_simp; done) | (go_simp; rfl)); intro gc hg w12 hbox hb; have BX := Aside0.mk hbox; have HBX := Aside0.mk hb; have HGB := Aside0.mk hg; clear hbox hb hg; have hd0 : w12.cell? ⟨gc, 0, none⟩ = some (.string ⟨#[]⟩) := (blk_cell BX.out 0).trans rfl; have hd1 : w12.cell? ⟨gc, 1, none⟩ = some (.string ⟨#[]⟩) := (blk_cell BX.out 1).trans rfl; have hfd0 := blk_frozen BX.out 0; have hfd1 := blk_frozen BX.out 1; replace hx0 := pw_cell_below HBX.out hx0; replace hx1 := pw_cell_below HBX.out hx1) | ((with_reducible refine gate_store (t := 57) (p := 12) rfl ?_); refine store_event (t := 57) (p := 12) (v := .tmp 49) (w1 := ((w12.setCell ⟨gc, 0, none⟩ (.string a.f0)).setCell ⟨gc, 1, none⟩ (.string a.f1))) ?hg ?ho ?hn ?hr ?_; (case ho => rfl); (case hg => rfl); (case hn => rfl); (case hr => first | (go_simp; done) | (go_simp; rfl)); intro w13 hw; have n1_ : Aside0 (w13.heap[gc]? = some (.cells #[.string a.f0, .string a.f1] 57 (0, 0))) := ⟨by rw [hw]; exact blk_put (blk_put BX.out 0 _ rfl) 1 _ rfl⟩; have n2_ : Aside0 (Below wr.heap.size wr w13) := ⟨by rw [hw]; exact (HBX.out.setCell (Nat.le_of_eq HGB.out.symm) _).setCell (Nat.le_of_eq HGB.out.symm) _⟩; clear hw hd0 hd1 hfd0 hfd1 BX HBX hx0 hx1; have BC := n1_; have HS13 := Aside0.mk (HSi.out.below n2_.out); have BK13 := Aside0.mk (blk_below BKi.out n2_.out); have HQ13 := Aside0.mk (Kd.R_below HQi.out n2_.out); clear n1_ n2_; have hd0 : w13.cell? ⟨gc, 0, none⟩ = some (.string a.f0) := (blk_cell BC.out 0).trans rfl; have hd1 : w13.cell? ⟨gc, 1, none⟩ = some (.string a.f1) := (blk_cell BC.out 1).trans rfl; have hfd0 := blk_frozen BC.out 0; have hfd1 := blk_frozen BC.out 1))
              go_roundg (qs.length - (j + 1) + 1)
              case measure => have := HKi.out; have := HJT.out; omega
              case rel => exact ⟨j + 1, _, _, _, _, rfl, rfl, rfl, by first | rfl | (rw [HEJ.out]), ⟨⟨by have := HJT.out; omega, rfl⟩⟩, H9, HS13, BK13, HQ13⟩
            have f3b : (a.f0.toList == ([110, 101, 120, 116] : List UInt8)) = false := beq_eq_false_iff_ne.mpr f3
            by_cases f4 : a.f0.toList = ([119, 111, 114, 100, 115] : List UInt8)
            · have f4b : (a.f0.toList == ([119, 111, 114, 100, 115] : List UInt8)) = true := beq_iff_eq.mpr f4
              have hq := HHi.out
              rw [if_neg f0, if_neg f1, if_neg f2, if_neg f3, if_pos f4] at hq
              obtain ⟨ws3, hkn, hq⟩ := Option.bind_eq_some_iff.mp hq
              have HKN := Aside0.mk hkn
              have H9 := Aside0.mk hq
              clear hq hkn HHi f0 f1 f2 f3 f4
              go_wp2_with (first | ((with_reducible refine gate_dst (N := 12) rfl ?_); refine box_event ?hg (N := 12) ?hd (cs := #[.string ⟨#[]⟩, .string ⟨#[]⟩]) (t := 57) ?hr ?_; (case hd => rfl); (case hg => rfl); (case hr => first | (go_simp; done) | (go_simp; rfl)); intro gc hg w12 hbox hb; have BX := Aside0.mk hbox; have HBX := Aside0.mk hb; have HGB := Aside0.mk hg; clear hbox hb hg; have hd0 : w12.cell? ⟨gc, 0, none⟩ = some (.string ⟨#[]⟩) := (blk_cell BX.out 0).trans rfl; have hd1 : w12.cell? ⟨gc, 1, none⟩ = some (.string ⟨#[]⟩) := (blk_cell BX.out 1).trans rfl; have hfd0 := blk_frozen BX.out 0; have hfd1 := blk_frozen BX.out 1; replace hx0 := pw_cell_below HBX.out hx0; replace hx1 := pw_cell_below HBX.out hx1) | ((with_reducible refine gate_store (t := 57) (p := 12) rfl ?_); refine store_event (t := 57) (p := 12) (v := .tmp 49) (w1 := ((w12.setCell ⟨gc, 0, none⟩ (.string a.f0)).setCell ⟨gc, 1, none⟩ (.string a.f1))) ?hg ?ho ?hn ?hr ?_; (case ho => rfl); (case hg => rfl); (case hn => rfl); (case hr => first | (go_simp; done) | (go_simp; rfl)); intro w13 hw; have n1_ : Aside0 (w13.heap[gc]? = some (.cells #[.string a.f0, .string a.f1] 57 (0, 0))) := ⟨by rw [hw]; exact blk_put (blk_put BX.out 0 _ rfl) 1 _ rfl⟩; have n2_ : Aside0 (Below wr.heap.size wr w13) := ⟨by rw [hw]; exact (HBX.out.setCell (Nat.le_of_eq HGB.out.symm) _).setCell (Nat.le_of_eq HGB.out.symm) _⟩; clear hw hd0 hd1 hfd0 hfd1 BX HBX hx0 hx1; have BC := n1_; have HS13 := Aside0.mk (HSi.out.below n2_.out); have BK13 := Aside0.mk (blk_below BKi.out n2_.out); have HQ13 := Aside0.mk (Kd.R_below HQi.out n2_.out); clear n1_ n2_; have hd0 : w13.cell? ⟨gc, 0, none⟩ = some (.string a.f0) := (blk_cell BC.out 0).trans rfl; have hd1 : w13.cell? ⟨gc, 1, none⟩ = some (.string a.f1) := (blk_cell BC.out 1).trans rfl; have hfd0 := blk_frozen BC.out 0; have hfd1 := blk_frozen BC.out 1) | (go_at_call 22; ((refine (pragma_Rules_known.at k _ _ _ _ _ offs a.f1 ws1 ws3 w w13 HS13.out.again HKN.out).mono ?_); rintro e w14 ⟨rfl, hs⟩; have HS14 := Aside0.mk (HS13.out.since hs); have BK14 := Aside0.mk (HS13.out.keepB hs BK13.out (by decide)); have HQ14 := Aside0.mk (HS13.out.keepR hs HQ13.out (by decide)); clear hs)))
              go_roundg (qs.length - (j + 1) + 1)
              case measure => have := HKi.out; have := HJT.out; omega
              case rel => exact ⟨j + 1, _, _, _, _, rfl, rfl, rfl, by first | rfl | (rw [HEJ.out]), ⟨⟨by have := HJT.out; omega, rfl⟩⟩, H9, HS14, BK14, HQ14⟩
            have f4b : (a.f0.toList == ([119, 111, 114, 100, 115] : List UInt8)) = false := beq_eq_false_iff_ne.mpr f4
            have hq := HHi.out
            rw [if_neg f0, if_neg f1, if_neg f2, if_neg f3, if_neg f4] at hq
            have H9 := Aside0.mk hq
            clear hq HHi f0 f1 f2 f3 f4
            go_wp2_with (first | ((with_reducible refine gate_dst (N := 12) rfl ?_); refine box_event ?hg (N := 12) ?hd (cs := #[.string ⟨#[]⟩, .string ⟨#[]⟩]) (t := 57) ?hr ?_; (case hd => rfl); (case hg => rfl); (case hr => first | (go_simp; done) | (go_simp; rfl)); intro gc hg w12 hbox hb; have BX := Aside0.mk hbox; have HBX := Aside0.mk hb; have HGB := Aside0.mk hg; clear hbox hb hg; have hd0 : w12.cell? ⟨gc, 0, none⟩ = some (.string ⟨#[]⟩) := (blk_cell BX.out 0).trans rfl; have hd1 : w12.cell? ⟨gc, 1, none⟩ = some (.string ⟨#[]⟩) := (blk_cell BX.out 1).trans rfl; have hfd0 := blk_frozen BX.out 0; have hfd1 := blk_frozen BX.out 1; replace hx0 := pw_cell_below HBX.out hx0; replace hx1 := pw_cell_below HBX.out hx1) | ((with_reducible refine gate_store (t := 57) (p := 12) rfl ?_); refine store_event (t := 57) (p := 12) (v := .tmp 49) (w1 := ((w12.setCell ⟨gc, 0, none⟩ (.string a.f0)).setCell ⟨gc, 1, none⟩ (.string a.f1))) ?hg ?ho ?hn ?hr ?_; (case ho => rfl); (case hg => rfl); (case hn => rfl); (case hr => first | (go_simp; done) | (go_simp; rfl)); intro w13 hw; have n1_ : Aside0 (w13.heap[gc]? = some (.cells #[.string a.f0, .string a.f1] 57 (0, 0))) := ⟨by rw [hw]; exact blk_put (blk_put BX.out 0 _ rfl) 1 _ rfl⟩; have n2_ : Aside0 (Below wr.heap.size wr w13) := ⟨by rw [hw]; exact (HBX.out.setCell (Nat.le_of_eq HGB.out.symm) _).setCell (Nat.le_of_eq HGB.out.symm) _⟩; clear hw hd0 hd1 hfd0 hfd1 BX HBX hx0 hx1; have BC := n1_; have HS13 := Aside0.mk (HSi.out.below n2_.out); have BK13 := Aside0.mk (blk_below BKi.out n2_.out); have HQ13 := Aside0.mk (Kd.R_below HQi.out n2_.out); clear n1_ n2_; have hd0 : w13.cell? ⟨gc, 0, none⟩ = some (.string a.f0) := (blk_cell BC.out 0).trans rfl; have hd1 : w13.cell? ⟨gc, 1, none⟩ = some (.string a.f1) := (blk_cell BC.out 1).trans rfl; have hfd0 := blk_frozen BC.out 0; have hfd1 := blk_frozen BC.out 1))
            go_roundg (qs.length - (j + 1) + 1)
            case measure => have := HKi.out; have := HJT.out; omega
            case rel => exact ⟨j + 1, _, _, _, _, rfl, rfl, rfl, by first | rfl | (rw [HEJ.out]), ⟨⟨by have := HJT.out; omega, rfl⟩⟩, H9, HS13, BK13, HQ13⟩
          · have e1 := decide_eq_false (show ¬ (j : Int) < (qs.length : Int) by omega)
            have e2 := decide_eq_false hjt
            have hh := Hi.out
            rw [List.drop_of_length_le (by have := HKi.out; omega)] at hh
            obtain ⟨rfl, rfl, rfl, rfl⟩ : o1 = off2 ∧ n1 = next2 ∧ s1 = skip2 ∧ ws1 = ws2 := by simpa [pragma_Read.l1] using hh
            clear hh Hi hjt
            cases s1
            · go_wp2
              go_roundg (n.toNat - (i + 1) + 1)
              case measure => have := HK.out; have := HLT.out; omega
              case rel => exact ⟨i + 1, _, _, _, _, rfl, rfl, by rw [HEW.out], ⟨⟨by have := HLT.out; omega, rfl⟩⟩, ⟨by simpa using HH.out⟩, HSi⟩
            · obtain ⟨⟨A, c, hrw0, hrw⟩, _⟩ := HSi.out
              have HROW := Aside0.mk hrw0
              have HRW := Aside0.mk hrw
              clear hrw0 hrw
              go_upto_region 26 with fail
              refine start_ (n := 11) (S := fun w' => w'.cell? ⟨w.heap.size + 1, 0, none⟩ = some (.slice A offs.length c) ∧ w'.cell? ⟨gb, 0, none⟩ = some (.int .i64 at_) ∧ w'.cell? ⟨gb, 1, none⟩ = some (.int .i64 len)) (ds := [7, 10]) #[false, false, false, false, false, false, false, false, false, false, false] (by kernel_rfl) rfl rfl ⟨(blk_cell (blk_drew HROW.out) 0).trans rfl, (blk_cell (blk_drew BKi.out) 0).trans rfl, (blk_cell (blk_drew BKi.out) 1).trans rfl⟩ (fun hHeld => ?_)
              refine pure_ (i := 0) (N := some 68) (v := ?_) (a' := ?_) #[true, false, false, false, false, false, false, false, false, false, false] rfl rfl (by kernel_rfl) (fun _ _ _ h => h) (Or.inl ⟨by rfl, ?_⟩) ?_ ?_
              rotate_left
              · intro w'
                go_simp
                with_reducible rfl
              rotate_left
              · simp only [Act.put, List.setIfInBounds_toArray, List.set_cons_zero, List.set_cons_succ, i64_w, i32_w]
                rfl
              refine pure_ (i := 1) (N := some 69) (v := ?_) (a' := ?_) #[true, true, false, false, false, false, false, false, false, false, false] rfl rfl (by kernel_rfl) (fun _ _ _ h => h) (Or.inl ⟨by rfl, ?_⟩) ?_ ?_
              rotate_left
              · intro w'
                go_simp
                with_reducible rfl
              rotate_left
              · simp only [Act.put, List.setIfInBounds_toArray, List.set_cons_zero, List.set_cons_succ, i64_w, i32_w]
                rfl
              refine pure_ (i := 2) (N := some 70) (v := ?_) (a' := ?_) #[true, true, true, false, false, false, false, false, false, false, false] rfl rfl (by kernel_rfl) (fun _ _ _ h => h) (Or.inl ⟨by rfl, ?_⟩) ?_ ?_
              rotate_left
              · intro w'
                go_simp
                with_reducible rfl
              rotate_left
              · simp only [Act.put, List.setIfInBounds_toArray, List.set_cons_zero, List.set_cons_succ, i64_w, i32_w]
                rfl
              refine pure_ (i := 3) (N := some 71) (v := ?_) (a' := ?_) #[true, true, true, true, false, false, false, false, false, false, false] rfl rfl (by kernel_rfl) (fun _ _ _ h => h) (Or.inl ⟨by rfl, ?_⟩) ?_ ?_
              rotate_left
              · intro w'
                go_simp
                with_reducible rfl
              rotate_left
              · simp only [Act.put, List.setIfInBounds_toArray, List.set_cons_zero, List.set_cons_succ, i64_w, i32_w]
                rfl
              refine take_ (i := 4) (N := some 72) (v := ?_) (a' := ?_) #[true, true, true, true, true, false, false, false, false, false, false] rfl rfl (by kernel_rfl) (fun _ _ _ h => h) (Or.inl ⟨by rfl, ?_⟩) hHeld ?_ ?_
              rotate_left
              · rintro w' ⟨s0, s1, s2⟩
                go_simp
                with_reducible rfl
              rotate_left
              · simp only [Act.put, List.setIfInBounds_toArray, List.set_cons_zero, List.set_cons_succ, i64_w, i32_w]
                rfl
              refine take_ (i := 5) (N := some 73) (v := ?_) (a' := ?_) #[true, true, true, true, true, true, false, false, false, false, false] rfl rfl (by kernel_rfl) (fun _ _ _ h => h) (Or.inl ⟨by rfl, ?_⟩) hHeld ?_ ?_
              rotate_left
              · rintro w' ⟨s0, s1, s2⟩
                go_simp
                with_reducible rfl
              rotate_left
              · simp only [Act.put, List.setIfInBounds_toArray, List.set_cons_zero, List.set_cons_succ, i64_w, i32_w]
                rfl
              refine one_ (i := 6) (N := some 74) #[true, true, true, true, true, true, true, false, false, false, false] rfl rfl (by kernel_rfl) (by decide) (fun K hK => ?_)
              refine value_ (w1 := ?_) (v := ?_) (by rfl) rfl ?_ ?_
              rotate_left 2
              · go_simp
                constructor
                · rfl
                · rfl
              refine hK.out _ _ ⟨(blk_cell (blk_alloc (blk_drew HROW.out) _) 0).trans rfl, (blk_cell (blk_alloc (blk_drew BKi.out) _) 0).trans rfl, (blk_cell (blk_alloc (blk_drew BKi.out) _) 1).trans rfl⟩ (fun hHeld => ?_)
              clear hK K
              refine norm_ (a' := ?_) ?_ ?_
              rotate_left
              · show Act.put _ (some 74) _ = _
                simp only [Act.put, List.setIfInBounds_toArray, List.set_cons_zero, List.set_cons_succ, i64_w, i32_w]
                rfl
              refine last_ (i := 7) (N := some 75) #[true, true, true, true, true, true, true, true, false, false, false] rfl rfl (by kernel_rfl) (by decide) (fun K hK => ?_)
              refine Kd.R_append_step kSp (w0 := w) w.heap.size (by rfl) (.tmp 72) (.tmp 74) 29 40 (.agg #[.int .i64 0, .int .i64 0]) 16 rfl Tryd.underlying29 info40 rfl (by decide) (by omega) (.slice A offs.length c) offs (at_, len) [.int .i64 at_, .int .i64 len] (fun k => w2.heap.size ≤ k) (fun _ => False) rfl rfl ⟨[.int .i64 at_], [.int .i64 len], rfl, rfl, rfl⟩ (fun _ hk => hk.elim) (fun q hq => Nat.le_trans HSi.out.drew1.hB hq) (Kd.R_drew HRW.out) HSi.out.drew1.bel (below_size HSi.out.drew1.bel) (by have := HOL.out; omega) ?_
              intro v1 w5 ho hb hgw _
              obtain ⟨offs1, hof1⟩ : ∃ o1, o1 = offs ++ [(at_, len)] := ⟨_, rfl⟩
              rw [← hof1] at ho
              have HOF := Aside0.mk hof1
              clear hof1
              obtain ⟨A1, c1, ev⟩ := Kd.R_slice ho
              subst ev
              have HPS := HSi.out.drew1.pushed (Nat.le_refl _) ((blk_cell (blk_drew HROW.out) 0).trans rfl) ho rfl hb hgw
              have HP1 := Aside0.mk HPS.1
              have HP2 := Aside0.mk HPS.2
              have hx5 : w5.cell? ⟨w.heap.size + 1, 0, none⟩ = some (.slice A offs.length c) := (blk_cell HP1.out 0).trans rfl
              have hf5 := blk_frozen HP1.out 0
              clear HPS ho hb hgw
              refine hK.out _ _ ?_
              clear hK K
              refine norm_ (a' := ?_) ?_ ?_
              rotate_left
              · show Act.put _ (some 75) _ = _
                simp only [Act.put, List.setIfInBounds_toArray, List.set_cons_zero, List.set_cons_succ, i64_w, i32_w]
                rfl
              refine pure_ (i := 8) (N := some 76) (v := ?_) (a' := ?_) #[true, true, true, true, true, true, true, true, true, false, false] rfl rfl (by kernel_rfl) (fun _ _ _ h => h) (Or.inl ⟨by rfl, ?_⟩) ?_ ?_
              rotate_left
              · intro w'
                go_simp
                with_reducible rfl
              rotate_left
              · simp only [Act.put, List.setIfInBounds_toArray, List.set_cons_zero, List.set_cons_succ, i64_w, i32_w]
                rfl
              refine pure_ (i := 9) (N := some 77) (v := ?_) (a' := ?_) #[true, true, true, true, true, true, true, true, true, true, false] rfl rfl (by kernel_rfl) (fun _ _ _ h => h) (Or.inl ⟨by rfl, ?_⟩) ?_ ?_
              rotate_left
              · intro w'
                go_simp
                with_reducible rfl
              rotate_left
              · simp only [Act.put, List.setIfInBounds_toArray, List.set_cons_zero, List.set_cons_succ, i64_w, i32_w]
                rfl
              refine last_ (i := 10) (N := none) #[true, true, true, true, true, true, true, true, true, true, true] rfl rfl (by kernel_rfl) (by decide) (fun K hK => ?_)
              refine skip_ (w1 := ?_) (by rfl) rfl ?_ ?_
              rotate_left
              · go_simp
                rfl
              refine hK.out _ _ ?_
              clear hK K
              refine done_ (by kernel_rfl) ?_

              clear hHeld
              go_wp2
              go_roundg (n.toNat - (i + 1) + 1)
              case measure => have := HK.out; have := HLT.out; omega
              case rel => exact ⟨i + 1, _, _, offs1, _, rfl, rfl, by first | (rw [HEW.out]; done) | exact congrArg (Value.int .i64) (by omega), ⟨⟨by have := HLT.out; omega, rfl⟩⟩, ⟨by rw [HOF.out]; simpa using HH.out⟩, HP2⟩
    · have hni : i = n.toNat := by have := HK.out; omega
      have d1 := decide_eq_false (show ¬ (i : Int) < n by omega)
      have hh := H.out
      rw [hni, Nat.sub_self] at hh
      obtain rfl := Option.some.inj hh
      obtain ⟨⟨A, c, hrw0, hrw⟩, hst, hbel, hgl, hml, _, _⟩ := HS.out
      have HROW := Aside0.mk hrw0
      have HRW := Aside0.mk hrw
      have HST := Aside0.mk hst
      have HBL := Aside0.mk hbel
      clear hrw0 hrw hst hbel hh hni hlt HK H
      go_wp2
      go_ret
      refine ⟨_, rfl, ?_, HBL.out⟩
      intro W' hW
      refine .inr ⟨⟨offs, ws⟩, w.heap.size + 1, w.heap.size, A, c, rfl, rfl, (hW _ (by omega) (Array.getElem?_eq_some_iff.1 HROW.out).1).trans HROW.out, ?_, ?_, HST.out.kept (hW _ (Nat.le_refl _) HST.out.lt)⟩
      · exact (Kd.R_reads' HRW.out).2.1
      · exact (Kd.R_reads' (Kd.R_step (Kd.R_mono (Kd.R_bound HRW.out) (ok' := fun k => w.heap.size ≤ k) (fun k hk => hk.2.1)) hW)).2.2
end

/-! ### pragma_Rules_Off: function 10 -/
section
open Go.Proofs.YtkflgnhcfhmkdaaDoor.H
/-- Does a place lie on one of some spans? -/
def pragma_Rules_Off.any (at_ : Int) : List (Int × Int) → Bool
  | [] => false
  | x :: t => if at_ ≥ x.1 then (if at_ < wrap64 (x.1 + x.2) then true else pragma_Rules_Off.any at_ t) else pragma_Rules_Off.any at_ t
def pragma_Rules_Off.f (l0 : List RlT) (a1 : Int) : Option Bool := match l0 with
  | [] => some false
  | x :: _ => if x.off.length < 1000000000000 then some (pragma_Rules_Off.any a1 x.off) else none
set_option maxHeartbeats 4000000 in
set_option maxRecDepth 100000 in
theorem pragma_Rules_Off.calls (V0 : Value) (l0 : List RlT) (a1 : Int) (r : Bool) (w : World) (hs0 : RlP w V0 l0) (h : pragma_Rules_Off.f l0 a1 = some r) :
    Calls Tryd.prog 10 #[V0, .int .i64 a1] w fun e w' => e = .returned (.bool r) ∧ Below w.heap.size w w' := by
  rcases hs0 with ⟨rfl, rfl⟩ | ⟨x, g, m, A, c, rfl, rfl, hg, hl, hC, hS⟩
  · obtain rfl : false = r := by simpa [pragma_Rules_Off.f] using h
    go_enter Tryd.func10, Tryd.ntmps10
    go_wp2
    go_ret
    exact ⟨rfl, Below.refl _ _⟩
  · have h : (if x.off.length < 1000000000000 then some (pragma_Rules_Off.any a1 x.off) else none) = some r := h
    split at h
    case isFalse => cases h
    case isTrue hlen =>
    have h := Option.some.inj h
    generalize x.off = L at *
    have hx := cell_of_heap hg 0
    have HH := Aside0.mk h
    have HC := Aside0.mk hC
    have HLN := Aside0.mk hlen
    have HB := Aside0.mk (Below.refl w.heap.size w)
    clear h hC hg hl hS hlen
    go_enter Tryd.func10, Tryd.ntmps10
    go_wp2
    go_loopg [14] (L.length + 1) (fun kq v14 w' => ∃ (i : Nat), v14 = .int .i64 (i : Int) ∧ Aside0 (i ≤ L.length ∧ kq = L.length - i + 1) ∧ Aside0 (pragma_Rules_Off.any a1 (L.drop i) = r) ∧ Aside0 (Below w.heap.size w w'))
    case atStart => exact ⟨0, rfl, ⟨⟨Nat.zero_le _, rfl⟩⟩, HH, HB⟩
    case round =>
      clear HH HB hx
      obtain ⟨i, rfl, HK, HH, HB⟩ := hrel
      by_cases hlt : i < L.length
      · have d1 := decide_eq_true (show (i : Int) < (L.length : Int) by omega)
        have d2 := decide_eq_true hlt
        obtain ⟨y, hy⟩ : ∃ y, L.getD i ((0 : Int), (0 : Int)) = y := ⟨_, rfl⟩
        obtain ⟨ad, e1, hc1, hc2⟩ := at_kSp (Kd.C_below HC.out HB.out) i hlt
        rw [hy] at hc1 hc2
        subst e1
        have p1 := eq_true (show 0 ≤ (i : Int) by omega)
        have q1 := eq_true (show (i : Int) < (L.length : Int) by omega)
        have q2 := eq_true hlt
        have hdr : L.drop i = y :: L.drop (i + 1) := by
          rw [List.drop_eq_getElem_cons hlt, ← hy, List.getD_eq_getElem?_getD, List.getElem?_eq_getElem hlt]
          rfl
        have hh := HH.out
        rw [hdr] at hh
        unfold pragma_Rules_Off.any at hh
        have hew := Aside0.mk (show wrap64 ((i : Int) + 1) = ((i + 1 : Nat) : Int) by have := HLN.out; rw [Go.Proofs.YtkflgnhcfhmkdaaDoor.M.w64 (by omega) (by omega)]; omega)
        have HQ := Aside0.mk hh
        have HLT := Aside0.mk hlt
        clear hy hdr hh HH hlt
        by_cases g1 : a1 ≥ y.1
        · have g1b := decide_eq_true g1
          have hq := HQ.out
          rw [if_pos g1] at hq
          by_cases g2 : a1 < wrap64 (y.1 + y.2)
          · have g2b := decide_eq_true g2
            rw [if_pos g2] at hq
            have H1 := Aside0.mk hq
            clear hq g1 g2 HQ
            go_wp2_with (((with_reducible refine gate_dst (N := 6) rfl ?_); refine box_event ?hg (N := 6) ?hd (cs := #[.int .i64 0, .int .i64 0]) (t := 40) ?hr ?_; (case hd => rfl); (case hg => rfl); (case hr => first | (go_simp; done) | (go_simp; rfl)); intro gb hg w7 hbox hb; have n0_ := Aside0.mk (below_step HB.out hb); have n1_ := Aside0.mk hbox; have n2_ := Aside0.mk ((by rw [hg]; exact below_size HB.out) : w.heap.size ≤ gb); replace hc1 := pw_cell_below hb hc1; replace hc2 := pw_cell_below hb hc2; have hb1 : w7.cell? ⟨gb, 0, none⟩ = some (.int .i64 0) := (blk_cell n1_.out 0).trans rfl; have hb2 : w7.cell? ⟨gb, 1, none⟩ = some (.int .i64 0) := (blk_cell n1_.out 1).trans rfl; have hf1 := blk_frozen n1_.out 0; have hf2 := blk_frozen n1_.out 1; have HB1 := n0_; have BK := n1_; have GW := n2_; clear n0_ n1_ n2_ hb hbox hg))
            go_ret
            exact ⟨by rw [← H1.out]; rfl, by repeat (first | exact HB1.out | refine below_set ?_ GW.out)⟩
          · have g2b := decide_eq_false g2
            rw [if_neg g2] at hq
            have H1 := Aside0.mk hq
            clear hq g1 g2 HQ
            go_wp2_with (((with_reducible refine gate_dst (N := 6) rfl ?_); refine box_event ?hg (N := 6) ?hd (cs := #[.int .i64 0, .int .i64 0]) (t := 40) ?hr ?_; (case hd => rfl); (case hg => rfl); (case hr => first | (go_simp; done) | (go_simp; rfl)); intro gb hg w7 hbox hb; have n0_ := Aside0.mk (below_step HB.out hb); have n1_ := Aside0.mk hbox; have n2_ := Aside0.mk ((by rw [hg]; exact below_size HB.out) : w.heap.size ≤ gb); replace hc1 := pw_cell_below hb hc1; replace hc2 := pw_cell_below hb hc2; have hb1 : w7.cell? ⟨gb, 0, none⟩ = some (.int .i64 0) := (blk_cell n1_.out 0).trans rfl; have hb2 : w7.cell? ⟨gb, 1, none⟩ = some (.int .i64 0) := (blk_cell n1_.out 1).trans rfl; have hf1 := blk_frozen n1_.out 0; have hf2 := blk_frozen n1_.out 1; have HB1 := n0_; have BK := n1_; have GW := n2_; clear n0_ n1_ n2_ hb hbox hg))
            go_roundg (L.length - (i + 1) + 1)
            case measure => have := HK.out; have := HLT.out; omega
            case rel => exact ⟨i + 1, by rw [hew.out], ⟨⟨by have := HLT.out; omega, rfl⟩⟩, H1, ⟨by repeat (first | exact HB1.out | refine below_set ?_ GW.out)⟩⟩
        · have g1b := decide_eq_false g1
          have hq := HQ.out
          rw [if_neg g1] at hq
          have H1 := Aside0.mk hq
          clear hq g1 HQ
          go_wp2_with (((with_reducible refine gate_dst (N := 6) rfl ?_); refine box_event ?hg (N := 6) ?hd (cs := #[.int .i64 0, .int .i64 0]) (t := 40) ?hr ?_; (case hd => rfl); (case hg => rfl); (case hr => first | (go_simp; done) | (go_simp; rfl)); intro gb hg w7 hbox hb; have n0_ := Aside0.mk (below_step HB.out hb); have n1_ := Aside0.mk hbox; have n2_ := Aside0.mk ((by rw [hg]; exact below_size HB.out) : w.heap.size ≤ gb); replace hc1 := pw_cell_below hb hc1; replace hc2 := pw_cell_below hb hc2; have hb1 : w7.cell? ⟨gb, 0, none⟩ = some (.int .i64 0) := (blk_cell n1_.out 0).trans rfl; have hb2 : w7.cell? ⟨gb, 1, none⟩ = some (.int .i64 0) := (blk_cell n1_.out 1).trans rfl; have hf1 := blk_frozen n1_.out 0; have hf2 := blk_frozen n1_.out 1; have HB1 := n0_; have BK := n1_; have GW := n2_; clear n0_ n1_ n2_ hb hbox hg))
          go_roundg (L.length - (i + 1) + 1)
          case measure => have := HK.out; have := HLT.out; omega
          case rel => exact ⟨i + 1, by rw [hew.out], ⟨⟨by have := HLT.out; omega, rfl⟩⟩, H1, ⟨by repeat (first | exact HB1.out | refine below_set ?_ GW.out)⟩⟩
      · have d1 := decide_eq_false (show ¬ (i : Int) < (L.length : Int) by omega)
        have d2 := decide_eq_false hlt
        have hh := HH.out
        rw [List.drop_of_length_le (by omega)] at hh
        have H1 := Aside0.mk (show false = r from hh)
        clear hh HH hlt
        go_wp2
        go_ret
        exact ⟨by rw [← H1.out]; rfl, HB.out⟩
end

/-! ### pragma_Rules_Spans: function 11 -/
section
open Go.Proofs.YtkflgnhcfhmkdaaDoor.H
def pragma_Rules_Spans.mk (x : Int × Int) : S40 := ⟨x.1, x.2⟩
def pragma_Rules_Spans.f (l0 : List RlT) : Option (List S40) := match l0 with
  | [] => some []
  | x :: _ => if x.off.length < 1000000000000 then some (x.off.map pragma_Rules_Spans.mk) else none
def pragma_Rules_Spans.Rr (x : S40) (cs : List Value) : Prop := cs = [.int .i64 x.f0, .int .i64 x.f1]
theorem pragma_Rules_Spans.km (W : World) (base : Nat) (okp : Nat → Prop) (x : S40) (cs : List Value) (h : pragma_Rules_Spans.Rr x cs) : k40.M W base okp x cs := by
  unfold pragma_Rules_Spans.Rr at h
  subst h
  exact k40_mkM _ _ _ _
theorem pragma_Rules_Spans.reads {w : World} {A : Option Addr} {n : Nat} {ys : List (Int × Int)} (h : Kd.C kSp w A n ys) : ReadsRow pragma_Rules_Spans.Rr 2 w A n (ys.map pragma_Rules_Spans.mk) := by
  refine ⟨by rw [List.length_map]; exact h.1, h.2.1, fun hn => ?_⟩
  obtain ⟨ad, e, hc⟩ := h.2.2 hn
  refine ⟨ad, e, fun j p hj => ?_⟩
  rw [List.getElem?_map] at hj
  cases hy : ys[j]? with
  | none => rw [hy] at hj; cases hj
  | some y =>
    rw [hy] at hj
    have hp : pragma_Rules_Spans.mk y = p := by simpa using hj
    obtain ⟨cs, h1, h2, h3⟩ := hc j y hy
    refine ⟨cs, h1, ?_, h3⟩
    obtain ⟨_, _, rfl, rfl, rfl⟩ := h2
    rw [← hp]
    rfl
set_option maxHeartbeats 4000000 in
set_option maxRecDepth 100000 in
theorem pragma_Rules_Spans.calls (V0 : Value) (l0 : List RlT) (r : List S40) (w : World) (hs0 : RlP w V0 l0) (h : pragma_Rules_Spans.f l0 = some r) :
    Calls Tryd.prog 11 #[V0] w fun e w' => ∃ v0_ : Value, e = .returned v0_ ∧ Kd.R k40 40 w' w.heap.size (fun _ => True) v0_ r ∧ Below w.heap.size w w' := by
  rcases hs0 with ⟨rfl, rfl⟩ | ⟨x, g, m, A, c, rfl, rfl, hg, hl, hC, hS⟩
  · obtain rfl : [] = r := by simpa [pragma_Rules_Spans.f] using h
    go_enter Tryd.func11, Tryd.ntmps11
    go_wp2
    go_ret
    exact ⟨_, rfl, Kd.R_nil _ _ _ _ _, Below.refl _ _⟩
  · have h : (if x.off.length < 1000000000000 then some (x.off.map pragma_Rules_Spans.mk) else none) = some r := h
    split at h
    case isFalse => cases h
    case isTrue hlen =>
    obtain rfl := Option.some.inj h
    generalize x.off = L at *
    have hx : w.cell? ⟨g, 0, none⟩ = some (.slice A L.length c) := (cell_of_heap hg 0).trans rfl
    have HC := Aside0.mk hC
    have HLN := Aside0.mk hlen
    have HB := Aside0.mk (Below.refl w.heap.size w)
    clear h hC hg hl hS hlen
    go_enter Tryd.func11, Tryd.ntmps11
    go_wp2_with (first
      | ((with_reducible refine gate_dst (N := 5) rfl ?_); refine Kd.R_lit k40 _ 40 ?hg (N := 5) ?hd (xs := ([] : List S40)) (inner := []) (ok := fun _ => True) (okp := fun _ => True) ?hr ?hp (fun _ hk => hk) trivial (Below.refl _ _) (Nat.le_refl _) (by simp) ?_; (case hd => rfl); (case hg => rfl); (case hr => first | (go_simp; done) | (go_simp; rfl)); (case hp => exact (Reps.none _ _)); intro v5 w5 ho5 hb hg_ hnew_; clear hg_ hnew_; replace hx := pw_cell_below hb hx; have HO5 := Aside0.mk ho5; have HB1 := Aside0.mk (below_step HB.out hb); clear hb ho5)
      | ((with_reducible refine gate_builtin (b := .append) (xs := #[.tmp 5, .tmp 9]) rfl ?_); at_builtin; refine Kd.R_append_rows k40 (Rr := pragma_Rules_Spans.Rr) (w0 := w) w.heap.size rfl (.tmp 5) (.tmp 9) 29 40 (.agg #[.int .i64 0, .int .i64 0]) 16 rfl Tryd.underlying29 info40 rfl (by decide) (by omega) v5 [] (L.map pragma_Rules_Spans.mk) _ _ _ (fun _ => True) (fun _ => False) rfl rfl ?aO ?aR (pragma_Rules_Spans.km _ _ _) (fun _ h => h.elim) ?aF ?aB ?aS ?aL ?_; (case aO => exact HO5.out); (case aR => exact pragma_Rules_Spans.reads (Kd.C_below HC.out HB1.out)); (case aF => exact (fun _ _ => trivial)); (case aB => exact HB1.out); (case aS => exact below_size HB1.out); (case aL => have := HLN.out; simp; omega); intro v9 w9 ho9 hb9 hg9 hat9; have HO9 := Aside0.mk ho9; have HB9 := Aside0.mk hb9; clear ho9 hb9 hg9 hat9))
    go_ret
    exact ⟨_, rfl, HO9.out, HB9.out⟩
end

end Go.Proofs.YtkflgnhcfhmkdaaDoor.PPragmaWords
