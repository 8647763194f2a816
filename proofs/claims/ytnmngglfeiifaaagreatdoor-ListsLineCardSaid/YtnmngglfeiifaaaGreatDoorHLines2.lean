/- The functions of package lines that read an index, proved by hand: Lines, Span. -/
import Derived.Test.YtnmngglfeiifaaaGreatDoorHLines
import Derived.Outline
namespace Go.Proofs.YtnmngglfeiifaaaGreatDoor.X
open Go.RowKit Go.Proofs.YtnmngglfeiifaaaGreatDoorW.PrintWords Go.Proofs.YtnmngglfeiifaaaGreatDoorW.PrintLast Go.Proofs.YtnmngglfeiifaaaGreatDoorW.PrintMore
open Go.Proofs.YtnmngglfeiifaaaGreatDoor.M
set_option linter.unusedVariables false
set_option linter.unusedSimpArgs false

def lines_Index_Lines.f (l0 : List IxT) : Option Int := match l0 with
  | [] => some 0
  | b :: _ => if b.length < 100000000000 then some (nlines b) else none
set_option maxHeartbeats 4000000 in
set_option maxRecDepth 100000 in
theorem lines_Index_Lines.calls (V0 : Value) (l0 : List IxT) (r : Int) (w : World) (hs0 : IxP w V0 l0) (h : lines_Index_Lines.f l0 = some r) :
    Calls Tryz.prog 69 #[V0] w fun e w' => e = .returned (.int .i64 r) ∧ Drawn0 w w' := by
  rcases hs0 with ⟨rfl, rfl⟩ | ⟨b, g, A1, c1, A2, c2, rfl, rfl, hg, hl1, hC1, hl2, hC2⟩
  · injection h with h
    subst h
    go_enter Tryz.func69, Tryz.ntmps69
    go_wp2
    go_ret
    exact ⟨rfl, Drawn0.refl _⟩
  · have h : (if b.length < 100000000000 then some (nlines b) else none) = some r := h
    split at h
    case isFalse => cases h
    case isTrue hlen =>
    injection h with h
    have hbl := begins_len b
    have hx := cell_of_heap hg 0
    have hy := cell_of_heap hg 1
    simp at hx hy
    unfold nlines at h
    generalize begins b = bs at *
    obtain ⟨m, hm⟩ : ∃ m, bs.length = m + 1 := ⟨bs.length - 1, by omega⟩
    obtain ⟨ad, e1, hz⟩ := Kd.at_int hC1 (m : Int) (by omega) (by omega)
    subst e1
    simp only [Int.toNat_natCast] at hz
    rw [hm] at hx h
    have hrd : bs.getD (m + 1 - 1) 0 = rd bs (m : Int) := by unfold rd; simp
    rw [hrd] at h
    generalize rd bs (m : Int) = z at *
    have hms : (m : Int) < 1000000000000 := by omega
    have HH := Aside0.mk h
    clear h hC1 hC2 hl1 hl2 hlen hbl hg hrd hm
    have i1 : IntKind.i64.wrap ((m : Int) + 1 - 1) = (m : Int) := by rw [show (m : Int) + 1 - 1 = (m : Int) by omega]; exact IntWalk.i64_in _ (by omega)
    have p1 : 0 ≤ (m : Int) := by omega
    have q1 : (m : Int) < (m : Int) + 1 := by omega
    by_cases hzb : z = (b.length : Int)
    · have b1 : (z == (b.length : Int)) = true := beq_iff_eq.mpr hzb
      have HZ := Aside0.mk hzb
      clear hzb
      go_enter Tryz.func69, Tryz.ntmps69
      go_wp2
      go_quiet (fail)
      go_wp2
      go_ret
      exact ⟨by rw [← HH.out, if_pos HZ.out]; first | rfl | simp, ⟨⟨_, rfl⟩⟩⟩
    · have b1 : (z == (b.length : Int)) = false := beq_eq_false_iff_ne.mpr hzb
      have HZ := Aside0.mk hzb
      clear hzb
      go_enter Tryz.func69, Tryz.ntmps69
      go_wp2
      go_quiet (fail)
      go_wp2
      go_ret
      exact ⟨by rw [← HH.out, if_neg HZ.out]; first | rfl | simp, ⟨⟨_, rfl⟩⟩⟩

theorem IxP_below {W W1 : World} {v : Value} {xs : List IxT} (h : IxP W v xs) (hb : Below W.heap.size W W1) : IxP W1 v xs := by
  rcases h with h | ⟨b, g, A1, c1, A2, c2, h1, h2, hg, hl1, hC1, hl2, hC2⟩
  · exact .inl h
  · exact .inr ⟨b, g, A1, c1, A2, c2, h1, h2, (hb.block g (Array.getElem?_eq_some_iff.1 hg).1).trans hg, hl1, Kd.C_below hC1 hb, hl2, Kd.C_below hC2 hb⟩
theorem below_set1 {w W : World} {g j : Nat} {v : Value} (h : Below w.heap.size w W) (hg : w.heap.size ≤ g) : Below w.heap.size w (W.setCell ⟨g, j, none⟩ v) := h.setCell hg _
/-- A line's beginning and length. -/
def spanOf (b : List Int) (line : Int) : Int × Int := ((begins b).getD (line.toNat - 1) 0, (if line < ((begins b).length : Int) then (begins b).getD line.toNat 0 else (b.length : Int)) - (begins b).getD (line.toNat - 1) 0)
def lines_Index_Span.f (l0 : List IxT) (a1 : Int) : Option (Int × Int × Int) := match l0 with
  | [] => some (0, 0, 1)
  | b :: _ => if b.length < 100000000000 then (if a1 < 1 then some (0, 0, 2) else if nlines b < a1 then some (0, 0, 2) else some ((spanOf b a1).1, (spanOf b a1).2, 0)) else none
set_option maxHeartbeats 4000000 in
set_option maxRecDepth 100000 in
theorem lines_Index_Span.calls (V0 : Value) (l0 : List IxT) (a1 : Int) (r1 r2 r3 : Int) (w : World) (hs0 : IxP w V0 l0) (h : lines_Index_Span.f l0 a1 = some (r1, r2, r3)) :
    Calls Tryz.prog 70 #[V0, .int .i64 a1] w fun e w' => e = .returned (.tuple #[.agg #[.int .i64 r1, .int .i64 r2], .int .i64 r3]) ∧ Below w.heap.size w w' := by
  have HS := Aside0.mk hs0
  rcases hs0 with ⟨rfl, rfl⟩ | ⟨b, g, A1, c1, A2, c2, rfl, rfl, hg, hl1, hC1, hl2, hC2⟩
  · injection h with h
    simp only [Prod.mk.injEq] at h
    obtain ⟨rfl, rfl, rfl⟩ := h
    go_enter Tryz.func70, Tryz.ntmps70
    go_wp2
    exact bodyPost_ret (v := .tuple #[.agg #[.int .i64 0, .int .i64 0], .int .i64 1]) (by simp [results, Tryz.results70, go_sem]) rfl ⟨rfl, (by repeat (first | exact Below.refl _ _ | refine below_set1 ?_ (by simp) | apply below_alloc | apply pw_below_drewN | apply below_drew1))⟩
  · have h : (if b.length < 100000000000 then (if a1 < 1 then some (0, 0, 2) else if nlines b < a1 then some (0, 0, 2) else some ((spanOf b a1).1, (spanOf b a1).2, 0)) else none) = some (r1, r2, r3) := h
    split at h
    case isFalse => cases h
    case isTrue hlen =>
    have hL : lines_Index_Lines.f [b] = some (nlines b) := by
      show (if b.length < 100000000000 then some (nlines b) else none) = _
      rw [if_pos hlen]
    have HL := Aside0.mk hL
    clear hL
    have hbl := begins_len b
    have hnl : nlines b ≤ ((begins b).length : Int) := by unfold nlines; split <;> omega
    have hx := cell_of_heap hg 0
    have hy := cell_of_heap hg 1
    simp at hx hy
    by_cases h1 : a1 < 1
    · rw [if_pos h1] at h
      injection h with h
      simp only [Prod.mk.injEq] at h
      obtain ⟨rfl, rfl, rfl⟩ := h
      have b1 : decide (a1 < 1) = true := decide_eq_true h1
      clear h1 hnl hbl hlen hl1 hl2 hC1 hC2 hg
      go_enter Tryz.func70, Tryz.ntmps70
      go_wp2
      exact bodyPost_ret (v := .tuple #[.agg #[.int .i64 0, .int .i64 0], .int .i64 2]) (by simp [results, Tryz.results70, go_sem]) rfl ⟨rfl, (by repeat (first | exact Below.refl _ _ | refine below_set1 ?_ (by simp) | apply below_alloc | apply pw_below_drewN | apply below_drew1))⟩
    rw [if_neg h1] at h
    have b1 : decide (a1 < 1) = false := decide_eq_false h1
    by_cases h2 : nlines b < a1
    · rw [if_pos h2] at h
      injection h with h
      simp only [Prod.mk.injEq] at h
      obtain ⟨rfl, rfl, rfl⟩ := h
      have b2 : decide (nlines b < a1) = true := decide_eq_true h2
      clear h1 h2 hnl hbl hlen hl1 hl2 hC1 hC2 hg
      go_enter Tryz.func70, Tryz.ntmps70
      go_wp2_with (go_at_call 69; refine (lines_Index_Lines.calls _ [b] _ _ (IxP_below HS.out (by repeat (first | exact Below.refl _ _ | apply below_alloc | apply pw_below_drewN | apply below_drew1))) HL.out).mono ?_; rintro e w' ⟨rfl, ⟨nd, rfl⟩⟩)
      exact bodyPost_ret (v := .tuple #[.agg #[.int .i64 0, .int .i64 0], .int .i64 2]) (by simp [results, Tryz.results70, go_sem]) rfl ⟨rfl, (by repeat (first | exact Below.refl _ _ | refine below_set1 ?_ (by simp) | apply below_alloc | apply pw_below_drewN | apply below_drew1))⟩
    · rw [if_neg h2] at h
      injection h with h
      simp only [Prod.mk.injEq] at h
      obtain ⟨rfl, rfl, rfl⟩ := h
      have b2 : decide (nlines b < a1) = false := decide_eq_false h2
      obtain ⟨m, rfl⟩ : ∃ m : Nat, a1 = (m : Int) + 1 := ⟨(a1 - 1).toNat, by omega⟩
      have hml : m < (begins b).length := by omega
      have hmb : (m : Int) < 100000000000 := by omega
      obtain ⟨ad, e1, hz⟩ := Kd.at_int hC1 (m : Int) (by omega) (by omega)
      subst e1
      simp only [Int.toNat_natCast] at hz
      have i1 : IntKind.i64.wrap ((m : Int) + 1 - 1) = (m : Int) := by rw [show (m : Int) + 1 - 1 = (m : Int) by omega]; exact IntWalk.i64_in _ (by omega)
      have i2 : wrap64 (m : Int) = (m : Int) := w64 (by omega) (by omega)
      have i3 : wrap64 ((m : Int) + 1) = (m : Int) + 1 := w64 (by omega) (by omega)
      have hR := Aside0.mk (show spanOf b ((m : Int) + 1) = (rd (begins b) (m : Int), (if m + 1 < (begins b).length then rd (begins b) ((m : Int) + 1) else (b.length : Int)) - rd (begins b) (m : Int)) by
        unfold spanOf rd
        rw [show ((m : Int) + 1).toNat - 1 = m by omega, show ((m : Int) + 1).toNat = m + 1 by omega, Int.toNat_natCast]
        by_cases hq : m + 1 < (begins b).length
        · rw [if_pos hq, if_pos (by omega)]
        · rw [if_neg hq, if_neg (by omega)])
      have p1 : 0 ≤ (m : Int) := by omega
      have q1 : (m : Int) < ((begins b).length : Int) := by omega
      have q1' : m < (begins b).length := hml
      have r1 := begins_at b m
      have r2 := begins_at b (m + 1)
      have e3 : (begins b).getD m 0 = rd (begins b) (m : Int) := by unfold rd; rw [Int.toNat_natCast]
      have e4 : (begins b).getD (m + 1) 0 = rd (begins b) ((m : Int) + 1) := by unfold rd; rw [show ((m : Int) + 1).toNat = m + 1 by omega]
      rw [e3] at r1
      rw [e4] at r2
      have i4 : wrap64 (rd (begins b) ((m : Int) + 1) - rd (begins b) (m : Int)) = rd (begins b) ((m : Int) + 1) - rd (begins b) (m : Int) := w64 (by omega) (by omega)
      have i5 : wrap64 ((b.length : Int) - rd (begins b) (m : Int)) = (b.length : Int) - rd (begins b) (m : Int) := w64 (by omega) (by omega)
      clear e3 e4 r1 r2
      by_cases hq : m + 1 < (begins b).length
      · clear i5
        obtain ⟨ad2, e2, hz2⟩ := Kd.at_int hC1 ((m : Int) + 1) (by omega) (by omega)
        cases e2
        have b3 : decide ((m : Int) + 1 < ((begins b).length : Int)) = true := decide_eq_true (by omega)
        have b4 : decide (m + 1 < (begins b).length) = true := decide_eq_true hq
        have hz5 : w.cell? ⟨ad.block, ad.off + (m + 1), none⟩ = some (.int .i64 (rd (begins b) ((m : Int) + 1))) := by
          have := hz2
          rw [show ((m : Int) + 1).toNat = m + 1 by omega] at this
          simpa [Addr.add] using this
        clear hz2
        have p2 : 0 ≤ (m : Int) + 1 := by omega
        have q2 : (m : Int) + 1 < ((begins b).length : Int) := by omega
        have HQ := Aside0.mk hq
        have nx := fun (o : Obj) => pw_cell_below (below_alloc (Below.refl w.heap.size w) o) hx
        have ny := fun (o : Obj) => pw_cell_below (below_alloc (Below.refl w.heap.size w) o) hy
        have nz := fun (o : Obj) => pw_cell_below (below_alloc (Below.refl w.heap.size w) o) hz
        have nz2 := fun (o : Obj) => pw_cell_below (below_alloc (Below.refl w.heap.size w) o) hz5
        clear h1 h2 hnl hbl hlen hl1 hl2 hC1 hC2 hg hq hmb hml
        go_enter Tryz.func70, Tryz.ntmps70
        go_wp2_with (go_at_call 69; refine (lines_Index_Lines.calls _ [b] _ _ (IxP_below HS.out (by repeat (first | exact Below.refl _ _ | apply below_alloc | apply pw_below_drewN | apply below_drew1))) HL.out).mono ?_; rintro e w' ⟨rfl, ⟨nd, rfl⟩⟩)
        exact bodyPost_ret (v := .tuple #[.agg #[.int .i64 (spanOf b ((m : Int) + 1)).1, .int .i64 (spanOf b ((m : Int) + 1)).2], .int .i64 0]) (by simp [results, Tryz.results70, go_sem, hR.out, if_pos HQ.out]) rfl ⟨rfl, (by repeat (first | exact Below.refl _ _ | refine below_set1 ?_ (by simp) | apply below_alloc | apply pw_below_drewN | apply below_drew1))⟩
      · clear i4
        have b3 : decide ((m : Int) + 1 < ((begins b).length : Int)) = false := decide_eq_false (by omega)
        have b4 : decide (m + 1 < (begins b).length) = false := decide_eq_false hq
        have HQ := Aside0.mk hq
        have nx := fun (o : Obj) => pw_cell_below (below_alloc (Below.refl w.heap.size w) o) hx
        have ny := fun (o : Obj) => pw_cell_below (below_alloc (Below.refl w.heap.size w) o) hy
        have nz := fun (o : Obj) => pw_cell_below (below_alloc (Below.refl w.heap.size w) o) hz
        clear h1 h2 hnl hbl hlen hl1 hl2 hC1 hC2 hg hq hmb hml
        go_enter Tryz.func70, Tryz.ntmps70
        go_wp2_with (go_at_call 69; refine (lines_Index_Lines.calls _ [b] _ _ (IxP_below HS.out (by repeat (first | exact Below.refl _ _ | apply below_alloc | apply pw_below_drewN | apply below_drew1))) HL.out).mono ?_; rintro e w' ⟨rfl, ⟨nd, rfl⟩⟩)
        exact bodyPost_ret (v := .tuple #[.agg #[.int .i64 (spanOf b ((m : Int) + 1)).1, .int .i64 (spanOf b ((m : Int) + 1)).2], .int .i64 0]) (by simp [results, Tryz.results70, go_sem, hR.out, if_neg HQ.out]) rfl ⟨rfl, (by repeat (first | exact Below.refl _ _ | refine below_set1 ?_ (by simp) | apply below_alloc | apply pw_below_drewN | apply below_drew1))⟩
end Go.Proofs.YtnmngglfeiifaaaGreatDoor.X
