-- x
import Derived.Test.YtnmngglfeiifaaaGreatDoorPListsLinex0
import Derived.Test.YtnmngglfeiifaaaGreatDoorPListsLinex2
import Derived.Test.YtnmngglfeiifaaaGreatDoorPListsLinex3
import Derived.Test.YtnmngglfeiifaaaGreatDoorPListsLinex4
import Derived.Test.YtnmngglfeiifaaaGreatDoorPListsLinex5
import Derived.Test.YtnmngglfeiifaaaGreatDoorHErr
namespace Go.Proofs.YtnmngglfeiifaaaGreatDoor.PListsLine
open Go.RowKit Go.Proofs.YtnmngglfeiifaaaGreatDoor.X Go.Proofs.YtnmngglfeiifaaaGreatDoorW.PrintWords Go.Proofs.YtnmngglfeiifaaaGreatDoorW.PrintLast Go.Proofs.YtnmngglfeiifaaaGreatDoorW.PrintMore
attribute [local go_sem] max2_int min2_int max_two min_two max_three min_three max_four min_four   -- for this text's walks alone
set_option linter.unusedVariables false
set_option linter.unusedSimpArgs false

/-! ### redpenlaw06_ListsLine: function 5 -/
def redpenlaw06_ListsLine.f (k : Nat) (l0 : List Int) (a1 : Int) : Option Bool := (redpenlaw06_Awake.f k).bind fun t => if t = true then (if 30 < l0.length then some true else some (H.lineE (H.errE a1 l0) == if a1 = 0 then 0 else H.wantE l0)) else some false
theorem redpenlaw06_ListsLine.mono (k : Nat) (l0 : List Int) (a1 : Int) : LeO (redpenlaw06_ListsLine.f k l0 a1) (redpenlaw06_ListsLine.f (k + 1) l0 a1) := LeO.bind (redpenlaw06_Awake.mono k) (fun _ => LeO.refl _)
set_option maxHeartbeats 8000000 in
set_option maxRecDepth 100000 in
theorem redpenlaw06_ListsLine.calls (k : Nat) (A0 : Option Addr) (c0 : Nat) (l0 : List Int) (a1 : Int) (r : Bool) (w : World) (hr0 : Kd.C (Kd.int .i64) w A0 l0.length l0) (hc0 : l0.length ≤ c0) (h : redpenlaw06_ListsLine.f k l0 a1 = some r) (hr_ : r = true) (hL : H.LaidE w) :
    Calls Tryz.prog 5 #[.slice A0 l0.length c0, .int .i64 a1] w fun e w' => e = .returned (.bool r) ∧ Below w.heap.size w w' := by
  have HR0 := Aside0.mk hr0
  have HL := Aside0.mk hL
  clear hr0 hL
  unfold redpenlaw06_ListsLine.f at h
  obtain ⟨t, ha, h⟩ := Option.bind_eq_some_iff.mp h
  have HA := Aside0.mk ha
  clear ha
  cases t with
  | false =>
    simp only [Bool.false_eq_true, if_false, Option.some.injEq] at h
    subst h
    go_enter Tryz.func5, Tryz.ntmps5
    go_wp2_with (go_at_call 9; refine (redpenlaw06_Awake.calls k false _ HA.out HL.out.1).mono ?_; rintro e w1 ⟨rfl, hb⟩; have HB := Aside0.mk hb; clear hb)
    go_ret
    exact ⟨rfl, HB.out⟩
  | true =>
  rw [if_pos rfl] at h
  by_cases c2 : 30 < l0.length
  · rw [if_pos c2] at h
    obtain rfl := Option.some.inj h
    have d2 := decide_eq_true (show (30 : Int) < (l0.length : Int) by omega)
    have d2' := decide_eq_true c2
    clear c2 h
    go_enter Tryz.func5, Tryz.ntmps5
    go_wp2_with (go_at_call 9; refine (redpenlaw06_Awake.calls k true _ HA.out HL.out.1).mono ?_; rintro e w1 ⟨rfl, hb⟩; have HB := Aside0.mk hb; clear hb)
    go_ret
    exact ⟨rfl, HB.out⟩
  rw [if_neg c2] at h
  have h := Option.some.inj h
  have d2 := decide_eq_false (show ¬ (30 : Int) < (l0.length : Int) by omega)
  have d2' := decide_eq_false c2
  have HLEN := Aside0.mk (Nat.le_of_not_lt c2)
  have HRS := Aside0.mk h
  have hsub := Aside0.mk (show wrap64 ((l0.length : Int) - 1) = (l0.length : Int) - 1 from by have := HLEN.out; rw [M.w64 (by omega) (by omega)])
  clear c2 h
  go_enter Tryz.func5, Tryz.ntmps5
  go_wp2_with (first | (go_at_call 9; refine (redpenlaw06_Awake.calls k true _ HA.out HL.out.1).mono ?_; rintro e w1 ⟨rfl, hb⟩; have HB1 := Aside0.mk hb; clear hb) | (go_at_call 19; refine (H.of_at _ _).mono ?_; rintro e w2 ⟨v2, rfl, he, rfl⟩; have HE1 := Aside0.mk he; clear he))
  go_loopg [5, 6, 7] (l0.length + 1) (fun kq v5 v6 v7 w' => ∃ (i : Nat) (m : Int), v7 = .int .i64 m ∧ v6 = .int .i64 (H.wantE (l0.drop i)) ∧ Aside0 (i ≤ l0.length ∧ kq = i + 1 ∧ m = (i : Int) - 1) ∧ Aside0 (H.ErP w' v5 (H.errE a1 (l0.drop i))) ∧ Aside0 (Below w.heap.size w w'))
  case atStart => exact ⟨l0.length, _, rfl, by rw [List.drop_length]; rfl, ⟨⟨Nat.le_refl _, rfl, hsub.out⟩⟩, ⟨by rw [List.drop_length]; exact HE1.out⟩, HB1⟩
  case round =>
    clear HE1 HB1 hsub
    obtain ⟨i, m, rfl, rfl, HI, HE, HB⟩ := hrel
    cases i with
    | zero =>
      obtain rfl : m = -1 := by have := HI.out.2.2; omega
      clear HI
      rw [List.drop_zero] at HE
      have hw0 : l0.drop 0 = l0 := rfl
      have HB0 := HB
      by_cases hc : a1 = 0
      · have cz : (a1 == 0) = true := beq_iff_eq.2 hc
        have HS := Aside0.mk (show (H.lineE (H.errE a1 l0) == 0) = r by have := HRS.out; rw [if_pos hc] at this; exact this)
        clear hc
        go_wp2_with (go_at_call 21; refine (H.line_at _ _ _ (HL.out.2.below HL.out.2.pos HB.out) HE.out).mono ?_; rintro e w5 ⟨rfl, hb5⟩; have HB5 := Aside0.mk (below_step HB.out hb5); clear hb5)
        go_ret
        exact ⟨by rw [← HS.out]; rfl, HB5.out⟩
      · have cz : (a1 == 0) = false := beq_eq_false_iff_ne.2 hc
        have HS := Aside0.mk (show (H.lineE (H.errE a1 l0) == H.wantE l0) = r by have := HRS.out; rw [if_neg hc] at this; exact this)
        clear hc
        go_wp2_with (go_at_call 21; refine (H.line_at _ _ _ (HL.out.2.below HL.out.2.pos HB.out) HE.out).mono ?_; rintro e w5 ⟨rfl, hb5⟩; have HB5 := Aside0.mk (below_step HB.out hb5); clear hb5)
        go_ret
        exact ⟨by rw [← HS.out]; rfl, HB5.out⟩
    | succ j =>
      obtain rfl : m = (j : Int) := by have := HI.out.2.2; omega
      have HJ := Aside0.mk (show j < l0.length from by have := HI.out.1; omega)
      have HK := Aside0.mk (show j + 1 < gk from by have := HI.out.2.1; omega)
      have HLE := Aside0.mk (show j ≤ l0.length from by have := HI.out.1; omega)
      clear HI
      have hew := Aside0.mk (show wrap64 ((j : Int) - 1) = (j : Int) - 1 from by have := HLEN.out; have := HJ.out; rw [M.w64 (by omega) (by omega)])
      have hd := Aside0.mk (show l0.drop j = rd l0 (j : Int) :: l0.drop (j + 1) from by
        rw [List.drop_eq_getElem_cons HJ.out]
        unfold rd
        rw [Int.toNat_natCast, List.getD_eq_getElem?_getD, List.getElem?_eq_getElem HJ.out]
        rfl)
      have p1 : 0 ≤ (j : Int) := by omega
      have q1 : (j : Int) < (l0.length : Int) := by have := HJ.out; omega
      obtain ⟨ad1, e1, hx1⟩ := Kd.at_int (Kd.C_below HR0.out HB.out) (j : Int) p1 q1
      cases e1
      simp only [Int.toNat_natCast] at hx1
      replace p1 := eq_true p1
      replace q1 := eq_true q1
      by_cases hi : 0 < rd l0 (j : Int)
      · have c1 : decide (0 < rd l0 (j : Int)) = true := decide_eq_true hi
        have hwant := Aside0.mk (show H.wantE (l0.drop j) = rd l0 (j : Int) by rw [hd.out, H.wantE, if_pos hi])
        clear hi
        go_wp2_with (go_at_call 20; refine (H.new_at _ _ _ _ _ HE.out).mono ?_; rintro e w5 ⟨v5, rfl, he5, hb5⟩; have HB5 := Aside0.mk (below_step HB.out hb5); have HE5 := Aside0.mk he5; have hx2 := (by have := Kd.at_int (Kd.C_below HR0.out (below_step HB.out hb5)) (j : Int) (by omega) (by have := HJ.out; omega); obtain ⟨ad2, e2, hx2⟩ := this; cases e2; simpa only [Int.toNat_natCast] using hx2 : w5.cell? (ad1.add j) = some (.int .i64 (rd l0 (j : Int)))); clear hb5 he5)
        go_roundg (j + 1)
        case measure => exact HK.out
        case rel => exact ⟨j, _, i64_eq hew.out, i64_eq hwant.out.symm, ⟨⟨HLE.out, rfl, rfl⟩⟩, ⟨by rw [hd.out]; exact HE5.out⟩, HB5⟩
      · have c1 : decide (0 < rd l0 (j : Int)) = false := decide_eq_false hi
        have hwant := Aside0.mk (show H.wantE (l0.drop j) = H.wantE (l0.drop (j + 1)) by rw [hd.out, H.wantE, if_neg hi])
        clear hi
        go_wp2_with (go_at_call 20; refine (H.new_at _ _ _ _ _ HE.out).mono ?_; rintro e w5 ⟨v5, rfl, he5, hb5⟩; have HB5 := Aside0.mk (below_step HB.out hb5); have HE5 := Aside0.mk he5; have hx2 := (by have := Kd.at_int (Kd.C_below HR0.out (below_step HB.out hb5)) (j : Int) (by omega) (by have := HJ.out; omega); obtain ⟨ad2, e2, hx2⟩ := this; cases e2; simpa only [Int.toNat_natCast] using hx2 : w5.cell? (ad1.add j) = some (.int .i64 (rd l0 (j : Int)))); clear hb5 he5)
        go_roundg (j + 1)
        case measure => exact HK.out
        case rel => exact ⟨j, _, i64_eq hew.out, i64_eq hwant.out.symm, ⟨⟨HLE.out, rfl, rfl⟩⟩, ⟨by rw [hd.out]; exact HE5.out⟩, HB5⟩

end Go.Proofs.YtnmngglfeiifaaaGreatDoor.PListsLine
