/- Walks of our own: strconv.ParseUint of base ten and sixteen, at 32 bits (after the kit's shelf of base ten). -/
import Derived.Test.YtekalnhackjldaaDoorProg
import Derived.Shelf.RegionOpenPlain
import Derived.Lib.Strings
import Derived.Lib.Walk
import Derived.Lib.ConvBytes
import Derived.Lib.ParseIntBMem
import Derived.Lib.AtoiErrMem
import Derived.Lib.IfaceEq
import Derived.Lib.BufferWrite
import Derived.Lib.UnsafeStr
import Derived.Lib.Hide
import Derived.Laws.MakeOwn
import Derived.Laws.Strings3
import Derived.Laws.Closers25
import Derived.Laws.Closers25b
import Derived.RegionTactic
import Derived.Deep.RegionWith
import Derived.WalkKit
import Derived.BigCall
import Derived.BigGuard
namespace Go.Proofs.YtekalnhackjldaaDoor.H
open Go.RowKit
set_option linter.unusedVariables false
set_option linter.unusedSimpArgs false

/-- A digit's worth, in a base. -/
def digB (b c : Nat) : Option Nat :=
  if 48 ≤ c ∧ c ≤ 57 then some (c - 48)
  else if 97 ≤ c ∧ c ≤ 122 then (if c - 87 < b then some (c - 87) else none)
  else if 65 ≤ c ∧ c ≤ 90 then (if c - 55 < b then some (c - 55) else none)
  else none
/-- The number that digits of a base write, of 32 bits at most. -/
def numM (b : Nat) : Nat → List UInt8 → Option Nat
  | acc, [] => some acc
  | acc, c :: t => match digB b c.toNat with
    | none => none
    | some d => if 4294967295 < acc * b + d then none else numM b (acc * b + d) t

/-- What is told of a number read: the number; or an error. -/
def PuPost (b : Nat) (bs : List UInt8) (e : Ending) : Prop := ∃ (x : Int) (er : Value), e = .returned (.tuple #[.int .u64 x, er]) ∧ ((er = .nilIface ∧ ∃ n : Nat, x = n ∧ numM b 0 bs = some n) ∨ ((er = .iface 104 (.int .i64 1) ∨ er = .iface 104 (.int .i64 2)) ∧ numM b 0 bs = none))
theorem lower_at (c v : Int) (w : World) (hv : Go.bits .or .u8 c 32 = v) :
    Calls Tryd.prog 63 #[.int .u8 c] w fun e w' => e = .returned (.int .u8 v) ∧ w' = w := by
  subst hv
  go_enter Tryd.func63, Tryd.ntmps63
  go_wp2
  go_ret
  exact ⟨rfl, rfl⟩
theorem or32 {c : Nat} (h : c < 256) : Go.bits .or .u8 (c : Int) 32 = ((if c / 32 % 2 = 1 then c else c + 32 : Nat) : Int) := by
  have : ∀ x : Fin 256, Go.bits .or .u8 ((x.val : Nat) : Int) 32 = ((if x.val / 32 % 2 = 1 then x.val else x.val + 32 : Nat) : Int) := by decide +kernel
  exact this ⟨c, h⟩
set_option maxHeartbeats 32000000 in
set_option maxRecDepth 100000 in
theorem iparse_at (b : Nat) (hb : b = 10 ∨ b = 16) (t : ByteArray) (hne : t.size ≠ 0) (hmax : t.size ≤ 9223372036854775806) (w : World) :
    Calls Tryd.prog 51 #[.string t, .int .i64 b, .int .i64 32] w fun e w' => PuPost b t.data.toList e ∧ w' = Lib.bytesWorld w 5 t := by
  have hemp : t.toList.isEmpty = false := by
    rw [← decide_eq_emptyBytes]
    exact decide_eq_false (fun h => hne (by rw [h]; rfl))
  have hcv := Lib.run_convert_string_bytes (P := Tryd.prog) w 9 22 5 t (u := .string) Tryd.underlying9 Tryd.underlying22 Tryd.underlying5
  have hB : ∀ j, j < t.size → (Lib.bytesWorld w 5 t).cell? ⟨w.heap.size, j, none⟩ = some (.int .u8 (t.data.toList.getD j 0).toNat) := fun j hj => Lib.bytesWorld_cell w 5 t j hj
  obtain ⟨W1, hW1⟩ : ∃ W1, W1 = Lib.bytesWorld w 5 t := ⟨_, rfl⟩
  rw [← hW1] at hcv hB ⊢
  clear hW1
  obtain ⟨bs, hL⟩ : ∃ bs, bs = t.data.toList := ⟨_, rfl⟩
  have hLn : bs.length = t.size := by rw [hL, Lib.size_eq]
  rw [← hL] at hB ⊢
  clear hL
  have hmv : IntKind.u64.wrap (IntKind.u64.wrap 4294967296 - 1) = 4294967295 := by
    rw [IntKind.wrap_u64, IntKind.wrap_u64]
    decide
  rcases hb with rfl | rfl
  · go_enter Tryd.func51, Tryd.ntmps51
    go_wp2
    go_loop [12, 13, 101] (fun vu vn vi => ∃ (k acc : Nat) (a : Int), vu = .bool false ∧ vn = .int .u64 a ∧ vi = .int .i64 k ∧ k ≤ t.size ∧ Hid (a = (acc : Int) ∧ acc ≤ 4294967295 ∧ numM 10 0 bs = numM 10 acc (bs.drop k)))
      (fun _ _ vi => t.size - (intOf vi).toNat)
    case atStart => exact ⟨0, 0, 0, rfl, rfl, rfl, by omega, rfl, by omega, rfl⟩
    case round =>
      obtain ⟨k, acc, a, rfl, rfl, rfl, hk, hh⟩ := hrel
      obtain ⟨ha, hacc, hdec⟩ := hh.out
      clear hh
      have a0 : 0 ≤ a := by omega
      have a1 : a ≤ 4294967295 := by omega
      by_cases hkn : k < t.size
      · have hc := hB k hkn
        have hdrop : bs.drop k = bs[k]'(by omega) :: bs.drop (k + 1) := List.drop_eq_getElem_cons (by omega)
        have hget : bs.getD k 0 = bs[k]'(by omega) := by simp [List.getD, List.getElem?_eq_getElem (show k < bs.length by omega)]
        rw [hdrop] at hdec
        rw [hget] at hc
        generalize bs[k]'(by omega) = c at hc hdec
        have hc256 : c.toNat < 256 := c.toNat_lt
        clear hB hdrop hget
        by_cases hdig : 48 ≤ c.toNat ∧ c.toNat ≤ 57
        · obtain ⟨hd0, hd1⟩ := hdig
          have hcut : ¬ 1152921504606846976 ≤ acc := by omega
          have hdb : digB 10 c.toNat = some (c.toNat - 48) := by unfold digB; rw [if_pos ⟨hd0, hd1⟩]
          by_cases hov : 4294967295 < acc * 10 + (c.toNat - 48)
          · have hF : numM 10 acc (c :: bs.drop (k + 1)) = none := by simp only [numM, hdb]; rw [if_pos hov]
            rw [hF] at hdec
            have iov : 4294967295 < a * 10 + ((c.toNat : Int) - 48) := by omega
            clear hcut hacc hF hov ha hdb
            go_wp2
            go_ret2
            exact ⟨⟨_, _, rfl, .inr ⟨.inl rfl, hdec⟩⟩, rfl⟩
          · have hF : numM 10 acc (c :: bs.drop (k + 1)) = numM 10 (acc * 10 + (c.toNat - 48)) (bs.drop (k + 1)) := by
              have e : numM 10 acc (c :: bs.drop (k + 1)) = if 4294967295 < acc * 10 + (c.toNat - 48) then none else numM 10 (acc * 10 + (c.toNat - 48)) (bs.drop (k + 1)) := by simp only [numM, hdb]
              rw [e, if_neg hov]
            have HN : Hid (a * 10 + ((c.toNat : Int) - 48) = ((acc * 10 + (c.toNat - 48) : Nat) : Int) ∧ acc * 10 + (c.toNat - 48) ≤ 4294967295 ∧ numM 10 0 bs = numM 10 (acc * 10 + (c.toNat - 48)) (bs.drop (k + 1))) := Lib.hid ⟨by omega, by omega, hdec.trans hF⟩
            have iov : a * 10 + ((c.toNat : Int) - 48) ≤ 4294967295 := by omega
            clear hcut hacc hF hov hdec ha hdb
            go_wp2
            go_round
            case rel => exact ⟨_, _, _, _, _, _, _, _, ⟨rfl, k + 1, acc * 10 + (c.toNat - 48), a * 10 + ((c.toNat : Int) - 48), rfl, (by first | rfl | (congr 1; omega)), by omega, HN⟩, rfl, rfl, rfl, rfl, rfl, rfl, rfl, (by first | rfl | (congr 1; omega))⟩
            case measure => simp [intOf]; omega
        · -- no digit: an error, whatever way it goes
          have hdb : digB 10 c.toNat = none := by
            unfold digB
            rw [if_neg hdig]
            split
            · rw [if_neg (by omega)]
            · split
              · rw [if_neg (by omega)]
              · rfl
          have hF : numM 10 acc (c :: bs.drop (k + 1)) = none := by simp only [numM, hdb]
          rw [hF] at hdec
          have hL := or32 hc256
          generalize (if c.toNat / 32 % 2 = 1 then c.toNat else c.toNat + 32) = L at hL
          have hv0 := bits_lo_u8 .or (c.toNat : Int) 32
          have hv1 := bits_hi_u8 .or (c.toNat : Int) 32
          rw [hL] at hv0 hv1
          clear hacc hF ha hdb
          by_cases h95 : c.toNat = 95
          · have hL95 : Go.bits .or .u8 95 32 = 127 := by decide
            have e95 : (c.toNat : Int) = 95 := by omega
            rw [e95] at hc
            clear hL hv0 hv1
            go_wp2_with (go_at_call 63; refine (lower_at _ _ _ hL95).mono ?_; rintro e w' ⟨rfl, rfl⟩)
            all_goals (first | go_ret2 | skip)
            all_goals first | exact ⟨⟨_, _, rfl, .inr ⟨.inr rfl, hdec⟩⟩, rfl⟩
          · have i95 : ((c.toNat : Int) == 95) = false := beq_eq_false_iff_ne.2 (by omega)
            by_cases hl97 : 97 ≤ L
            · have hl97' : 97 ≤ (L : Int) := by omega
              by_cases hl122 : L ≤ 122
              · have hl122' : (L : Int) ≤ 122 := by omega
                go_wp2_with (go_at_call 63; refine (lower_at _ _ _ hL).mono ?_; rintro e w' ⟨rfl, rfl⟩)
                all_goals (first | go_ret2 | skip)
                all_goals first | exact ⟨⟨_, _, rfl, .inr ⟨.inr rfl, hdec⟩⟩, rfl⟩
              · have hl122' : ¬ (L : Int) ≤ 122 := by omega
                go_wp2_with (go_at_call 63; refine (lower_at _ _ _ hL).mono ?_; rintro e w' ⟨rfl, rfl⟩)
                all_goals (first | go_ret2 | skip)
                all_goals first | exact ⟨⟨_, _, rfl, .inr ⟨.inr rfl, hdec⟩⟩, rfl⟩
            · have hl97' : ¬ 97 ≤ (L : Int) := by omega
              go_wp2_with (go_at_call 63; refine (lower_at _ _ _ hL).mono ?_; rintro e w' ⟨rfl, rfl⟩)
              all_goals (first | go_ret2 | skip)
              all_goals first | exact ⟨⟨_, _, rfl, .inr ⟨.inr rfl, hdec⟩⟩, rfl⟩
      · have hkk : k = t.size := by omega
        subst hkk
        have hF : numM 10 acc (bs.drop t.size) = some acc := by rw [List.drop_eq_nil_of_le (by omega)]; rfl
        rw [hF] at hdec
        subst ha
        clear hacc hF a0 a1
        go_wp2
        go_ret2
        exact ⟨⟨_, _, rfl, .inl ⟨rfl, acc, rfl, hdec⟩⟩, rfl⟩
  · go_enter Tryd.func51, Tryd.ntmps51
    go_wp2
    go_loop [12, 13, 101] (fun vu vn vi => ∃ (k acc : Nat) (a : Int), vu = .bool false ∧ vn = .int .u64 a ∧ vi = .int .i64 k ∧ k ≤ t.size ∧ Hid (a = (acc : Int) ∧ acc ≤ 4294967295 ∧ numM 16 0 bs = numM 16 acc (bs.drop k)))
      (fun _ _ vi => t.size - (intOf vi).toNat)
    case atStart => exact ⟨0, 0, 0, rfl, rfl, rfl, by omega, rfl, by omega, rfl⟩
    case round =>
      obtain ⟨k, acc, a, rfl, rfl, rfl, hk, hh⟩ := hrel
      obtain ⟨ha, hacc, hdec⟩ := hh.out
      clear hh
      have a0 : 0 ≤ a := by omega
      have a1 : a ≤ 4294967295 := by omega
      by_cases hkn : k < t.size
      · have hc := hB k hkn
        have hdrop : bs.drop k = bs[k]'(by omega) :: bs.drop (k + 1) := List.drop_eq_getElem_cons (by omega)
        have hget : bs.getD k 0 = bs[k]'(by omega) := by simp [List.getD, List.getElem?_eq_getElem (show k < bs.length by omega)]
        rw [hdrop] at hdec
        rw [hget] at hc
        generalize bs[k]'(by omega) = c at hc hdec
        have hc256 : c.toNat < 256 := c.toNat_lt
        clear hB hdrop hget
        by_cases hdig : 48 ≤ c.toNat ∧ c.toNat ≤ 57
        · obtain ⟨hd0, hd1⟩ := hdig
          have hcut : ¬ 1152921504606846976 ≤ acc := by omega
          have hdb : digB 16 c.toNat = some (c.toNat - 48) := by unfold digB; rw [if_pos ⟨hd0, hd1⟩]
          by_cases hov : 4294967295 < acc * 16 + (c.toNat - 48)
          · have hF : numM 16 acc (c :: bs.drop (k + 1)) = none := by simp only [numM, hdb]; rw [if_pos hov]
            rw [hF] at hdec
            have iov : 4294967295 < a * 16 + ((c.toNat : Int) - 48) := by omega
            clear hcut hacc hF hov ha hdb
            go_wp2
            go_ret2
            exact ⟨⟨_, _, rfl, .inr ⟨.inl rfl, hdec⟩⟩, rfl⟩
          · have hF : numM 16 acc (c :: bs.drop (k + 1)) = numM 16 (acc * 16 + (c.toNat - 48)) (bs.drop (k + 1)) := by
              have e : numM 16 acc (c :: bs.drop (k + 1)) = if 4294967295 < acc * 16 + (c.toNat - 48) then none else numM 16 (acc * 16 + (c.toNat - 48)) (bs.drop (k + 1)) := by simp only [numM, hdb]
              rw [e, if_neg hov]
            have HN : Hid (a * 16 + ((c.toNat : Int) - 48) = ((acc * 16 + (c.toNat - 48) : Nat) : Int) ∧ acc * 16 + (c.toNat - 48) ≤ 4294967295 ∧ numM 16 0 bs = numM 16 (acc * 16 + (c.toNat - 48)) (bs.drop (k + 1))) := Lib.hid ⟨by omega, by omega, hdec.trans hF⟩
            have iov : a * 16 + ((c.toNat : Int) - 48) ≤ 4294967295 := by omega
            clear hcut hacc hF hov hdec ha hdb
            go_wp2
            go_round
            case rel => exact ⟨_, _, _, _, _, _, _, _, ⟨rfl, k + 1, acc * 16 + (c.toNat - 48), a * 16 + ((c.toNat : Int) - 48), rfl, (by first | rfl | (congr 1; omega)), by omega, HN⟩, rfl, rfl, rfl, rfl, rfl, rfl, rfl, (by first | rfl | (congr 1; omega))⟩
            case measure => simp [intOf]; omega
        · -- a letter, or an error
          have hL := or32 hc256
          by_cases hlet : digB 16 c.toNat = none
          · have hF : numM 16 acc (c :: bs.drop (k + 1)) = none := by simp only [numM, hlet]
            rw [hF] at hdec
            have hno : ¬ ((97 ≤ c.toNat ∧ c.toNat ≤ 102) ∨ (65 ≤ c.toNat ∧ c.toNat ≤ 70)) := by
              intro h
              unfold digB at hlet
              rw [if_neg hdig] at hlet
              rcases h with h | h
              · rw [if_pos (by omega), if_pos (by omega)] at hlet; cases hlet
              · rw [if_neg (by omega), if_pos (by omega), if_pos (by omega)] at hlet; cases hlet
            have hLv : ¬ (97 ≤ (if c.toNat / 32 % 2 = 1 then c.toNat else c.toNat + 32) ∧ (if c.toNat / 32 % 2 = 1 then c.toNat else c.toNat + 32) ≤ 102) := by split <;> omega
            generalize (if c.toNat / 32 % 2 = 1 then c.toNat else c.toNat + 32) = L at hL hLv
            have hv0 := bits_lo_u8 .or (c.toNat : Int) 32
            have hv1 := bits_hi_u8 .or (c.toNat : Int) 32
            rw [hL] at hv0 hv1
            clear hacc hF ha hlet hno
            by_cases h95 : c.toNat = 95
            · have hL95 : Go.bits .or .u8 95 32 = 127 := by decide
              have e95 : (c.toNat : Int) = 95 := by omega
              rw [e95] at hc
              clear hL hv0 hv1
              go_wp2_with (go_at_call 63; refine (lower_at _ _ _ hL95).mono ?_; rintro e w' ⟨rfl, rfl⟩)
              all_goals (first | go_ret2 | skip)
              all_goals first | exact ⟨⟨_, _, rfl, .inr ⟨.inr rfl, hdec⟩⟩, rfl⟩
            · have i95 : ((c.toNat : Int) == 95) = false := beq_eq_false_iff_ne.2 (by omega)
              by_cases hl97 : 97 ≤ L
              · have hl97' : 97 ≤ (L : Int) := by omega
                by_cases hl122 : L ≤ 122
                · have hl122' : (L : Int) ≤ 122 := by omega
                  go_wp2_with (go_at_call 63; refine (lower_at _ _ _ hL).mono ?_; rintro e w' ⟨rfl, rfl⟩)
                  all_goals (first | go_ret2 | skip)
                  all_goals first | exact ⟨⟨_, _, rfl, .inr ⟨.inr rfl, hdec⟩⟩, rfl⟩
                · have hl122' : ¬ (L : Int) ≤ 122 := by omega
                  go_wp2_with (go_at_call 63; refine (lower_at _ _ _ hL).mono ?_; rintro e w' ⟨rfl, rfl⟩)
                  all_goals (first | go_ret2 | skip)
                  all_goals first | exact ⟨⟨_, _, rfl, .inr ⟨.inr rfl, hdec⟩⟩, rfl⟩
              · have hl97' : ¬ 97 ≤ (L : Int) := by omega
                go_wp2_with (go_at_call 63; refine (lower_at _ _ _ hL).mono ?_; rintro e w' ⟨rfl, rfl⟩)
                all_goals (first | go_ret2 | skip)
                all_goals first | exact ⟨⟨_, _, rfl, .inr ⟨.inr rfl, hdec⟩⟩, rfl⟩
          · obtain ⟨L, hL', hL0, hL1, h95, hdb⟩ : ∃ L : Nat, (if c.toNat / 32 % 2 = 1 then c.toNat else c.toNat + 32) = L ∧ 97 ≤ L ∧ L ≤ 102 ∧ c.toNat ≠ 95 ∧ digB 16 c.toNat = some (L - 87) := by
              refine ⟨_, rfl, ?_⟩
              have hyes : (97 ≤ c.toNat ∧ c.toNat ≤ 102) ∨ (65 ≤ c.toNat ∧ c.toNat ≤ 70) := by
                unfold digB at hlet
                rw [if_neg hdig] at hlet
                by_cases h1 : 97 ≤ c.toNat ∧ c.toNat ≤ 122
                · rw [if_pos h1] at hlet
                  by_cases h2 : c.toNat - 87 < 16
                  · omega
                  · rw [if_neg h2] at hlet; exact absurd rfl hlet
                · rw [if_neg h1] at hlet
                  by_cases h1 : 65 ≤ c.toNat ∧ c.toNat ≤ 90
                  · rw [if_pos h1] at hlet
                    by_cases h2 : c.toNat - 55 < 16
                    · omega
                    · rw [if_neg h2] at hlet; exact absurd rfl hlet
                  · rw [if_neg h1] at hlet; exact absurd rfl hlet
              unfold digB
              rw [if_neg hdig]
              rcases hyes with h | h
              · rw [if_pos (show c.toNat / 32 % 2 = 1 by omega), if_pos (by omega), if_pos (by omega)]
                exact ⟨h.1, h.2, by omega, rfl⟩
              · rw [if_neg (show ¬ c.toNat / 32 % 2 = 1 by omega), if_neg (by omega), if_pos (by omega), if_pos (by omega)]
                exact ⟨by omega, by omega, by omega, congrArg some (by omega)⟩
            rw [hL'] at hL
            have hcut : ¬ 1152921504606846976 ≤ acc := by omega
            have hv0 : 0 ≤ (L : Int) := by omega
            have hv2 : 97 ≤ (L : Int) := by omega
            have hv3 : (L : Int) ≤ 102 := by omega
            by_cases hov : 4294967295 < acc * 16 + (L - 87)
            · have hF : numM 16 acc (c :: bs.drop (k + 1)) = none := by simp only [numM, hdb]; rw [if_pos hov]
              rw [hF] at hdec
              have iov : 4294967295 < a * 16 + ((L : Int) - 97 + 10) := by omega
              clear hcut hacc hF hov ha hdb hlet hL'
              have i95 : ((c.toNat : Int) == 95) = false := beq_eq_false_iff_ne.2 (by omega)
              go_wp2_with (go_at_call 63; refine (lower_at _ _ _ hL).mono ?_; rintro e w' ⟨rfl, rfl⟩)
              all_goals (first | go_ret2 | skip)
              all_goals first | exact ⟨⟨_, _, rfl, .inr ⟨.inl rfl, hdec⟩⟩, rfl⟩
            · have hF : numM 16 acc (c :: bs.drop (k + 1)) = numM 16 (acc * 16 + (L - 87)) (bs.drop (k + 1)) := by
                have e : numM 16 acc (c :: bs.drop (k + 1)) = if 4294967295 < acc * 16 + (L - 87) then none else numM 16 (acc * 16 + (L - 87)) (bs.drop (k + 1)) := by simp only [numM, hdb]
                rw [e, if_neg hov]
              have HN : Hid (a * 16 + ((L : Int) - 97 + 10) = ((acc * 16 + (L - 87) : Nat) : Int) ∧ acc * 16 + (L - 87) ≤ 4294967295 ∧ numM 16 0 bs = numM 16 (acc * 16 + (L - 87)) (bs.drop (k + 1))) := Lib.hid ⟨by omega, by omega, hdec.trans hF⟩
              have iov : a * 16 + ((L : Int) - 97 + 10) ≤ 4294967295 := by omega
              clear hcut hacc hF hov hdec ha hdb hlet hL'
              have i95 : ((c.toNat : Int) == 95) = false := beq_eq_false_iff_ne.2 (by omega)
              go_wp2_with (go_at_call 63; refine (lower_at _ _ _ hL).mono ?_; rintro e w' ⟨rfl, rfl⟩)
              all_goals (
                refine ⟨⟨trivial, ?_⟩, (by simp [intOf]; omega)⟩
                (repeat apply Exists.intro)
                refine ⟨⟨k + 1, acc * 16 + (L - 87), a * 16 + ((L : Int) - 97 + 10), rfl, rfl, (by first | rfl | (congr 1; omega)), by omega, HN⟩, ?_⟩
                repeat (first | exact rfl | refine ⟨rfl, ?_⟩ | refine ⟨(by congr 1; omega), ?_⟩ | (congr 1; omega)))
      · have hkk : k = t.size := by omega
        subst hkk
        have hF : numM 16 acc (bs.drop t.size) = some acc := by rw [List.drop_eq_nil_of_le (by omega)]; rfl
        rw [hF] at hdec
        subst ha
        clear hacc hF a0 a1
        go_wp2
        go_ret2
        exact ⟨⟨_, _, rfl, .inl ⟨rfl, acc, rfl, hdec⟩⟩, rfl⟩
end Go.Proofs.YtekalnhackjldaaDoor.H
