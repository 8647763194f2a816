/- Plain words, and walks by hand. -/
import Derived.Test.YtekalnhackjldaaDoorProg
import Derived.Shelf.RegionOpenPlain
import Derived.Lib.Strings
import Derived.Lib.Walk
import Derived.Lib.ConvBytes
import Derived.Lib.ParseIntBMem
import Derived.Lib.AtoiErrMem
import Derived.Lib.IfaceEq
import Derived.Lib.BufferWrite
import Derived.Lib.UnsafeStr
import Derived.Lib.Hide
import Derived.Laws.MakeOwn
import Derived.Laws.Strings3
import Derived.Laws.Closers25
import Derived.Laws.Closers25b
import Derived.RegionTactic
import Derived.Deep.RegionWith
import Derived.WalkKit
import Derived.BigCall
import Derived.BigGuard
import Derived.Test.YtekalnhackjldaaDoorWAll
import Derived.Lib.SlBytesConst
import Derived.ChangeKeysEq
import Derived.Laws.BitsLemmas
import Derived.RowKit
import Derived.Laws.Strings
import Derived.Below
import Derived.Deep.Draws
import Derived.OwnWalk
import Derived.Laws.BytesArg
import Derived.Tactics
import Derived.Laws.Slices
import Derived.KernelRfl
import Derived.RowKit3
import Derived.Deep.LoopGhost
import Derived.Deep.QuietTactic
import Derived.BigQuiet
import Derived.WideLaws
import Derived.Deep.DeepCutAuto
import Derived.Deep.CutBlock
import Derived.LoopTactic
import Derived.Laws.Strings2
import Derived.Laws.Bits64b
section
/- Walks of our own: strconv.ParseUint of base ten and sixteen, at 32 bits (after the kit's shelf of base ten). -/
namespace Go.Proofs.YtekalnhackjldaaDoor.H
open Go.RowKit
set_option linter.unusedVariables false
set_option linter.unusedSimpArgs false

/-- A digit's worth, in a base. -/
def digB (b c : Nat) : Option Nat :=
  if 48 ≤ c ∧ c ≤ 57 then some (c - 48)
  else if 97 ≤ c ∧ c ≤ 122 then (if c - 87 < b then some (c - 87) else none)
  else if 65 ≤ c ∧ c ≤ 90 then (if c - 55 < b then some (c - 55) else none)
  else none
/-- The number that digits of a base write, of 32 bits at most. -/
def numM (b : Nat) : Nat → List UInt8 → Option Nat
  | acc, [] => some acc
  | acc, c :: t => match digB b c.toNat with
    | none => none
    | some d => if 4294967295 < acc * b + d then none else numM b (acc * b + d) t

/-- What is told of a number read: the number; or an error. -/
def PuPost (b : Nat) (bs : List UInt8) (e : Ending) : Prop := ∃ (x : Int) (er : Value), e = .returned (.tuple #[.int .u64 x, er]) ∧ ((er = .nilIface ∧ ∃ n : Nat, x = n ∧ numM b 0 bs = some n) ∨ ((er = .iface 104 (.int .i64 1) ∨ er = .iface 104 (.int .i64 2)) ∧ numM b 0 bs = none))
theorem lower_at (c v : Int) (w : World) (hv : Go.bits .or .u8 c 32 = v) :
    Calls Tryd.prog 63 #[.int .u8 c] w fun e w' => e = .returned (.int .u8 v) ∧ w' = w := by
  subst hv
  go_enter Tryd.func63, Tryd.ntmps63
  go_wp2
  go_ret
  exact ⟨rfl, rfl⟩
theorem or32 {c : Nat} (h : c < 256) : Go.bits .or .u8 (c : Int) 32 = ((if c / 32 % 2 = 1 then c else c + 32 : Nat) : Int) := by
  have : ∀ x : Fin 256, Go.bits .or .u8 ((x.val : Nat) : Int) 32 = ((if x.val / 32 % 2 = 1 then x.val else x.val + 32 : Nat) : Int) := by decide +kernel
  exact this ⟨c, h⟩
set_option maxHeartbeats 32000000 in
set_option maxRecDepth 100000 in
theorem iparse_at (b : Nat) (hb : b = 10 ∨ b = 16) (t : ByteArray) (hne : t.size ≠ 0) (hmax : t.size ≤ 9223372036854775806) (w : World) :
    Calls Tryd.prog 51 #[.string t, .int .i64 b, .int .i64 32] w fun e w' => PuPost b t.data.toList e ∧ w' = Lib.bytesWorld w 5 t := by
  have hemp : t.toList.isEmpty = false := by
    rw [← decide_eq_emptyBytes]
    exact decide_eq_false (fun h => hne (by rw [h]; rfl))
  have hcv := Lib.run_convert_string_bytes (P := Tryd.prog) w 9 22 5 t (u := .string) Tryd.underlying9 Tryd.underlying22 Tryd.underlying5
  have hB : ∀ j, j < t.size → (Lib.bytesWorld w 5 t).cell? ⟨w.heap.size, j, none⟩ = some (.int .u8 (t.data.toList.getD j 0).toNat) := fun j hj => Lib.bytesWorld_cell w 5 t j hj
  obtain ⟨W1, hW1⟩ : ∃ W1, W1 = Lib.bytesWorld w 5 t := ⟨_, rfl⟩
  rw [← hW1] at hcv hB ⊢
  clear hW1
  obtain ⟨bs, hL⟩ : ∃ bs, bs = t.data.toList := ⟨_, rfl⟩
  have hLn : bs.length = t.size := by rw [hL, Lib.size_eq]
  rw [← hL] at hB ⊢
  clear hL
  have hmv : IntKind.u64.wrap (IntKind.u64.wrap 4294967296 - 1) = 4294967295 := by
    rw [IntKind.wrap_u64, IntKind.wrap_u64]
    decide
  rcases hb with rfl | rfl
  · go_enter Tryd.func51, Tryd.ntmps51
    go_wp2
    go_loop [12, 13, 101] (fun vu vn vi => ∃ (k acc : Nat) (a : Int), vu = .bool false ∧ vn = .int .u64 a ∧ vi = .int .i64 k ∧ k ≤ t.size ∧ Hid (a = (acc : Int) ∧ acc ≤ 4294967295 ∧ numM 10 0 bs = numM 10 acc (bs.drop k)))
      (fun _ _ vi => t.size - (intOf vi).toNat)
    case atStart => exact ⟨0, 0, 0, rfl, rfl, rfl, by omega, rfl, by omega, rfl⟩
    case round =>
      obtain ⟨k, acc, a, rfl, rfl, rfl, hk, hh⟩ := hrel
      obtain ⟨ha, hacc, hdec⟩ := hh.out
      clear hh
      have a0 : 0 ≤ a := by omega
      have a1 : a ≤ 4294967295 := by omega
      by_cases hkn : k < t.size
      · have hc := hB k hkn
        have hdrop : bs.drop k = bs[k]'(by omega) :: bs.drop (k + 1) := List.drop_eq_getElem_cons (by omega)
        have hget : bs.getD k 0 = bs[k]'(by omega) := by simp [List.getD, List.getElem?_eq_getElem (show k < bs.length by omega)]
        rw [hdrop] at hdec
        rw [hget] at hc
        generalize bs[k]'(by omega) = c at hc hdec
        have hc256 : c.toNat < 256 := c.toNat_lt
        clear hB hdrop hget
        by_cases hdig : 48 ≤ c.toNat ∧ c.toNat ≤ 57
        · obtain ⟨hd0, hd1⟩ := hdig
          have hcut : ¬ 1152921504606846976 ≤ acc := by omega
          have hdb : digB 10 c.toNat = some (c.toNat - 48) := by unfold digB; rw [if_pos ⟨hd0, hd1⟩]
          by_cases hov : 4294967295 < acc * 10 + (c.toNat - 48)
          · have hF : numM 10 acc (c :: bs.drop (k + 1)) = none := by simp only [numM, hdb]; rw [if_pos hov]
            rw [hF] at hdec
            have iov : 4294967295 < a * 10 + ((c.toNat : Int) - 48) := by omega
            clear hcut hacc hF hov ha hdb
            go_wp2
            go_ret2
            exact ⟨⟨_, _, rfl, .inr ⟨.inl rfl, hdec⟩⟩, rfl⟩
          · have hF : numM 10 acc (c :: bs.drop (k + 1)) = numM 10 (acc * 10 + (c.toNat - 48)) (bs.drop (k + 1)) := by
              have e : numM 10 acc (c :: bs.drop (k + 1)) = if 4294967295 < acc * 10 + (c.toNat - 48) then none else numM 10 (acc * 10 + (c.toNat - 48)) (bs.drop (k + 1)) := by simp only [numM, hdb]
              rw [e, if_neg hov]
            have HN : Hid (a * 10 + ((c.toNat : Int) - 48) = ((acc * 10 + (c.toNat - 48) : Nat) : Int) ∧ acc * 10 + (c.toNat - 48) ≤ 4294967295 ∧ numM 10 0 bs = numM 10 (acc * 10 + (c.toNat - 48)) (bs.drop (k + 1))) := Lib.hid ⟨by omega, by omega, hdec.trans hF⟩
            have iov : a * 10 + ((c.toNat : Int) - 48) ≤ 4294967295 := by omega
            clear hcut hacc hF hov hdec ha hdb
            go_wp2
            go_round
            case rel => exact ⟨_, _, _, _, _, _, _, _, ⟨rfl, k + 1, acc * 10 + (c.toNat - 48), a * 10 + ((c.toNat : Int) - 48), rfl, (by first | rfl | (congr 1; omega)), by omega, HN⟩, rfl, rfl, rfl, rfl, rfl, rfl, rfl, (by first | rfl | (congr 1; omega))⟩
            case measure => simp [intOf]; omega
        · -- no digit: an error, whatever way it goes
          have hdb : digB 10 c.toNat = none := by
            unfold digB
            rw [if_neg hdig]
            split
            · rw [if_neg (by omega)]
            · split
              · rw [if_neg (by omega)]
              · rfl
          have hF : numM 10 acc (c :: bs.drop (k + 1)) = none := by simp only [numM, hdb]
          rw [hF] at hdec
          have hL := or32 hc256
          generalize (if c.toNat / 32 % 2 = 1 then c.toNat else c.toNat + 32) = L at hL
          have hv0 := bits_lo_u8 .or (c.toNat : Int) 32
          have hv1 := bits_hi_u8 .or (c.toNat : Int) 32
          rw [hL] at hv0 hv1
          clear hacc hF ha hdb
          by_cases h95 : c.toNat = 95
          · have hL95 : Go.bits .or .u8 95 32 = 127 := by decide
            have e95 : (c.toNat : Int) = 95 := by omega
            rw [e95] at hc
            clear hL hv0 hv1
            go_wp2_with (go_at_call 63; refine (lower_at _ _ _ hL95).mono ?_; rintro e w' ⟨rfl, rfl⟩)
            all_goals (first | go_ret2 | skip)
            all_goals first | exact ⟨⟨_, _, rfl, .inr ⟨.inr rfl, hdec⟩⟩, rfl⟩
          · have i95 : ((c.toNat : Int) == 95) = false := beq_eq_false_iff_ne.2 (by omega)
            by_cases hl97 : 97 ≤ L
            · have hl97' : 97 ≤ (L : Int) := by omega
              by_cases hl122 : L ≤ 122
              · have hl122' : (L : Int) ≤ 122 := by omega
                go_wp2_with (go_at_call 63; refine (lower_at _ _ _ hL).mono ?_; rintro e w' ⟨rfl, rfl⟩)
                all_goals (first | go_ret2 | skip)
                all_goals first | exact ⟨⟨_, _, rfl, .inr ⟨.inr rfl, hdec⟩⟩, rfl⟩
              · have hl122' : ¬ (L : Int) ≤ 122 := by omega
                go_wp2_with (go_at_call 63; refine (lower_at _ _ _ hL).mono ?_; rintro e w' ⟨rfl, rfl⟩)
                all_goals (first | go_ret2 | skip)
                all_goals first | exact ⟨⟨_, _, rfl, .inr ⟨.inr rfl, hdec⟩⟩, rfl⟩
            · have hl97' : ¬ 97 ≤ (L : Int) := by omega
              go_wp2_with (go_at_call 63; refine (lower_at _ _ _ hL).mono ?_; rintro e w' ⟨rfl, rfl⟩)
              all_goals (first | go_ret2 | skip)
              all_goals first | exact ⟨⟨_, _, rfl, .inr ⟨.inr rfl, hdec⟩⟩, rfl⟩
      · have hkk : k = t.size := by omega
        subst hkk
        have hF : numM 10 acc (bs.drop t.size) = some acc := by rw [List.drop_eq_nil_of_le (by omega)]; rfl
        rw [hF] at hdec
        subst ha
        clear hacc hF a0 a1
        go_wp2
        go_ret2
        exact ⟨⟨_, _, rfl, .inl ⟨rfl, acc, rfl, hdec⟩⟩, rfl⟩
  · go_enter Tryd.func51, Tryd.ntmps51
    go_wp2
    go_loop [12, 13, 101] (fun vu vn vi => ∃ (k acc : Nat) (a : Int), vu = .bool false ∧ vn = .int .u64 a ∧ vi = .int .i64 k ∧ k ≤ t.size ∧ Hid (a = (acc : Int) ∧ acc ≤ 4294967295 ∧ numM 16 0 bs = numM 16 acc (bs.drop k)))
      (fun _ _ vi => t.size - (intOf vi).toNat)
    case atStart => exact ⟨0, 0, 0, rfl, rfl, rfl, by omega, rfl, by omega, rfl⟩
    case round =>
      obtain ⟨k, acc, a, rfl, rfl, rfl, hk, hh⟩ := hrel
      obtain ⟨ha, hacc, hdec⟩ := hh.out
      clear hh
      have a0 : 0 ≤ a := by omega
      have a1 : a ≤ 4294967295 := by omega
      by_cases hkn : k < t.size
      · have hc := hB k hkn
        have hdrop : bs.drop k = bs[k]'(by omega) :: bs.drop (k + 1) := List.drop_eq_getElem_cons (by omega)
        have hget : bs.getD k 0 = bs[k]'(by omega) := by simp [List.getD, List.getElem?_eq_getElem (show k < bs.length by omega)]
        rw [hdrop] at hdec
        rw [hget] at hc
        generalize bs[k]'(by omega) = c at hc hdec
        have hc256 : c.toNat < 256 := c.toNat_lt
        clear hB hdrop hget
        by_cases hdig : 48 ≤ c.toNat ∧ c.toNat ≤ 57
        · obtain ⟨hd0, hd1⟩ := hdig
          have hcut : ¬ 1152921504606846976 ≤ acc := by omega
          have hdb : digB 16 c.toNat = some (c.toNat - 48) := by unfold digB; rw [if_pos ⟨hd0, hd1⟩]
          by_cases hov : 4294967295 < acc * 16 + (c.toNat - 48)
          · have hF : numM 16 acc (c :: bs.drop (k + 1)) = none := by simp only [numM, hdb]; rw [if_pos hov]
            rw [hF] at hdec
            have iov : 4294967295 < a * 16 + ((c.toNat : Int) - 48) := by omega
            clear hcut hacc hF hov ha hdb
            go_wp2
            go_ret2
            exact ⟨⟨_, _, rfl, .inr ⟨.inl rfl, hdec⟩⟩, rfl⟩
          · have hF : numM 16 acc (c :: bs.drop (k + 1)) = numM 16 (acc * 16 + (c.toNat - 48)) (bs.drop (k + 1)) := by
              have e : numM 16 acc (c :: bs.drop (k + 1)) = if 4294967295 < acc * 16 + (c.toNat - 48) then none else numM 16 (acc * 16 + (c.toNat - 48)) (bs.drop (k + 1)) := by simp only [numM, hdb]
              rw [e, if_neg hov]
            have HN : Hid (a * 16 + ((c.toNat : Int) - 48) = ((acc * 16 + (c.toNat - 48) : Nat) : Int) ∧ acc * 16 + (c.toNat - 48) ≤ 4294967295 ∧ numM 16 0 bs = numM 16 (acc * 16 + (c.toNat - 48)) (bs.drop (k + 1))) := Lib.hid ⟨by omega, by omega, hdec.trans hF⟩
            have iov : a * 16 + ((c.toNat : Int) - 48) ≤ 4294967295 := by omega
            clear hcut hacc hF hov hdec ha hdb
            go_wp2
            go_round
            case rel => exact ⟨_, _, _, _, _, _, _, _, ⟨rfl, k + 1, acc * 16 + (c.toNat - 48), a * 16 + ((c.toNat : Int) - 48), rfl, (by first | rfl | (congr 1; omega)), by omega, HN⟩, rfl, rfl, rfl, rfl, rfl, rfl, rfl, (by first | rfl | (congr 1; omega))⟩
            case measure => simp [intOf]; omega
        · -- a letter, or an error
          have hL := or32 hc256
          by_cases hlet : digB 16 c.toNat = none
          · have hF : numM 16 acc (c :: bs.drop (k + 1)) = none := by simp only [numM, hlet]
            rw [hF] at hdec
            have hno : ¬ ((97 ≤ c.toNat ∧ c.toNat ≤ 102) ∨ (65 ≤ c.toNat ∧ c.toNat ≤ 70)) := by
              intro h
              unfold digB at hlet
              rw [if_neg hdig] at hlet
              rcases h with h | h
              · rw [if_pos (by omega), if_pos (by omega)] at hlet; cases hlet
              · rw [if_neg (by omega), if_pos (by omega), if_pos (by omega)] at hlet; cases hlet
            have hLv : ¬ (97 ≤ (if c.toNat / 32 % 2 = 1 then c.toNat else c.toNat + 32) ∧ (if c.toNat / 32 % 2 = 1 then c.toNat else c.toNat + 32) ≤ 102) := by split <;> omega
            generalize (if c.toNat / 32 % 2 = 1 then c.toNat else c.toNat + 32) = L at hL hLv
            have hv0 := bits_lo_u8 .or (c.toNat : Int) 32
            have hv1 := bits_hi_u8 .or (c.toNat : Int) 32
            rw [hL] at hv0 hv1
            clear hacc hF ha hlet hno
            by_cases h95 : c.toNat = 95
            · have hL95 : Go.bits .or .u8 95 32 = 127 := by decide
              have e95 : (c.toNat : Int) = 95 := by omega
              rw [e95] at hc
              clear hL hv0 hv1
              go_wp2_with (go_at_call 63; refine (lower_at _ _ _ hL95).mono ?_; rintro e w' ⟨rfl, rfl⟩)
              all_goals (first | go_ret2 | skip)
              all_goals first | exact ⟨⟨_, _, rfl, .inr ⟨.inr rfl, hdec⟩⟩, rfl⟩
            · have i95 : ((c.toNat : Int) == 95) = false := beq_eq_false_iff_ne.2 (by omega)
              by_cases hl97 : 97 ≤ L
              · have hl97' : 97 ≤ (L : Int) := by omega
                by_cases hl122 : L ≤ 122
                · have hl122' : (L : Int) ≤ 122 := by omega
                  go_wp2_with (go_at_call 63; refine (lower_at _ _ _ hL).mono ?_; rintro e w' ⟨rfl, rfl⟩)
                  all_goals (first | go_ret2 | skip)
                  all_goals first | exact ⟨⟨_, _, rfl, .inr ⟨.inr rfl, hdec⟩⟩, rfl⟩
                · have hl122' : ¬ (L : Int) ≤ 122 := by omega
                  go_wp2_with (go_at_call 63; refine (lower_at _ _ _ hL).mono ?_; rintro e w' ⟨rfl, rfl⟩)
                  all_goals (first | go_ret2 | skip)
                  all_goals first | exact ⟨⟨_, _, rfl, .inr ⟨.inr rfl, hdec⟩⟩, rfl⟩
              · have hl97' : ¬ 97 ≤ (L : Int) := by omega
                go_wp2_with (go_at_call 63; refine (lower_at _ _ _ hL).mono ?_; rintro e w' ⟨rfl, rfl⟩)
                all_goals (first | go_ret2 | skip)
                all_goals first | exact ⟨⟨_, _, rfl, .inr ⟨.inr rfl, hdec⟩⟩, rfl⟩
          · obtain ⟨L, hL', hL0, hL1, h95, hdb⟩ : ∃ L : Nat, (if c.toNat / 32 % 2 = 1 then c.toNat else c.toNat + 32) = L ∧ 97 ≤ L ∧ L ≤ 102 ∧ c.toNat ≠ 95 ∧ digB 16 c.toNat = some (L - 87) := by
              refine ⟨_, rfl, ?_⟩
              have hyes : (97 ≤ c.toNat ∧ c.toNat ≤ 102) ∨ (65 ≤ c.toNat ∧ c.toNat ≤ 70) := by
                unfold digB at hlet
                rw [if_neg hdig] at hlet
                by_cases h1 : 97 ≤ c.toNat ∧ c.toNat ≤ 122
                · rw [if_pos h1] at hlet
                  by_cases h2 : c.toNat - 87 < 16
                  · omega
                  · rw [if_neg h2] at hlet; exact absurd rfl hlet
                · rw [if_neg h1] at hlet
                  by_cases h1 : 65 ≤ c.toNat ∧ c.toNat ≤ 90
                  · rw [if_pos h1] at hlet
                    by_cases h2 : c.toNat - 55 < 16
                    · omega
                    · rw [if_neg h2] at hlet; exact absurd rfl hlet
                  · rw [if_neg h1] at hlet; exact absurd rfl hlet
              unfold digB
              rw [if_neg hdig]
              rcases hyes with h | h
              · rw [if_pos (show c.toNat / 32 % 2 = 1 by omega), if_pos (by omega), if_pos (by omega)]
                exact ⟨h.1, h.2, by omega, rfl⟩
              · rw [if_neg (show ¬ c.toNat / 32 % 2 = 1 by omega), if_neg (by omega), if_pos (by omega), if_pos (by omega)]
                exact ⟨by omega, by omega, by omega, congrArg some (by omega)⟩
            rw [hL'] at hL
            have hcut : ¬ 1152921504606846976 ≤ acc := by omega
            have hv0 : 0 ≤ (L : Int) := by omega
            have hv2 : 97 ≤ (L : Int) := by omega
            have hv3 : (L : Int) ≤ 102 := by omega
            by_cases hov : 4294967295 < acc * 16 + (L - 87)
            · have hF : numM 16 acc (c :: bs.drop (k + 1)) = none := by simp only [numM, hdb]; rw [if_pos hov]
              rw [hF] at hdec
              have iov : 4294967295 < a * 16 + ((L : Int) - 97 + 10) := by omega
              clear hcut hacc hF hov ha hdb hlet hL'
              have i95 : ((c.toNat : Int) == 95) = false := beq_eq_false_iff_ne.2 (by omega)
              go_wp2_with (go_at_call 63; refine (lower_at _ _ _ hL).mono ?_; rintro e w' ⟨rfl, rfl⟩)
              all_goals (first | go_ret2 | skip)
              all_goals first | exact ⟨⟨_, _, rfl, .inr ⟨.inl rfl, hdec⟩⟩, rfl⟩
            · have hF : numM 16 acc (c :: bs.drop (k + 1)) = numM 16 (acc * 16 + (L - 87)) (bs.drop (k + 1)) := by
                have e : numM 16 acc (c :: bs.drop (k + 1)) = if 4294967295 < acc * 16 + (L - 87) then none else numM 16 (acc * 16 + (L - 87)) (bs.drop (k + 1)) := by simp only [numM, hdb]
                rw [e, if_neg hov]
              have HN : Hid (a * 16 + ((L : Int) - 97 + 10) = ((acc * 16 + (L - 87) : Nat) : Int) ∧ acc * 16 + (L - 87) ≤ 4294967295 ∧ numM 16 0 bs = numM 16 (acc * 16 + (L - 87)) (bs.drop (k + 1))) := Lib.hid ⟨by omega, by omega, hdec.trans hF⟩
              have iov : a * 16 + ((L : Int) - 97 + 10) ≤ 4294967295 := by omega
              clear hcut hacc hF hov hdec ha hdb hlet hL'
              have i95 : ((c.toNat : Int) == 95) = false := beq_eq_false_iff_ne.2 (by omega)
              go_wp2_with (go_at_call 63; refine (lower_at _ _ _ hL).mono ?_; rintro e w' ⟨rfl, rfl⟩)
              all_goals (
                refine ⟨⟨trivial, ?_⟩, (by simp [intOf]; omega)⟩
                (repeat apply Exists.intro)
                refine ⟨⟨k + 1, acc * 16 + (L - 87), a * 16 + ((L : Int) - 97 + 10), rfl, rfl, (by first | rfl | (congr 1; omega)), by omega, HN⟩, ?_⟩
                repeat (first | exact rfl | refine ⟨rfl, ?_⟩ | refine ⟨(by congr 1; omega), ?_⟩ | (congr 1; omega)))
      · have hkk : k = t.size := by omega
        subst hkk
        have hF : numM 16 acc (bs.drop t.size) = some acc := by rw [List.drop_eq_nil_of_le (by omega)]; rfl
        rw [hF] at hdec
        subst ha
        clear hacc hF a0 a1
        go_wp2
        go_ret2
        exact ⟨⟨_, _, rfl, .inl ⟨rfl, acc, rfl, hdec⟩⟩, rfl⟩
end Go.Proofs.YtekalnhackjldaaDoor.H
end
section
/- Walks of our own: strconv.ParseUint, its errors (after the kit's shelf). -/
namespace Go.Proofs.YtekalnhackjldaaDoor.H
open Go.RowKit
set_option linter.unusedVariables false
set_option linter.unusedSimpArgs false

theorem info_u8 : (Tryd.prog.info? 5).map (fun i => (i.zero, i.size, i.bytes)) = some (some (.int .u8 0), 1, 1) := by kernel_rfl
set_option maxHeartbeats 4000000 in
set_option maxRecDepth 100000 in
theorem clone_at (s : ByteArray) (w : World) (hlim : s.size ≤ 281474976710656) :
    Calls Tryd.prog 74 #[.string s] w fun e w' => e = .returned (.string s) ∧ Below w.heap.size w w' := by
  by_cases h0 : s.size = 0
  · have hs : s = ⟨#[]⟩ := by
      apply ByteArray.ext
      exact Array.eq_empty_of_size_eq_zero h0
    subst hs
    go_enter Tryd.func74, Tryd.ntmps74
    go_wp2
    go_ret
    exact ⟨rfl, Below.refl _ _⟩
  · obtain ⟨i0, hi, hz0, hz1, hz2⟩ := info_parts info_u8
    have hinfo : (Tryd.prog.info? 5).map (·.size) = some 1 := by rw [hi]; simp [hz1]
    have hco : Tryd.prog.cellsOf 5 = 1 := by simp [Program.cellsOf, hi, hz1]
    obtain ⟨M, hM⟩ : ∃ M, M = madeCells (Value.int .u8 0).cells (((s.size : Nat) : Int).toNat * i0.size) := ⟨_, rfl⟩
    have hMs : M.size = s.size := by rw [hM, size_madeCells, hz1]; simp
    have hmk : ∀ W : World, (Instr.makeSlice 22 (.int .i64 (s.size : Int)) (.int .i64 (s.size : Int))).run Tryd.prog W = .ok (.slice (some ⟨W.heap.size, 0, none⟩) s.size s.size) (W.alloc (.cells M 5)) := fun W => by
      have h := run_make (P := Tryd.prog) W 22 5 i0 (.int .u8 0) Tryd.underlying22 hi hz0 .i64 .i64 (s.size : Int) (s.size : Int) (by omega) (by omega) (by rw [hz2]; omega) (by omega)
      rw [← hM] at h
      simpa using h
    clear hM
    have hcp := Lib.run_copy_row_string (P := Tryd.prog) (w.alloc (.cells M 5)) 22 9 3 5 w.heap.size 0 s.size s.size s M 5 Tryd.underlying22 hinfo (heap_alloc_new w _) (Nat.le_refl _) (by omega)
    obtain ⟨Y, hY⟩ : ∃ Y, Y = (M.toList.take 0 ++ Lib.byteCells s.data.toList ++ M.toList.drop (0 + s.size)).toArray := ⟨_, rfl⟩
    rw [← hY] at hcp
    have hYl : Y.toList = Lib.byteCells s.data.toList := by
      rw [hY, List.toList_toArray, List.take_zero, List.nil_append, List.drop_of_length_le (by rw [Array.length_toList]; omega), List.append_nil]
    have hYs : Y.size = s.size := by rw [← Array.length_toList, hYl, Lib.byteCells_length, ← Lib.size_eq]
    have hgY : ((w.alloc (.cells M 5)).setRow w.heap.size Y).heap[w.heap.size]? = some (.cells Y 5 (0, 0)) := setRow_heap _ _ M _ 5 (0, 0) (heap_alloc_new w _)
    have hne : s.data.toList ≠ [] := fun e => h0 (by rw [Lib.size_eq, e]; rfl)
    have hUS := Lib.run_unsafeString_row (P := Tryd.prog) ((w.alloc (.cells M 5)).setRow w.heap.size Y) 115 3 9 5 Tryd.underlying115 hco w.heap.size Y.size (by unfold World.shape?; rw [hgY]) s.data.toList hne (by rw [← Lib.size_eq]; omega) (by rw [← Lib.size_eq]; omega)
      (fun j x hx => Lib.cells_of_row hgY Y.size j _ (by rw [List.take_of_length_le (by rw [Array.length_toList]; exact Nat.le_refl _), hYl]; simp [Lib.byteCells, hx]))
    rw [← Lib.size_eq] at hUS
    clear hY
    go_enter Tryd.func74, Tryd.ntmps74
    go_wp2
    go_ret
    have hb1 : Below w.heap.size w (w.alloc (.cells M 5)) := (Below.refl _ w).alloc (Nat.le_refl _) _
    have hb2 : Below w.heap.size (w.alloc (.cells M 5)) ((w.alloc (.cells M 5)).setRow w.heap.size Y) := ⟨rfl, rfl, rfl, by simp, fun k hk => setRow_other _ _ _ _ (by omega)⟩
    exact ⟨rfl, Lib.below_freeze (hb1.trans hb2) (p := ⟨w.heap.size, 0, none⟩) (Nat.le_refl _) _⟩
/-- The variable that an error is told by. -/
def IfaceV (ev : Value) : Prop := ev = .nilIface ∨ ∃ te pe, ev = .iface te pe
set_option maxHeartbeats 6400000 in
set_option maxRecDepth 100000 in
theorem syntax_at (fn s : ByteArray) (ev : Value) (w : World) (hlim : s.size ≤ 281474976710656) (hv : w.cell? ⟨1, 0, none⟩ = some ev) (hev : IfaceV ev) :
    Calls Tryd.prog 65 #[.string fn, .string s] w fun e w' => ∃ N, e = .returned (.pointer (some ⟨N, 0, none⟩)) ∧ Below w.heap.size w w' := by
  have mixed : Tryd.prog.follows Departure.mixedOrders = true := by kernel_rfl
  rcases hev with rfl | ⟨te, pe, rfl⟩
  all_goals (
    have hG : 1 < w.heap.size := Lib.lt_of_cell hv
    have hvd : w.drew.cell? ⟨1, 0, none⟩ = some _ := hv
    go_enter Tryd.func65, Tryd.ntmps65
    go_wp2
    go_region_with_o (
        go_at_call 74
        refine (clone_at s _ hlim).mono ?_
        rintro e w2 ⟨rfl, hbel⟩
        have hv2 : w2.cell? ⟨1, 0, none⟩ = some _ := (hbel.cell (show (⟨1, 0, none⟩ : Addr).block < w.drew.heap.size from hG)).trans hvd)
    all_goals (
      go_wp2
      go_ret
      have hs2 : w.heap.size ≤ w2.heap.size := hbel.size
      exact ⟨_, rfl, ((Below.drew (Below.refl _ w)).trans hbel).alloc hs2 _⟩))
set_option maxHeartbeats 6400000 in
set_option maxRecDepth 100000 in
theorem range_at (fn s : ByteArray) (ev : Value) (w : World) (hlim : s.size ≤ 281474976710656) (hv : w.cell? ⟨2, 0, none⟩ = some ev) (hev : IfaceV ev) :
    Calls Tryd.prog 66 #[.string fn, .string s] w fun e w' => ∃ N, e = .returned (.pointer (some ⟨N, 0, none⟩)) ∧ Below w.heap.size w w' := by
  have mixed : Tryd.prog.follows Departure.mixedOrders = true := by kernel_rfl
  rcases hev with rfl | ⟨te, pe, rfl⟩
  all_goals (
    have hG : 2 < w.heap.size := Lib.lt_of_cell hv
    have hvd : w.drew.cell? ⟨2, 0, none⟩ = some _ := hv
    go_enter Tryd.func66, Tryd.ntmps66
    go_wp2
    go_region_with_o (
        go_at_call 74
        refine (clone_at s _ hlim).mono ?_
        rintro e w2 ⟨rfl, hbel⟩
        have hv2 : w2.cell? ⟨2, 0, none⟩ = some _ := (hbel.cell (show (⟨2, 0, none⟩ : Addr).block < w.drew.heap.size from hG)).trans hvd)
    all_goals (
      go_wp2
      go_ret
      have hs2 : w.heap.size ≤ w2.heap.size := hbel.size
      exact ⟨_, rfl, ((Below.drew (Below.refl _ w)).trans hbel).alloc hs2 _⟩))
/-- What the two variables hold. -/
def ErrVars (w : World) : Prop := (∃ ev, w.cell? ⟨1, 0, none⟩ = some ev ∧ IfaceV ev) ∧ ∃ ev, w.cell? ⟨2, 0, none⟩ = some ev ∧ IfaceV ev
theorem ErrVars.below {w w' : World} (h : ErrVars w) (hb : Below w.heap.size w w') : ErrVars w' := by
  obtain ⟨⟨a, h1, h2⟩, b, h3, h4⟩ := h
  exact ⟨⟨a, (hb.cell (show (⟨1, 0, none⟩ : Addr).block < w.heap.size from Lib.lt_of_cell h1)).trans h1, h2⟩, b, (hb.cell (show (⟨2, 0, none⟩ : Addr).block < w.heap.size from Lib.lt_of_cell h3)).trans h3, h4⟩
theorem comp_err : (Tryd.prog.info? 104).map (·.comparable) = some true := by kernel_rfl
set_option maxHeartbeats 6400000 in
set_option maxRecDepth 100000 in
theorem toerr_at (fn s : ByteArray) (base bits : Int) (er : Value) (w : World) (hlim : s.size ≤ 281474976710656) (hv : ErrVars w) (her : er = .iface 104 (.int .i64 1) ∨ er = .iface 104 (.int .i64 2)) :
    Calls Tryd.prog 52 #[.string fn, .string s, .int .i64 base, .int .i64 bits, er] w fun e w' => (∃ N, e = .returned (.iface 107 (.pointer (some ⟨N, 0, none⟩)))) ∧ Below w.heap.size w w' := by
  obtain ⟨⟨ev1, hv1, hev1⟩, ev2, hv2, hev2⟩ := hv
  have hq22 : ∀ W, (binOp .eql 71 (.iface 104 (.int .i64 2)) (.iface 104 (.int .i64 2))).run Tryd.prog W = .ok (.bool true) W := fun W => Lib.run_eql_iface_int W 2 2 Tryd.underlying71 comp_err Tryd.underlying104
  have hq12 : ∀ W, (binOp .eql 71 (.iface 104 (.int .i64 1)) (.iface 104 (.int .i64 2))).run Tryd.prog W = .ok (.bool false) W := fun W => Lib.run_eql_iface_int W 1 2 Tryd.underlying71 comp_err Tryd.underlying104
  have hq11 : ∀ W, (binOp .eql 71 (.iface 104 (.int .i64 1)) (.iface 104 (.int .i64 1))).run Tryd.prog W = .ok (.bool true) W := fun W => Lib.run_eql_iface_int W 1 1 Tryd.underlying71 comp_err Tryd.underlying104
  rcases her with rfl | rfl
  · go_enter Tryd.func52, Tryd.ntmps52
    go_wp2_with (go_at_call 66; refine (range_at fn s ev2 _ hlim hv2 hev2).mono ?_; rintro e w2 ⟨N, rfl, h3⟩)
    go_wp2
    go_ret
    exact ⟨⟨N, rfl⟩, h3⟩
  · go_enter Tryd.func52, Tryd.ntmps52
    go_wp2_with (go_at_call 65; refine (syntax_at fn s ev1 _ hlim hv1 hev1).mono ?_; rintro e w2 ⟨N, rfl, h3⟩)
    go_wp2
    go_ret
    exact ⟨⟨N, rfl⟩, h3⟩
/-- What is told of strconv.ParseUint. -/
def PuPub (b : Nat) (bs : List UInt8) (e : Ending) : Prop := ∃ (x : Int) (er : Value), e = .returned (.tuple #[.int .u64 x, er]) ∧ ((er = .nilIface ∧ ∃ n : Nat, x = n ∧ numM b 0 bs = some n) ∨ ((∃ N, er = .iface 107 (.pointer (some ⟨N, 0, none⟩))) ∧ numM b 0 bs = none))
set_option maxHeartbeats 6400000 in
set_option maxRecDepth 100000 in
theorem parse_at (b : Nat) (hb : b = 10 ∨ b = 16) (t : ByteArray) (hne : t.size ≠ 0) (hmax : t.size ≤ 281474976710656) (w : World) (hv : ErrVars w) :
    Calls Tryd.prog 33 #[.string t, .int .i64 b, .int .i64 32] w fun e w' => PuPub b t.data.toList e ∧ Below w.heap.size w w' := by
  have hI := iparse_at b hb t hne (by omega) w
  have hb1 : Below w.heap.size w (Lib.bytesWorld w 5 t) := Lib.bytesWorld_below _ _ _
  generalize Lib.bytesWorld w 5 t = W1 at hI hb1
  have hv1 := hv.below hb1
  go_enter Tryd.func33, Tryd.ntmps33
  go_wp2_with (go_at_call 51; refine hI.mono ?_; rintro e w' ⟨⟨x, er, rfl, hx⟩, rfl⟩; rcases hx with ⟨rfl, n, rfl, hn⟩ | ⟨rfl | rfl, hn⟩)
  · go_wp2
    go_ret2
    exact ⟨⟨_, _, rfl, .inl ⟨rfl, n, rfl, hn⟩⟩, hb1⟩
  · go_wp2_with (go_at_call 52; refine (toerr_at _ _ _ _ _ _ hmax hv1 (.inl rfl)).mono ?_; rintro e w2 ⟨⟨N, rfl⟩, h3⟩)
    go_wp2
    go_ret2
    exact ⟨⟨_, _, rfl, .inr ⟨⟨N, rfl⟩, hn⟩⟩, hb1.trans (h3.mono hb1.size)⟩
  · go_wp2_with (go_at_call 52; refine (toerr_at _ _ _ _ _ _ hmax hv1 (.inr rfl)).mono ?_; rintro e w2 ⟨⟨N, rfl⟩, h3⟩)
    go_wp2
    go_ret2
    exact ⟨⟨_, _, rfl, .inr ⟨⟨N, rfl⟩, hn⟩⟩, hb1.trans (h3.mono hb1.size)⟩
end Go.Proofs.YtekalnhackjldaaDoor.H
end
section
/- Words beside the print's: a string's bytes as a slice ('[]byte(s)'), as one step of a walk. -/
namespace Go.Proofs.YtekalnhackjldaaDoor.X
open Go.RowKit Go.Proofs.YtekalnhackjldaaDoorW.PrintWords Go.Proofs.YtekalnhackjldaaDoorW.PrintLast Go.Proofs.YtekalnhackjldaaDoorW.PrintMore
set_option linter.unusedVariables false
set_option linter.unusedSimpArgs false

/-- The conversion, told as a call is. -/
def CvCalls (e : TypeId) (s : ByteArray) (w : World) (Q : Ending → World → Prop) : Prop :=
  Q (.returned (.slice (some ⟨w.heap.size, 0, none⟩) s.size (grownCap w s.size 0 e))) (Lib.bytesWorld w e s)
theorem CvCalls.mono {e : TypeId} {s : ByteArray} {w : World} {Q Q' : Ending → World → Prop} (h : CvCalls e s w Q) (hq : ∀ en w', Q en w' → Q' en w') : CvCalls e s w Q' := hq _ _ h
def conv_bytes.f (a0 : ByteArray) : Option (List Int) := if a0.size < 140737488355328 then some (bytesOf a0) else none
theorem bytesOf_getD (s : ByteArray) (j : Nat) (hj : j < s.size) : (bytesOf s).getD j 0 = ((s.data.toList.getD j 0).toNat : Int) := by
  unfold bytesOf
  rw [List.getD_eq_getElem?_getD, List.getD_eq_getElem?_getD, List.getElem?_map, List.getElem?_eq_getElem (by simpa using hj)]
  rfl
theorem bytesWorld_below (w : World) (e : TypeId) (s : ByteArray) : Below w.heap.size w (Lib.bytesWorld w e s) :=
  ⟨rfl, rfl, rfl, by rw [Lib.bytesWorld_size]; omega, fun i hi => Lib.bytesWorld_at_old w e s i hi⟩
theorem conv_bytes.calls {e : Nat} (a0 : ByteArray) (r : List Int) (w : World) (h : conv_bytes.f a0 = some r) :
    CvCalls e a0 w fun en w' => ∃ v0_ : Value, en = .returned (v0_) ∧ Kd.V (Kd.int .u8) e w' w.heap.size (fun k_ => (w.heap.size ≤ k_)) v0_ r ∧ Below w.heap.size w w' := by
  unfold conv_bytes.f at h
  split at h
  · rename_i hs
    injection h with h
    subst h
    have hl : (bytesOf a0).length = a0.size := bytesOf_length a0
    refine ⟨_, rfl, ⟨some ⟨w.heap.size, 0, none⟩, grownCap w a0.size 0 e, by rw [hl], by rw [hl]; exact grownCap_ge _ _ _ _, ?_⟩, bytesWorld_below w e a0⟩
    intro W' hW
    have hb := (hW w.heap.size (Nat.le_refl _) (by rw [Lib.bytesWorld_size]; omega)).trans (Lib.bytesWorld_at_new w e a0)
    refine Kd.C_of_reads (enc := Value.int .u8) (d := (0 : Int)) (h1 := fun _ => rfl) ⟨rfl, by omega, fun hp => ⟨_, rfl, fun j hj => ?_⟩⟩
    rw [add_plain]
    rw [hl] at hj
    rw [bytesOf_getD a0 j hj]
    simp [World.cell?, hb, Lib.bytesCells, Array.getElem?_append, List.getD, hj]
  · cases h
theorem heap_alloc_mark (w : World) (C : Array Value) (e : TypeId) (m : Nat × Nat) : (w.alloc (.cells C e m)).heap[w.heap.size]? = some (.cells C e m) := by
  show (w.heap.push (.cells C e m))[w.heap.size]? = _
  simp
/-- A constant text as bytes: the literal's row, marked; told as a call is. -/
def CstCalls (e : TypeId) (a0 : List Int) (w : World) (Q : Ending → World → Prop) : Prop :=
  Q (.returned (.slice (some ⟨w.heap.size, 0, none⟩) a0.length a0.length)) (w.alloc (.cells (a0.map (Value.int .u8)).toArray e (a0.length, a0.length + 1)))
theorem CstCalls.mono {e : TypeId} {s : List Int} {w : World} {Q Q' : Ending → World → Prop} (h : CstCalls e s w Q) (hq : ∀ en w', Q en w' → Q' en w') : CstCalls e s w Q' := hq _ _ h
theorem const_goes {P : Program} {ops : Array Oper} {Q : Exit → Act → World → Prop} {rest : List Oper} {oi : Oper} {a : Act} {w : World} {N : Option Tmp} (hd : oi.dst = N) (hg : oi.guard = none) {t e : TypeId} {x : Operand} {C : Array Value} {g : Nat} {a0 : List Int}
    (hop : oi.op = .convert t t x) (hx : a.eval x = .slice (some ⟨g, 0, none⟩) a0.length a0.length) (hgs : g = w.heap.size) (hC : C = (a0.map (Value.int .u8)).toArray) (ht : P.underlying t = some (.slice e)) (he : P.underlying e = some (.int .u8))
    (h : CstCalls e a0 w fun en w' => ∃ v, en = .returned v ∧ wpList P ops Q rest (a.put N v) w') : wpList P ops Q (oi :: rest) a (w.alloc (.cells C e)) := by
  refine wpList_plain hg fun K hK => ?_
  obtain ⟨v, hv, hr⟩ := h
  injection hv with hv
  subst hv hgs hC
  have hrun : (execOp a.eval oi).run P (w.alloc (.cells (a0.map (Value.int .u8)).toArray e)) = .ok (.value (.slice (some ⟨w.heap.size, 0, none⟩) a0.length a0.length)) (w.alloc (.cells (a0.map (Value.int .u8)).toArray e (a0.length, a0.length + 1))) := by
    unfold execOp
    have := Lib.run_convert_bytes_const w t e (a0.map (Value.int .u8)).toArray a0.length a0.length ht he
    rw [show (a0.map (Value.int .u8)).toArray.size = a0.length by simp] at this
    simp [hop, hx, this]
  unfold Oper.wp
  rw [hrun]
  subst hd
  exact hK _ _ hr
def const_bytes.f (a0 : List Int) : Option (List Int) := if a0.length < 140737488355328 then some a0 else none
theorem const_bytes.calls {e : Nat} (a0 r : List Int) (w : World) (h : const_bytes.f a0 = some r) :
    CstCalls e a0 w fun en w' => ∃ v0_ : Value, en = .returned (v0_) ∧ Kd.V (Kd.int .u8) e w' w.heap.size (fun k_ => (w.heap.size ≤ k_)) v0_ r ∧ Below w.heap.size w w' := by
  unfold const_bytes.f at h
  split at h
  case isFalse => cases h
  injection h with h
  subst h
  refine ⟨_, rfl, ⟨some ⟨w.heap.size, 0, none⟩, a0.length, rfl, Nat.le_refl _, ?_⟩, below_alloc (Below.refl _ _) _⟩
  intro W' hW
  have hb := (hW w.heap.size (Nat.le_refl _) (by simp)).trans (heap_alloc_mark w (a0.map (Value.int .u8)).toArray e (a0.length, a0.length + 1))
  refine Kd.C_of_reads (enc := Value.int .u8) (d := (0 : Int)) (h1 := fun _ => rfl) ⟨rfl, by omega, fun hp => ⟨_, rfl, fun j hj => ?_⟩⟩
  rw [add_plain]
  simp [World.cell?, hb, List.getD, hj]
section
variable {P : Program} {d n : Nat} {e : TypeId} {xs ys : Array Value} {j : Nat} {js : List Nat} {a b : Value} {r s : Bool} {w : World}
end
end Go.Proofs.YtekalnhackjldaaDoor.X
end
section
/- Plain facts on bytes as signs (UTF-8): no program in sight. -/
namespace Go.Proofs.YtekalnhackjldaaDoor.M
open Go.RowKit
set_option linter.unusedVariables false
set_option linter.unusedSimpArgs false

theorem w64 {x : Int} (h0 : -9223372036854775808 ≤ x) (h1 : x < 9223372036854775808) : wrap64 x = x := by unfold wrap64; omega
theorem w32 {x : Int} (h0 : -2147483648 ≤ x) (h1 : x < 2147483648) : wrap32 x = x := by unfold wrap32; omega
/-- One step of a chain. -/
theorem ob {α β : Type} {x : Option α} {a : α} {f : α → Option β} {r : Option β} (h : x = some a) (h2 : f a = r) : x.bind f = r := by rw [h]; exact h2

/-- Bytes. -/
def BT (b : List Int) : Prop := ∀ x ∈ b, 0 ≤ x ∧ x < 256
instance (b : List Int) : Decidable (BT b) := inferInstanceAs (Decidable (∀ x ∈ b, 0 ≤ x ∧ x < 256))
/-- A byte that goes on. -/
def isT (c : Int) : Bool := decide (128 ≤ c) && decide (c < 192)
def v2 (c c1 : Int) : Int := (c - 192) * 64 + (c1 - 128)
def v3 (c c1 c2 : Int) : Int := ((c - 224) * 64 + (c1 - 128)) * 64 + (c2 - 128)
def v4 (c c1 c2 c3 : Int) : Int := (((c - 240) * 64 + (c1 - 128)) * 64 + (c2 - 128)) * 64 + (c3 - 128)
/-- The sign with which bytes begin. -/
def nx : List Int → Int × Int
  | [] => (-1, 0)
  | c :: t =>
    if c < 128 then (c, 1)
    else if 194 ≤ c ∧ c < 224 then
      match t with
      | c1 :: _ => if isT c1 = true then (v2 c c1, 2) else (-1, 1)
      | [] => (-1, 1)
    else if 224 ≤ c ∧ c < 240 then
      match t with
      | c1 :: c2 :: _ => if isT c1 = true ∧ isT c2 = true ∧ 2048 ≤ v3 c c1 c2 ∧ ¬ (55296 ≤ v3 c c1 c2 ∧ v3 c c1 c2 < 57344) then (v3 c c1 c2, 3) else (-1, 1)
      | _ => (-1, 1)
    else if 240 ≤ c ∧ c < 245 then
      match t with
      | c1 :: c2 :: c3 :: _ => if isT c1 = true ∧ isT c2 = true ∧ isT c3 = true ∧ 65536 ≤ v4 c c1 c2 c3 ∧ v4 c c1 c2 c3 ≤ 1114111 then (v4 c c1 c2 c3, 4) else (-1, 1)
      | _ => (-1, 1)
    else (-1, 1)

theorem BT.tail {c : Int} {t : List Int} (h : BT (c :: t)) : BT t := fun x hx => h x (List.mem_cons_of_mem _ hx)
theorem BT.head {c : Int} {t : List Int} (h : BT (c :: t)) : 0 ≤ c ∧ c < 256 := h c List.mem_cons_self
theorem BT.drop {b : List Int} (h : BT b) (n : Nat) : BT (b.drop n) := fun x hx => h x (List.mem_of_mem_drop hx)
theorem BT.take {b : List Int} (h : BT b) (n : Nat) : BT (b.take n) := fun x hx => h x (List.mem_of_mem_take hx)
theorem BT.app {a b : List Int} (h : BT a) (h' : BT b) : BT (a ++ b) := fun x hx => (List.mem_append.1 hx).elim (h x) (h' x)
/-! ### all signs -/
def usF : Nat → List Int → List (Int × Int)
  | 0, _ => []
  | _ + 1, [] => []
  | f + 1, c :: t => nx (c :: t) :: usF f ((c :: t).drop (nx (c :: t)).2.toNat)
/-- All signs of bytes: the runes, and how many bytes each has. -/
def us (b : List Int) : List (Int × Int) := usF b.length b
/-! ### runes as bytes -/
def enc (r : Int) : List Int :=
  if r < 128 then [r]
  else if r < 2048 then [192 + r / 64, 128 + r % 64]
  else if r < 65536 then [224 + r / 4096, 128 + r / 64 % 64, 128 + r % 64]
  else [240 + r / 262144, 128 + r / 4096 % 64, 128 + r / 64 % 64, 128 + r % 64]
/-- The runes of bytes; -1: a byte that is none. -/
def rs (b : List Int) : List Int := (us b).map (·.1)
/-- All of bytes are signs. -/
def whole (b : List Int) : Bool := (rs b).all (fun r => decide (0 ≤ r))
end Go.Proofs.YtekalnhackjldaaDoor.M
end
section
/- A string's bytes as numbers, and back. -/
namespace Go.Proofs.YtekalnhackjldaaDoor.M
open Go.RowKit Go.Proofs.YtekalnhackjldaaDoorW.PrintWords Go.Proofs.YtekalnhackjldaaDoor.X
set_option linter.unusedVariables false
set_option linter.unusedSimpArgs false

theorem bytesOf_BT (s : ByteArray) : BT (bytesOf s) := by
  intro x hx
  unfold bytesOf at hx
  obtain ⟨u, _, rfl⟩ := List.mem_map.1 hx
  have := u.toNat_lt
  omega
theorem bytesOf_strOfNums {l : List Int} (h : BT l) : bytesOf (strOfNums l) = l := by
  unfold bytesOf
  rw [strOfNums_data, List.map_map]
  induction l with
  | nil => rfl
  | cons x l ih =>
    have hx := h.head
    rw [List.map_cons, ih h.tail]
    congr 1
    simp only [Function.comp_apply, UInt8.toNat_ofNat']
    omega
theorem toList_eq_data (s : ByteArray) : s.toList = s.data.toList := ByteArray.toList_eq s
end Go.Proofs.YtekalnhackjldaaDoor.M
end
section
/- Walk of our own: decode.Entity. -/
namespace Go.Proofs.YtekalnhackjldaaDoor.H
open Go.RowKit Go.Proofs.YtekalnhackjldaaDoorW.PrintWords Go.Proofs.YtekalnhackjldaaDoorW.PrintLast Go.Proofs.YtekalnhackjldaaDoor.M
set_option linter.unusedVariables false
set_option linter.unusedSimpArgs false

/-- Where a name ends: at a semicolon, at the end, or at twelve. -/
def endN (l : List Int) : Nat → Nat → Nat
  | 0, i => i
  | d + 1, i => if i < l.length then (if rd l (i : Int) = 59 then i else endN l d (i + 1)) else i
theorem endN_spec (l : List Int) : ∀ (d i : Nat), i ≤ l.length → i ≤ endN l d i ∧ endN l d i ≤ i + d ∧ endN l d i ≤ l.length
  | 0, i, h => ⟨Nat.le_refl _, Nat.le_refl _, h⟩
  | d + 1, i, h => by
    unfold endN
    split
    · split
      · exact ⟨Nat.le_refl _, by omega, h⟩
      · have := endN_spec l d (i + 1) (by omega)
        omega
    · exact ⟨Nat.le_refl _, by omega, h⟩
/-- No sign. -/
def entNo : Int × Int × Bool := (0, 0, false)
/-- A name's sign. -/
def namesL : List (List UInt8 × Int) := [([97, 109, 112], 38), ([97, 112, 111, 115], 39), ([103, 116], 62), ([108, 116], 60), ([110, 98, 115, 112], 160), ([113, 117, 111, 116], 34)]
def entNamesL (s : ByteArray) (n : Int) : List (List UInt8 × Int) → Int × Int × Bool
  | [] => entNo
  | (a, r) :: t => if (a == s.toList) = true then (r, n, true) else entNamesL s n t
def entNames (s : ByteArray) (n : Int) : Int × Int × Bool := entNamesL s n namesL
/-- May a number be a sign? -/
def validN (n : Nat) : Bool := decide (0 < n ∧ n ≤ 1114111 ∧ ¬ (55296 ≤ n ∧ n < 57344))
/-- A number's sign. -/
def entDig (b : Nat) (s : ByteArray) (n : Int) : Int × Int × Bool :=
  if s.size = 0 then entNo else if bt s 0 = 43 then entNo else if bt s 0 = 45 then entNo
  else match numM b 0 s.data.toList with
    | none => entNo
    | some v => if validN v = true then ((v : Int), n, true) else entNo
def entNum (s : ByteArray) (n : Int) : Int × Int × Bool :=
  if s.size = 0 then entDig 10 s n else if bt s 0 = 120 then entDig 16 (s.extract 1 s.size) n else if bt s 0 = 88 then entDig 16 (s.extract 1 s.size) n else entDig 10 s n
def entB (s : ByteArray) (n : Int) : Int × Int × Bool := if bt s 0 = 35 then entNum (s.extract 1 s.size) n else entNames s n
def entF (l : List Int) : Int × Int × Bool :=
  if endN l 12 0 < 2 ∨ endN l 12 0 = l.length ∨ rd l (endN l 12 0 : Nat) ≠ 59 ∨ rd l 0 ≠ 38 then entNo
  else entB (strOfNums ((l.take (endN l 12 0)).drop 1)) ((endN l 12 0 : Nat) + 1)
def entV (r : Int × Int × Bool) : Value := .tuple #[.int .i32 r.1, .int .i64 r.2.1, .bool r.2.2]
theorem ret_no {R : Int × Int × Bool} (h : R = entNo) : Ending.returned (.tuple #[.int .i32 0, .int .i64 0, .bool false]) = .returned (entV R) := by rw [h]; rfl
theorem ret_yes {R : Int × Int × Bool} {a n : Int} (h : R = (a, n, true)) : Ending.returned (.tuple #[.int .i32 a, .int .i64 n, .bool true]) = .returned (entV R) := by rw [h]; rfl
theorem ulN : Tryd.prog.underlying 68 = some (.array 6 67) := by kernel_rfl
theorem celN : Tryd.prog.cellsOf 67 = 2 := by kernel_rfl
theorem idx0 (W : World) : (Instr.index 68 (.agg #[.string ⟨#[97, 109, 112]⟩, .int .i32 38, .string ⟨#[97, 112, 111, 115]⟩, .int .i32 39, .string ⟨#[103, 116]⟩, .int .i32 62, .string ⟨#[108, 116]⟩, .int .i32 60, .string ⟨#[110, 98, 115, 112]⟩, .int .i32 160, .string ⟨#[113, 117, 111, 116]⟩, .int .i32 34]) (.int .i64 0)).run Tryd.prog W = .ok (.agg #[.string ⟨#[97, 109, 112]⟩, .int .i32 38]) W := by
  simp [Instr.index, run_underlying ulN, asIntOf, go_sem, celN, Program.elem, ulN]
theorem idx1 (W : World) : (Instr.index 68 (.agg #[.string ⟨#[97, 109, 112]⟩, .int .i32 38, .string ⟨#[97, 112, 111, 115]⟩, .int .i32 39, .string ⟨#[103, 116]⟩, .int .i32 62, .string ⟨#[108, 116]⟩, .int .i32 60, .string ⟨#[110, 98, 115, 112]⟩, .int .i32 160, .string ⟨#[113, 117, 111, 116]⟩, .int .i32 34]) (.int .i64 1)).run Tryd.prog W = .ok (.agg #[.string ⟨#[97, 112, 111, 115]⟩, .int .i32 39]) W := by
  simp [Instr.index, run_underlying ulN, asIntOf, go_sem, celN, Program.elem, ulN]
theorem idx2 (W : World) : (Instr.index 68 (.agg #[.string ⟨#[97, 109, 112]⟩, .int .i32 38, .string ⟨#[97, 112, 111, 115]⟩, .int .i32 39, .string ⟨#[103, 116]⟩, .int .i32 62, .string ⟨#[108, 116]⟩, .int .i32 60, .string ⟨#[110, 98, 115, 112]⟩, .int .i32 160, .string ⟨#[113, 117, 111, 116]⟩, .int .i32 34]) (.int .i64 2)).run Tryd.prog W = .ok (.agg #[.string ⟨#[103, 116]⟩, .int .i32 62]) W := by
  simp [Instr.index, run_underlying ulN, asIntOf, go_sem, celN, Program.elem, ulN]
theorem idx3 (W : World) : (Instr.index 68 (.agg #[.string ⟨#[97, 109, 112]⟩, .int .i32 38, .string ⟨#[97, 112, 111, 115]⟩, .int .i32 39, .string ⟨#[103, 116]⟩, .int .i32 62, .string ⟨#[108, 116]⟩, .int .i32 60, .string ⟨#[110, 98, 115, 112]⟩, .int .i32 160, .string ⟨#[113, 117, 111, 116]⟩, .int .i32 34]) (.int .i64 3)).run Tryd.prog W = .ok (.agg #[.string ⟨#[108, 116]⟩, .int .i32 60]) W := by
  simp [Instr.index, run_underlying ulN, asIntOf, go_sem, celN, Program.elem, ulN]
theorem idx4 (W : World) : (Instr.index 68 (.agg #[.string ⟨#[97, 109, 112]⟩, .int .i32 38, .string ⟨#[97, 112, 111, 115]⟩, .int .i32 39, .string ⟨#[103, 116]⟩, .int .i32 62, .string ⟨#[108, 116]⟩, .int .i32 60, .string ⟨#[110, 98, 115, 112]⟩, .int .i32 160, .string ⟨#[113, 117, 111, 116]⟩, .int .i32 34]) (.int .i64 4)).run Tryd.prog W = .ok (.agg #[.string ⟨#[110, 98, 115, 112]⟩, .int .i32 160]) W := by
  simp [Instr.index, run_underlying ulN, asIntOf, go_sem, celN, Program.elem, ulN]
theorem idx5 (W : World) : (Instr.index 68 (.agg #[.string ⟨#[97, 109, 112]⟩, .int .i32 38, .string ⟨#[97, 112, 111, 115]⟩, .int .i32 39, .string ⟨#[103, 116]⟩, .int .i32 62, .string ⟨#[108, 116]⟩, .int .i32 60, .string ⟨#[110, 98, 115, 112]⟩, .int .i32 160, .string ⟨#[113, 117, 111, 116]⟩, .int .i32 34]) (.int .i64 5)).run Tryd.prog W = .ok (.agg #[.string ⟨#[113, 117, 111, 116]⟩, .int .i32 34]) W := by
  simp [Instr.index, run_underlying ulN, asIntOf, go_sem, celN, Program.elem, ulN]
/-- What the table of names holds. -/
def NamesT (w : World) : Prop :=
  w.cell? ⟨0, 0, none⟩ = some (.string ⟨#[97, 109, 112]⟩) ∧ w.cell? ⟨0, 1, none⟩ = some (.int .i32 38) ∧ w.cell? ⟨0, 2, none⟩ = some (.string ⟨#[97, 112, 111, 115]⟩) ∧ w.cell? ⟨0, 3, none⟩ = some (.int .i32 39) ∧
  w.cell? ⟨0, 4, none⟩ = some (.string ⟨#[103, 116]⟩) ∧ w.cell? ⟨0, 5, none⟩ = some (.int .i32 62) ∧ w.cell? ⟨0, 6, none⟩ = some (.string ⟨#[108, 116]⟩) ∧ w.cell? ⟨0, 7, none⟩ = some (.int .i32 60) ∧
  w.cell? ⟨0, 8, none⟩ = some (.string ⟨#[110, 98, 115, 112]⟩) ∧ w.cell? ⟨0, 9, none⟩ = some (.int .i32 160) ∧ w.cell? ⟨0, 10, none⟩ = some (.string ⟨#[113, 117, 111, 116]⟩) ∧ w.cell? ⟨0, 11, none⟩ = some (.int .i32 34)
/-- What the variables hold that are read. -/
def Laid (w : World) : Prop := ErrVars w ∧ NamesT w
theorem Laid.below {w w' : World} (h : Laid w) (hb : Below w.heap.size w w') : Laid w' := by
  have hn : ∀ (i : Nat) (v : Value), w.cell? ⟨0, i, none⟩ = some v → w'.cell? ⟨0, i, none⟩ = some v := fun i v hv => (hb.cell (show (⟨0, i, none⟩ : Addr).block < w.heap.size from Lib.lt_of_cell hv)).trans hv
  obtain ⟨he, h0, h1, h2, h3, h4, h5, h6, h7, h8, h9, h10, h11⟩ := h
  exact ⟨he.below hb, hn _ _ h0, hn _ _ h1, hn _ _ h2, hn _ _ h3, hn _ _ h4, hn _ _ h5, hn _ _ h6, hn _ _ h7, hn _ _ h8, hn _ _ h9, hn _ _ h10, hn _ _ h11⟩
set_option maxRecDepth 100000 in
set_option maxHeartbeats 4000000 in
theorem valid_at (n : Nat) (w : World) : Calls Tryd.prog 34 #[.int .u64 (n : Int)] w fun e w' => e = .returned (.bool (validN n)) ∧ w' = w := by
  by_cases h1 : 0 < n
  · have c1 : decide ((n : Int) > 0) = true := decide_eq_true (by omega)
    by_cases h2 : n ≤ 1114111
    · have c2 : decide ((n : Int) ≤ 1114111) = true := decide_eq_true (by omega)
      by_cases h3 : 55296 ≤ n
      · have c3 : decide ((n : Int) ≥ 55296) = true := decide_eq_true (by omega)
        by_cases h4 : n < 57344
        · have c4 : decide ((n : Int) < 57344) = true := decide_eq_true (by omega)
          have hv : validN n = false := by unfold validN; exact decide_eq_false (by omega)
          go_enter Tryd.func34, Tryd.ntmps34
          go_wp2
          go_ret
          exact ⟨by rw [hv]; rfl, rfl⟩
        · have c4 : decide ((n : Int) < 57344) = false := decide_eq_false (by omega)
          have hv : validN n = true := by unfold validN; exact decide_eq_true (by omega)
          go_enter Tryd.func34, Tryd.ntmps34
          go_wp2
          go_ret
          exact ⟨by rw [hv]; rfl, rfl⟩
      · have c3 : decide ((n : Int) ≥ 55296) = false := decide_eq_false (by omega)
        have hv : validN n = true := by unfold validN; exact decide_eq_true (by omega)
        go_enter Tryd.func34, Tryd.ntmps34
        go_wp2
        go_ret
        exact ⟨by rw [hv]; rfl, rfl⟩
    · have c2 : decide ((n : Int) ≤ 1114111) = false := decide_eq_false (by omega)
      have hv : validN n = false := by unfold validN; exact decide_eq_false (by omega)
      go_enter Tryd.func34, Tryd.ntmps34
      go_wp2
      go_ret
      exact ⟨by rw [hv]; rfl, rfl⟩
  · have c1 : decide ((n : Int) > 0) = false := decide_eq_false (by omega)
    have hv : validN n = false := by unfold validN; exact decide_eq_false (by omega)
    go_enter Tryd.func34, Tryd.ntmps34
    go_wp2
    go_ret
    exact ⟨by rw [hv]; rfl, rfl⟩
set_option maxRecDepth 100000 in
set_option maxHeartbeats 16000000 in
theorem ent_at (A0 : Option Addr) (c0 : Nat) (l0 : List Int) (w : World) (hr0 : Kd.C (Kd.int .u8) w A0 l0.length l0) (hc0 : l0.length ≤ c0) (hL : Laid w) :
    Calls Tryd.prog 12 #[.slice A0 l0.length c0] w fun e w' => e = .returned (entV (entF l0)) ∧ Below w.heap.size w w' := by
  obtain ⟨R, hR⟩ : ∃ R, R = entF l0 := ⟨_, rfl⟩
  rw [← hR]
  have HR0 := Aside0.mk hr0
  have HC0 := Aside0.mk hc0
  have HLL := Aside0.mk hL
  have HRR := Aside0.mk hR
  clear hr0 hc0 hL hR
  go_enter Tryd.func12, Tryd.ntmps12
  go_upto_block 0 with (fail)
  go_cut [5] (fun v5 wc => v5 = .int .i64 ((endN l0 12 0 : Nat) : Int) ∧ wc = w)
  case first =>
    go_wp2_with (fail)
    go_loop [5] (fun v5 => ∃ k : Nat, v5 = .int .i64 (k : Int) ∧ Aside0 (k ≤ 12 ∧ k ≤ l0.length ∧ endN l0 12 0 = endN l0 (12 - k) k)) (fun v5 => 12 - (intOf v5).toNat)
    case atStart => exact ⟨0, rfl, ⟨by omega, by omega, rfl⟩⟩
    case round =>
      obtain ⟨k, rfl, HK⟩ := hrel
      obtain ⟨hk12, hkl, hke⟩ := HK.out
      by_cases hlt : k < l0.length
      · have c1 : decide ((k : Int) < (l0.length : Int)) = true := decide_eq_true (by omega)
        by_cases h12 : k < 12
        · have c2 : decide ((k : Int) < 12) = true := decide_eq_true (by omega)
          have p1 : 0 ≤ (k : Int) := by omega
          have q1 : (k : Int) < (l0.length : Int) := by omega
          obtain ⟨ad1, e1, hx1⟩ := Kd.at_int HR0.out (k : Int) p1 q1
          cases e1
          simp only [Int.toNat_natCast] at hx1
          by_cases h59 : rd l0 (k : Int) = 59
          · have c3 : ((rd l0 (k : Int)) != 59) = false := bne_eq_false_iff_eq.mpr h59
            have hv : endN l0 12 0 = k := by
              rw [hke, show 12 - k = (12 - k - 1) + 1 by omega]
              unfold endN
              rw [if_pos hlt, if_pos h59]
            clear HK hke
            go_wp2
            go_meet
            case rel => exact ⟨by rw [hv], rfl⟩
          · have c3 : ((rd l0 (k : Int)) != 59) = true := bne_iff_ne.mpr h59
            have hv : endN l0 (12 - k) k = endN l0 (12 - (k + 1)) (k + 1) := by
              rw [show 12 - k = (12 - (k + 1)) + 1 by omega]
              show (if k < l0.length then (if rd l0 (k : Int) = 59 then k else endN l0 (12 - (k + 1)) (k + 1)) else k) = _
              rw [if_pos hlt, if_neg h59]
            have HN := Aside0.mk (show k + 1 ≤ 12 ∧ k + 1 ≤ l0.length ∧ endN l0 12 0 = endN l0 (12 - (k + 1)) (k + 1) from ⟨by omega, by omega, hke.trans hv⟩)
            clear HK hke hv
            go_wp2
            go_round
            case rel => exact ⟨k + 1, rfl, HN⟩
            case measure => simp [intOf]; omega
        · have c2 : decide ((k : Int) < 12) = false := decide_eq_false (by omega)
          have hv : endN l0 12 0 = k := by
            rw [hke, show 12 - k = 0 by omega]
            rfl
          clear HK hke
          go_wp2
          go_meet
          case rel => exact ⟨by rw [hv], rfl⟩
      · have c1 : decide ((k : Int) < (l0.length : Int)) = false := decide_eq_false (by omega)
        have hv : endN l0 12 0 = k := by
          rw [hke]
          cases h : 12 - k with
          | zero => rfl
          | succ d =>
            unfold endN
            rw [if_neg hlt]
        clear HK hke
        go_wp2
        go_meet
        case rel => exact ⟨by rw [hv], rfl⟩
  case rest =>
    obtain ⟨rfl, rfl⟩ := hcut
    have hR := HRR.out
    clear HRR
    unfold entF at hR
    obtain ⟨_, he12, hel⟩ := endN_spec l0 12 0 (Nat.zero_le _)
    rw [Nat.zero_add] at he12
    generalize endN l0 12 0 = e at he12 hel hR ⊢
    by_cases h2 : e < 2
    · have c1 : decide ((e : Int) < 2) = true := decide_eq_true (by omega)
      have HR := Aside0.mk (show R = entNo by rw [hR, if_pos (.inl h2)])
      clear hR
      go_wp2
      go_ret3
      exact ⟨ret_no HR.out, Below.refl _ _⟩
    have c1 : decide ((e : Int) < 2) = false := decide_eq_false (by omega)
    by_cases h3 : e = l0.length
    · have c2 : ((e : Int) == (l0.length : Int)) = true := beq_iff_eq.2 (by omega)
      have HR := Aside0.mk (show R = entNo by rw [hR, if_pos (.inr (.inl h3))])
      clear hR
      go_wp2
      go_ret3
      exact ⟨ret_no HR.out, Below.refl _ _⟩
    have c2 : ((e : Int) == (l0.length : Int)) = false := beq_eq_false_iff_ne.2 (by omega)
    have p1 : 0 ≤ (e : Int) := by omega
    have q1 : (e : Int) < (l0.length : Int) := by omega
    obtain ⟨ad1, e1, hx1⟩ := Kd.at_int HR0.out (e : Int) p1 q1
    cases e1
    simp only [Int.toNat_natCast] at hx1
    have p2 : 0 ≤ (0 : Int) := by omega
    have q2 : 0 < (l0.length : Int) := by omega
    obtain ⟨ad2, e2, hx2⟩ := Kd.at_int HR0.out (0 : Int) p2 q2
    obtain rfl : ad1 = ad2 := (by injection e2)
    (try rw [show ((0 : Int)).toNat = 0 from rfl] at hx2)
    (try rw [Addr.add_zero'] at hx2)
    by_cases h4 : rd l0 (e : Int) = 59
    rotate_left
    · have c3 : ((rd l0 (e : Int)) != 59) = true := bne_iff_ne.mpr h4
      have HR := Aside0.mk (show R = entNo by rw [hR, if_pos (.inr (.inr (.inl h4)))])
      clear hR
      go_wp2
      go_ret3
      exact ⟨ret_no HR.out, Below.refl _ _⟩
    have c3 : ((rd l0 (e : Int)) != 59) = false := bne_eq_false_iff_eq.mpr h4
    by_cases h5 : rd l0 0 = 38
    rotate_left
    · have c4 : ((rd l0 0) != 38) = true := bne_iff_ne.mpr h5
      have HR := Aside0.mk (show R = entNo by rw [hR, if_pos (.inr (.inr (.inr h5)))])
      clear hR
      go_wp2
      go_ret3
      exact ⟨ret_no HR.out, Below.refl _ _⟩
    have c4 : ((rd l0 0) != 38) = false := bne_eq_false_iff_eq.mpr h5
    rw [if_neg (by rintro (h | h | h | h); exact h2 h; exact h3 h; exact h h4; exact h h5)] at hR
    obtain ⟨i0, hi0, _, hsz0, _⟩ := info_parts info_u8
    obtain ⟨A2, hcut2, hA2, hC2⟩ := print_mid_of (P := Tryd.prog) (Value.int .u8) 0 22 5 .i64 .i64 Tryd.underlying22 hi0 hsz0 (some ad1) c0 l0 1 (e : Int) (by omega) (by omega) (by omega) HC0.out
    simp only [show Int.toNat 1 = 1 from rfl, Int.toNat_natCast] at hcut2 hA2 hC2
    have HR2 := Aside0.mk (Kd.C_of_reads (h1 := fun _ => rfl) (hA2 _ (Kd.reads_of_C HR0.out)))
    have hcv2 := Kd.C_string (P := Tryd.prog) (A := A2) (c := c0 - 1) Tryd.underlying22 Tryd.underlying5 Tryd.underlying9 HR2.out
    have hsl : ((l0.take e).drop 1).length = e - 1 := by rw [List.length_drop, List.length_take]; omega
    clear hA2
    generalize (l0.take e).drop 1 = s at hcut2 hC2 HR2 hcv2 hsl hR
    have hss : (strOfNums s).size = e - 1 := by rw [strOfNums_size, hsl]
    generalize strOfNums s = sB at hcv2 hR hss
    have HRR := Aside0.mk hR
    have HSL := Aside0.mk hsl
    have p3 : 0 ≤ (0 : Int) := by omega
    have q3 : 0 < sB.size := by omega
    have hx3 : ∀ h : 0 < sB.size, ((sB[0]'h).toNat : Int) = bt sB 0 := bt_at sB 0
    replace p3 := eq_true p3
    have HSS := Aside0.mk hss
    clear hR hsl e2 hss
    by_cases h6 : bt sB 0 = 35
    rotate_left
    · have c5 : (bt sB 0 != 35) = true := bne_iff_ne.mpr h6
      obtain ⟨hn0, hn1, hn2, hn3, hn4, hn5, hn6, hn7, hn8, hn9, hn10, hn11⟩ := HLL.out.2
      go_upto_block 2 with (fail)
      have HR := Aside0.mk (show R = entNamesL sB ((e : Nat) + 1) (namesL.drop 0) by rw [HRR.out]; unfold entB; rw [if_neg h6]; rfl)
      clear HRR
      go_wp2_with (fail)
      go_loopw [58] (fun v58 w' => ∃ j : Nat, v58 = .int .i64 (j : Int) ∧ Aside0 (j ≤ 6 ∧ R = entNamesL sB ((e : Nat) + 1) (namesL.drop j)) ∧ Aside0 (Below wc.heap.size wc w')) (fun v58 _ => 6 - (intOf v58).toNat)
      case atStart => exact ⟨0, rfl, ⟨by omega, HR.out⟩, ⟨Below.refl _ _⟩⟩
      case round =>
        obtain ⟨j, rfl, HJ, HB⟩ := hrel
        obtain ⟨hj6, hjr⟩ := HJ.out
        clear HR HJ
        rcases (show j = 0 ∨ j = 1 ∨ j = 2 ∨ j = 3 ∨ j = 4 ∨ j = 5 ∨ j = 6 by omega) with rfl | rfl | rfl | rfl | rfl | rfl | rfl
        · have hidx := idx0
          by_cases hq : ([97, 109, 112] == sB.toList) = true
          · have HR := Aside0.mk (show R = _ from hjr.trans (if_pos hq))
            clear hjr
            go_wp2
            go_ret3
            exact ⟨ret_yes HR.out, below_alloc HB.out _⟩
          · have HR := Aside0.mk (show R = entNamesL sB ((e : Nat) + 1) (namesL.drop 1) from hjr.trans (if_neg hq))
            rw [Bool.not_eq_true] at hq
            clear hjr
            go_wp2
            exact ⟨⟨1, rfl, ⟨by omega, HR.out⟩, ⟨below_alloc HB.out _⟩⟩, by simp [intOf]⟩
        · have hidx := idx1
          by_cases hq : ([97, 112, 111, 115] == sB.toList) = true
          · have HR := Aside0.mk (show R = _ from hjr.trans (if_pos hq))
            clear hjr
            go_wp2
            go_ret3
            exact ⟨ret_yes HR.out, below_alloc HB.out _⟩
          · have HR := Aside0.mk (show R = entNamesL sB ((e : Nat) + 1) (namesL.drop 2) from hjr.trans (if_neg hq))
            rw [Bool.not_eq_true] at hq
            clear hjr
            go_wp2
            exact ⟨⟨2, rfl, ⟨by omega, HR.out⟩, ⟨below_alloc HB.out _⟩⟩, by simp [intOf]⟩
        · have hidx := idx2
          by_cases hq : ([103, 116] == sB.toList) = true
          · have HR := Aside0.mk (show R = _ from hjr.trans (if_pos hq))
            clear hjr
            go_wp2
            go_ret3
            exact ⟨ret_yes HR.out, below_alloc HB.out _⟩
          · have HR := Aside0.mk (show R = entNamesL sB ((e : Nat) + 1) (namesL.drop 3) from hjr.trans (if_neg hq))
            rw [Bool.not_eq_true] at hq
            clear hjr
            go_wp2
            exact ⟨⟨3, rfl, ⟨by omega, HR.out⟩, ⟨below_alloc HB.out _⟩⟩, by simp [intOf]⟩
        · have hidx := idx3
          by_cases hq : ([108, 116] == sB.toList) = true
          · have HR := Aside0.mk (show R = _ from hjr.trans (if_pos hq))
            clear hjr
            go_wp2
            go_ret3
            exact ⟨ret_yes HR.out, below_alloc HB.out _⟩
          · have HR := Aside0.mk (show R = entNamesL sB ((e : Nat) + 1) (namesL.drop 4) from hjr.trans (if_neg hq))
            rw [Bool.not_eq_true] at hq
            clear hjr
            go_wp2
            exact ⟨⟨4, rfl, ⟨by omega, HR.out⟩, ⟨below_alloc HB.out _⟩⟩, by simp [intOf]⟩
        · have hidx := idx4
          by_cases hq : ([110, 98, 115, 112] == sB.toList) = true
          · have HR := Aside0.mk (show R = _ from hjr.trans (if_pos hq))
            clear hjr
            go_wp2
            go_ret3
            exact ⟨ret_yes HR.out, below_alloc HB.out _⟩
          · have HR := Aside0.mk (show R = entNamesL sB ((e : Nat) + 1) (namesL.drop 5) from hjr.trans (if_neg hq))
            rw [Bool.not_eq_true] at hq
            clear hjr
            go_wp2
            exact ⟨⟨5, rfl, ⟨by omega, HR.out⟩, ⟨below_alloc HB.out _⟩⟩, by simp [intOf]⟩
        · have hidx := idx5
          by_cases hq : ([113, 117, 111, 116] == sB.toList) = true
          · have HR := Aside0.mk (show R = _ from hjr.trans (if_pos hq))
            clear hjr
            go_wp2
            go_ret3
            exact ⟨ret_yes HR.out, below_alloc HB.out _⟩
          · have HR := Aside0.mk (show R = entNamesL sB ((e : Nat) + 1) (namesL.drop 6) from hjr.trans (if_neg hq))
            rw [Bool.not_eq_true] at hq
            clear hjr
            go_wp2
            exact ⟨⟨6, rfl, ⟨by omega, HR.out⟩, ⟨below_alloc HB.out _⟩⟩, by simp [intOf]⟩
        · have HR := Aside0.mk (show R = entNo from hjr)
          clear hjr
          go_wp2
          go_ret3
          exact ⟨ret_no HR.out, HB.out⟩
    have c5 : (bt sB 0 != 35) = false := bne_eq_false_iff_eq.mpr h6
    have hs1 : (sB.extract 1 sB.size).size ≤ 11 := by rw [ByteArray.size_extract]; have := HSS.out; omega
    have HR1 := Aside0.mk (show R = entNum (sB.extract 1 sB.size) ((e : Nat) + 1) by rw [HRR.out]; unfold entB; rw [if_pos h6])
    clear HRR
    go_upto_region 16 with (fail)
    clear hcv2 hcut2 HR2 HSL hC2 hx3 q3 p3 c5 h6 HSS
    generalize sB.extract 1 sB.size = s1 at hs1 HR1 ⊢
    by_cases hz1 : s1.size = 0
    · have HR := Aside0.mk (show R = entNo by rw [HR1.out]; unfold entNum; rw [if_pos hz1]; unfold entDig; rw [if_pos hz1])
      have hE : s1 = ⟨#[]⟩ := ByteArray.ext (Array.eq_empty_of_size_eq_zero hz1)
      clear HR1 hz1 hs1
      subst hE
      go_wp2
      go_ret3
      exact ⟨ret_no HR.out, Below.refl _ _⟩
    have p4 : 0 ≤ (0 : Int) := by omega
    replace p4 := eq_true p4
    have q4 : 0 < s1.size := by omega
    have hem4 : s1.toList.isEmpty = false := by rw [← decide_eq_emptyBytes]; exact decide_eq_false (fun h => hz1 (by rw [h]; rfl))
    have hx4 : ∀ h : 0 < s1.size, ((s1[0]'h).toNat : Int) = bt s1 0 := bt_at s1 0
    have hs12 : (s1.extract 1 s1.size).size ≤ 12 := by rw [ByteArray.size_extract]; omega
    by_cases h120 : bt s1 0 = 120
    · have c120 : (bt s1 0 == 120) = true := beq_iff_eq.2 h120
      have HRR := Aside0.mk (show R = entDig 16 (s1.extract 1 s1.size) ((e : Nat) + 1) by rw [HR1.out]; unfold entNum; rw [if_neg hz1, if_pos h120])
      clear HR1
      go_upto_region 18 with (fail)
      clear hx4 c120 h120 hem4 q4
      generalize s1.extract 1 s1.size = s2 at hs12 HRR ⊢
      by_cases hz : s2.size = 0
      · have HR := Aside0.mk (show R = entNo by rw [HRR.out]; unfold entDig; rw [if_pos hz])
        have hE : s2 = ⟨#[]⟩ := ByteArray.ext (Array.eq_empty_of_size_eq_zero hz)
        clear HRR
        subst hE
        go_wp2
        go_ret3
        exact ⟨ret_no HR.out, Below.refl _ _⟩
      have q5 : 0 < s2.size := by omega
      have hem5 : s2.toList.isEmpty = false := by rw [← decide_eq_emptyBytes]; exact decide_eq_false (fun h => hz (by rw [h]; rfl))
      have hx5 : ∀ h : 0 < s2.size, ((s2[0]'h).toNat : Int) = bt s2 0 := bt_at s2 0
      by_cases h43 : bt s2 0 = 43
      · have c43 : (bt s2 0 == 43) = true := beq_iff_eq.2 h43
        have HR := Aside0.mk (show R = entNo by rw [HRR.out]; unfold entDig; rw [if_neg hz, if_pos h43])
        clear HRR
        go_wp2
        go_ret3
        exact ⟨ret_no HR.out, Below.refl _ _⟩
      have c43 : (bt s2 0 == 43) = false := beq_eq_false_iff_ne.2 h43
      by_cases h45 : bt s2 0 = 45
      · have c45 : (bt s2 0 == 45) = true := beq_iff_eq.2 h45
        have HR := Aside0.mk (show R = entNo by rw [HRR.out]; unfold entDig; rw [if_neg hz, if_neg h43, if_pos h45])
        clear HRR
        go_wp2
        go_ret3
        exact ⟨ret_no HR.out, Below.refl _ _⟩
      have c45 : (bt s2 0 == 45) = false := beq_eq_false_iff_ne.2 h45
      have HRQ := Aside0.mk (show R = (match numM 16 0 s2.data.toList with | none => entNo | some v => if validN v = true then ((v : Int), (e : Int) + 1, true) else entNo) by rw [HRR.out]; unfold entDig; rw [if_neg hz, if_neg h43, if_neg h45])
      have hP : Calls Tryd.prog 33 #[.string s2, .int .i64 16, .int .i64 32] wc fun e w' => PuPub 16 s2.data.toList e ∧ Below wc.heap.size wc w' := parse_at 16 (by decide) s2 hz (by omega) wc HLL.out.1
      clear HRR
      go_wp2_with (go_at_call 33; refine hP.mono ?_; rintro e' w' ⟨⟨x, er, rfl, hx⟩, hb⟩; rcases hx with ⟨rfl, n, rfl, hn⟩ | ⟨⟨N, rfl⟩, hn⟩)
      · have HR := Aside0.mk (show R = (if validN n = true then ((n : Int), (e : Int) + 1, true) else entNo) by rw [HRQ.out, hn])
        have hV := valid_at n
        clear HRQ hP
        have HBB := Aside0.mk hb
        clear hb
        by_cases hvv : validN n = true
        · have hv2 : n ≤ 1114111 := by unfold validN at hvv; rw [decide_eq_true_eq] at hvv; omega
          have HR2 := Aside0.mk (HR.out.trans (if_pos hvv))
          rw [hvv] at hV
          clear HR
          go_wp2_with (go_at_call 34; refine (hV _).mono ?_; rintro e' w'' ⟨rfl, rfl⟩)
          go_ret3
          exact ⟨ret_yes HR2.out, HBB.out⟩
        · have HR2 := Aside0.mk (HR.out.trans (if_neg hvv))
          rw [Bool.not_eq_true] at hvv
          rw [hvv] at hV
          clear HR
          go_wp2_with (go_at_call 34; refine (hV _).mono ?_; rintro e' w'' ⟨rfl, rfl⟩)
          go_ret3
          exact ⟨ret_no HR2.out, HBB.out⟩
      · have HR := Aside0.mk (show R = entNo by rw [HRQ.out, hn])
        clear HRQ hP
        go_wp2
        go_ret3
        exact ⟨ret_no HR.out, hb⟩
    have c120 : (bt s1 0 == 120) = false := beq_eq_false_iff_ne.2 h120
    by_cases h88 : bt s1 0 = 88
    · have c88 : (bt s1 0 == 88) = true := beq_iff_eq.2 h88
      have HRR := Aside0.mk (show R = entDig 16 (s1.extract 1 s1.size) ((e : Nat) + 1) by rw [HR1.out]; unfold entNum; rw [if_neg hz1, if_neg h120, if_pos h88])
      clear HR1
      go_upto_region 18 with (fail)
      clear hx4 c120 h120 hem4 q4 c88 h88
      generalize s1.extract 1 s1.size = s2 at hs12 HRR ⊢
      by_cases hz : s2.size = 0
      · have HR := Aside0.mk (show R = entNo by rw [HRR.out]; unfold entDig; rw [if_pos hz])
        have hE : s2 = ⟨#[]⟩ := ByteArray.ext (Array.eq_empty_of_size_eq_zero hz)
        clear HRR
        subst hE
        go_wp2
        go_ret3
        exact ⟨ret_no HR.out, Below.refl _ _⟩
      have q5 : 0 < s2.size := by omega
      have hem5 : s2.toList.isEmpty = false := by rw [← decide_eq_emptyBytes]; exact decide_eq_false (fun h => hz (by rw [h]; rfl))
      have hx5 : ∀ h : 0 < s2.size, ((s2[0]'h).toNat : Int) = bt s2 0 := bt_at s2 0
      by_cases h43 : bt s2 0 = 43
      · have c43 : (bt s2 0 == 43) = true := beq_iff_eq.2 h43
        have HR := Aside0.mk (show R = entNo by rw [HRR.out]; unfold entDig; rw [if_neg hz, if_pos h43])
        clear HRR
        go_wp2
        go_ret3
        exact ⟨ret_no HR.out, Below.refl _ _⟩
      have c43 : (bt s2 0 == 43) = false := beq_eq_false_iff_ne.2 h43
      by_cases h45 : bt s2 0 = 45
      · have c45 : (bt s2 0 == 45) = true := beq_iff_eq.2 h45
        have HR := Aside0.mk (show R = entNo by rw [HRR.out]; unfold entDig; rw [if_neg hz, if_neg h43, if_pos h45])
        clear HRR
        go_wp2
        go_ret3
        exact ⟨ret_no HR.out, Below.refl _ _⟩
      have c45 : (bt s2 0 == 45) = false := beq_eq_false_iff_ne.2 h45
      have HRQ := Aside0.mk (show R = (match numM 16 0 s2.data.toList with | none => entNo | some v => if validN v = true then ((v : Int), (e : Int) + 1, true) else entNo) by rw [HRR.out]; unfold entDig; rw [if_neg hz, if_neg h43, if_neg h45])
      have hP : Calls Tryd.prog 33 #[.string s2, .int .i64 16, .int .i64 32] wc fun e w' => PuPub 16 s2.data.toList e ∧ Below wc.heap.size wc w' := parse_at 16 (by decide) s2 hz (by omega) wc HLL.out.1
      clear HRR
      go_wp2_with (go_at_call 33; refine hP.mono ?_; rintro e' w' ⟨⟨x, er, rfl, hx⟩, hb⟩; rcases hx with ⟨rfl, n, rfl, hn⟩ | ⟨⟨N, rfl⟩, hn⟩)
      · have HR := Aside0.mk (show R = (if validN n = true then ((n : Int), (e : Int) + 1, true) else entNo) by rw [HRQ.out, hn])
        have hV := valid_at n
        clear HRQ hP
        have HBB := Aside0.mk hb
        clear hb
        by_cases hvv : validN n = true
        · have hv2 : n ≤ 1114111 := by unfold validN at hvv; rw [decide_eq_true_eq] at hvv; omega
          have HR2 := Aside0.mk (HR.out.trans (if_pos hvv))
          rw [hvv] at hV
          clear HR
          go_wp2_with (go_at_call 34; refine (hV _).mono ?_; rintro e' w'' ⟨rfl, rfl⟩)
          go_ret3
          exact ⟨ret_yes HR2.out, HBB.out⟩
        · have HR2 := Aside0.mk (HR.out.trans (if_neg hvv))
          rw [Bool.not_eq_true] at hvv
          rw [hvv] at hV
          clear HR
          go_wp2_with (go_at_call 34; refine (hV _).mono ?_; rintro e' w'' ⟨rfl, rfl⟩)
          go_ret3
          exact ⟨ret_no HR2.out, HBB.out⟩
      · have HR := Aside0.mk (show R = entNo by rw [HRQ.out, hn])
        clear HRQ hP
        go_wp2
        go_ret3
        exact ⟨ret_no HR.out, hb⟩
    have c88 : (bt s1 0 == 88) = false := beq_eq_false_iff_ne.2 h88
    have HRR := Aside0.mk (show R = entDig 10 s1 ((e : Nat) + 1) by rw [HR1.out]; unfold entNum; rw [if_neg hz1, if_neg h120, if_neg h88])
    clear HR1 hs12
    have hz := hz1
    have hs2 : s1.size ≤ 12 := by omega
    by_cases h43 : bt s1 0 = 43
    · have c43 : (bt s1 0 == 43) = true := beq_iff_eq.2 h43
      have HR := Aside0.mk (show R = entNo by rw [HRR.out]; unfold entDig; rw [if_neg hz, if_pos h43])
      clear HRR
      go_wp2
      go_ret3
      exact ⟨ret_no HR.out, Below.refl _ _⟩
    have c43 : (bt s1 0 == 43) = false := beq_eq_false_iff_ne.2 h43
    by_cases h45 : bt s1 0 = 45
    · have c45 : (bt s1 0 == 45) = true := beq_iff_eq.2 h45
      have HR := Aside0.mk (show R = entNo by rw [HRR.out]; unfold entDig; rw [if_neg hz, if_neg h43, if_pos h45])
      clear HRR
      go_wp2
      go_ret3
      exact ⟨ret_no HR.out, Below.refl _ _⟩
    have c45 : (bt s1 0 == 45) = false := beq_eq_false_iff_ne.2 h45
    have HRQ := Aside0.mk (show R = (match numM 10 0 s1.data.toList with | none => entNo | some v => if validN v = true then ((v : Int), (e : Int) + 1, true) else entNo) by rw [HRR.out]; unfold entDig; rw [if_neg hz, if_neg h43, if_neg h45])
    have hP : Calls Tryd.prog 33 #[.string s1, .int .i64 10, .int .i64 32] wc fun e w' => PuPub 10 s1.data.toList e ∧ Below wc.heap.size wc w' := parse_at 10 (by decide) s1 hz (by omega) wc HLL.out.1
    clear HRR
    go_wp2_with (go_at_call 33; refine hP.mono ?_; rintro e' w' ⟨⟨x, er, rfl, hx⟩, hb⟩; rcases hx with ⟨rfl, n, rfl, hn⟩ | ⟨⟨N, rfl⟩, hn⟩)
    · have HR := Aside0.mk (show R = (if validN n = true then ((n : Int), (e : Int) + 1, true) else entNo) by rw [HRQ.out, hn])
      have hV := valid_at n
      clear HRQ hP
      have HBB := Aside0.mk hb
      clear hb
      by_cases hvv : validN n = true
      · have hv2 : n ≤ 1114111 := by unfold validN at hvv; rw [decide_eq_true_eq] at hvv; omega
        have HR2 := Aside0.mk (HR.out.trans (if_pos hvv))
        rw [hvv] at hV
        clear HR
        go_wp2_with (go_at_call 34; refine (hV _).mono ?_; rintro e' w'' ⟨rfl, rfl⟩)
        go_ret3
        exact ⟨ret_yes HR2.out, HBB.out⟩
      · have HR2 := Aside0.mk (HR.out.trans (if_neg hvv))
        rw [Bool.not_eq_true] at hvv
        rw [hvv] at hV
        clear HR
        go_wp2_with (go_at_call 34; refine (hV _).mono ?_; rintro e' w'' ⟨rfl, rfl⟩)
        go_ret3
        exact ⟨ret_no HR2.out, HBB.out⟩
    · have HR := Aside0.mk (show R = entNo by rw [HRQ.out, hn])
      clear HRQ hP
      go_wp2
      go_ret3
      exact ⟨ret_no HR.out, hb⟩
end Go.Proofs.YtekalnhackjldaaDoor.H
end
section
/- Plain words on escapes, and on the sign with which bytes of a format and a label begin. -/
namespace Go.Proofs.YtekalnhackjldaaDoor.M
open Go.RowKit Go.Proofs.YtekalnhackjldaaDoorW.PrintWords Go.Proofs.YtekalnhackjldaaDoor.H
set_option linter.unusedVariables false

theorem or4 (x d : Int) (hx : 0 ≤ x) (hx1 : x < 1152921504606846976) (hd : 0 ≤ d) (hd1 : d < 16) : Go.bits .or .u64 (IntKind.u64.wrap (x * 16)) d = x * 16 + d := by
  rw [IntKind.wrap_u64, show x * 16 % 18446744073709551616 = x * 16 by omega]
  obtain ⟨a, rfl⟩ : ∃ a : Nat, x = a := ⟨x.toNat, by omega⟩
  obtain ⟨b, rfl⟩ : ∃ b : Nat, d = b := ⟨d.toNat, by omega⟩
  have h := bits_or_u64_nat (a * 16) b (by omega) (by omega)
  have e : a * 16 ||| b = a * 16 + b := by
    have := Nat.shiftLeft_add_eq_or_of_lt (i := 4) (b := b) (by omega) a
    rw [Nat.shiftLeft_eq, show (2 : Nat) ^ 4 = 16 from rfl] at this
    omega
  rw [e] at h
  rw [show ((a : Int) * 16) = ((a * 16 : Nat) : Int) by omega, h]
  omega
/-- A digit of base sixteen. -/
def hexD (c : Int) : Option Int := if 48 ≤ c ∧ c ≤ 57 then some (c - 48) else if 97 ≤ c ∧ c ≤ 102 then some (c - 87) else if 65 ≤ c ∧ c ≤ 70 then some (c - 55) else none
theorem hexD_range {c d : Int} (h : hexD c = some d) : 0 ≤ d ∧ d < 16 := by
  unfold hexD at h
  split at h
  · injection h; omega
  · split at h
    · injection h; omega
    · split at h
      · injection h; omega
      · cases h
/-- The number that digits of base sixteen write. -/
def hexM : Int → List Int → Option Int
  | acc, [] => some acc
  | acc, c :: t => (hexD c).bind fun d => hexM (acc * 16 + d) t
def okV (v : Int) : Bool := decide (0 < v) && decide (v ≤ 1114111) && !(decide (55296 ≤ v) && decide (v < 57344))
theorem okV_iff (v : Int) : okV v = true ↔ 0 < v ∧ v ≤ 1114111 ∧ ¬ (55296 ≤ v ∧ v < 57344) := by
  unfold okV
  simp only [Bool.and_eq_true, decide_eq_true_eq, Bool.not_eq_true', Bool.and_eq_false_iff, decide_eq_false_iff_not]
  omega
/-- An escape's sign by its digits. -/
def escH (w : Nat) (b : List Int) : Int × Int × Bool :=
  if b.length < 2 + w then entNo else match hexM 0 ((b.drop 2).take w) with
    | none => entNo
    | some v => if okV v = true then (v, 2 + (w : Int), true) else entNo
/-- An escape's sign. -/
def escM (f : Int) (b : List Int) : Int × Int × Bool :=
  if b.length < 2 ∨ rd b 0 ≠ 92 ∨ 128 ≤ rd b 1 then entNo
  else if f = 7 then (if rd b 1 = 34 ∨ rd b 1 = 92 ∨ rd b 1 = 36 ∨ rd b 1 = 96 then (rd b 1, 2, true) else entNo)
  else if rd b 1 = 110 then (10, 2, true) else if rd b 1 = 114 then (13, 2, true) else if rd b 1 = 116 then (9, 2, true)
  else if rd b 1 = 85 then escH 8 b else if rd b 1 = 117 then escH 4 b else if rd b 1 = 120 then escH 2 b else (rd b 1, 2, true)
end Go.Proofs.YtekalnhackjldaaDoor.M
end
section
/- Plain words on numbers: the document's saturating one, and the program's. -/
namespace Go.Proofs.YtekalnhackjldaaDoor.M
open Go.RowKit Go.Proofs.YtekalnhackjldaaDoorW.PrintWords Go.Proofs.YtekalnhackjldaaDoor.H
set_option linter.unusedVariables false
set_option linter.unusedSimpArgs false

/-- The document's digit. -/
def refdig (b c : Int) : Option Int :=
  if 48 ≤ c ∧ c ≤ 57 then (if c - 48 < b then some (c - 48) else none)
  else if 97 ≤ c ∧ c ≤ 102 then (if c - 87 < b then some (c - 87) else none)
  else if 65 ≤ c ∧ c ≤ 70 then (if c - 55 < b then some (c - 55) else none)
  else none
/-- The document's number: it does not grow any more once it is too great. -/
def sat (b : Int) : Int → List Int → Option Int
  | n, [] => some n
  | n, c :: t => (refdig b c).bind fun d => sat b (if n ≤ 1114111 then n * b + d else n) t
theorem refdig_range {b c d : Int} (hb : b ≤ 16) (h : refdig b c = some d) : 0 ≤ d ∧ d < 16 := by
  unfold refdig at h
  split at h
  · split at h
    · injection h; omega
    · cases h
  · split at h
    · split at h
      · injection h; omega
      · cases h
    · split at h
      · split at h
        · injection h; omega
        · cases h
      · cases h
theorem refdig_digB (b : Nat) (hb : b = 10 ∨ b = 16) (c : Nat) : refdig (b : Int) (c : Int) = (digB b c).map (fun d => (d : Int)) := by
  unfold refdig digB
  by_cases h1 : 48 ≤ c ∧ c ≤ 57
  · rw [if_pos (by omega), if_pos h1, if_pos (by omega)]
    simp; omega
  rw [if_neg (by omega), if_neg h1]
  by_cases h2 : 97 ≤ c ∧ c ≤ 102
  · rw [if_pos (by omega), if_pos (show 97 ≤ c ∧ c ≤ 122 by omega)]
    by_cases h3 : c - 87 < b
    · rw [if_pos (by omega), if_pos h3]; simp; omega
    · rw [if_neg (by omega), if_neg h3]; rfl
  rw [if_neg (by omega)]
  by_cases h3 : 65 ≤ c ∧ c ≤ 70
  · rw [if_pos (by omega), if_neg (show ¬ (97 ≤ c ∧ c ≤ 122) by omega), if_pos (show 65 ≤ c ∧ c ≤ 90 by omega)]
    by_cases h4 : c - 55 < b
    · rw [if_pos (by omega), if_pos h4]; simp; omega
    · rw [if_neg (by omega), if_neg h4]; rfl
  rw [if_neg (by omega)]
  by_cases h5 : 97 ≤ c ∧ c ≤ 122
  · rw [if_pos h5, if_neg (by omega)]; rfl
  rw [if_neg h5]
  by_cases h6 : 65 ≤ c ∧ c ≤ 90
  · rw [if_pos h6, if_neg (by omega)]; rfl
  rw [if_neg h6]; rfl
theorem refdig_hexD (c : Int) : refdig 16 c = hexD c := by
  unfold refdig hexD
  by_cases h1 : 48 ≤ c ∧ c ≤ 57
  · rw [if_pos h1, if_pos h1, if_pos (by omega)]
  rw [if_neg h1, if_neg h1]
  by_cases h2 : 97 ≤ c ∧ c ≤ 102
  · rw [if_pos h2, if_pos h2, if_pos (by omega)]
  rw [if_neg h2, if_neg h2]
  by_cases h3 : 65 ≤ c ∧ c ≤ 70
  · rw [if_pos h3, if_pos h3, if_pos (by omega)]
  rw [if_neg h3, if_neg h3]
/-- One number, told in two ways. -/
def RelN (v s : Int) : Prop := 0 ≤ v ∧ ((v ≤ 1114111 ∧ s = v) ∨ (1114111 < v ∧ 1114111 < s))
theorem RelN.step {v s d b : Int} (h : RelN v s) (hb : b = 10 ∨ b = 16) (h0 : 0 ≤ d) (h1 : d < 16) : RelN (v * b + d) (if s ≤ 1114111 then s * b + d else s) := by
  obtain ⟨hv, h | h⟩ := h
  · obtain ⟨h2, rfl⟩ := h
    rw [if_pos h2]
    rcases hb with rfl | rfl
    · exact ⟨by omega, by omega⟩
    · exact ⟨by omega, by omega⟩
  · rw [if_neg (by omega)]
    rcases hb with rfl | rfl
    · exact ⟨by omega, .inr (by omega)⟩
    · exact ⟨by omega, .inr (by omega)⟩
theorem sat_big (b : Int) : ∀ (l : List Int) (s : Int), 1114111 < s → sat b s l = none ∨ ∃ r, sat b s l = some r ∧ 1114111 < r
  | [], s, h => .inr ⟨s, rfl, h⟩
  | c :: t, s, h => by
    unfold sat
    cases hd : refdig b c with
    | none => exact .inl rfl
    | some d =>
      simp only [Option.bind_some]
      rw [if_neg (by omega)]
      exact sat_big b t s h
/-- What a program's number is, told by the document's. -/
def NumRel (o : Option Nat) (r : Option Int) : Prop := match o with
  | none => r = none ∨ ∃ s, r = some s ∧ 1114111 < s
  | some v => ∃ s, r = some s ∧ RelN (v : Int) s
theorem numM_sat (b : Nat) (hb : b = 10 ∨ b = 16) : ∀ (l : List UInt8) (acc : Nat) (s : Int), RelN (acc : Int) s → NumRel (numM b acc l) (sat (b : Int) s (l.map fun u => ((u.toNat : Nat) : Int)))
  | [], acc, s, h => ⟨s, rfl, h⟩
  | c :: t, acc, s, h => by
    have hd := refdig_digB b hb c.toNat
    simp only [List.map_cons, numM, sat]
    rw [hd]
    cases hq : digB b c.toNat with
    | none => exact .inl rfl
    | some d =>
      simp only [Option.map_some, Option.bind_some]
      have hdr := refdig_range (b := (b : Int)) (c := ((c.toNat : Nat) : Int)) (d := (d : Int)) (by omega) (by rw [hd, hq]; rfl)
      have hst := h.step (b := (b : Int)) (d := (d : Int)) (by omega) hdr.1 hdr.2
      rw [show (acc : Int) * (b : Int) + (d : Int) = ((acc * b + d : Nat) : Int) by rw [Int.natCast_add, Int.natCast_mul]] at hst
      by_cases ho : 4294967295 < acc * b + d
      · rw [if_pos ho]
        refine sat_big (b : Int) _ _ ?_
        rcases hst.2 with h2 | h2
        · omega
        · exact h2.2
      · rw [if_neg ho]
        exact numM_sat b hb t _ _ hst
theorem hexM_sat : ∀ (l : List Int) (acc s : Int), RelN acc s → (hexM acc l = none ∧ sat 16 s l = none) ∨ ∃ v r, hexM acc l = some v ∧ sat 16 s l = some r ∧ RelN v r
  | [], acc, s, h => .inr ⟨acc, s, rfl, rfl, h⟩
  | c :: t, acc, s, h => by
    unfold hexM sat
    rw [refdig_hexD]
    cases hq : hexD c with
    | none => exact .inl ⟨rfl, rfl⟩
    | some d =>
      simp only [Option.bind_some]
      have hdr := hexD_range hq
      exact hexM_sat t _ _ (h.step (.inr rfl) hdr.1 hdr.2)
/-- The document's answer of a number. -/
def rnum (b : Int) (l : List Int) : Int := if l = [] then -1 else (sat b 0 l).getD (-1)
def rvalid (n : Int) : Bool := decide (1 ≤ n) && decide (n ≤ 1114111) && (decide (n < 55296) || decide (57343 < n))
theorem rvalid_okV (n : Int) : rvalid n = okV n := by
  rw [Bool.eq_iff_iff, okV_iff]
  unfold rvalid
  simp only [Bool.and_eq_true, Bool.or_eq_true, decide_eq_true_eq]
  omega
theorem validN_okV (n : Nat) : validN n = okV (n : Int) := by
  rw [Bool.eq_iff_iff, okV_iff]
  unfold validN
  rw [decide_eq_true_eq]
  omega
theorem relN_okV {v s : Int} (h : RelN v s) : okV s = okV v ∧ (okV v = true → s = v) := by
  obtain ⟨h0, h | h⟩ := h
  · rw [h.2]; exact ⟨rfl, fun _ => rfl⟩
  · have h1 : okV v = false := by rw [Bool.eq_false_iff, Ne, okV_iff]; omega
    have h2 : okV s = false := by rw [Bool.eq_false_iff, Ne, okV_iff]; omega
    exact ⟨by rw [h1, h2], fun h => by rw [h1] at h; cases h⟩
/-- What a number's sign is by the document. -/
def rsign (b : Int) (l : List Int) (n : Int) : Int × Int × Bool := if okV (rnum b l) = true then (rnum b l, n, true) else entNo
theorem rsign_hex (w : Nat) (hw : 0 < w) (b : List Int) (hl : 2 + w ≤ b.length) : rsign 16 ((b.drop 2).take w) (2 + (w : Int)) = escH w b := by
  unfold rsign rnum escH
  have hne : (b.drop 2).take w ≠ [] := by
    intro h; have := congrArg List.length h; rw [List.length_take, List.length_drop] at this; simp at this; omega
  rw [if_neg hne, if_neg (show ¬ b.length < 2 + w by omega)]
  rcases hexM_sat ((b.drop 2).take w) 0 0 ⟨by omega, .inl ⟨by omega, rfl⟩⟩ with ⟨h1, h2⟩ | ⟨v, r, h1, h2, h3⟩
  · rw [h1, h2]; rfl
  · rw [h1, h2]
    obtain ⟨k1, k2⟩ := relN_okV h3
    show (if okV r = true then (r, 2 + (w : Int), true) else entNo) = (if okV v = true then (v, 2 + (w : Int), true) else entNo)
    rw [k1]
    by_cases hk : okV v = true
    · rw [if_pos hk, if_pos hk, k2 hk]
    · rw [if_neg hk, if_neg hk]
theorem rsign_dig (b : Nat) (hb : b = 10 ∨ b = 16) (s : ByteArray) (n : Int) : rsign (b : Int) (bytesOf s) n = entDig b s n := by
  unfold rsign rnum entDig
  have hlen : (bytesOf s).length = s.size := bytesOf_length s
  by_cases h0 : s.size = 0
  · rw [if_pos (List.length_eq_zero_iff.1 (by omega)), if_pos h0]; rfl
  have hbn : ¬ bytesOf s = [] := by
    intro h
    rw [h, List.length_nil] at hlen
    omega
  rw [if_neg hbn, if_neg h0]
  have hm := numM_sat b hb s.data.toList 0 0 ⟨by omega, .inl ⟨by omega, rfl⟩⟩
  have hbo : (s.data.toList.map fun u => ((u.toNat : Nat) : Int)) = bytesOf s := rfl
  rw [hbo] at hm
  have hno : ∀ c : Int, (c = 43 ∨ c = 45) → bt s 0 = c → (sat (b : Int) 0 (bytesOf s)) = none := by
    intro c hc hbt
    cases hq : bytesOf s with
    | nil => rw [hq] at hlen; simp at hlen; omega
    | cons x t =>
      have hx : x = bt s 0 := by
        unfold bt
        rw [dif_pos (show (0 : Int).toNat < s.size by show 0 < s.size; omega)]
        have h1 := congrArg (·[0]?) hq
        unfold bytesOf at h1
        simp only [List.getElem?_map, List.getElem?_cons_zero] at h1
        rw [show s.data.toList[0]? = some (s.data.toList[0]'(by rw [Array.length_toList]; have := s.size_data; omega)) from List.getElem?_eq_getElem _] at h1
        simp only [Option.map_some, Option.some.injEq] at h1
        rw [← h1]
        rfl
      unfold sat
      have : refdig (b : Int) x = none := by
        rw [hx, hbt]
        unfold refdig
        rcases hc with rfl | rfl <;> rfl
      rw [this]
      rfl
  by_cases h43 : bt s 0 = 43
  · rw [if_pos h43, hno 43 (.inl rfl) h43]; rfl
  rw [if_neg h43]
  by_cases h45 : bt s 0 = 45
  · rw [if_pos h45, hno 45 (.inr rfl) h45]; rfl
  rw [if_neg h45]
  cases hq : numM b 0 s.data.toList with
  | none =>
    rw [hq] at hm
    show _ = entNo
    rcases hm with h | ⟨r, h, hr⟩
    · rw [h]; rfl
    · rw [h]
      show (if okV r = true then (r, n, true) else entNo) = entNo
      rw [if_neg (by rw [okV_iff]; omega)]
  | some v =>
    rw [hq] at hm
    obtain ⟨r, h, hr⟩ := hm
    rw [h]
    obtain ⟨k1, k2⟩ := relN_okV hr
    show (if okV r = true then (r, n, true) else entNo) = (if validN v = true then ((v : Int), n, true) else entNo)
    rw [k1, validN_okV]
    by_cases hk : okV (v : Int) = true
    · rw [if_pos hk, if_pos hk, k2 hk]
    · rw [if_neg hk, if_neg hk]
/-- A byte of a text, as a number. -/
theorem bt_bytesOf (s : ByteArray) (i : Nat) (h : i < s.size) : bt s (i : Int) = rd (bytesOf s) (i : Int) := by
  unfold bt rd bytesOf
  rw [dif_pos (by rw [Int.toNat_natCast]; exact h)]
  simp only [Int.toNat_natCast]
  rw [List.getD_eq_getElem?_getD, List.getElem?_map, List.getElem?_eq_getElem (by rw [Array.length_toList]; have := s.size_data; omega)]
  rfl
end Go.Proofs.YtekalnhackjldaaDoor.M
end
