/- Walk of our own: decode.Entity. -/
import Derived.Test.YtekalnhackjldaaDoorHParsb
import Derived.Test.YtekalnhackjldaaDoorMStr
import Derived.Below
import Derived.Deep.Draws
import Derived.OwnWalk
import Derived.Laws.BytesArg
import Derived.Tactics
import Derived.Lib.ConvBytes
import Derived.Laws.Slices
import Derived.WalkKit
import Derived.KernelRfl
import Derived.RowKit3
import Derived.Deep.LoopGhost
import Derived.Deep.QuietTactic
import Derived.BigQuiet
import Derived.WideLaws
import Derived.Deep.DeepCutAuto
import Derived.Deep.CutBlock
import Derived.Laws.BitsLemmas
import Derived.RowKit
import Derived.LoopTactic
import Derived.Laws.Strings
import Derived.Laws.Strings2
import Derived.Laws.Strings3
namespace Go.Proofs.YtekalnhackjldaaDoor.H
open Go.RowKit Go.Proofs.YtekalnhackjldaaDoorW.PrintWords Go.Proofs.YtekalnhackjldaaDoorW.PrintLast Go.Proofs.YtekalnhackjldaaDoor.M
set_option linter.unusedVariables false
set_option linter.unusedSimpArgs false

/-- Where a name ends: at a semicolon, at the end, or at twelve. -/
def endN (l : List Int) : Nat → Nat → Nat
  | 0, i => i
  | d + 1, i => if i < l.length then (if rd l (i : Int) = 59 then i else endN l d (i + 1)) else i
theorem endN_spec (l : List Int) : ∀ (d i : Nat), i ≤ l.length → i ≤ endN l d i ∧ endN l d i ≤ i + d ∧ endN l d i ≤ l.length
  | 0, i, h => ⟨Nat.le_refl _, Nat.le_refl _, h⟩
  | d + 1, i, h => by
    unfold endN
    split
    · split
      · exact ⟨Nat.le_refl _, by omega, h⟩
      · have := endN_spec l d (i + 1) (by omega)
        omega
    · exact ⟨Nat.le_refl _, by omega, h⟩
/-- No sign. -/
def entNo : Int × Int × Bool := (0, 0, false)
/-- A name's sign. -/
def namesL : List (List UInt8 × Int) := [([97, 109, 112], 38), ([97, 112, 111, 115], 39), ([103, 116], 62), ([108, 116], 60), ([110, 98, 115, 112], 160), ([113, 117, 111, 116], 34)]
def entNamesL (s : ByteArray) (n : Int) : List (List UInt8 × Int) → Int × Int × Bool
  | [] => entNo
  | (a, r) :: t => if (a == s.toList) = true then (r, n, true) else entNamesL s n t
def entNames (s : ByteArray) (n : Int) : Int × Int × Bool := entNamesL s n namesL
/-- May a number be a sign? -/
def validN (n : Nat) : Bool := decide (0 < n ∧ n ≤ 1114111 ∧ ¬ (55296 ≤ n ∧ n < 57344))
/-- A number's sign. -/
def entDig (b : Nat) (s : ByteArray) (n : Int) : Int × Int × Bool :=
  if s.size = 0 then entNo else if bt s 0 = 43 then entNo else if bt s 0 = 45 then entNo
  else match numM b 0 s.data.toList with
    | none => entNo
    | some v => if validN v = true then ((v : Int), n, true) else entNo
def entNum (s : ByteArray) (n : Int) : Int × Int × Bool :=
  if s.size = 0 then entDig 10 s n else if bt s 0 = 120 then entDig 16 (s.extract 1 s.size) n else if bt s 0 = 88 then entDig 16 (s.extract 1 s.size) n else entDig 10 s n
def entB (s : ByteArray) (n : Int) : Int × Int × Bool := if bt s 0 = 35 then entNum (s.extract 1 s.size) n else entNames s n
def entF (l : List Int) : Int × Int × Bool :=
  if endN l 12 0 < 2 ∨ endN l 12 0 = l.length ∨ rd l (endN l 12 0 : Nat) ≠ 59 ∨ rd l 0 ≠ 38 then entNo
  else entB (strOfNums ((l.take (endN l 12 0)).drop 1)) ((endN l 12 0 : Nat) + 1)
def entV (r : Int × Int × Bool) : Value := .tuple #[.int .i32 r.1, .int .i64 r.2.1, .bool r.2.2]
theorem ret_no {R : Int × Int × Bool} (h : R = entNo) : Ending.returned (.tuple #[.int .i32 0, .int .i64 0, .bool false]) = .returned (entV R) := by rw [h]; rfl
theorem ret_yes {R : Int × Int × Bool} {a n : Int} (h : R = (a, n, true)) : Ending.returned (.tuple #[.int .i32 a, .int .i64 n, .bool true]) = .returned (entV R) := by rw [h]; rfl
theorem ulN : Tryd.prog.underlying 68 = some (.array 6 67) := by kernel_rfl
theorem celN : Tryd.prog.cellsOf 67 = 2 := by kernel_rfl
theorem idx0 (W : World) : (Instr.index 68 (.agg #[.string ⟨#[97, 109, 112]⟩, .int .i32 38, .string ⟨#[97, 112, 111, 115]⟩, .int .i32 39, .string ⟨#[103, 116]⟩, .int .i32 62, .string ⟨#[108, 116]⟩, .int .i32 60, .string ⟨#[110, 98, 115, 112]⟩, .int .i32 160, .string ⟨#[113, 117, 111, 116]⟩, .int .i32 34]) (.int .i64 0)).run Tryd.prog W = .ok (.agg #[.string ⟨#[97, 109, 112]⟩, .int .i32 38]) W := by
  simp [Instr.index, run_underlying ulN, asIntOf, go_sem, celN, Program.elem, ulN]
theorem idx1 (W : World) : (Instr.index 68 (.agg #[.string ⟨#[97, 109, 112]⟩, .int .i32 38, .string ⟨#[97, 112, 111, 115]⟩, .int .i32 39, .string ⟨#[103, 116]⟩, .int .i32 62, .string ⟨#[108, 116]⟩, .int .i32 60, .string ⟨#[110, 98, 115, 112]⟩, .int .i32 160, .string ⟨#[113, 117, 111, 116]⟩, .int .i32 34]) (.int .i64 1)).run Tryd.prog W = .ok (.agg #[.string ⟨#[97, 112, 111, 115]⟩, .int .i32 39]) W := by
  simp [Instr.index, run_underlying ulN, asIntOf, go_sem, celN, Program.elem, ulN]
theorem idx2 (W : World) : (Instr.index 68 (.agg #[.string ⟨#[97, 109, 112]⟩, .int .i32 38, .string ⟨#[97, 112, 111, 115]⟩, .int .i32 39, .string ⟨#[103, 116]⟩, .int .i32 62, .string ⟨#[108, 116]⟩, .int .i32 60, .string ⟨#[110, 98, 115, 112]⟩, .int .i32 160, .string ⟨#[113, 117, 111, 116]⟩, .int .i32 34]) (.int .i64 2)).run Tryd.prog W = .ok (.agg #[.string ⟨#[103, 116]⟩, .int .i32 62]) W := by
  simp [Instr.index, run_underlying ulN, asIntOf, go_sem, celN, Program.elem, ulN]
theorem idx3 (W : World) : (Instr.index 68 (.agg #[.string ⟨#[97, 109, 112]⟩, .int .i32 38, .string ⟨#[97, 112, 111, 115]⟩, .int .i32 39, .string ⟨#[103, 116]⟩, .int .i32 62, .string ⟨#[108, 116]⟩, .int .i32 60, .string ⟨#[110, 98, 115, 112]⟩, .int .i32 160, .string ⟨#[113, 117, 111, 116]⟩, .int .i32 34]) (.int .i64 3)).run Tryd.prog W = .ok (.agg #[.string ⟨#[108, 116]⟩, .int .i32 60]) W := by
  simp [Instr.index, run_underlying ulN, asIntOf, go_sem, celN, Program.elem, ulN]
theorem idx4 (W : World) : (Instr.index 68 (.agg #[.string ⟨#[97, 109, 112]⟩, .int .i32 38, .string ⟨#[97, 112, 111, 115]⟩, .int .i32 39, .string ⟨#[103, 116]⟩, .int .i32 62, .string ⟨#[108, 116]⟩, .int .i32 60, .string ⟨#[110, 98, 115, 112]⟩, .int .i32 160, .string ⟨#[113, 117, 111, 116]⟩, .int .i32 34]) (.int .i64 4)).run Tryd.prog W = .ok (.agg #[.string ⟨#[110, 98, 115, 112]⟩, .int .i32 160]) W := by
  simp [Instr.index, run_underlying ulN, asIntOf, go_sem, celN, Program.elem, ulN]
theorem idx5 (W : World) : (Instr.index 68 (.agg #[.string ⟨#[97, 109, 112]⟩, .int .i32 38, .string ⟨#[97, 112, 111, 115]⟩, .int .i32 39, .string ⟨#[103, 116]⟩, .int .i32 62, .string ⟨#[108, 116]⟩, .int .i32 60, .string ⟨#[110, 98, 115, 112]⟩, .int .i32 160, .string ⟨#[113, 117, 111, 116]⟩, .int .i32 34]) (.int .i64 5)).run Tryd.prog W = .ok (.agg #[.string ⟨#[113, 117, 111, 116]⟩, .int .i32 34]) W := by
  simp [Instr.index, run_underlying ulN, asIntOf, go_sem, celN, Program.elem, ulN]
/-- What the table of names holds. -/
def NamesT (w : World) : Prop :=
  w.cell? ⟨0, 0, none⟩ = some (.string ⟨#[97, 109, 112]⟩) ∧ w.cell? ⟨0, 1, none⟩ = some (.int .i32 38) ∧ w.cell? ⟨0, 2, none⟩ = some (.string ⟨#[97, 112, 111, 115]⟩) ∧ w.cell? ⟨0, 3, none⟩ = some (.int .i32 39) ∧
  w.cell? ⟨0, 4, none⟩ = some (.string ⟨#[103, 116]⟩) ∧ w.cell? ⟨0, 5, none⟩ = some (.int .i32 62) ∧ w.cell? ⟨0, 6, none⟩ = some (.string ⟨#[108, 116]⟩) ∧ w.cell? ⟨0, 7, none⟩ = some (.int .i32 60) ∧
  w.cell? ⟨0, 8, none⟩ = some (.string ⟨#[110, 98, 115, 112]⟩) ∧ w.cell? ⟨0, 9, none⟩ = some (.int .i32 160) ∧ w.cell? ⟨0, 10, none⟩ = some (.string ⟨#[113, 117, 111, 116]⟩) ∧ w.cell? ⟨0, 11, none⟩ = some (.int .i32 34)
/-- What the variables hold that are read. -/
def Laid (w : World) : Prop := ErrVars w ∧ NamesT w
theorem Laid.below {w w' : World} (h : Laid w) (hb : Below w.heap.size w w') : Laid w' := by
  have hn : ∀ (i : Nat) (v : Value), w.cell? ⟨0, i, none⟩ = some v → w'.cell? ⟨0, i, none⟩ = some v := fun i v hv => (hb.cell (show (⟨0, i, none⟩ : Addr).block < w.heap.size from Lib.lt_of_cell hv)).trans hv
  obtain ⟨he, h0, h1, h2, h3, h4, h5, h6, h7, h8, h9, h10, h11⟩ := h
  exact ⟨he.below hb, hn _ _ h0, hn _ _ h1, hn _ _ h2, hn _ _ h3, hn _ _ h4, hn _ _ h5, hn _ _ h6, hn _ _ h7, hn _ _ h8, hn _ _ h9, hn _ _ h10, hn _ _ h11⟩
set_option maxRecDepth 100000 in
set_option maxHeartbeats 4000000 in
theorem valid_at (n : Nat) (w : World) : Calls Tryd.prog 34 #[.int .u64 (n : Int)] w fun e w' => e = .returned (.bool (validN n)) ∧ w' = w := by
  by_cases h1 : 0 < n
  · have c1 : decide ((n : Int) > 0) = true := decide_eq_true (by omega)
    by_cases h2 : n ≤ 1114111
    · have c2 : decide ((n : Int) ≤ 1114111) = true := decide_eq_true (by omega)
      by_cases h3 : 55296 ≤ n
      · have c3 : decide ((n : Int) ≥ 55296) = true := decide_eq_true (by omega)
        by_cases h4 : n < 57344
        · have c4 : decide ((n : Int) < 57344) = true := decide_eq_true (by omega)
          have hv : validN n = false := by unfold validN; exact decide_eq_false (by omega)
          go_enter Tryd.func34, Tryd.ntmps34
          go_wp2
          go_ret
          exact ⟨by rw [hv]; rfl, rfl⟩
        · have c4 : decide ((n : Int) < 57344) = false := decide_eq_false (by omega)
          have hv : validN n = true := by unfold validN; exact decide_eq_true (by omega)
          go_enter Tryd.func34, Tryd.ntmps34
          go_wp2
          go_ret
          exact ⟨by rw [hv]; rfl, rfl⟩
      · have c3 : decide ((n : Int) ≥ 55296) = false := decide_eq_false (by omega)
        have hv : validN n = true := by unfold validN; exact decide_eq_true (by omega)
        go_enter Tryd.func34, Tryd.ntmps34
        go_wp2
        go_ret
        exact ⟨by rw [hv]; rfl, rfl⟩
    · have c2 : decide ((n : Int) ≤ 1114111) = false := decide_eq_false (by omega)
      have hv : validN n = false := by unfold validN; exact decide_eq_false (by omega)
      go_enter Tryd.func34, Tryd.ntmps34
      go_wp2
      go_ret
      exact ⟨by rw [hv]; rfl, rfl⟩
  · have c1 : decide ((n : Int) > 0) = false := decide_eq_false (by omega)
    have hv : validN n = false := by unfold validN; exact decide_eq_false (by omega)
    go_enter Tryd.func34, Tryd.ntmps34
    go_wp2
    go_ret
    exact ⟨by rw [hv]; rfl, rfl⟩
set_option maxRecDepth 100000 in
set_option maxHeartbeats 16000000 in
theorem ent_at (A0 : Option Addr) (c0 : Nat) (l0 : List Int) (w : World) (hr0 : Kd.C (Kd.int .u8) w A0 l0.length l0) (hc0 : l0.length ≤ c0) (hL : Laid w) :
    Calls Tryd.prog 12 #[.slice A0 l0.length c0] w fun e w' => e = .returned (entV (entF l0)) ∧ Below w.heap.size w w' := by
  obtain ⟨R, hR⟩ : ∃ R, R = entF l0 := ⟨_, rfl⟩
  rw [← hR]
  have HR0 := Aside0.mk hr0
  have HC0 := Aside0.mk hc0
  have HLL := Aside0.mk hL
  have HRR := Aside0.mk hR
  clear hr0 hc0 hL hR
  go_enter Tryd.func12, Tryd.ntmps12
  go_upto_block 0 with (fail)
  go_cut [5] (fun v5 wc => v5 = .int .i64 ((endN l0 12 0 : Nat) : Int) ∧ wc = w)
  case first =>
    go_wp2_with (fail)
    go_loop [5] (fun v5 => ∃ k : Nat, v5 = .int .i64 (k : Int) ∧ Aside0 (k ≤ 12 ∧ k ≤ l0.length ∧ endN l0 12 0 = endN l0 (12 - k) k)) (fun v5 => 12 - (intOf v5).toNat)
    case atStart => exact ⟨0, rfl, ⟨by omega, by omega, rfl⟩⟩
    case round =>
      obtain ⟨k, rfl, HK⟩ := hrel
      obtain ⟨hk12, hkl, hke⟩ := HK.out
      by_cases hlt : k < l0.length
      · have c1 : decide ((k : Int) < (l0.length : Int)) = true := decide_eq_true (by omega)
        by_cases h12 : k < 12
        · have c2 : decide ((k : Int) < 12) = true := decide_eq_true (by omega)
          have p1 : 0 ≤ (k : Int) := by omega
          have q1 : (k : Int) < (l0.length : Int) := by omega
          obtain ⟨ad1, e1, hx1⟩ := Kd.at_int HR0.out (k : Int) p1 q1
          cases e1
          simp only [Int.toNat_natCast] at hx1
          by_cases h59 : rd l0 (k : Int) = 59
          · have c3 : ((rd l0 (k : Int)) != 59) = false := bne_eq_false_iff_eq.mpr h59
            have hv : endN l0 12 0 = k := by
              rw [hke, show 12 - k = (12 - k - 1) + 1 by omega]
              unfold endN
              rw [if_pos hlt, if_pos h59]
            clear HK hke
            go_wp2
            go_meet
            case rel => exact ⟨by rw [hv], rfl⟩
          · have c3 : ((rd l0 (k : Int)) != 59) = true := bne_iff_ne.mpr h59
            have hv : endN l0 (12 - k) k = endN l0 (12 - (k + 1)) (k + 1) := by
              rw [show 12 - k = (12 - (k + 1)) + 1 by omega]
              show (if k < l0.length then (if rd l0 (k : Int) = 59 then k else endN l0 (12 - (k + 1)) (k + 1)) else k) = _
              rw [if_pos hlt, if_neg h59]
            have HN := Aside0.mk (show k + 1 ≤ 12 ∧ k + 1 ≤ l0.length ∧ endN l0 12 0 = endN l0 (12 - (k + 1)) (k + 1) from ⟨by omega, by omega, hke.trans hv⟩)
            clear HK hke hv
            go_wp2
            go_round
            case rel => exact ⟨k + 1, rfl, HN⟩
            case measure => simp [intOf]; omega
        · have c2 : decide ((k : Int) < 12) = false := decide_eq_false (by omega)
          have hv : endN l0 12 0 = k := by
            rw [hke, show 12 - k = 0 by omega]
            rfl
          clear HK hke
          go_wp2
          go_meet
          case rel => exact ⟨by rw [hv], rfl⟩
      · have c1 : decide ((k : Int) < (l0.length : Int)) = false := decide_eq_false (by omega)
        have hv : endN l0 12 0 = k := by
          rw [hke]
          cases h : 12 - k with
          | zero => rfl
          | succ d =>
            unfold endN
            rw [if_neg hlt]
        clear HK hke
        go_wp2
        go_meet
        case rel => exact ⟨by rw [hv], rfl⟩
  case rest =>
    obtain ⟨rfl, rfl⟩ := hcut
    have hR := HRR.out
    clear HRR
    unfold entF at hR
    obtain ⟨_, he12, hel⟩ := endN_spec l0 12 0 (Nat.zero_le _)
    rw [Nat.zero_add] at he12
    generalize endN l0 12 0 = e at he12 hel hR ⊢
    by_cases h2 : e < 2
    · have c1 : decide ((e : Int) < 2) = true := decide_eq_true (by omega)
      have HR := Aside0.mk (show R = entNo by rw [hR, if_pos (.inl h2)])
      clear hR
      go_wp2
      go_ret3
      exact ⟨ret_no HR.out, Below.refl _ _⟩
    have c1 : decide ((e : Int) < 2) = false := decide_eq_false (by omega)
    by_cases h3 : e = l0.length
    · have c2 : ((e : Int) == (l0.length : Int)) = true := beq_iff_eq.2 (by omega)
      have HR := Aside0.mk (show R = entNo by rw [hR, if_pos (.inr (.inl h3))])
      clear hR
      go_wp2
      go_ret3
      exact ⟨ret_no HR.out, Below.refl _ _⟩
    have c2 : ((e : Int) == (l0.length : Int)) = false := beq_eq_false_iff_ne.2 (by omega)
    have p1 : 0 ≤ (e : Int) := by omega
    have q1 : (e : Int) < (l0.length : Int) := by omega
    obtain ⟨ad1, e1, hx1⟩ := Kd.at_int HR0.out (e : Int) p1 q1
    cases e1
    simp only [Int.toNat_natCast] at hx1
    have p2 : 0 ≤ (0 : Int) := by omega
    have q2 : 0 < (l0.length : Int) := by omega
    obtain ⟨ad2, e2, hx2⟩ := Kd.at_int HR0.out (0 : Int) p2 q2
    obtain rfl : ad1 = ad2 := (by injection e2)
    (try rw [show ((0 : Int)).toNat = 0 from rfl] at hx2)
    (try rw [Addr.add_zero'] at hx2)
    by_cases h4 : rd l0 (e : Int) = 59
    rotate_left
    · have c3 : ((rd l0 (e : Int)) != 59) = true := bne_iff_ne.mpr h4
      have HR := Aside0.mk (show R = entNo by rw [hR, if_pos (.inr (.inr (.inl h4)))])
      clear hR
      go_wp2
      go_ret3
      exact ⟨ret_no HR.out, Below.refl _ _⟩
    have c3 : ((rd l0 (e : Int)) != 59) = false := bne_eq_false_iff_eq.mpr h4
    by_cases h5 : rd l0 0 = 38
    rotate_left
    · have c4 : ((rd l0 0) != 38) = true := bne_iff_ne.mpr h5
      have HR := Aside0.mk (show R = entNo by rw [hR, if_pos (.inr (.inr (.inr h5)))])
      clear hR
      go_wp2
      go_ret3
      exact ⟨ret_no HR.out, Below.refl _ _⟩
    have c4 : ((rd l0 0) != 38) = false := bne_eq_false_iff_eq.mpr h5
    rw [if_neg (by rintro (h | h | h | h); exact h2 h; exact h3 h; exact h h4; exact h h5)] at hR
    obtain ⟨i0, hi0, _, hsz0, _⟩ := info_parts info_u8
    obtain ⟨A2, hcut2, hA2, hC2⟩ := print_mid_of (P := Tryd.prog) (Value.int .u8) 0 22 5 .i64 .i64 Tryd.underlying22 hi0 hsz0 (some ad1) c0 l0 1 (e : Int) (by omega) (by omega) (by omega) HC0.out
    simp only [show Int.toNat 1 = 1 from rfl, Int.toNat_natCast] at hcut2 hA2 hC2
    have HR2 := Aside0.mk (Kd.C_of_reads (h1 := fun _ => rfl) (hA2 _ (Kd.reads_of_C HR0.out)))
    have hcv2 := Kd.C_string (P := Tryd.prog) (A := A2) (c := c0 - 1) Tryd.underlying22 Tryd.underlying5 Tryd.underlying9 HR2.out
    have hsl : ((l0.take e).drop 1).length = e - 1 := by rw [List.length_drop, List.length_take]; omega
    clear hA2
    generalize (l0.take e).drop 1 = s at hcut2 hC2 HR2 hcv2 hsl hR
    have hss : (strOfNums s).size = e - 1 := by rw [strOfNums_size, hsl]
    generalize strOfNums s = sB at hcv2 hR hss
    have HRR := Aside0.mk hR
    have HSL := Aside0.mk hsl
    have p3 : 0 ≤ (0 : Int) := by omega
    have q3 : 0 < sB.size := by omega
    have hx3 : ∀ h : 0 < sB.size, ((sB[0]'h).toNat : Int) = bt sB 0 := bt_at sB 0
    replace p3 := eq_true p3
    have HSS := Aside0.mk hss
    clear hR hsl e2 hss
    by_cases h6 : bt sB 0 = 35
    rotate_left
    · have c5 : (bt sB 0 != 35) = true := bne_iff_ne.mpr h6
      obtain ⟨hn0, hn1, hn2, hn3, hn4, hn5, hn6, hn7, hn8, hn9, hn10, hn11⟩ := HLL.out.2
      go_upto_block 2 with (fail)
      have HR := Aside0.mk (show R = entNamesL sB ((e : Nat) + 1) (namesL.drop 0) by rw [HRR.out]; unfold entB; rw [if_neg h6]; rfl)
      clear HRR
      go_wp2_with (fail)
      go_loopw [58] (fun v58 w' => ∃ j : Nat, v58 = .int .i64 (j : Int) ∧ Aside0 (j ≤ 6 ∧ R = entNamesL sB ((e : Nat) + 1) (namesL.drop j)) ∧ Aside0 (Below wc.heap.size wc w')) (fun v58 _ => 6 - (intOf v58).toNat)
      case atStart => exact ⟨0, rfl, ⟨by omega, HR.out⟩, ⟨Below.refl _ _⟩⟩
      case round =>
        obtain ⟨j, rfl, HJ, HB⟩ := hrel
        obtain ⟨hj6, hjr⟩ := HJ.out
        clear HR HJ
        rcases (show j = 0 ∨ j = 1 ∨ j = 2 ∨ j = 3 ∨ j = 4 ∨ j = 5 ∨ j = 6 by omega) with rfl | rfl | rfl | rfl | rfl | rfl | rfl
        · have hidx := idx0
          by_cases hq : ([97, 109, 112] == sB.toList) = true
          · have HR := Aside0.mk (show R = _ from hjr.trans (if_pos hq))
            clear hjr
            go_wp2
            go_ret3
            exact ⟨ret_yes HR.out, below_alloc HB.out _⟩
          · have HR := Aside0.mk (show R = entNamesL sB ((e : Nat) + 1) (namesL.drop 1) from hjr.trans (if_neg hq))
            rw [Bool.not_eq_true] at hq
            clear hjr
            go_wp2
            exact ⟨⟨1, rfl, ⟨by omega, HR.out⟩, ⟨below_alloc HB.out _⟩⟩, by simp [intOf]⟩
        · have hidx := idx1
          by_cases hq : ([97, 112, 111, 115] == sB.toList) = true
          · have HR := Aside0.mk (show R = _ from hjr.trans (if_pos hq))
            clear hjr
            go_wp2
            go_ret3
            exact ⟨ret_yes HR.out, below_alloc HB.out _⟩
          · have HR := Aside0.mk (show R = entNamesL sB ((e : Nat) + 1) (namesL.drop 2) from hjr.trans (if_neg hq))
            rw [Bool.not_eq_true] at hq
            clear hjr
            go_wp2
            exact ⟨⟨2, rfl, ⟨by omega, HR.out⟩, ⟨below_alloc HB.out _⟩⟩, by simp [intOf]⟩
        · have hidx := idx2
          by_cases hq : ([103, 116] == sB.toList) = true
          · have HR := Aside0.mk (show R = _ from hjr.trans (if_pos hq))
            clear hjr
            go_wp2
            go_ret3
            exact ⟨ret_yes HR.out, below_alloc HB.out _⟩
          · have HR := Aside0.mk (show R = entNamesL sB ((e : Nat) + 1) (namesL.drop 3) from hjr.trans (if_neg hq))
            rw [Bool.not_eq_true] at hq
            clear hjr
            go_wp2
            exact ⟨⟨3, rfl, ⟨by omega, HR.out⟩, ⟨below_alloc HB.out _⟩⟩, by simp [intOf]⟩
        · have hidx := idx3
          by_cases hq : ([108, 116] == sB.toList) = true
          · have HR := Aside0.mk (show R = _ from hjr.trans (if_pos hq))
            clear hjr
            go_wp2
            go_ret3
            exact ⟨ret_yes HR.out, below_alloc HB.out _⟩
          · have HR := Aside0.mk (show R = entNamesL sB ((e : Nat) + 1) (namesL.drop 4) from hjr.trans (if_neg hq))
            rw [Bool.not_eq_true] at hq
            clear hjr
            go_wp2
            exact ⟨⟨4, rfl, ⟨by omega, HR.out⟩, ⟨below_alloc HB.out _⟩⟩, by simp [intOf]⟩
        · have hidx := idx4
          by_cases hq : ([110, 98, 115, 112] == sB.toList) = true
          · have HR := Aside0.mk (show R = _ from hjr.trans (if_pos hq))
            clear hjr
            go_wp2
            go_ret3
            exact ⟨ret_yes HR.out, below_alloc HB.out _⟩
          · have HR := Aside0.mk (show R = entNamesL sB ((e : Nat) + 1) (namesL.drop 5) from hjr.trans (if_neg hq))
            rw [Bool.not_eq_true] at hq
            clear hjr
            go_wp2
            exact ⟨⟨5, rfl, ⟨by omega, HR.out⟩, ⟨below_alloc HB.out _⟩⟩, by simp [intOf]⟩
        · have hidx := idx5
          by_cases hq : ([113, 117, 111, 116] == sB.toList) = true
          · have HR := Aside0.mk (show R = _ from hjr.trans (if_pos hq))
            clear hjr
            go_wp2
            go_ret3
            exact ⟨ret_yes HR.out, below_alloc HB.out _⟩
          · have HR := Aside0.mk (show R = entNamesL sB ((e : Nat) + 1) (namesL.drop 6) from hjr.trans (if_neg hq))
            rw [Bool.not_eq_true] at hq
            clear hjr
            go_wp2
            exact ⟨⟨6, rfl, ⟨by omega, HR.out⟩, ⟨below_alloc HB.out _⟩⟩, by simp [intOf]⟩
        · have HR := Aside0.mk (show R = entNo from hjr)
          clear hjr
          go_wp2
          go_ret3
          exact ⟨ret_no HR.out, HB.out⟩
    have c5 : (bt sB 0 != 35) = false := bne_eq_false_iff_eq.mpr h6
    have hs1 : (sB.extract 1 sB.size).size ≤ 11 := by rw [ByteArray.size_extract]; have := HSS.out; omega
    have HR1 := Aside0.mk (show R = entNum (sB.extract 1 sB.size) ((e : Nat) + 1) by rw [HRR.out]; unfold entB; rw [if_pos h6])
    clear HRR
    go_upto_region 16 with (fail)
    clear hcv2 hcut2 HR2 HSL hC2 hx3 q3 p3 c5 h6 HSS
    generalize sB.extract 1 sB.size = s1 at hs1 HR1 ⊢
    by_cases hz1 : s1.size = 0
    · have HR := Aside0.mk (show R = entNo by rw [HR1.out]; unfold entNum; rw [if_pos hz1]; unfold entDig; rw [if_pos hz1])
      have hE : s1 = ⟨#[]⟩ := ByteArray.ext (Array.eq_empty_of_size_eq_zero hz1)
      clear HR1 hz1 hs1
      subst hE
      go_wp2
      go_ret3
      exact ⟨ret_no HR.out, Below.refl _ _⟩
    have p4 : 0 ≤ (0 : Int) := by omega
    replace p4 := eq_true p4
    have q4 : 0 < s1.size := by omega
    have hem4 : s1.toList.isEmpty = false := by rw [← decide_eq_emptyBytes]; exact decide_eq_false (fun h => hz1 (by rw [h]; rfl))
    have hx4 : ∀ h : 0 < s1.size, ((s1[0]'h).toNat : Int) = bt s1 0 := bt_at s1 0
    have hs12 : (s1.extract 1 s1.size).size ≤ 12 := by rw [ByteArray.size_extract]; omega
    by_cases h120 : bt s1 0 = 120
    · have c120 : (bt s1 0 == 120) = true := beq_iff_eq.2 h120
      have HRR := Aside0.mk (show R = entDig 16 (s1.extract 1 s1.size) ((e : Nat) + 1) by rw [HR1.out]; unfold entNum; rw [if_neg hz1, if_pos h120])
      clear HR1
      go_upto_region 18 with (fail)
      clear hx4 c120 h120 hem4 q4
      generalize s1.extract 1 s1.size = s2 at hs12 HRR ⊢
      by_cases hz : s2.size = 0
      · have HR := Aside0.mk (show R = entNo by rw [HRR.out]; unfold entDig; rw [if_pos hz])
        have hE : s2 = ⟨#[]⟩ := ByteArray.ext (Array.eq_empty_of_size_eq_zero hz)
        clear HRR
        subst hE
        go_wp2
        go_ret3
        exact ⟨ret_no HR.out, Below.refl _ _⟩
      have q5 : 0 < s2.size := by omega
      have hem5 : s2.toList.isEmpty = false := by rw [← decide_eq_emptyBytes]; exact decide_eq_false (fun h => hz (by rw [h]; rfl))
      have hx5 : ∀ h : 0 < s2.size, ((s2[0]'h).toNat : Int) = bt s2 0 := bt_at s2 0
      by_cases h43 : bt s2 0 = 43
      · have c43 : (bt s2 0 == 43) = true := beq_iff_eq.2 h43
        have HR := Aside0.mk (show R = entNo by rw [HRR.out]; unfold entDig; rw [if_neg hz, if_pos h43])
        clear HRR
        go_wp2
        go_ret3
        exact ⟨ret_no HR.out, Below.refl _ _⟩
      have c43 : (bt s2 0 == 43) = false := beq_eq_false_iff_ne.2 h43
      by_cases h45 : bt s2 0 = 45
      · have c45 : (bt s2 0 == 45) = true := beq_iff_eq.2 h45
        have HR := Aside0.mk (show R = entNo by rw [HRR.out]; unfold entDig; rw [if_neg hz, if_neg h43, if_pos h45])
        clear HRR
        go_wp2
        go_ret3
        exact ⟨ret_no HR.out, Below.refl _ _⟩
      have c45 : (bt s2 0 == 45) = false := beq_eq_false_iff_ne.2 h45
      have HRQ := Aside0.mk (show R = (match numM 16 0 s2.data.toList with | none => entNo | some v => if validN v = true then ((v : Int), (e : Int) + 1, true) else entNo) by rw [HRR.out]; unfold entDig; rw [if_neg hz, if_neg h43, if_neg h45])
      have hP : Calls Tryd.prog 33 #[.string s2, .int .i64 16, .int .i64 32] wc fun e w' => PuPub 16 s2.data.toList e ∧ Below wc.heap.size wc w' := parse_at 16 (by decide) s2 hz (by omega) wc HLL.out.1
      clear HRR
      go_wp2_with (go_at_call 33; refine hP.mono ?_; rintro e' w' ⟨⟨x, er, rfl, hx⟩, hb⟩; rcases hx with ⟨rfl, n, rfl, hn⟩ | ⟨⟨N, rfl⟩, hn⟩)
      · have HR := Aside0.mk (show R = (if validN n = true then ((n : Int), (e : Int) + 1, true) else entNo) by rw [HRQ.out, hn])
        have hV := valid_at n
        clear HRQ hP
        have HBB := Aside0.mk hb
        clear hb
        by_cases hvv : validN n = true
        · have hv2 : n ≤ 1114111 := by unfold validN at hvv; rw [decide_eq_true_eq] at hvv; omega
          have HR2 := Aside0.mk (HR.out.trans (if_pos hvv))
          rw [hvv] at hV
          clear HR
          go_wp2_with (go_at_call 34; refine (hV _).mono ?_; rintro e' w'' ⟨rfl, rfl⟩)
          go_ret3
          exact ⟨ret_yes HR2.out, HBB.out⟩
        · have HR2 := Aside0.mk (HR.out.trans (if_neg hvv))
          rw [Bool.not_eq_true] at hvv
          rw [hvv] at hV
          clear HR
          go_wp2_with (go_at_call 34; refine (hV _).mono ?_; rintro e' w'' ⟨rfl, rfl⟩)
          go_ret3
          exact ⟨ret_no HR2.out, HBB.out⟩
      · have HR := Aside0.mk (show R = entNo by rw [HRQ.out, hn])
        clear HRQ hP
        go_wp2
        go_ret3
        exact ⟨ret_no HR.out, hb⟩
    have c120 : (bt s1 0 == 120) = false := beq_eq_false_iff_ne.2 h120
    by_cases h88 : bt s1 0 = 88
    · have c88 : (bt s1 0 == 88) = true := beq_iff_eq.2 h88
      have HRR := Aside0.mk (show R = entDig 16 (s1.extract 1 s1.size) ((e : Nat) + 1) by rw [HR1.out]; unfold entNum; rw [if_neg hz1, if_neg h120, if_pos h88])
      clear HR1
      go_upto_region 18 with (fail)
      clear hx4 c120 h120 hem4 q4 c88 h88
      generalize s1.extract 1 s1.size = s2 at hs12 HRR ⊢
      by_cases hz : s2.size = 0
      · have HR := Aside0.mk (show R = entNo by rw [HRR.out]; unfold entDig; rw [if_pos hz])
        have hE : s2 = ⟨#[]⟩ := ByteArray.ext (Array.eq_empty_of_size_eq_zero hz)
        clear HRR
        subst hE
        go_wp2
        go_ret3
        exact ⟨ret_no HR.out, Below.refl _ _⟩
      have q5 : 0 < s2.size := by omega
      have hem5 : s2.toList.isEmpty = false := by rw [← decide_eq_emptyBytes]; exact decide_eq_false (fun h => hz (by rw [h]; rfl))
      have hx5 : ∀ h : 0 < s2.size, ((s2[0]'h).toNat : Int) = bt s2 0 := bt_at s2 0
      by_cases h43 : bt s2 0 = 43
      · have c43 : (bt s2 0 == 43) = true := beq_iff_eq.2 h43
        have HR := Aside0.mk (show R = entNo by rw [HRR.out]; unfold entDig; rw [if_neg hz, if_pos h43])
        clear HRR
        go_wp2
        go_ret3
        exact ⟨ret_no HR.out, Below.refl _ _⟩
      have c43 : (bt s2 0 == 43) = false := beq_eq_false_iff_ne.2 h43
      by_cases h45 : bt s2 0 = 45
      · have c45 : (bt s2 0 == 45) = true := beq_iff_eq.2 h45
        have HR := Aside0.mk (show R = entNo by rw [HRR.out]; unfold entDig; rw [if_neg hz, if_neg h43, if_pos h45])
        clear HRR
        go_wp2
        go_ret3
        exact ⟨ret_no HR.out, Below.refl _ _⟩
      have c45 : (bt s2 0 == 45) = false := beq_eq_false_iff_ne.2 h45
      have HRQ := Aside0.mk (show R = (match numM 16 0 s2.data.toList with | none => entNo | some v => if validN v = true then ((v : Int), (e : Int) + 1, true) else entNo) by rw [HRR.out]; unfold entDig; rw [if_neg hz, if_neg h43, if_neg h45])
      have hP : Calls Tryd.prog 33 #[.string s2, .int .i64 16, .int .i64 32] wc fun e w' => PuPub 16 s2.data.toList e ∧ Below wc.heap.size wc w' := parse_at 16 (by decide) s2 hz (by omega) wc HLL.out.1
      clear HRR
      go_wp2_with (go_at_call 33; refine hP.mono ?_; rintro e' w' ⟨⟨x, er, rfl, hx⟩, hb⟩; rcases hx with ⟨rfl, n, rfl, hn⟩ | ⟨⟨N, rfl⟩, hn⟩)
      · have HR := Aside0.mk (show R = (if validN n = true then ((n : Int), (e : Int) + 1, true) else entNo) by rw [HRQ.out, hn])
        have hV := valid_at n
        clear HRQ hP
        have HBB := Aside0.mk hb
        clear hb
        by_cases hvv : validN n = true
        · have hv2 : n ≤ 1114111 := by unfold validN at hvv; rw [decide_eq_true_eq] at hvv; omega
          have HR2 := Aside0.mk (HR.out.trans (if_pos hvv))
          rw [hvv] at hV
          clear HR
          go_wp2_with (go_at_call 34; refine (hV _).mono ?_; rintro e' w'' ⟨rfl, rfl⟩)
          go_ret3
          exact ⟨ret_yes HR2.out, HBB.out⟩
        · have HR2 := Aside0.mk (HR.out.trans (if_neg hvv))
          rw [Bool.not_eq_true] at hvv
          rw [hvv] at hV
          clear HR
          go_wp2_with (go_at_call 34; refine (hV _).mono ?_; rintro e' w'' ⟨rfl, rfl⟩)
          go_ret3
          exact ⟨ret_no HR2.out, HBB.out⟩
      · have HR := Aside0.mk (show R = entNo by rw [HRQ.out, hn])
        clear HRQ hP
        go_wp2
        go_ret3
        exact ⟨ret_no HR.out, hb⟩
    have c88 : (bt s1 0 == 88) = false := beq_eq_false_iff_ne.2 h88
    have HRR := Aside0.mk (show R = entDig 10 s1 ((e : Nat) + 1) by rw [HR1.out]; unfold entNum; rw [if_neg hz1, if_neg h120, if_neg h88])
    clear HR1 hs12
    have hz := hz1
    have hs2 : s1.size ≤ 12 := by omega
    by_cases h43 : bt s1 0 = 43
    · have c43 : (bt s1 0 == 43) = true := beq_iff_eq.2 h43
      have HR := Aside0.mk (show R = entNo by rw [HRR.out]; unfold entDig; rw [if_neg hz, if_pos h43])
      clear HRR
      go_wp2
      go_ret3
      exact ⟨ret_no HR.out, Below.refl _ _⟩
    have c43 : (bt s1 0 == 43) = false := beq_eq_false_iff_ne.2 h43
    by_cases h45 : bt s1 0 = 45
    · have c45 : (bt s1 0 == 45) = true := beq_iff_eq.2 h45
      have HR := Aside0.mk (show R = entNo by rw [HRR.out]; unfold entDig; rw [if_neg hz, if_neg h43, if_pos h45])
      clear HRR
      go_wp2
      go_ret3
      exact ⟨ret_no HR.out, Below.refl _ _⟩
    have c45 : (bt s1 0 == 45) = false := beq_eq_false_iff_ne.2 h45
    have HRQ := Aside0.mk (show R = (match numM 10 0 s1.data.toList with | none => entNo | some v => if validN v = true then ((v : Int), (e : Int) + 1, true) else entNo) by rw [HRR.out]; unfold entDig; rw [if_neg hz, if_neg h43, if_neg h45])
    have hP : Calls Tryd.prog 33 #[.string s1, .int .i64 10, .int .i64 32] wc fun e w' => PuPub 10 s1.data.toList e ∧ Below wc.heap.size wc w' := parse_at 10 (by decide) s1 hz (by omega) wc HLL.out.1
    clear HRR
    go_wp2_with (go_at_call 33; refine hP.mono ?_; rintro e' w' ⟨⟨x, er, rfl, hx⟩, hb⟩; rcases hx with ⟨rfl, n, rfl, hn⟩ | ⟨⟨N, rfl⟩, hn⟩)
    · have HR := Aside0.mk (show R = (if validN n = true then ((n : Int), (e : Int) + 1, true) else entNo) by rw [HRQ.out, hn])
      have hV := valid_at n
      clear HRQ hP
      have HBB := Aside0.mk hb
      clear hb
      by_cases hvv : validN n = true
      · have hv2 : n ≤ 1114111 := by unfold validN at hvv; rw [decide_eq_true_eq] at hvv; omega
        have HR2 := Aside0.mk (HR.out.trans (if_pos hvv))
        rw [hvv] at hV
        clear HR
        go_wp2_with (go_at_call 34; refine (hV _).mono ?_; rintro e' w'' ⟨rfl, rfl⟩)
        go_ret3
        exact ⟨ret_yes HR2.out, HBB.out⟩
      · have HR2 := Aside0.mk (HR.out.trans (if_neg hvv))
        rw [Bool.not_eq_true] at hvv
        rw [hvv] at hV
        clear HR
        go_wp2_with (go_at_call 34; refine (hV _).mono ?_; rintro e' w'' ⟨rfl, rfl⟩)
        go_ret3
        exact ⟨ret_no HR2.out, HBB.out⟩
    · have HR := Aside0.mk (show R = entNo by rw [HRQ.out, hn])
      clear HRQ hP
      go_wp2
      go_ret3
      exact ⟨ret_no HR.out, hb⟩
end Go.Proofs.YtekalnhackjldaaDoor.H
