-- Laid by a program of ours (the kit's print with words and contracts of our own beside it).
import Derived.Test.YtjabpbnlpljlkaaDoorPShowChecksx0
import Derived.Test.YtjabpbnlpljlkaaDoorPShowChecksx1
import Derived.Test.YtjabpbnlpljlkaaDoorPShowChecksx2
import Derived.Test.YtjabpbnlpljlkaaDoorPShowChecksx4
import Derived.Test.YtjabpbnlpljlkaaDoorPShowChecksx6
namespace Go.Proofs.YtjabpbnlpljlkaaDoor.PShowChecks
open Go.RowKit Go.Proofs.YtjabpbnlpljlkaaDoor.X Go.Proofs.YtjabpbnlpljlkaaDoorW.PrintWords Go.Proofs.YtjabpbnlpljlkaaDoorW.PrintLast Go.Proofs.YtjabpbnlpljlkaaDoorW.PrintMore
attribute [local go_sem] max2_int min2_int max_two min_two max_three min_three max_four min_four   -- for this text's walks alone
set_option linter.unusedVariables false
set_option linter.unusedSimpArgs false

/-! ### redpenlaw20_ShowChecks: function 4 -/
def redpenlaw20_ShowChecks.f (k : Nat) (a0_0 : Int) (a0_1 : Int) (a0_2 : Int) (a0_3 : Int) (l0_4 : List (S29)) (a1 : Bool) (a2 : Int) (a3 : Int) : Option (Bool) := (redpenlaw20_Awake.f).bind fun t131 => (if t131 = true then (if (l0_4.length : Int) > 100 then (some true) else ((redpenlaw20_Tidied.f k a0_0 a0_1 a0_2 a0_3 l0_4 a1).bind fun bt132 => (if (Int.tmod a2 10) = 0 then ((show_Check.f k a3 bt132.2.1 bt132.2.2.1 bt132.2.2.2.1 bt132.2.2.2.2).bind fun t139 => ((redpenref18_Check.f k a3 bt132.2.1 bt132.2.2.1 bt132.2.2.2.1 bt132.2.2.2.2).bind fun t140 => (some (t139 == t140)))) else (if (Int.tmod a2 10) = 1 then ((show_Check.f k bt132.1 bt132.2.1 a3 bt132.2.2.2.1 bt132.2.2.2.2).bind fun t141 => ((redpenref18_Check.f k bt132.1 bt132.2.1 a3 bt132.2.2.2.1 bt132.2.2.2.2).bind fun t142 => (some (t141 == t142)))) else (if (Int.tmod a2 10) = 2 then ((show_Check.f k bt132.1 a3 bt132.2.2.1 bt132.2.2.2.1 bt132.2.2.2.2).bind fun t143 => ((redpenref18_Check.f k bt132.1 a3 bt132.2.2.1 bt132.2.2.2.1 bt132.2.2.2.2).bind fun t144 => (some (t143 == t144)))) else (if (Int.tmod a2 10) = 3 then ((show_Check.f k bt132.1 bt132.2.1 bt132.2.2.1 a3 bt132.2.2.2.2).bind fun t145 => ((redpenref18_Check.f k bt132.1 bt132.2.1 bt132.2.2.1 a3 bt132.2.2.2.2).bind fun t146 => (some (t145 == t146)))) else (if (Int.tmod a2 10) = 4 then (if (bt132.2.2.2.2.length : Int) > 0 then (if 0 < (bt132.2.2.2.2.length : Int) then ((some (bt132.2.2.2.2.set (0 : Int).toNat (⟨(a3) % 256, (rd_T29 bt132.2.2.2.2 0).f1, (rd_T29 bt132.2.2.2.2 0).f2⟩ : S29) : List (S29))).bind fun y147 => ((show_Check.f k bt132.1 bt132.2.1 bt132.2.2.1 bt132.2.2.2.1 y147).bind fun t148 => ((redpenref18_Check.f k bt132.1 bt132.2.1 bt132.2.2.1 bt132.2.2.2.1 y147).bind fun t149 => (some (t148 == t149))))) else (none)) else ((show_Check.f k bt132.1 bt132.2.1 bt132.2.2.1 bt132.2.2.2.1 bt132.2.2.2.2).bind fun t150 => ((redpenref18_Check.f k bt132.1 bt132.2.1 bt132.2.2.1 bt132.2.2.2.1 bt132.2.2.2.2).bind fun t151 => (some (t150 == t151))))) else (if (Int.tmod a2 10) = 5 then (if (bt132.2.2.2.2.length : Int) > 0 then (if 0 ≤ (wrap64 ((bt132.2.2.2.2.length : Int) / 2)) then (if (wrap64 ((bt132.2.2.2.2.length : Int) / 2)) < (bt132.2.2.2.2.length : Int) then (if ((rd_T29 bt132.2.2.2.2 (wrap64 ((bt132.2.2.2.2.length : Int) / 2))).f1).size + 1 ≤ 9223372036854775807 then ((some (bt132.2.2.2.2.set ((wrap64 ((bt132.2.2.2.2.length : Int) / 2)) : Int).toNat (⟨(rd_T29 bt132.2.2.2.2 (wrap64 ((bt132.2.2.2.2.length : Int) / 2))).f0, ((rd_T29 bt132.2.2.2.2 (wrap64 ((bt132.2.2.2.2.length : Int) / 2))).f1) ++ (⟨#[10]⟩ : ByteArray), (rd_T29 bt132.2.2.2.2 (wrap64 ((bt132.2.2.2.2.length : Int) / 2))).f2⟩ : S29) : List (S29))).bind fun y153 => ((show_Check.f k bt132.1 bt132.2.1 bt132.2.2.1 bt132.2.2.2.1 y153).bind fun t154 => ((redpenref18_Check.f k bt132.1 bt132.2.1 bt132.2.2.1 bt132.2.2.2.1 y153).bind fun t155 => (some (t154 == t155))))) else (none)) else (none)) else (none)) else ((show_Check.f k bt132.1 bt132.2.1 bt132.2.2.1 bt132.2.2.2.1 bt132.2.2.2.2).bind fun t156 => ((redpenref18_Check.f k bt132.1 bt132.2.1 bt132.2.2.1 bt132.2.2.2.1 bt132.2.2.2.2).bind fun t157 => (some (t156 == t157))))) else (if (Int.tmod a2 10) = 6 then (if (bt132.2.2.2.2.length : Int) > 0 then (if 0 ≤ (wrap64 ((bt132.2.2.2.2.length : Int) / 2)) then (if (wrap64 ((bt132.2.2.2.2.length : Int) / 2)) < (bt132.2.2.2.2.length : Int) then ((some (bt132.2.2.2.2.set ((wrap64 ((bt132.2.2.2.2.length : Int) / 2)) : Int).toNat (⟨(rd_T29 bt132.2.2.2.2 (wrap64 ((bt132.2.2.2.2.length : Int) / 2))).f0, (rd_T29 bt132.2.2.2.2 (wrap64 ((bt132.2.2.2.2.length : Int) / 2))).f1, true⟩ : S29) : List (S29))).bind fun y158 => ((show_Check.f k bt132.1 bt132.2.1 bt132.2.2.1 bt132.2.2.2.1 y158).bind fun t159 => ((redpenref18_Check.f k bt132.1 bt132.2.1 bt132.2.2.1 bt132.2.2.2.1 y158).bind fun t160 => (some (t159 == t160))))) else (none)) else (none)) else ((show_Check.f k bt132.1 bt132.2.1 bt132.2.2.1 bt132.2.2.2.1 bt132.2.2.2.2).bind fun t161 => ((redpenref18_Check.f k bt132.1 bt132.2.1 bt132.2.2.1 bt132.2.2.2.1 bt132.2.2.2.2).bind fun t162 => (some (t161 == t162))))) else ((show_Check.f k bt132.1 bt132.2.1 bt132.2.2.1 bt132.2.2.2.1 bt132.2.2.2.2).bind fun t163 => ((redpenref18_Check.f k bt132.1 bt132.2.1 bt132.2.2.1 bt132.2.2.2.1 bt132.2.2.2.2).bind fun t164 => (some (t163 == t164))))))))))))) else (some false))
theorem redpenlaw20_ShowChecks.mono : ∀ a0 a1 a2 a3 a4 a5 a6 a7 k, LeO (redpenlaw20_ShowChecks.f k a0 a1 a2 a3 a4 a5 a6 a7) (redpenlaw20_ShowChecks.f (k + 1) a0 a1 a2 a3 a4 a5 a6 a7) := by
 intro a0 a1 a2 a3 a4 a5 a6 a7 k
 unfold redpenlaw20_ShowChecks.f
 repeat' first
   | (with_reducible exact redpenlaw20_Tidied.mono _ _ _ _ _ _ _)
   | (with_reducible exact redpenref18_Check.mono _ _ _ _ _ _)
   | (with_reducible exact show_Check.mono _ _ _ _ _ _)
   | (with_reducible exact LeO.refl _)
   | (with_reducible exact LeO.none _)
   | (with_reducible refine LeO.ite ?_ ?_)
   | (with_reducible refine LeO.bind ?_ (fun _ => ?_))
   | exact redpenlaw20_Tidied.mono _ _ _ _ _ _ _
   | exact redpenref18_Check.mono _ _ _ _ _ _
   | exact show_Check.mono _ _ _ _ _ _
   | exact LeO.none _
   | refine LeO.ite ?_ ?_
   | refine LeO.bind ?_ (fun _ => ?_)
set_option maxHeartbeats 8000000 in
set_option maxRecDepth 100000 in
theorem redpenlaw20_ShowChecks.calls (k : Nat) (a0_0 : Int) (a0_1 : Int) (a0_2 : Int) (a0_3 : Int) (A0_4 : Option Addr) (c0_4 : Nat) (l0_4 : List (S29)) (a1 : Bool) (a2 : Int) (a3 : Int) (r : Bool) (w : World) (hr0_4 : Kd.C k29 w A0_4 l0_4.length l0_4) (hc0_4 : l0_4.length ≤ c0_4) (h : redpenlaw20_ShowChecks.f k a0_0 a0_1 a0_2 a0_3 l0_4 a1 a2 a3 = some r) (hr_ : r = true) :
  Calls Tryd.prog 4 #[.agg #[.int .i64 a0_0, .int .i64 a0_1, .int .i64 a0_2, .int .i64 a0_3, .slice A0_4 l0_4.length c0_4], .bool a1, .int .u8 a2, .int .i64 a3] w fun e w' => e = .returned (.bool r) ∧ Below w.heap.size w w' := by
 have hu26 := Tryd.underlying26
 have HR0_4 := Aside0.mk hr0_4
 have HC0_4 := Aside0.mk hc0_4
 clear hr0_4 hc0_4
 have HB := Aside0.mk (Below.refl w.heap.size w)
 have H : ((redpenlaw20_Awake.f).bind fun t131 => (if t131 = true then (if (l0_4.length : Int) > 100 then (some true) else ((redpenlaw20_Tidied.f k a0_0 a0_1 a0_2 a0_3 l0_4 a1).bind fun bt132 => (if (Int.tmod a2 10) = 0 then ((show_Check.f k a3 bt132.2.1 bt132.2.2.1 bt132.2.2.2.1 bt132.2.2.2.2).bind fun t139 => ((redpenref18_Check.f k a3 bt132.2.1 bt132.2.2.1 bt132.2.2.2.1 bt132.2.2.2.2).bind fun t140 => (some (t139 == t140)))) else (if (Int.tmod a2 10) = 1 then ((show_Check.f k bt132.1 bt132.2.1 a3 bt132.2.2.2.1 bt132.2.2.2.2).bind fun t141 => ((redpenref18_Check.f k bt132.1 bt132.2.1 a3 bt132.2.2.2.1 bt132.2.2.2.2).bind fun t142 => (some (t141 == t142)))) else (if (Int.tmod a2 10) = 2 then ((show_Check.f k bt132.1 a3 bt132.2.2.1 bt132.2.2.2.1 bt132.2.2.2.2).bind fun t143 => ((redpenref18_Check.f k bt132.1 a3 bt132.2.2.1 bt132.2.2.2.1 bt132.2.2.2.2).bind fun t144 => (some (t143 == t144)))) else (if (Int.tmod a2 10) = 3 then ((show_Check.f k bt132.1 bt132.2.1 bt132.2.2.1 a3 bt132.2.2.2.2).bind fun t145 => ((redpenref18_Check.f k bt132.1 bt132.2.1 bt132.2.2.1 a3 bt132.2.2.2.2).bind fun t146 => (some (t145 == t146)))) else (if (Int.tmod a2 10) = 4 then (if (bt132.2.2.2.2.length : Int) > 0 then (if 0 < (bt132.2.2.2.2.length : Int) then ((some (bt132.2.2.2.2.set (0 : Int).toNat (⟨(a3) % 256, (rd_T29 bt132.2.2.2.2 0).f1, (rd_T29 bt132.2.2.2.2 0).f2⟩ : S29) : List (S29))).bind fun y147 => ((show_Check.f k bt132.1 bt132.2.1 bt132.2.2.1 bt132.2.2.2.1 y147).bind fun t148 => ((redpenref18_Check.f k bt132.1 bt132.2.1 bt132.2.2.1 bt132.2.2.2.1 y147).bind fun t149 => (some (t148 == t149))))) else (none)) else ((show_Check.f k bt132.1 bt132.2.1 bt132.2.2.1 bt132.2.2.2.1 bt132.2.2.2.2).bind fun t150 => ((redpenref18_Check.f k bt132.1 bt132.2.1 bt132.2.2.1 bt132.2.2.2.1 bt132.2.2.2.2).bind fun t151 => (some (t150 == t151))))) else (if (Int.tmod a2 10) = 5 then (if (bt132.2.2.2.2.length : Int) > 0 then (if 0 ≤ (wrap64 ((bt132.2.2.2.2.length : Int) / 2)) then (if (wrap64 ((bt132.2.2.2.2.length : Int) / 2)) < (bt132.2.2.2.2.length : Int) then (if ((rd_T29 bt132.2.2.2.2 (wrap64 ((bt132.2.2.2.2.length : Int) / 2))).f1).size + 1 ≤ 9223372036854775807 then ((some (bt132.2.2.2.2.set ((wrap64 ((bt132.2.2.2.2.length : Int) / 2)) : Int).toNat (⟨(rd_T29 bt132.2.2.2.2 (wrap64 ((bt132.2.2.2.2.length : Int) / 2))).f0, ((rd_T29 bt132.2.2.2.2 (wrap64 ((bt132.2.2.2.2.length : Int) / 2))).f1) ++ (⟨#[10]⟩ : ByteArray), (rd_T29 bt132.2.2.2.2 (wrap64 ((bt132.2.2.2.2.length : Int) / 2))).f2⟩ : S29) : List (S29))).bind fun y153 => ((show_Check.f k bt132.1 bt132.2.1 bt132.2.2.1 bt132.2.2.2.1 y153).bind fun t154 => ((redpenref18_Check.f k bt132.1 bt132.2.1 bt132.2.2.1 bt132.2.2.2.1 y153).bind fun t155 => (some (t154 == t155))))) else (none)) else (none)) else (none)) else ((show_Check.f k bt132.1 bt132.2.1 bt132.2.2.1 bt132.2.2.2.1 bt132.2.2.2.2).bind fun t156 => ((redpenref18_Check.f k bt132.1 bt132.2.1 bt132.2.2.1 bt132.2.2.2.1 bt132.2.2.2.2).bind fun t157 => (some (t156 == t157))))) else (if (Int.tmod a2 10) = 6 then (if (bt132.2.2.2.2.length : Int) > 0 then (if 0 ≤ (wrap64 ((bt132.2.2.2.2.length : Int) / 2)) then (if (wrap64 ((bt132.2.2.2.2.length : Int) / 2)) < (bt132.2.2.2.2.length : Int) then ((some (bt132.2.2.2.2.set ((wrap64 ((bt132.2.2.2.2.length : Int) / 2)) : Int).toNat (⟨(rd_T29 bt132.2.2.2.2 (wrap64 ((bt132.2.2.2.2.length : Int) / 2))).f0, (rd_T29 bt132.2.2.2.2 (wrap64 ((bt132.2.2.2.2.length : Int) / 2))).f1, true⟩ : S29) : List (S29))).bind fun y158 => ((show_Check.f k bt132.1 bt132.2.1 bt132.2.2.1 bt132.2.2.2.1 y158).bind fun t159 => ((redpenref18_Check.f k bt132.1 bt132.2.1 bt132.2.2.1 bt132.2.2.2.1 y158).bind fun t160 => (some (t159 == t160))))) else (none)) else (none)) else ((show_Check.f k bt132.1 bt132.2.1 bt132.2.2.1 bt132.2.2.2.1 bt132.2.2.2.2).bind fun t161 => ((redpenref18_Check.f k bt132.1 bt132.2.1 bt132.2.2.1 bt132.2.2.2.1 bt132.2.2.2.2).bind fun t162 => (some (t161 == t162))))) else ((show_Check.f k bt132.1 bt132.2.1 bt132.2.2.1 bt132.2.2.2.1 bt132.2.2.2.2).bind fun t163 => ((redpenref18_Check.f k bt132.1 bt132.2.1 bt132.2.2.1 bt132.2.2.2.1 bt132.2.2.2.2).bind fun t164 => (some (t163 == t164))))))))))))) else (some false))) = some r := h
 clear h
 replace H := Option.bind_eq_some_iff.mp H
 obtain ⟨t131, A50, H⟩ := H
 replace H : (if t131 = true then (if (l0_4.length : Int) > 100 then (some true) else ((redpenlaw20_Tidied.f k a0_0 a0_1 a0_2 a0_3 l0_4 a1).bind fun bt132 => (if (Int.tmod a2 10) = 0 then ((show_Check.f k a3 bt132.2.1 bt132.2.2.1 bt132.2.2.2.1 bt132.2.2.2.2).bind fun t139 => ((redpenref18_Check.f k a3 bt132.2.1 bt132.2.2.1 bt132.2.2.2.1 bt132.2.2.2.2).bind fun t140 => (some (t139 == t140)))) else (if (Int.tmod a2 10) = 1 then ((show_Check.f k bt132.1 bt132.2.1 a3 bt132.2.2.2.1 bt132.2.2.2.2).bind fun t141 => ((redpenref18_Check.f k bt132.1 bt132.2.1 a3 bt132.2.2.2.1 bt132.2.2.2.2).bind fun t142 => (some (t141 == t142)))) else (if (Int.tmod a2 10) = 2 then ((show_Check.f k bt132.1 a3 bt132.2.2.1 bt132.2.2.2.1 bt132.2.2.2.2).bind fun t143 => ((redpenref18_Check.f k bt132.1 a3 bt132.2.2.1 bt132.2.2.2.1 bt132.2.2.2.2).bind fun t144 => (some (t143 == t144)))) else (if (Int.tmod a2 10) = 3 then ((show_Check.f k bt132.1 bt132.2.1 bt132.2.2.1 a3 bt132.2.2.2.2).bind fun t145 => ((redpenref18_Check.f k bt132.1 bt132.2.1 bt132.2.2.1 a3 bt132.2.2.2.2).bind fun t146 => (some (t145 == t146)))) else (if (Int.tmod a2 10) = 4 then (if (bt132.2.2.2.2.length : Int) > 0 then (if 0 < (bt132.2.2.2.2.length : Int) then ((some (bt132.2.2.2.2.set (0 : Int).toNat (⟨(a3) % 256, (rd_T29 bt132.2.2.2.2 0).f1, (rd_T29 bt132.2.2.2.2 0).f2⟩ : S29) : List (S29))).bind fun y147 => ((show_Check.f k bt132.1 bt132.2.1 bt132.2.2.1 bt132.2.2.2.1 y147).bind fun t148 => ((redpenref18_Check.f k bt132.1 bt132.2.1 bt132.2.2.1 bt132.2.2.2.1 y147).bind fun t149 => (some (t148 == t149))))) else (none)) else ((show_Check.f k bt132.1 bt132.2.1 bt132.2.2.1 bt132.2.2.2.1 bt132.2.2.2.2).bind fun t150 => ((redpenref18_Check.f k bt132.1 bt132.2.1 bt132.2.2.1 bt132.2.2.2.1 bt132.2.2.2.2).bind fun t151 => (some (t150 == t151))))) else (if (Int.tmod a2 10) = 5 then (if (bt132.2.2.2.2.length : Int) > 0 then (if 0 ≤ (wrap64 ((bt132.2.2.2.2.length : Int) / 2)) then (if (wrap64 ((bt132.2.2.2.2.length : Int) / 2)) < (bt132.2.2.2.2.length : Int) then (if ((rd_T29 bt132.2.2.2.2 (wrap64 ((bt132.2.2.2.2.length : Int) / 2))).f1).size + 1 ≤ 9223372036854775807 then ((some (bt132.2.2.2.2.set ((wrap64 ((bt132.2.2.2.2.length : Int) / 2)) : Int).toNat (⟨(rd_T29 bt132.2.2.2.2 (wrap64 ((bt132.2.2.2.2.length : Int) / 2))).f0, ((rd_T29 bt132.2.2.2.2 (wrap64 ((bt132.2.2.2.2.length : Int) / 2))).f1) ++ (⟨#[10]⟩ : ByteArray), (rd_T29 bt132.2.2.2.2 (wrap64 ((bt132.2.2.2.2.length : Int) / 2))).f2⟩ : S29) : List (S29))).bind fun y153 => ((show_Check.f k bt132.1 bt132.2.1 bt132.2.2.1 bt132.2.2.2.1 y153).bind fun t154 => ((redpenref18_Check.f k bt132.1 bt132.2.1 bt132.2.2.1 bt132.2.2.2.1 y153).bind fun t155 => (some (t154 == t155))))) else (none)) else (none)) else (none)) else ((show_Check.f k bt132.1 bt132.2.1 bt132.2.2.1 bt132.2.2.2.1 bt132.2.2.2.2).bind fun t156 => ((redpenref18_Check.f k bt132.1 bt132.2.1 bt132.2.2.1 bt132.2.2.2.1 bt132.2.2.2.2).bind fun t157 => (some (t156 == t157))))) else (if (Int.tmod a2 10) = 6 then (if (bt132.2.2.2.2.length : Int) > 0 then (if 0 ≤ (wrap64 ((bt132.2.2.2.2.length : Int) / 2)) then (if (wrap64 ((bt132.2.2.2.2.length : Int) / 2)) < (bt132.2.2.2.2.length : Int) then ((some (bt132.2.2.2.2.set ((wrap64 ((bt132.2.2.2.2.length : Int) / 2)) : Int).toNat (⟨(rd_T29 bt132.2.2.2.2 (wrap64 ((bt132.2.2.2.2.length : Int) / 2))).f0, (rd_T29 bt132.2.2.2.2 (wrap64 ((bt132.2.2.2.2.length : Int) / 2))).f1, true⟩ : S29) : List (S29))).bind fun y158 => ((show_Check.f k bt132.1 bt132.2.1 bt132.2.2.1 bt132.2.2.2.1 y158).bind fun t159 => ((redpenref18_Check.f k bt132.1 bt132.2.1 bt132.2.2.1 bt132.2.2.2.1 y158).bind fun t160 => (some (t159 == t160))))) else (none)) else (none)) else ((show_Check.f k bt132.1 bt132.2.1 bt132.2.2.1 bt132.2.2.2.1 bt132.2.2.2.2).bind fun t161 => ((redpenref18_Check.f k bt132.1 bt132.2.1 bt132.2.2.1 bt132.2.2.2.1 bt132.2.2.2.2).bind fun t162 => (some (t161 == t162))))) else ((show_Check.f k bt132.1 bt132.2.1 bt132.2.2.1 bt132.2.2.2.1 bt132.2.2.2.2).bind fun t163 => ((redpenref18_Check.f k bt132.1 bt132.2.1 bt132.2.2.1 bt132.2.2.2.1 bt132.2.2.2.2).bind fun t164 => (some (t163 == t164))))))))))))) else (some false)) = some r := H
 have A5 := Aside0.mk A50
 clear A50
 by_cases c6 : t131 = true
 ·subst c6
  have H1 : (if (l0_4.length : Int) > 100 then (some true) else ((redpenlaw20_Tidied.f k a0_0 a0_1 a0_2 a0_3 l0_4 a1).bind fun bt132 => (if (Int.tmod a2 10) = 0 then ((show_Check.f k a3 bt132.2.1 bt132.2.2.1 bt132.2.2.2.1 bt132.2.2.2.2).bind fun t139 => ((redpenref18_Check.f k a3 bt132.2.1 bt132.2.2.1 bt132.2.2.2.1 bt132.2.2.2.2).bind fun t140 => (some (t139 == t140)))) else (if (Int.tmod a2 10) = 1 then ((show_Check.f k bt132.1 bt132.2.1 a3 bt132.2.2.2.1 bt132.2.2.2.2).bind fun t141 => ((redpenref18_Check.f k bt132.1 bt132.2.1 a3 bt132.2.2.2.1 bt132.2.2.2.2).bind fun t142 => (some (t141 == t142)))) else (if (Int.tmod a2 10) = 2 then ((show_Check.f k bt132.1 a3 bt132.2.2.1 bt132.2.2.2.1 bt132.2.2.2.2).bind fun t143 => ((redpenref18_Check.f k bt132.1 a3 bt132.2.2.1 bt132.2.2.2.1 bt132.2.2.2.2).bind fun t144 => (some (t143 == t144)))) else (if (Int.tmod a2 10) = 3 then ((show_Check.f k bt132.1 bt132.2.1 bt132.2.2.1 a3 bt132.2.2.2.2).bind fun t145 => ((redpenref18_Check.f k bt132.1 bt132.2.1 bt132.2.2.1 a3 bt132.2.2.2.2).bind fun t146 => (some (t145 == t146)))) else (if (Int.tmod a2 10) = 4 then (if (bt132.2.2.2.2.length : Int) > 0 then (if 0 < (bt132.2.2.2.2.length : Int) then ((some (bt132.2.2.2.2.set (0 : Int).toNat (⟨(a3) % 256, (rd_T29 bt132.2.2.2.2 0).f1, (rd_T29 bt132.2.2.2.2 0).f2⟩ : S29) : List (S29))).bind fun y147 => ((show_Check.f k bt132.1 bt132.2.1 bt132.2.2.1 bt132.2.2.2.1 y147).bind fun t148 => ((redpenref18_Check.f k bt132.1 bt132.2.1 bt132.2.2.1 bt132.2.2.2.1 y147).bind fun t149 => (some (t148 == t149))))) else (none)) else ((show_Check.f k bt132.1 bt132.2.1 bt132.2.2.1 bt132.2.2.2.1 bt132.2.2.2.2).bind fun t150 => ((redpenref18_Check.f k bt132.1 bt132.2.1 bt132.2.2.1 bt132.2.2.2.1 bt132.2.2.2.2).bind fun t151 => (some (t150 == t151))))) else (if (Int.tmod a2 10) = 5 then (if (bt132.2.2.2.2.length : Int) > 0 then (if 0 ≤ (wrap64 ((bt132.2.2.2.2.length : Int) / 2)) then (if (wrap64 ((bt132.2.2.2.2.length : Int) / 2)) < (bt132.2.2.2.2.length : Int) then (if ((rd_T29 bt132.2.2.2.2 (wrap64 ((bt132.2.2.2.2.length : Int) / 2))).f1).size + 1 ≤ 9223372036854775807 then ((some (bt132.2.2.2.2.set ((wrap64 ((bt132.2.2.2.2.length : Int) / 2)) : Int).toNat (⟨(rd_T29 bt132.2.2.2.2 (wrap64 ((bt132.2.2.2.2.length : Int) / 2))).f0, ((rd_T29 bt132.2.2.2.2 (wrap64 ((bt132.2.2.2.2.length : Int) / 2))).f1) ++ (⟨#[10]⟩ : ByteArray), (rd_T29 bt132.2.2.2.2 (wrap64 ((bt132.2.2.2.2.length : Int) / 2))).f2⟩ : S29) : List (S29))).bind fun y153 => ((show_Check.f k bt132.1 bt132.2.1 bt132.2.2.1 bt132.2.2.2.1 y153).bind fun t154 => ((redpenref18_Check.f k bt132.1 bt132.2.1 bt132.2.2.1 bt132.2.2.2.1 y153).bind fun t155 => (some (t154 == t155))))) else (none)) else (none)) else (none)) else ((show_Check.f k bt132.1 bt132.2.1 bt132.2.2.1 bt132.2.2.2.1 bt132.2.2.2.2).bind fun t156 => ((redpenref18_Check.f k bt132.1 bt132.2.1 bt132.2.2.1 bt132.2.2.2.1 bt132.2.2.2.2).bind fun t157 => (some (t156 == t157))))) else (if (Int.tmod a2 10) = 6 then (if (bt132.2.2.2.2.length : Int) > 0 then (if 0 ≤ (wrap64 ((bt132.2.2.2.2.length : Int) / 2)) then (if (wrap64 ((bt132.2.2.2.2.length : Int) / 2)) < (bt132.2.2.2.2.length : Int) then ((some (bt132.2.2.2.2.set ((wrap64 ((bt132.2.2.2.2.length : Int) / 2)) : Int).toNat (⟨(rd_T29 bt132.2.2.2.2 (wrap64 ((bt132.2.2.2.2.length : Int) / 2))).f0, (rd_T29 bt132.2.2.2.2 (wrap64 ((bt132.2.2.2.2.length : Int) / 2))).f1, true⟩ : S29) : List (S29))).bind fun y158 => ((show_Check.f k bt132.1 bt132.2.1 bt132.2.2.1 bt132.2.2.2.1 y158).bind fun t159 => ((redpenref18_Check.f k bt132.1 bt132.2.1 bt132.2.2.1 bt132.2.2.2.1 y158).bind fun t160 => (some (t159 == t160))))) else (none)) else (none)) else ((show_Check.f k bt132.1 bt132.2.1 bt132.2.2.1 bt132.2.2.2.1 bt132.2.2.2.2).bind fun t161 => ((redpenref18_Check.f k bt132.1 bt132.2.1 bt132.2.2.1 bt132.2.2.2.1 bt132.2.2.2.2).bind fun t162 => (some (t161 == t162))))) else ((show_Check.f k bt132.1 bt132.2.1 bt132.2.2.1 bt132.2.2.2.1 bt132.2.2.2.2).bind fun t163 => ((redpenref18_Check.f k bt132.1 bt132.2.1 bt132.2.2.1 bt132.2.2.2.1 bt132.2.2.2.2).bind fun t164 => (some (t163 == t164))))))))))))) = some r := by rw [if_pos rfl] at H; exact H
  clear H
  have H := H1
  clear H1
  by_cases c7 : (l0_4.length : Int) > 100
  ·rw [if_pos c7] at H
   have c7b0 : decide (100 < (l0_4.length : Int)) = true := decide_eq_true c7
   have c7b1 : decide (100 < l0_4.length) = true := decide_eq_true (by omega)
   clear c7
   obtain rfl := Option.some.inj H
   go_enter Tryd.func4, Tryd.ntmps4
   go_wp2_with (first | ((with_reducible refine gate_dst (N := 4) rfl ?_); refine box_event ?hg (N := 4) ?hd (cs := #[.int .i64 a0_0, .int .i64 a0_1, .int .i64 a0_2, .int .i64 a0_3, .slice A0_4 l0_4.length c0_4]) (t := 26) ?hr ?_; (case hd => rfl); (case hg => rfl); (case hr => first | (go_simp; done) | (go_simp; rfl)); intro gb130 hg w8 hbox hb; have n0_ := Aside0.mk (below_step (by repeat (first | (with_reducible first | exact HB.out | apply below_alloc | apply pw_below_drewN | apply below_drew1) | exact HB.out)) hb); have n1_ := Aside0.mk (hbox); have n2_ := Aside0.mk ((by rw [hg]; exact (below_size (by repeat (first | (with_reducible first | exact HB.out | apply below_alloc | apply pw_below_drewN | apply below_drew1) | exact HB.out))) : w.heap.size ≤ gb130)); have n3_ := Aside0.mk ((by rw [hg]; exact (below_size (by repeat (first | (with_reducible first | exact HB.out | apply below_alloc | apply pw_below_drewN | apply below_drew1) | exact HB.out))) : w.heap.size ≤ gb130)); clear HB; have HB := n0_; have BK130 := n1_; have GW130 := n2_; have GE130 := n3_; clear n0_ n1_ n2_ n3_; clear hb hbox hg) | ((with_reducible refine gate_callee (f := 12) rfl ?_); refine goesL_ (some 9) rfl rfl Tryd.func12 (by kernel_rfl) rfl #[] rfl (by (try simp only [List.map_toArray, List.map_cons, List.map_nil]); first | done | rfl | (simp only [List.length_drop, List.length_take]; rfl)) ?_; (with_reducible refine (redpenlaw20_Awake.calls  true _ A5.out).mono ?_); rintro e w9 ⟨rfl, hb⟩; refine ⟨_, rfl, ?_⟩; have n0_ := Aside0.mk (blk_below (g := gb130) (o := .cells #[.int .i64 a0_0, .int .i64 a0_1, .int .i64 a0_2, .int .i64 a0_3, .slice A0_4 l0_4.length c0_4] 26 (0, 0)) (by (with_reducible repeat (first | refine blk_drewN ?_ _ | refine blk_drew ?_ | refine blk_alloc ?_ _)); exact BK130.out) hb); have n1_ := Aside0.mk (below_step (by repeat (first | (with_reducible first | exact HB.out | apply below_alloc | apply pw_below_drewN | apply below_drew1 | refine below_set ?_ GE130.out) | exact HB.out)) hb); clear BK130; clear HB; have BK130 := n0_; have HB := n1_; clear n0_ n1_; (try clear hb); (try clear hb2); (try clear hk); (try clear hi); have hcz10_0 : w9.cell? ⟨gb130, 0, none⟩ = some (.int .i64 a0_0) := (blk_cell BK130.out 0).trans rfl; have hcz10_1 : w9.cell? ⟨gb130, 1, none⟩ = some (.int .i64 a0_1) := (blk_cell BK130.out 1).trans rfl; have hcz10_2 : w9.cell? ⟨gb130, 2, none⟩ = some (.int .i64 a0_2) := (blk_cell BK130.out 2).trans rfl; have hcz10_3 : w9.cell? ⟨gb130, 3, none⟩ = some (.int .i64 a0_3) := (blk_cell BK130.out 3).trans rfl; have hcz10_4 : w9.cell? ⟨gb130, 4, none⟩ = some (.slice A0_4 l0_4.length c0_4) := (blk_cell BK130.out 4).trans rfl; have hfz10_0 := blk_frozen BK130.out 0; have hfz10_1 := blk_frozen BK130.out 1; have hfz10_2 := blk_frozen BK130.out 2; have hfz10_3 := blk_frozen BK130.out 3; have hfz10_4 := blk_frozen BK130.out 4))
   go_ret
   exact ⟨by first | rfl | (simp [errW_none, errW_some] <;> rfl) | (simp [*, errW_none, errW_some] <;> rfl), by repeat (first | (with_reducible first | exact HB.out | apply below_alloc | apply pw_below_drewN | apply below_drew1 | refine below_set ?_ GE130.out) | exact HB.out)⟩
  ·rw [if_neg c7] at H
   have c7b0 : decide (100 < (l0_4.length : Int)) = false := decide_eq_false c7
   have c7b1 : decide (100 < l0_4.length) = false := decide_eq_false (by omega)
   clear c7
   replace H := Option.bind_eq_some_iff.mp H
   obtain ⟨⟨t132, t133, t134, t135, t136⟩, A110, H⟩ := H
   replace H : (if (Int.tmod a2 10) = 0 then ((show_Check.f k a3 t133 t134 t135 t136).bind fun t139 => ((redpenref18_Check.f k a3 t133 t134 t135 t136).bind fun t140 => (some (t139 == t140)))) else (if (Int.tmod a2 10) = 1 then ((show_Check.f k t132 t133 a3 t135 t136).bind fun t141 => ((redpenref18_Check.f k t132 t133 a3 t135 t136).bind fun t142 => (some (t141 == t142)))) else (if (Int.tmod a2 10) = 2 then ((show_Check.f k t132 a3 t134 t135 t136).bind fun t143 => ((redpenref18_Check.f k t132 a3 t134 t135 t136).bind fun t144 => (some (t143 == t144)))) else (if (Int.tmod a2 10) = 3 then ((show_Check.f k t132 t133 t134 a3 t136).bind fun t145 => ((redpenref18_Check.f k t132 t133 t134 a3 t136).bind fun t146 => (some (t145 == t146)))) else (if (Int.tmod a2 10) = 4 then (if (t136.length : Int) > 0 then (if 0 < (t136.length : Int) then ((some (t136.set (0 : Int).toNat (⟨(a3) % 256, (rd_T29 t136 0).f1, (rd_T29 t136 0).f2⟩ : S29) : List (S29))).bind fun y147 => ((show_Check.f k t132 t133 t134 t135 y147).bind fun t148 => ((redpenref18_Check.f k t132 t133 t134 t135 y147).bind fun t149 => (some (t148 == t149))))) else (none)) else ((show_Check.f k t132 t133 t134 t135 t136).bind fun t150 => ((redpenref18_Check.f k t132 t133 t134 t135 t136).bind fun t151 => (some (t150 == t151))))) else (if (Int.tmod a2 10) = 5 then (if (t136.length : Int) > 0 then (if 0 ≤ (wrap64 ((t136.length : Int) / 2)) then (if (wrap64 ((t136.length : Int) / 2)) < (t136.length : Int) then (if ((rd_T29 t136 (wrap64 ((t136.length : Int) / 2))).f1).size + 1 ≤ 9223372036854775807 then ((some (t136.set ((wrap64 ((t136.length : Int) / 2)) : Int).toNat (⟨(rd_T29 t136 (wrap64 ((t136.length : Int) / 2))).f0, ((rd_T29 t136 (wrap64 ((t136.length : Int) / 2))).f1) ++ (⟨#[10]⟩ : ByteArray), (rd_T29 t136 (wrap64 ((t136.length : Int) / 2))).f2⟩ : S29) : List (S29))).bind fun y153 => ((show_Check.f k t132 t133 t134 t135 y153).bind fun t154 => ((redpenref18_Check.f k t132 t133 t134 t135 y153).bind fun t155 => (some (t154 == t155))))) else (none)) else (none)) else (none)) else ((show_Check.f k t132 t133 t134 t135 t136).bind fun t156 => ((redpenref18_Check.f k t132 t133 t134 t135 t136).bind fun t157 => (some (t156 == t157))))) else (if (Int.tmod a2 10) = 6 then (if (t136.length : Int) > 0 then (if 0 ≤ (wrap64 ((t136.length : Int) / 2)) then (if (wrap64 ((t136.length : Int) / 2)) < (t136.length : Int) then ((some (t136.set ((wrap64 ((t136.length : Int) / 2)) : Int).toNat (⟨(rd_T29 t136 (wrap64 ((t136.length : Int) / 2))).f0, (rd_T29 t136 (wrap64 ((t136.length : Int) / 2))).f1, true⟩ : S29) : List (S29))).bind fun y158 => ((show_Check.f k t132 t133 t134 t135 y158).bind fun t159 => ((redpenref18_Check.f k t132 t133 t134 t135 y158).bind fun t160 => (some (t159 == t160))))) else (none)) else (none)) else ((show_Check.f k t132 t133 t134 t135 t136).bind fun t161 => ((redpenref18_Check.f k t132 t133 t134 t135 t136).bind fun t162 => (some (t161 == t162))))) else ((show_Check.f k t132 t133 t134 t135 t136).bind fun t163 => ((redpenref18_Check.f k t132 t133 t134 t135 t136).bind fun t164 => (some (t163 == t164))))))))))) = some r := H
   have A11 := Aside0.mk A110
   clear A110
   by_cases c12 : (Int.tmod a2 10) = 0
   ·rw [if_pos c12] at H
    have c12b0 : ((Int.tmod a2 10) == 0) = true := beq_iff_eq.mpr c12
    have c12b1 : ((Int.tmod a2 10) != 0) = false := bne_eq_false_iff_eq.mpr c12
    clear c12
    replace H := Option.bind_eq_some_iff.mp H
    obtain ⟨t139, A130, H⟩ := H
    replace H : ((redpenref18_Check.f k a3 t133 t134 t135 t136).bind fun t140 => (some (t139 == t140))) = some r := H
    have A13 := Aside0.mk A130
    clear A130
    replace H := Option.bind_eq_some_iff.mp H
    obtain ⟨t140, A140, H⟩ := H
    replace H : (some (t139 == t140)) = some r := H
    have A14 := Aside0.mk A140
    clear A140
    obtain rfl := Option.some.inj H
    go_enter Tryd.func4, Tryd.ntmps4
    try go_wp2_with (first | ((with_reducible refine gate_dst (N := 4) rfl ?_); refine box_event ?hg (N := 4) ?hd (cs := #[.int .i64 a0_0, .int .i64 a0_1, .int .i64 a0_2, .int .i64 a0_3, .slice A0_4 l0_4.length c0_4]) (t := 26) ?hr ?_; (case hd => rfl); (case hg => rfl); (case hr => first | (go_simp; done) | (go_simp; rfl)); intro gb130 hg w15 hbox hb; have n0_ := Aside0.mk (below_step (by repeat (first | (with_reducible first | exact HB.out | apply below_alloc | apply pw_below_drewN | apply below_drew1) | exact HB.out)) hb); have n1_ := Aside0.mk (hbox); have n2_ := Aside0.mk ((by rw [hg]; exact (below_size (by repeat (first | (with_reducible first | exact HB.out | apply below_alloc | apply pw_below_drewN | apply below_drew1) | exact HB.out))) : w.heap.size ≤ gb130)); have n3_ := Aside0.mk ((by rw [hg]; exact (below_size (by repeat (first | (with_reducible first | exact HB.out | apply below_alloc | apply pw_below_drewN | apply below_drew1) | exact HB.out))) : w.heap.size ≤ gb130)); clear HB; have HB := n0_; have BK130 := n1_; have GW130 := n2_; have GE130 := n3_; clear n0_ n1_ n2_ n3_; clear hb hbox hg) | ((with_reducible refine gate_callee (f := 12) rfl ?_); refine goesL_ (some 9) rfl rfl Tryd.func12 (by kernel_rfl) rfl #[] rfl (by (try simp only [List.map_toArray, List.map_cons, List.map_nil]); first | done | rfl | (simp only [List.length_drop, List.length_take]; rfl)) ?_; (with_reducible refine (redpenlaw20_Awake.calls  true _ A5.out).mono ?_); rintro e w16 ⟨rfl, hb⟩; refine ⟨_, rfl, ?_⟩; have n0_ := Aside0.mk (blk_below (g := gb130) (o := .cells #[.int .i64 a0_0, .int .i64 a0_1, .int .i64 a0_2, .int .i64 a0_3, .slice A0_4 l0_4.length c0_4] 26 (0, 0)) (by (with_reducible repeat (first | refine blk_drewN ?_ _ | refine blk_drew ?_ | refine blk_alloc ?_ _)); exact BK130.out) hb); have n1_ := Aside0.mk (below_step (by repeat (first | (with_reducible first | exact HB.out | apply below_alloc | apply pw_below_drewN | apply below_drew1 | refine below_set ?_ GE130.out) | exact HB.out)) hb); clear BK130; clear HB; have BK130 := n0_; have HB := n1_; clear n0_ n1_; (try clear hb); (try clear hb2); (try clear hk); (try clear hi); have hcz17_0 : w16.cell? ⟨gb130, 0, none⟩ = some (.int .i64 a0_0) := (blk_cell BK130.out 0).trans rfl; have hcz17_1 : w16.cell? ⟨gb130, 1, none⟩ = some (.int .i64 a0_1) := (blk_cell BK130.out 1).trans rfl; have hcz17_2 : w16.cell? ⟨gb130, 2, none⟩ = some (.int .i64 a0_2) := (blk_cell BK130.out 2).trans rfl; have hcz17_3 : w16.cell? ⟨gb130, 3, none⟩ = some (.int .i64 a0_3) := (blk_cell BK130.out 3).trans rfl; have hcz17_4 : w16.cell? ⟨gb130, 4, none⟩ = some (.slice A0_4 l0_4.length c0_4) := (blk_cell BK130.out 4).trans rfl; have hfz17_0 := blk_frozen BK130.out 0; have hfz17_1 := blk_frozen BK130.out 1; have hfz17_2 := blk_frozen BK130.out 2; have hfz17_3 := blk_frozen BK130.out 3; have hfz17_4 := blk_frozen BK130.out 4) | ((with_reducible refine gate_callee (f := 15) rfl ?_); refine goesL_ (some 17) rfl rfl Tryd.func15 (by kernel_rfl) rfl #[.agg #[.int .i64 a0_0, .int .i64 a0_1, .int .i64 a0_2, .int .i64 a0_3, .slice A0_4 l0_4.length c0_4], .bool a1] rfl (by (try simp only [List.map_toArray, List.map_cons, List.map_nil]); first | done | rfl | (simp only [List.length_drop, List.length_take]; rfl)) ?_; (with_reducible refine (redpenlaw20_Tidied.calls k a0_0 a0_1 a0_2 a0_3 _ _ l0_4 a1 t132 t133 t134 t135 t136 _ ?side1 ?side2 A11.out).mono ?_); (case side1 => repeat (first | exact (Kd.C_below HR0_4.out HB.out) | (with_reducible refine Kd.C_alloc ?_ _) | (with_reducible refine Kd.C_drewN ?_ _) | (with_reducible refine Kd.C_drew ?_))); (case side2 => exact HC0_4.out); rintro e w18 ⟨v137, rfl, ho0, hb⟩; refine ⟨_, rfl, ?_⟩; have n0_ := Aside0.mk (Kd.R_lower ho0 (below_size (by repeat (first | (with_reducible first | exact HB.out | apply below_alloc | apply pw_below_drewN | apply below_drew1 | refine below_set ?_ GE130.out) | exact HB.out)))); have n1_ := Aside0.mk (blk_below (g := gb130) (o := .cells #[.int .i64 a0_0, .int .i64 a0_1, .int .i64 a0_2, .int .i64 a0_3, .slice A0_4 l0_4.length c0_4] 26 (0, 0)) (by (with_reducible repeat (first | refine blk_drewN ?_ _ | refine blk_drew ?_ | refine blk_alloc ?_ _)); exact BK130.out) hb); have n2_ := Aside0.mk (below_step (by repeat (first | (with_reducible first | exact HB.out | apply below_alloc | apply pw_below_drewN | apply below_drew1 | refine below_set ?_ GE130.out) | exact HB.out)) hb); clear BK130; clear HB; have HO138 := n0_; have BK130 := n1_; have HB := n2_; clear n0_ n1_ n2_; (try clear hb); (try clear hb2); (try clear hk); (try clear hi); (try clear ho0); have hcz19_0 : w18.cell? ⟨gb130, 0, none⟩ = some (.int .i64 a0_0) := (blk_cell BK130.out 0).trans rfl; have hcz19_1 : w18.cell? ⟨gb130, 1, none⟩ = some (.int .i64 a0_1) := (blk_cell BK130.out 1).trans rfl; have hcz19_2 : w18.cell? ⟨gb130, 2, none⟩ = some (.int .i64 a0_2) := (blk_cell BK130.out 2).trans rfl; have hcz19_3 : w18.cell? ⟨gb130, 3, none⟩ = some (.int .i64 a0_3) := (blk_cell BK130.out 3).trans rfl; have hcz19_4 : w18.cell? ⟨gb130, 4, none⟩ = some (.slice A0_4 l0_4.length c0_4) := (blk_cell BK130.out 4).trans rfl; have hfz19_0 := blk_frozen BK130.out 0; have hfz19_1 := blk_frozen BK130.out 1; have hfz19_2 := blk_frozen BK130.out 2; have hfz19_3 := blk_frozen BK130.out 3; have hfz19_4 := blk_frozen BK130.out 4; obtain ⟨Ao20, co20, eo20⟩ := Kd.R_slice HO138.out; subst eo20))
    have n0_ : Aside0 (Kd.R k29 29 ((((((w18.setCell ⟨gb130, 0, none⟩ (.int .i64 t132)).setCell ⟨gb130, 1, none⟩ (.int .i64 t133)).setCell ⟨gb130, 2, none⟩ (.int .i64 t134)).setCell ⟨gb130, 3, none⟩ (.int .i64 t135)).setCell ⟨gb130, 4, none⟩ (.slice Ao20 t136.length co20)).setCell ⟨gb130, 0, none⟩ (.int .i64 a3)) w.heap.size (fun _ => True) (.slice Ao20 t136.length co20) t136) := ⟨by (with_reducible repeat (first | apply Kd.R_alloc | apply Kd.R_drewN | apply Kd.R_drew)); exact Kd.R_mono (Kd.R_far (p := ⟨gb130, 0, none⟩) (Kd.R_far (p := ⟨gb130, 4, none⟩) (Kd.R_far (p := ⟨gb130, 3, none⟩) (Kd.R_far (p := ⟨gb130, 2, none⟩) (Kd.R_far (p := ⟨gb130, 1, none⟩) (Kd.R_far (p := ⟨gb130, 0, none⟩) (Kd.R_types HO138.out BK130.out (by decide)) (fun _ hk => hk.2) (.int .i64 t132)) (fun _ hk => hk.2) (.int .i64 t133)) (fun _ hk => hk.2) (.int .i64 t134)) (fun _ hk => hk.2) (.int .i64 t135)) (fun _ hk => hk.2) (.slice Ao20 t136.length co20)) (fun _ hk => hk.2) (.int .i64 a3)) (fun _ hk => trivial)⟩
    have n1_ : Aside0 (((((((w18.setCell ⟨gb130, 0, none⟩ (.int .i64 t132)).setCell ⟨gb130, 1, none⟩ (.int .i64 t133)).setCell ⟨gb130, 2, none⟩ (.int .i64 t134)).setCell ⟨gb130, 3, none⟩ (.int .i64 t135)).setCell ⟨gb130, 4, none⟩ (.slice Ao20 t136.length co20)).setCell ⟨gb130, 0, none⟩ (.int .i64 a3)).heap[gb130]? = some (.cells #[.int .i64 a3, .int .i64 t133, .int .i64 t134, .int .i64 t135, .slice Ao20 t136.length co20] 26 (0, 0))) := ⟨by (with_reducible repeat (first | refine blk_drewN ?_ _ | refine blk_drew ?_ | refine blk_alloc ?_ _)); refine blk_put (cs := #[.int .i64 t132, .int .i64 t133, .int .i64 t134, .int .i64 t135, .slice Ao20 t136.length co20]) ?_ 0 _ rfl; (with_reducible repeat (first | refine blk_drewN ?_ _ | refine blk_drew ?_ | refine blk_alloc ?_ _)); refine blk_put (cs := #[.int .i64 t132, .int .i64 t133, .int .i64 t134, .int .i64 t135, .slice A0_4 l0_4.length c0_4]) ?_ 4 _ rfl; (with_reducible repeat (first | refine blk_drewN ?_ _ | refine blk_drew ?_ | refine blk_alloc ?_ _)); refine blk_put (cs := #[.int .i64 t132, .int .i64 t133, .int .i64 t134, .int .i64 a0_3, .slice A0_4 l0_4.length c0_4]) ?_ 3 _ rfl; (with_reducible repeat (first | refine blk_drewN ?_ _ | refine blk_drew ?_ | refine blk_alloc ?_ _)); refine blk_put (cs := #[.int .i64 t132, .int .i64 t133, .int .i64 a0_2, .int .i64 a0_3, .slice A0_4 l0_4.length c0_4]) ?_ 2 _ rfl; (with_reducible repeat (first | refine blk_drewN ?_ _ | refine blk_drew ?_ | refine blk_alloc ?_ _)); refine blk_put (cs := #[.int .i64 t132, .int .i64 a0_1, .int .i64 a0_2, .int .i64 a0_3, .slice A0_4 l0_4.length c0_4]) ?_ 1 _ rfl; (with_reducible repeat (first | refine blk_drewN ?_ _ | refine blk_drew ?_ | refine blk_alloc ?_ _)); refine blk_put (cs := #[.int .i64 a0_0, .int .i64 a0_1, .int .i64 a0_2, .int .i64 a0_3, .slice A0_4 l0_4.length c0_4]) ?_ 0 _ rfl; (with_reducible repeat (first | refine blk_drewN ?_ _ | refine blk_drew ?_ | refine blk_alloc ?_ _)); exact BK130.out⟩
    have n2_ : Aside0 (Below w.heap.size w ((((((w18.setCell ⟨gb130, 0, none⟩ (.int .i64 t132)).setCell ⟨gb130, 1, none⟩ (.int .i64 t133)).setCell ⟨gb130, 2, none⟩ (.int .i64 t134)).setCell ⟨gb130, 3, none⟩ (.int .i64 t135)).setCell ⟨gb130, 4, none⟩ (.slice Ao20 t136.length co20)).setCell ⟨gb130, 0, none⟩ (.int .i64 a3))) := ⟨by repeat (first | (with_reducible first | exact HB.out | apply below_alloc | apply pw_below_drewN | apply below_drew1 | refine below_set ?_ GE130.out) | exact HB.out)⟩
    (try clear HO138)
    (try clear BK130)
    (try clear HB)
    generalize ((((((w18.setCell ⟨gb130, 0, none⟩ (.int .i64 t132)).setCell ⟨gb130, 1, none⟩ (.int .i64 t133)).setCell ⟨gb130, 2, none⟩ (.int .i64 t134)).setCell ⟨gb130, 3, none⟩ (.int .i64 t135)).setCell ⟨gb130, 4, none⟩ (.slice Ao20 t136.length co20)).setCell ⟨gb130, 0, none⟩ (.int .i64 a3)) = w21 at n0_ n1_ n2_ ⊢
    have HO138 := n0_
    have BK130 := n1_
    have HB := n2_
    clear n0_ n1_ n2_
    have n0_ := Aside0.mk (Kd.R_drew HO138.out)
    have n1_ := Aside0.mk (blk_drew BK130.out)
    have n2_ := Aside0.mk (below_drew1 HB.out)
    clear HO138
    clear BK130
    clear HB
    have HO138 := n0_
    have BK130 := n1_
    have HB := n2_
    clear n0_ n1_ n2_
    refine start_ (n := 6) (S := fun w' => w'.cell? ⟨gb130, 0, none⟩ = some (.int .i64 a3) ∧ w'.cell? ⟨gb130, 1, none⟩ = some (.int .i64 t133) ∧ w'.cell? ⟨gb130, 2, none⟩ = some (.int .i64 t134) ∧ w'.cell? ⟨gb130, 3, none⟩ = some (.int .i64 t135) ∧ w'.cell? ⟨gb130, 4, none⟩ = some (.slice Ao20 t136.length co20)) (ds := []) #[false, false, false, false, false, false] (by kernel_rfl) rfl rfl ⟨(blk_cell BK130.out 0).trans rfl, (blk_cell BK130.out 1).trans rfl, (blk_cell BK130.out 2).trans rfl, (blk_cell BK130.out 3).trans rfl, (blk_cell BK130.out 4).trans rfl⟩ (fun hHeld => ?_)
    generalize w21.drew = w22 at HO138 BK130 HB hHeld ⊢
    refine take_ (i := 0) (N := some 80) (v := ?_) (a' := ?_) #[true, false, false, false, false, false] rfl rfl (by kernel_rfl) (fun _ _ _ h => h) (Or.inl ⟨by rfl, ?_⟩) hHeld ?_ ?_
    rotate_left
    ·rintro w' ⟨s0, s1, s2, s3, s4⟩
     go_simp
     with_reducible rfl
    rotate_left
    ·simp only [Act.put, List.setIfInBounds_toArray, List.set_cons_zero, List.set_cons_succ, i64_w, i32_w]
     rfl
    refine take_ (i := 2) (N := some 82) (v := ?_) (a' := ?_) #[true, false, true, false, false, false] rfl rfl (by kernel_rfl) (fun _ _ _ h => h) (Or.inl ⟨by rfl, ?_⟩) hHeld ?_ ?_
    rotate_left
    ·rintro w' ⟨s0, s1, s2, s3, s4⟩
     go_simp
     with_reducible rfl
    rotate_left
    ·simp only [Act.put, List.setIfInBounds_toArray, List.set_cons_zero, List.set_cons_succ, i64_w, i32_w]
     rfl
    refine one_ (i := 1) (N := some 81) #[true, true, true, false, false, false] rfl rfl (by kernel_rfl) (by decide) (fun K hK => ?_)
    refine goes_ Tryd.func16 (by kernel_rfl) rfl #[.agg #[.int .i64 a3, .int .i64 t133, .int .i64 t134, .int .i64 t135, .slice Ao20 t136.length co20]] (by rfl) rfl rfl (by (try simp only [List.map_toArray, List.map_cons, List.map_nil]); first | done | rfl | (simp only [List.length_drop, List.length_take]; rfl)) ?_
    with_reducible refine (show_Check.calls k a3 t133 t134 t135 _ _ t136 t139 _ ?side1 ?side2 A13.out).mono ?_
    (case side1 => repeat (first | exact (Kd.R_reads' HO138.out).2.2 | (with_reducible refine Kd.C_alloc ?_ _) | (with_reducible refine Kd.C_drewN ?_ _) | (with_reducible refine Kd.C_drew ?_)))
    (case side2 => exact (Kd.R_reads' HO138.out).2.1)
    rintro e w23 ⟨rfl, hb⟩
    refine ⟨_, rfl, ?_⟩
    have n0_ := Aside0.mk (Kd.R_below (by (with_reducible repeat (first | apply Kd.R_alloc | apply Kd.R_drewN | apply Kd.R_drew)); exact HO138.out) hb)
    have n1_ := Aside0.mk (blk_below (g := gb130) (o := .cells #[.int .i64 a3, .int .i64 t133, .int .i64 t134, .int .i64 t135, .slice Ao20 t136.length co20] 26 (0, 0)) (by (with_reducible repeat (first | refine blk_drewN ?_ _ | refine blk_drew ?_ | refine blk_alloc ?_ _)); exact BK130.out) hb)
    have n2_ := Aside0.mk (below_step (by repeat (first | (with_reducible first | exact HB.out | apply below_alloc | apply pw_below_drewN | apply below_drew1 | refine below_set ?_ GE130.out) | exact HB.out)) hb)
    clear HO138
    clear BK130
    clear HB
    have HO138 := n0_
    have BK130 := n1_
    have HB := n2_
    clear n0_ n1_ n2_
    (try clear hb)
    (try clear hb2)
    (try clear hk)
    (try clear hi)
    refine hK.out _ _ ⟨(blk_cell BK130.out 0).trans rfl, (blk_cell BK130.out 1).trans rfl, (blk_cell BK130.out 2).trans rfl, (blk_cell BK130.out 3).trans rfl, (blk_cell BK130.out 4).trans rfl⟩ (fun hHeld => ?_)
    clear hK K
    refine norm_ (a' := ?_) ?_ ?_
    rotate_left
    ·show Act.put _ (some 81) _ = _
     simp only [Act.put, List.setIfInBounds_toArray, List.set_cons_zero, List.set_cons_succ, i64_w, i32_w]
     rfl
    refine one_ (i := 3) (N := some 83) #[true, true, true, true, false, false] rfl rfl (by kernel_rfl) (by decide) (fun K hK => ?_)
    refine goes_ Tryd.func17 (by kernel_rfl) rfl #[.agg #[.int .i64 a3, .int .i64 t133, .int .i64 t134, .int .i64 t135, .slice Ao20 t136.length co20]] (by rfl) rfl rfl (by (try simp only [List.map_toArray, List.map_cons, List.map_nil]); first | done | rfl | (simp only [List.length_drop, List.length_take]; rfl)) ?_
    with_reducible refine (redpenref18_Check.calls k a3 t133 t134 t135 _ _ t136 t140 _ ?side1 ?side2 A14.out).mono ?_
    (case side1 => repeat (first | exact (Kd.R_reads' HO138.out).2.2 | (with_reducible refine Kd.C_alloc ?_ _) | (with_reducible refine Kd.C_drewN ?_ _) | (with_reducible refine Kd.C_drew ?_)))
    (case side2 => exact (Kd.R_reads' HO138.out).2.1)
    rintro e w24 ⟨rfl, hb⟩
    refine ⟨_, rfl, ?_⟩
    have n0_ := Aside0.mk (Kd.R_below (by (with_reducible repeat (first | apply Kd.R_alloc | apply Kd.R_drewN | apply Kd.R_drew)); exact HO138.out) hb)
    have n1_ := Aside0.mk (blk_below (g := gb130) (o := .cells #[.int .i64 a3, .int .i64 t133, .int .i64 t134, .int .i64 t135, .slice Ao20 t136.length co20] 26 (0, 0)) (by (with_reducible repeat (first | refine blk_drewN ?_ _ | refine blk_drew ?_ | refine blk_alloc ?_ _)); exact BK130.out) hb)
    have n2_ := Aside0.mk (below_step (by repeat (first | (with_reducible first | exact HB.out | apply below_alloc | apply pw_below_drewN | apply below_drew1 | refine below_set ?_ GE130.out) | exact HB.out)) hb)
    clear HO138
    clear BK130
    clear HB
    have HO138 := n0_
    have BK130 := n1_
    have HB := n2_
    clear n0_ n1_ n2_
    (try clear hb)
    (try clear hb2)
    (try clear hk)
    (try clear hi)
    refine hK.out _ _ ⟨(blk_cell BK130.out 0).trans rfl, (blk_cell BK130.out 1).trans rfl, (blk_cell BK130.out 2).trans rfl, (blk_cell BK130.out 3).trans rfl, (blk_cell BK130.out 4).trans rfl⟩ (fun hHeld => ?_)
    clear hK K
    refine norm_ (a' := ?_) ?_ ?_
    rotate_left
    ·show Act.put _ (some 83) _ = _
     simp only [Act.put, List.setIfInBounds_toArray, List.set_cons_zero, List.set_cons_succ, i64_w, i32_w]
     rfl
    refine pure_ (i := 4) (N := some 84) (v := ?_) (a' := ?_) #[true, true, true, true, true, false] rfl rfl (by kernel_rfl) (fun _ _ _ h => h) (Or.inl ⟨by rfl, ?_⟩) ?_ ?_
    rotate_left
    ·intro w'
     go_simp
     with_reducible rfl
    rotate_left
    ·simp only [Act.put, List.setIfInBounds_toArray, List.set_cons_zero, List.set_cons_succ, i64_w, i32_w]
     rfl
    refine pure_ (i := 5) (N := some 8) (v := ?_) (a' := ?_) #[true, true, true, true, true, true] rfl rfl (by kernel_rfl) (fun _ _ _ h => h) (Or.inl ⟨by rfl, ?_⟩) ?_ ?_
    rotate_left
    ·intro w'
     go_simp
     with_reducible rfl
    rotate_left
    ·simp only [Act.put, List.setIfInBounds_toArray, List.set_cons_zero, List.set_cons_succ, i64_w, i32_w]
     rfl
    refine done_ (by kernel_rfl) ?_
    try go_wp2
    go_ret
    exact ⟨by first | rfl | (simp [errW_none, errW_some] <;> rfl) | (simp [*, errW_none, errW_some] <;> rfl), by repeat (first | (with_reducible first | exact HB.out | apply below_alloc | apply pw_below_drewN | apply below_drew1 | refine below_set ?_ GE130.out) | exact HB.out)⟩
   ·rw [if_neg c12] at H
    have c12b0 : ((Int.tmod a2 10) == 0) = false := beq_eq_false_iff_ne.mpr c12
    have c12b1 : ((Int.tmod a2 10) != 0) = true := bne_iff_ne.mpr c12
    by_cases c25 : (Int.tmod a2 10) = 1
    ·rw [if_pos c25] at H
     have c25b0 : ((Int.tmod a2 10) == 1) = true := beq_iff_eq.mpr c25
     have c25b1 : ((Int.tmod a2 10) != 1) = false := bne_eq_false_iff_eq.mpr c25
     clear c25
     replace H := Option.bind_eq_some_iff.mp H
     obtain ⟨t141, A260, H⟩ := H
     replace H : ((redpenref18_Check.f k t132 t133 a3 t135 t136).bind fun t142 => (some (t141 == t142))) = some r := H
     have A26 := Aside0.mk A260
     clear A260
     replace H := Option.bind_eq_some_iff.mp H
     obtain ⟨t142, A270, H⟩ := H
     replace H : (some (t141 == t142)) = some r := H
     have A27 := Aside0.mk A270
     clear A270
     obtain rfl := Option.some.inj H
     go_enter Tryd.func4, Tryd.ntmps4
     try go_wp2_with (first | ((with_reducible refine gate_dst (N := 4) rfl ?_); refine box_event ?hg (N := 4) ?hd (cs := #[.int .i64 a0_0, .int .i64 a0_1, .int .i64 a0_2, .int .i64 a0_3, .slice A0_4 l0_4.length c0_4]) (t := 26) ?hr ?_; (case hd => rfl); (case hg => rfl); (case hr => first | (go_simp; done) | (go_simp; rfl)); intro gb130 hg w28 hbox hb; have n0_ := Aside0.mk (below_step (by repeat (first | (with_reducible first | exact HB.out | apply below_alloc | apply pw_below_drewN | apply below_drew1) | exact HB.out)) hb); have n1_ := Aside0.mk (hbox); have n2_ := Aside0.mk ((by rw [hg]; exact (below_size (by repeat (first | (with_reducible first | exact HB.out | apply below_alloc | apply pw_below_drewN | apply below_drew1) | exact HB.out))) : w.heap.size ≤ gb130)); have n3_ := Aside0.mk ((by rw [hg]; exact (below_size (by repeat (first | (with_reducible first | exact HB.out | apply below_alloc | apply pw_below_drewN | apply below_drew1) | exact HB.out))) : w.heap.size ≤ gb130)); clear HB; have HB := n0_; have BK130 := n1_; have GW130 := n2_; have GE130 := n3_; clear n0_ n1_ n2_ n3_; clear hb hbox hg) | ((with_reducible refine gate_callee (f := 12) rfl ?_); refine goesL_ (some 9) rfl rfl Tryd.func12 (by kernel_rfl) rfl #[] rfl (by (try simp only [List.map_toArray, List.map_cons, List.map_nil]); first | done | rfl | (simp only [List.length_drop, List.length_take]; rfl)) ?_; (with_reducible refine (redpenlaw20_Awake.calls  true _ A5.out).mono ?_); rintro e w29 ⟨rfl, hb⟩; refine ⟨_, rfl, ?_⟩; have n0_ := Aside0.mk (blk_below (g := gb130) (o := .cells #[.int .i64 a0_0, .int .i64 a0_1, .int .i64 a0_2, .int .i64 a0_3, .slice A0_4 l0_4.length c0_4] 26 (0, 0)) (by (with_reducible repeat (first | refine blk_drewN ?_ _ | refine blk_drew ?_ | refine blk_alloc ?_ _)); exact BK130.out) hb); have n1_ := Aside0.mk (below_step (by repeat (first | (with_reducible first | exact HB.out | apply below_alloc | apply pw_below_drewN | apply below_drew1 | refine below_set ?_ GE130.out) | exact HB.out)) hb); clear BK130; clear HB; have BK130 := n0_; have HB := n1_; clear n0_ n1_; (try clear hb); (try clear hb2); (try clear hk); (try clear hi); have hcz30_0 : w29.cell? ⟨gb130, 0, none⟩ = some (.int .i64 a0_0) := (blk_cell BK130.out 0).trans rfl; have hcz30_1 : w29.cell? ⟨gb130, 1, none⟩ = some (.int .i64 a0_1) := (blk_cell BK130.out 1).trans rfl; have hcz30_2 : w29.cell? ⟨gb130, 2, none⟩ = some (.int .i64 a0_2) := (blk_cell BK130.out 2).trans rfl; have hcz30_3 : w29.cell? ⟨gb130, 3, none⟩ = some (.int .i64 a0_3) := (blk_cell BK130.out 3).trans rfl; have hcz30_4 : w29.cell? ⟨gb130, 4, none⟩ = some (.slice A0_4 l0_4.length c0_4) := (blk_cell BK130.out 4).trans rfl; have hfz30_0 := blk_frozen BK130.out 0; have hfz30_1 := blk_frozen BK130.out 1; have hfz30_2 := blk_frozen BK130.out 2; have hfz30_3 := blk_frozen BK130.out 3; have hfz30_4 := blk_frozen BK130.out 4) | ((with_reducible refine gate_callee (f := 15) rfl ?_); refine goesL_ (some 17) rfl rfl Tryd.func15 (by kernel_rfl) rfl #[.agg #[.int .i64 a0_0, .int .i64 a0_1, .int .i64 a0_2, .int .i64 a0_3, .slice A0_4 l0_4.length c0_4], .bool a1] rfl (by (try simp only [List.map_toArray, List.map_cons, List.map_nil]); first | done | rfl | (simp only [List.length_drop, List.length_take]; rfl)) ?_; (with_reducible refine (redpenlaw20_Tidied.calls k a0_0 a0_1 a0_2 a0_3 _ _ l0_4 a1 t132 t133 t134 t135 t136 _ ?side1 ?side2 A11.out).mono ?_); (case side1 => repeat (first | exact (Kd.C_below HR0_4.out HB.out) | (with_reducible refine Kd.C_alloc ?_ _) | (with_reducible refine Kd.C_drewN ?_ _) | (with_reducible refine Kd.C_drew ?_))); (case side2 => exact HC0_4.out); rintro e w31 ⟨v137, rfl, ho0, hb⟩; refine ⟨_, rfl, ?_⟩; have n0_ := Aside0.mk (Kd.R_lower ho0 (below_size (by repeat (first | (with_reducible first | exact HB.out | apply below_alloc | apply pw_below_drewN | apply below_drew1 | refine below_set ?_ GE130.out) | exact HB.out)))); have n1_ := Aside0.mk (blk_below (g := gb130) (o := .cells #[.int .i64 a0_0, .int .i64 a0_1, .int .i64 a0_2, .int .i64 a0_3, .slice A0_4 l0_4.length c0_4] 26 (0, 0)) (by (with_reducible repeat (first | refine blk_drewN ?_ _ | refine blk_drew ?_ | refine blk_alloc ?_ _)); exact BK130.out) hb); have n2_ := Aside0.mk (below_step (by repeat (first | (with_reducible first | exact HB.out | apply below_alloc | apply pw_below_drewN | apply below_drew1 | refine below_set ?_ GE130.out) | exact HB.out)) hb); clear BK130; clear HB; have HO138 := n0_; have BK130 := n1_; have HB := n2_; clear n0_ n1_ n2_; (try clear hb); (try clear hb2); (try clear hk); (try clear hi); (try clear ho0); have hcz32_0 : w31.cell? ⟨gb130, 0, none⟩ = some (.int .i64 a0_0) := (blk_cell BK130.out 0).trans rfl; have hcz32_1 : w31.cell? ⟨gb130, 1, none⟩ = some (.int .i64 a0_1) := (blk_cell BK130.out 1).trans rfl; have hcz32_2 : w31.cell? ⟨gb130, 2, none⟩ = some (.int .i64 a0_2) := (blk_cell BK130.out 2).trans rfl; have hcz32_3 : w31.cell? ⟨gb130, 3, none⟩ = some (.int .i64 a0_3) := (blk_cell BK130.out 3).trans rfl; have hcz32_4 : w31.cell? ⟨gb130, 4, none⟩ = some (.slice A0_4 l0_4.length c0_4) := (blk_cell BK130.out 4).trans rfl; have hfz32_0 := blk_frozen BK130.out 0; have hfz32_1 := blk_frozen BK130.out 1; have hfz32_2 := blk_frozen BK130.out 2; have hfz32_3 := blk_frozen BK130.out 3; have hfz32_4 := blk_frozen BK130.out 4; obtain ⟨Ao33, co33, eo33⟩ := Kd.R_slice HO138.out; subst eo33))
     have n0_ : Aside0 (Kd.R k29 29 ((((((w31.setCell ⟨gb130, 0, none⟩ (.int .i64 t132)).setCell ⟨gb130, 1, none⟩ (.int .i64 t133)).setCell ⟨gb130, 2, none⟩ (.int .i64 t134)).setCell ⟨gb130, 3, none⟩ (.int .i64 t135)).setCell ⟨gb130, 4, none⟩ (.slice Ao33 t136.length co33)).setCell ⟨gb130, 2, none⟩ (.int .i64 a3)) w.heap.size (fun _ => True) (.slice Ao33 t136.length co33) t136) := ⟨by (with_reducible repeat (first | apply Kd.R_alloc | apply Kd.R_drewN | apply Kd.R_drew)); exact Kd.R_mono (Kd.R_far (p := ⟨gb130, 2, none⟩) (Kd.R_far (p := ⟨gb130, 4, none⟩) (Kd.R_far (p := ⟨gb130, 3, none⟩) (Kd.R_far (p := ⟨gb130, 2, none⟩) (Kd.R_far (p := ⟨gb130, 1, none⟩) (Kd.R_far (p := ⟨gb130, 0, none⟩) (Kd.R_types HO138.out BK130.out (by decide)) (fun _ hk => hk.2) (.int .i64 t132)) (fun _ hk => hk.2) (.int .i64 t133)) (fun _ hk => hk.2) (.int .i64 t134)) (fun _ hk => hk.2) (.int .i64 t135)) (fun _ hk => hk.2) (.slice Ao33 t136.length co33)) (fun _ hk => hk.2) (.int .i64 a3)) (fun _ hk => trivial)⟩
     have n1_ : Aside0 (((((((w31.setCell ⟨gb130, 0, none⟩ (.int .i64 t132)).setCell ⟨gb130, 1, none⟩ (.int .i64 t133)).setCell ⟨gb130, 2, none⟩ (.int .i64 t134)).setCell ⟨gb130, 3, none⟩ (.int .i64 t135)).setCell ⟨gb130, 4, none⟩ (.slice Ao33 t136.length co33)).setCell ⟨gb130, 2, none⟩ (.int .i64 a3)).heap[gb130]? = some (.cells #[.int .i64 t132, .int .i64 t133, .int .i64 a3, .int .i64 t135, .slice Ao33 t136.length co33] 26 (0, 0))) := ⟨by (with_reducible repeat (first | refine blk_drewN ?_ _ | refine blk_drew ?_ | refine blk_alloc ?_ _)); refine blk_put (cs := #[.int .i64 t132, .int .i64 t133, .int .i64 t134, .int .i64 t135, .slice Ao33 t136.length co33]) ?_ 2 _ rfl; (with_reducible repeat (first | refine blk_drewN ?_ _ | refine blk_drew ?_ | refine blk_alloc ?_ _)); refine blk_put (cs := #[.int .i64 t132, .int .i64 t133, .int .i64 t134, .int .i64 t135, .slice A0_4 l0_4.length c0_4]) ?_ 4 _ rfl; (with_reducible repeat (first | refine blk_drewN ?_ _ | refine blk_drew ?_ | refine blk_alloc ?_ _)); refine blk_put (cs := #[.int .i64 t132, .int .i64 t133, .int .i64 t134, .int .i64 a0_3, .slice A0_4 l0_4.length c0_4]) ?_ 3 _ rfl; (with_reducible repeat (first | refine blk_drewN ?_ _ | refine blk_drew ?_ | refine blk_alloc ?_ _)); refine blk_put (cs := #[.int .i64 t132, .int .i64 t133, .int .i64 a0_2, .int .i64 a0_3, .slice A0_4 l0_4.length c0_4]) ?_ 2 _ rfl; (with_reducible repeat (first | refine blk_drewN ?_ _ | refine blk_drew ?_ | refine blk_alloc ?_ _)); refine blk_put (cs := #[.int .i64 t132, .int .i64 a0_1, .int .i64 a0_2, .int .i64 a0_3, .slice A0_4 l0_4.length c0_4]) ?_ 1 _ rfl; (with_reducible repeat (first | refine blk_drewN ?_ _ | refine blk_drew ?_ | refine blk_alloc ?_ _)); refine blk_put (cs := #[.int .i64 a0_0, .int .i64 a0_1, .int .i64 a0_2, .int .i64 a0_3, .slice A0_4 l0_4.length c0_4]) ?_ 0 _ rfl; (with_reducible repeat (first | refine blk_drewN ?_ _ | refine blk_drew ?_ | refine blk_alloc ?_ _)); exact BK130.out⟩
     have n2_ : Aside0 (Below w.heap.size w ((((((w31.setCell ⟨gb130, 0, none⟩ (.int .i64 t132)).setCell ⟨gb130, 1, none⟩ (.int .i64 t133)).setCell ⟨gb130, 2, none⟩ (.int .i64 t134)).setCell ⟨gb130, 3, none⟩ (.int .i64 t135)).setCell ⟨gb130, 4, none⟩ (.slice Ao33 t136.length co33)).setCell ⟨gb130, 2, none⟩ (.int .i64 a3))) := ⟨by repeat (first | (with_reducible first | exact HB.out | apply below_alloc | apply pw_below_drewN | apply below_drew1 | refine below_set ?_ GE130.out) | exact HB.out)⟩
     (try clear HO138)
     (try clear BK130)
     (try clear HB)
     generalize ((((((w31.setCell ⟨gb130, 0, none⟩ (.int .i64 t132)).setCell ⟨gb130, 1, none⟩ (.int .i64 t133)).setCell ⟨gb130, 2, none⟩ (.int .i64 t134)).setCell ⟨gb130, 3, none⟩ (.int .i64 t135)).setCell ⟨gb130, 4, none⟩ (.slice Ao33 t136.length co33)).setCell ⟨gb130, 2, none⟩ (.int .i64 a3)) = w34 at n0_ n1_ n2_ ⊢
     have HO138 := n0_
     have BK130 := n1_
     have HB := n2_
     clear n0_ n1_ n2_
     have n0_ := Aside0.mk (Kd.R_drew HO138.out)
     have n1_ := Aside0.mk (blk_drew BK130.out)
     have n2_ := Aside0.mk (below_drew1 HB.out)
     clear HO138
     clear BK130
     clear HB
     have HO138 := n0_
     have BK130 := n1_
     have HB := n2_
     clear n0_ n1_ n2_
     refine start_ (n := 6) (S := fun w' => w'.cell? ⟨gb130, 0, none⟩ = some (.int .i64 t132) ∧ w'.cell? ⟨gb130, 1, none⟩ = some (.int .i64 t133) ∧ w'.cell? ⟨gb130, 2, none⟩ = some (.int .i64 a3) ∧ w'.cell? ⟨gb130, 3, none⟩ = some (.int .i64 t135) ∧ w'.cell? ⟨gb130, 4, none⟩ = some (.slice Ao33 t136.length co33)) (ds := []) #[false, false, false, false, false, false] (by kernel_rfl) rfl rfl ⟨(blk_cell BK130.out 0).trans rfl, (blk_cell BK130.out 1).trans rfl, (blk_cell BK130.out 2).trans rfl, (blk_cell BK130.out 3).trans rfl, (blk_cell BK130.out 4).trans rfl⟩ (fun hHeld => ?_)
     generalize w34.drew = w35 at HO138 BK130 HB hHeld ⊢
     refine take_ (i := 0) (N := some 80) (v := ?_) (a' := ?_) #[true, false, false, false, false, false] rfl rfl (by kernel_rfl) (fun _ _ _ h => h) (Or.inl ⟨by rfl, ?_⟩) hHeld ?_ ?_
     rotate_left
     ·rintro w' ⟨s0, s1, s2, s3, s4⟩
      go_simp
      with_reducible rfl
     rotate_left
     ·simp only [Act.put, List.setIfInBounds_toArray, List.set_cons_zero, List.set_cons_succ, i64_w, i32_w]
      rfl
     refine take_ (i := 2) (N := some 82) (v := ?_) (a' := ?_) #[true, false, true, false, false, false] rfl rfl (by kernel_rfl) (fun _ _ _ h => h) (Or.inl ⟨by rfl, ?_⟩) hHeld ?_ ?_
     rotate_left
     ·rintro w' ⟨s0, s1, s2, s3, s4⟩
      go_simp
      with_reducible rfl
     rotate_left
     ·simp only [Act.put, List.setIfInBounds_toArray, List.set_cons_zero, List.set_cons_succ, i64_w, i32_w]
      rfl
     refine one_ (i := 1) (N := some 81) #[true, true, true, false, false, false] rfl rfl (by kernel_rfl) (by decide) (fun K hK => ?_)
     refine goes_ Tryd.func16 (by kernel_rfl) rfl #[.agg #[.int .i64 t132, .int .i64 t133, .int .i64 a3, .int .i64 t135, .slice Ao33 t136.length co33]] (by rfl) rfl rfl (by (try simp only [List.map_toArray, List.map_cons, List.map_nil]); first | done | rfl | (simp only [List.length_drop, List.length_take]; rfl)) ?_
     with_reducible refine (show_Check.calls k t132 t133 a3 t135 _ _ t136 t141 _ ?side1 ?side2 A26.out).mono ?_
     (case side1 => repeat (first | exact (Kd.R_reads' HO138.out).2.2 | (with_reducible refine Kd.C_alloc ?_ _) | (with_reducible refine Kd.C_drewN ?_ _) | (with_reducible refine Kd.C_drew ?_)))
     (case side2 => exact (Kd.R_reads' HO138.out).2.1)
     rintro e w36 ⟨rfl, hb⟩
     refine ⟨_, rfl, ?_⟩
     have n0_ := Aside0.mk (Kd.R_below (by (with_reducible repeat (first | apply Kd.R_alloc | apply Kd.R_drewN | apply Kd.R_drew)); exact HO138.out) hb)
     have n1_ := Aside0.mk (blk_below (g := gb130) (o := .cells #[.int .i64 t132, .int .i64 t133, .int .i64 a3, .int .i64 t135, .slice Ao33 t136.length co33] 26 (0, 0)) (by (with_reducible repeat (first | refine blk_drewN ?_ _ | refine blk_drew ?_ | refine blk_alloc ?_ _)); exact BK130.out) hb)
     have n2_ := Aside0.mk (below_step (by repeat (first | (with_reducible first | exact HB.out | apply below_alloc | apply pw_below_drewN | apply below_drew1 | refine below_set ?_ GE130.out) | exact HB.out)) hb)
     clear HO138
     clear BK130
     clear HB
     have HO138 := n0_
     have BK130 := n1_
     have HB := n2_
     clear n0_ n1_ n2_
     (try clear hb)
     (try clear hb2)
     (try clear hk)
     (try clear hi)
     refine hK.out _ _ ⟨(blk_cell BK130.out 0).trans rfl, (blk_cell BK130.out 1).trans rfl, (blk_cell BK130.out 2).trans rfl, (blk_cell BK130.out 3).trans rfl, (blk_cell BK130.out 4).trans rfl⟩ (fun hHeld => ?_)
     clear hK K
     refine norm_ (a' := ?_) ?_ ?_
     rotate_left
     ·show Act.put _ (some 81) _ = _
      simp only [Act.put, List.setIfInBounds_toArray, List.set_cons_zero, List.set_cons_succ, i64_w, i32_w]
      rfl
     refine one_ (i := 3) (N := some 83) #[true, true, true, true, false, false] rfl rfl (by kernel_rfl) (by decide) (fun K hK => ?_)
     refine goes_ Tryd.func17 (by kernel_rfl) rfl #[.agg #[.int .i64 t132, .int .i64 t133, .int .i64 a3, .int .i64 t135, .slice Ao33 t136.length co33]] (by rfl) rfl rfl (by (try simp only [List.map_toArray, List.map_cons, List.map_nil]); first | done | rfl | (simp only [List.length_drop, List.length_take]; rfl)) ?_
     with_reducible refine (redpenref18_Check.calls k t132 t133 a3 t135 _ _ t136 t142 _ ?side1 ?side2 A27.out).mono ?_
     (case side1 => repeat (first | exact (Kd.R_reads' HO138.out).2.2 | (with_reducible refine Kd.C_alloc ?_ _) | (with_reducible refine Kd.C_drewN ?_ _) | (with_reducible refine Kd.C_drew ?_)))
     (case side2 => exact (Kd.R_reads' HO138.out).2.1)
     rintro e w37 ⟨rfl, hb⟩
     refine ⟨_, rfl, ?_⟩
     have n0_ := Aside0.mk (Kd.R_below (by (with_reducible repeat (first | apply Kd.R_alloc | apply Kd.R_drewN | apply Kd.R_drew)); exact HO138.out) hb)
     have n1_ := Aside0.mk (blk_below (g := gb130) (o := .cells #[.int .i64 t132, .int .i64 t133, .int .i64 a3, .int .i64 t135, .slice Ao33 t136.length co33] 26 (0, 0)) (by (with_reducible repeat (first | refine blk_drewN ?_ _ | refine blk_drew ?_ | refine blk_alloc ?_ _)); exact BK130.out) hb)
     have n2_ := Aside0.mk (below_step (by repeat (first | (with_reducible first | exact HB.out | apply below_alloc | apply pw_below_drewN | apply below_drew1 | refine below_set ?_ GE130.out) | exact HB.out)) hb)
     clear HO138
     clear BK130
     clear HB
     have HO138 := n0_
     have BK130 := n1_
     have HB := n2_
     clear n0_ n1_ n2_
     (try clear hb)
     (try clear hb2)
     (try clear hk)
     (try clear hi)
     refine hK.out _ _ ⟨(blk_cell BK130.out 0).trans rfl, (blk_cell BK130.out 1).trans rfl, (blk_cell BK130.out 2).trans rfl, (blk_cell BK130.out 3).trans rfl, (blk_cell BK130.out 4).trans rfl⟩ (fun hHeld => ?_)
     clear hK K
     refine norm_ (a' := ?_) ?_ ?_
     rotate_left
     ·show Act.put _ (some 83) _ = _
      simp only [Act.put, List.setIfInBounds_toArray, List.set_cons_zero, List.set_cons_succ, i64_w, i32_w]
      rfl
     refine pure_ (i := 4) (N := some 84) (v := ?_) (a' := ?_) #[true, true, true, true, true, false] rfl rfl (by kernel_rfl) (fun _ _ _ h => h) (Or.inl ⟨by rfl, ?_⟩) ?_ ?_
     rotate_left
     ·intro w'
      go_simp
      with_reducible rfl
     rotate_left
     ·simp only [Act.put, List.setIfInBounds_toArray, List.set_cons_zero, List.set_cons_succ, i64_w, i32_w]
      rfl
     refine pure_ (i := 5) (N := some 8) (v := ?_) (a' := ?_) #[true, true, true, true, true, true] rfl rfl (by kernel_rfl) (fun _ _ _ h => h) (Or.inl ⟨by rfl, ?_⟩) ?_ ?_
     rotate_left
     ·intro w'
      go_simp
      with_reducible rfl
     rotate_left
     ·simp only [Act.put, List.setIfInBounds_toArray, List.set_cons_zero, List.set_cons_succ, i64_w, i32_w]
      rfl
     refine done_ (by kernel_rfl) ?_
     try go_wp2
     go_ret
     exact ⟨by first | rfl | (simp [errW_none, errW_some] <;> rfl) | (simp [*, errW_none, errW_some] <;> rfl), by repeat (first | (with_reducible first | exact HB.out | apply below_alloc | apply pw_below_drewN | apply below_drew1 | refine below_set ?_ GE130.out) | exact HB.out)⟩
    ·rw [if_neg c25] at H
     have c25b0 : ((Int.tmod a2 10) == 1) = false := beq_eq_false_iff_ne.mpr c25
     have c25b1 : ((Int.tmod a2 10) != 1) = true := bne_iff_ne.mpr c25
     by_cases c38 : (Int.tmod a2 10) = 2
     ·rw [if_pos c38] at H
      have c38b0 : ((Int.tmod a2 10) == 2) = true := beq_iff_eq.mpr c38
      have c38b1 : ((Int.tmod a2 10) != 2) = false := bne_eq_false_iff_eq.mpr c38
      clear c38
      replace H := Option.bind_eq_some_iff.mp H
      obtain ⟨t143, A390, H⟩ := H
      replace H : ((redpenref18_Check.f k t132 a3 t134 t135 t136).bind fun t144 => (some (t143 == t144))) = some r := H
      have A39 := Aside0.mk A390
      clear A390
      replace H := Option.bind_eq_some_iff.mp H
      obtain ⟨t144, A400, H⟩ := H
      replace H : (some (t143 == t144)) = some r := H
      have A40 := Aside0.mk A400
      clear A400
      obtain rfl := Option.some.inj H
      go_enter Tryd.func4, Tryd.ntmps4
      try go_wp2_with (first | ((with_reducible refine gate_dst (N := 4) rfl ?_); refine box_event ?hg (N := 4) ?hd (cs := #[.int .i64 a0_0, .int .i64 a0_1, .int .i64 a0_2, .int .i64 a0_3, .slice A0_4 l0_4.length c0_4]) (t := 26) ?hr ?_; (case hd => rfl); (case hg => rfl); (case hr => first | (go_simp; done) | (go_simp; rfl)); intro gb130 hg w41 hbox hb; have n0_ := Aside0.mk (below_step (by repeat (first | (with_reducible first | exact HB.out | apply below_alloc | apply pw_below_drewN | apply below_drew1) | exact HB.out)) hb); have n1_ := Aside0.mk (hbox); have n2_ := Aside0.mk ((by rw [hg]; exact (below_size (by repeat (first | (with_reducible first | exact HB.out | apply below_alloc | apply pw_below_drewN | apply below_drew1) | exact HB.out))) : w.heap.size ≤ gb130)); have n3_ := Aside0.mk ((by rw [hg]; exact (below_size (by repeat (first | (with_reducible first | exact HB.out | apply below_alloc | apply pw_below_drewN | apply below_drew1) | exact HB.out))) : w.heap.size ≤ gb130)); clear HB; have HB := n0_; have BK130 := n1_; have GW130 := n2_; have GE130 := n3_; clear n0_ n1_ n2_ n3_; clear hb hbox hg) | ((with_reducible refine gate_callee (f := 12) rfl ?_); refine goesL_ (some 9) rfl rfl Tryd.func12 (by kernel_rfl) rfl #[] rfl (by (try simp only [List.map_toArray, List.map_cons, List.map_nil]); first | done | rfl | (simp only [List.length_drop, List.length_take]; rfl)) ?_; (with_reducible refine (redpenlaw20_Awake.calls  true _ A5.out).mono ?_); rintro e w42 ⟨rfl, hb⟩; refine ⟨_, rfl, ?_⟩; have n0_ := Aside0.mk (blk_below (g := gb130) (o := .cells #[.int .i64 a0_0, .int .i64 a0_1, .int .i64 a0_2, .int .i64 a0_3, .slice A0_4 l0_4.length c0_4] 26 (0, 0)) (by (with_reducible repeat (first | refine blk_drewN ?_ _ | refine blk_drew ?_ | refine blk_alloc ?_ _)); exact BK130.out) hb); have n1_ := Aside0.mk (below_step (by repeat (first | (with_reducible first | exact HB.out | apply below_alloc | apply pw_below_drewN | apply below_drew1 | refine below_set ?_ GE130.out) | exact HB.out)) hb); clear BK130; clear HB; have BK130 := n0_; have HB := n1_; clear n0_ n1_; (try clear hb); (try clear hb2); (try clear hk); (try clear hi); have hcz43_0 : w42.cell? ⟨gb130, 0, none⟩ = some (.int .i64 a0_0) := (blk_cell BK130.out 0).trans rfl; have hcz43_1 : w42.cell? ⟨gb130, 1, none⟩ = some (.int .i64 a0_1) := (blk_cell BK130.out 1).trans rfl; have hcz43_2 : w42.cell? ⟨gb130, 2, none⟩ = some (.int .i64 a0_2) := (blk_cell BK130.out 2).trans rfl; have hcz43_3 : w42.cell? ⟨gb130, 3, none⟩ = some (.int .i64 a0_3) := (blk_cell BK130.out 3).trans rfl; have hcz43_4 : w42.cell? ⟨gb130, 4, none⟩ = some (.slice A0_4 l0_4.length c0_4) := (blk_cell BK130.out 4).trans rfl; have hfz43_0 := blk_frozen BK130.out 0; have hfz43_1 := blk_frozen BK130.out 1; have hfz43_2 := blk_frozen BK130.out 2; have hfz43_3 := blk_frozen BK130.out 3; have hfz43_4 := blk_frozen BK130.out 4) | ((with_reducible refine gate_callee (f := 15) rfl ?_); refine goesL_ (some 17) rfl rfl Tryd.func15 (by kernel_rfl) rfl #[.agg #[.int .i64 a0_0, .int .i64 a0_1, .int .i64 a0_2, .int .i64 a0_3, .slice A0_4 l0_4.length c0_4], .bool a1] rfl (by (try simp only [List.map_toArray, List.map_cons, List.map_nil]); first | done | rfl | (simp only [List.length_drop, List.length_take]; rfl)) ?_; (with_reducible refine (redpenlaw20_Tidied.calls k a0_0 a0_1 a0_2 a0_3 _ _ l0_4 a1 t132 t133 t134 t135 t136 _ ?side1 ?side2 A11.out).mono ?_); (case side1 => repeat (first | exact (Kd.C_below HR0_4.out HB.out) | (with_reducible refine Kd.C_alloc ?_ _) | (with_reducible refine Kd.C_drewN ?_ _) | (with_reducible refine Kd.C_drew ?_))); (case side2 => exact HC0_4.out); rintro e w44 ⟨v137, rfl, ho0, hb⟩; refine ⟨_, rfl, ?_⟩; have n0_ := Aside0.mk (Kd.R_lower ho0 (below_size (by repeat (first | (with_reducible first | exact HB.out | apply below_alloc | apply pw_below_drewN | apply below_drew1 | refine below_set ?_ GE130.out) | exact HB.out)))); have n1_ := Aside0.mk (blk_below (g := gb130) (o := .cells #[.int .i64 a0_0, .int .i64 a0_1, .int .i64 a0_2, .int .i64 a0_3, .slice A0_4 l0_4.length c0_4] 26 (0, 0)) (by (with_reducible repeat (first | refine blk_drewN ?_ _ | refine blk_drew ?_ | refine blk_alloc ?_ _)); exact BK130.out) hb); have n2_ := Aside0.mk (below_step (by repeat (first | (with_reducible first | exact HB.out | apply below_alloc | apply pw_below_drewN | apply below_drew1 | refine below_set ?_ GE130.out) | exact HB.out)) hb); clear BK130; clear HB; have HO138 := n0_; have BK130 := n1_; have HB := n2_; clear n0_ n1_ n2_; (try clear hb); (try clear hb2); (try clear hk); (try clear hi); (try clear ho0); have hcz45_0 : w44.cell? ⟨gb130, 0, none⟩ = some (.int .i64 a0_0) := (blk_cell BK130.out 0).trans rfl; have hcz45_1 : w44.cell? ⟨gb130, 1, none⟩ = some (.int .i64 a0_1) := (blk_cell BK130.out 1).trans rfl; have hcz45_2 : w44.cell? ⟨gb130, 2, none⟩ = some (.int .i64 a0_2) := (blk_cell BK130.out 2).trans rfl; have hcz45_3 : w44.cell? ⟨gb130, 3, none⟩ = some (.int .i64 a0_3) := (blk_cell BK130.out 3).trans rfl; have hcz45_4 : w44.cell? ⟨gb130, 4, none⟩ = some (.slice A0_4 l0_4.length c0_4) := (blk_cell BK130.out 4).trans rfl; have hfz45_0 := blk_frozen BK130.out 0; have hfz45_1 := blk_frozen BK130.out 1; have hfz45_2 := blk_frozen BK130.out 2; have hfz45_3 := blk_frozen BK130.out 3; have hfz45_4 := blk_frozen BK130.out 4; obtain ⟨Ao46, co46, eo46⟩ := Kd.R_slice HO138.out; subst eo46))
      have n0_ : Aside0 (Kd.R k29 29 ((((((w44.setCell ⟨gb130, 0, none⟩ (.int .i64 t132)).setCell ⟨gb130, 1, none⟩ (.int .i64 t133)).setCell ⟨gb130, 2, none⟩ (.int .i64 t134)).setCell ⟨gb130, 3, none⟩ (.int .i64 t135)).setCell ⟨gb130, 4, none⟩ (.slice Ao46 t136.length co46)).setCell ⟨gb130, 1, none⟩ (.int .i64 a3)) w.heap.size (fun _ => True) (.slice Ao46 t136.length co46) t136) := ⟨by (with_reducible repeat (first | apply Kd.R_alloc | apply Kd.R_drewN | apply Kd.R_drew)); exact Kd.R_mono (Kd.R_far (p := ⟨gb130, 1, none⟩) (Kd.R_far (p := ⟨gb130, 4, none⟩) (Kd.R_far (p := ⟨gb130, 3, none⟩) (Kd.R_far (p := ⟨gb130, 2, none⟩) (Kd.R_far (p := ⟨gb130, 1, none⟩) (Kd.R_far (p := ⟨gb130, 0, none⟩) (Kd.R_types HO138.out BK130.out (by decide)) (fun _ hk => hk.2) (.int .i64 t132)) (fun _ hk => hk.2) (.int .i64 t133)) (fun _ hk => hk.2) (.int .i64 t134)) (fun _ hk => hk.2) (.int .i64 t135)) (fun _ hk => hk.2) (.slice Ao46 t136.length co46)) (fun _ hk => hk.2) (.int .i64 a3)) (fun _ hk => trivial)⟩
      have n1_ : Aside0 (((((((w44.setCell ⟨gb130, 0, none⟩ (.int .i64 t132)).setCell ⟨gb130, 1, none⟩ (.int .i64 t133)).setCell ⟨gb130, 2, none⟩ (.int .i64 t134)).setCell ⟨gb130, 3, none⟩ (.int .i64 t135)).setCell ⟨gb130, 4, none⟩ (.slice Ao46 t136.length co46)).setCell ⟨gb130, 1, none⟩ (.int .i64 a3)).heap[gb130]? = some (.cells #[.int .i64 t132, .int .i64 a3, .int .i64 t134, .int .i64 t135, .slice Ao46 t136.length co46] 26 (0, 0))) := ⟨by (with_reducible repeat (first | refine blk_drewN ?_ _ | refine blk_drew ?_ | refine blk_alloc ?_ _)); refine blk_put (cs := #[.int .i64 t132, .int .i64 t133, .int .i64 t134, .int .i64 t135, .slice Ao46 t136.length co46]) ?_ 1 _ rfl; (with_reducible repeat (first | refine blk_drewN ?_ _ | refine blk_drew ?_ | refine blk_alloc ?_ _)); refine blk_put (cs := #[.int .i64 t132, .int .i64 t133, .int .i64 t134, .int .i64 t135, .slice A0_4 l0_4.length c0_4]) ?_ 4 _ rfl; (with_reducible repeat (first | refine blk_drewN ?_ _ | refine blk_drew ?_ | refine blk_alloc ?_ _)); refine blk_put (cs := #[.int .i64 t132, .int .i64 t133, .int .i64 t134, .int .i64 a0_3, .slice A0_4 l0_4.length c0_4]) ?_ 3 _ rfl; (with_reducible repeat (first | refine blk_drewN ?_ _ | refine blk_drew ?_ | refine blk_alloc ?_ _)); refine blk_put (cs := #[.int .i64 t132, .int .i64 t133, .int .i64 a0_2, .int .i64 a0_3, .slice A0_4 l0_4.length c0_4]) ?_ 2 _ rfl; (with_reducible repeat (first | refine blk_drewN ?_ _ | refine blk_drew ?_ | refine blk_alloc ?_ _)); refine blk_put (cs := #[.int .i64 t132, .int .i64 a0_1, .int .i64 a0_2, .int .i64 a0_3, .slice A0_4 l0_4.length c0_4]) ?_ 1 _ rfl; (with_reducible repeat (first | refine blk_drewN ?_ _ | refine blk_drew ?_ | refine blk_alloc ?_ _)); refine blk_put (cs := #[.int .i64 a0_0, .int .i64 a0_1, .int .i64 a0_2, .int .i64 a0_3, .slice A0_4 l0_4.length c0_4]) ?_ 0 _ rfl; (with_reducible repeat (first | refine blk_drewN ?_ _ | refine blk_drew ?_ | refine blk_alloc ?_ _)); exact BK130.out⟩
      have n2_ : Aside0 (Below w.heap.size w ((((((w44.setCell ⟨gb130, 0, none⟩ (.int .i64 t132)).setCell ⟨gb130, 1, none⟩ (.int .i64 t133)).setCell ⟨gb130, 2, none⟩ (.int .i64 t134)).setCell ⟨gb130, 3, none⟩ (.int .i64 t135)).setCell ⟨gb130, 4, none⟩ (.slice Ao46 t136.length co46)).setCell ⟨gb130, 1, none⟩ (.int .i64 a3))) := ⟨by repeat (first | (with_reducible first | exact HB.out | apply below_alloc | apply pw_below_drewN | apply below_drew1 | refine below_set ?_ GE130.out) | exact HB.out)⟩
      (try clear HO138)
      (try clear BK130)
      (try clear HB)
      generalize ((((((w44.setCell ⟨gb130, 0, none⟩ (.int .i64 t132)).setCell ⟨gb130, 1, none⟩ (.int .i64 t133)).setCell ⟨gb130, 2, none⟩ (.int .i64 t134)).setCell ⟨gb130, 3, none⟩ (.int .i64 t135)).setCell ⟨gb130, 4, none⟩ (.slice Ao46 t136.length co46)).setCell ⟨gb130, 1, none⟩ (.int .i64 a3)) = w47 at n0_ n1_ n2_ ⊢
      have HO138 := n0_
      have BK130 := n1_
      have HB := n2_
      clear n0_ n1_ n2_
      have n0_ := Aside0.mk (Kd.R_drew HO138.out)
      have n1_ := Aside0.mk (blk_drew BK130.out)
      have n2_ := Aside0.mk (below_drew1 HB.out)
      clear HO138
      clear BK130
      clear HB
      have HO138 := n0_
      have BK130 := n1_
      have HB := n2_
      clear n0_ n1_ n2_
      refine start_ (n := 6) (S := fun w' => w'.cell? ⟨gb130, 0, none⟩ = some (.int .i64 t132) ∧ w'.cell? ⟨gb130, 1, none⟩ = some (.int .i64 a3) ∧ w'.cell? ⟨gb130, 2, none⟩ = some (.int .i64 t134) ∧ w'.cell? ⟨gb130, 3, none⟩ = some (.int .i64 t135) ∧ w'.cell? ⟨gb130, 4, none⟩ = some (.slice Ao46 t136.length co46)) (ds := []) #[false, false, false, false, false, false] (by kernel_rfl) rfl rfl ⟨(blk_cell BK130.out 0).trans rfl, (blk_cell BK130.out 1).trans rfl, (blk_cell BK130.out 2).trans rfl, (blk_cell BK130.out 3).trans rfl, (blk_cell BK130.out 4).trans rfl⟩ (fun hHeld => ?_)
      generalize w47.drew = w48 at HO138 BK130 HB hHeld ⊢
      refine take_ (i := 0) (N := some 80) (v := ?_) (a' := ?_) #[true, false, false, false, false, false] rfl rfl (by kernel_rfl) (fun _ _ _ h => h) (Or.inl ⟨by rfl, ?_⟩) hHeld ?_ ?_
      rotate_left
      ·rintro w' ⟨s0, s1, s2, s3, s4⟩
       go_simp
       with_reducible rfl
      rotate_left
      ·simp only [Act.put, List.setIfInBounds_toArray, List.set_cons_zero, List.set_cons_succ, i64_w, i32_w]
       rfl
      refine take_ (i := 2) (N := some 82) (v := ?_) (a' := ?_) #[true, false, true, false, false, false] rfl rfl (by kernel_rfl) (fun _ _ _ h => h) (Or.inl ⟨by rfl, ?_⟩) hHeld ?_ ?_
      rotate_left
      ·rintro w' ⟨s0, s1, s2, s3, s4⟩
       go_simp
       with_reducible rfl
      rotate_left
      ·simp only [Act.put, List.setIfInBounds_toArray, List.set_cons_zero, List.set_cons_succ, i64_w, i32_w]
       rfl
      refine one_ (i := 1) (N := some 81) #[true, true, true, false, false, false] rfl rfl (by kernel_rfl) (by decide) (fun K hK => ?_)
      refine goes_ Tryd.func16 (by kernel_rfl) rfl #[.agg #[.int .i64 t132, .int .i64 a3, .int .i64 t134, .int .i64 t135, .slice Ao46 t136.length co46]] (by rfl) rfl rfl (by (try simp only [List.map_toArray, List.map_cons, List.map_nil]); first | done | rfl | (simp only [List.length_drop, List.length_take]; rfl)) ?_
      with_reducible refine (show_Check.calls k t132 a3 t134 t135 _ _ t136 t143 _ ?side1 ?side2 A39.out).mono ?_
      (case side1 => repeat (first | exact (Kd.R_reads' HO138.out).2.2 | (with_reducible refine Kd.C_alloc ?_ _) | (with_reducible refine Kd.C_drewN ?_ _) | (with_reducible refine Kd.C_drew ?_)))
      (case side2 => exact (Kd.R_reads' HO138.out).2.1)
      rintro e w49 ⟨rfl, hb⟩
      refine ⟨_, rfl, ?_⟩
      have n0_ := Aside0.mk (Kd.R_below (by (with_reducible repeat (first | apply Kd.R_alloc | apply Kd.R_drewN | apply Kd.R_drew)); exact HO138.out) hb)
      have n1_ := Aside0.mk (blk_below (g := gb130) (o := .cells #[.int .i64 t132, .int .i64 a3, .int .i64 t134, .int .i64 t135, .slice Ao46 t136.length co46] 26 (0, 0)) (by (with_reducible repeat (first | refine blk_drewN ?_ _ | refine blk_drew ?_ | refine blk_alloc ?_ _)); exact BK130.out) hb)
      have n2_ := Aside0.mk (below_step (by repeat (first | (with_reducible first | exact HB.out | apply below_alloc | apply pw_below_drewN | apply below_drew1 | refine below_set ?_ GE130.out) | exact HB.out)) hb)
      clear HO138
      clear BK130
      clear HB
      have HO138 := n0_
      have BK130 := n1_
      have HB := n2_
      clear n0_ n1_ n2_
      (try clear hb)
      (try clear hb2)
      (try clear hk)
      (try clear hi)
      refine hK.out _ _ ⟨(blk_cell BK130.out 0).trans rfl, (blk_cell BK130.out 1).trans rfl, (blk_cell BK130.out 2).trans rfl, (blk_cell BK130.out 3).trans rfl, (blk_cell BK130.out 4).trans rfl⟩ (fun hHeld => ?_)
      clear hK K
      refine norm_ (a' := ?_) ?_ ?_
      rotate_left
      ·show Act.put _ (some 81) _ = _
       simp only [Act.put, List.setIfInBounds_toArray, List.set_cons_zero, List.set_cons_succ, i64_w, i32_w]
       rfl
      refine one_ (i := 3) (N := some 83) #[true, true, true, true, false, false] rfl rfl (by kernel_rfl) (by decide) (fun K hK => ?_)
      refine goes_ Tryd.func17 (by kernel_rfl) rfl #[.agg #[.int .i64 t132, .int .i64 a3, .int .i64 t134, .int .i64 t135, .slice Ao46 t136.length co46]] (by rfl) rfl rfl (by (try simp only [List.map_toArray, List.map_cons, List.map_nil]); first | done | rfl | (simp only [List.length_drop, List.length_take]; rfl)) ?_
      with_reducible refine (redpenref18_Check.calls k t132 a3 t134 t135 _ _ t136 t144 _ ?side1 ?side2 A40.out).mono ?_
      (case side1 => repeat (first | exact (Kd.R_reads' HO138.out).2.2 | (with_reducible refine Kd.C_alloc ?_ _) | (with_reducible refine Kd.C_drewN ?_ _) | (with_reducible refine Kd.C_drew ?_)))
      (case side2 => exact (Kd.R_reads' HO138.out).2.1)
      rintro e w50 ⟨rfl, hb⟩
      refine ⟨_, rfl, ?_⟩
      have n0_ := Aside0.mk (Kd.R_below (by (with_reducible repeat (first | apply Kd.R_alloc | apply Kd.R_drewN | apply Kd.R_drew)); exact HO138.out) hb)
      have n1_ := Aside0.mk (blk_below (g := gb130) (o := .cells #[.int .i64 t132, .int .i64 a3, .int .i64 t134, .int .i64 t135, .slice Ao46 t136.length co46] 26 (0, 0)) (by (with_reducible repeat (first | refine blk_drewN ?_ _ | refine blk_drew ?_ | refine blk_alloc ?_ _)); exact BK130.out) hb)
      have n2_ := Aside0.mk (below_step (by repeat (first | (with_reducible first | exact HB.out | apply below_alloc | apply pw_below_drewN | apply below_drew1 | refine below_set ?_ GE130.out) | exact HB.out)) hb)
      clear HO138
      clear BK130
      clear HB
      have HO138 := n0_
      have BK130 := n1_
      have HB := n2_
      clear n0_ n1_ n2_
      (try clear hb)
      (try clear hb2)
      (try clear hk)
      (try clear hi)
      refine hK.out _ _ ⟨(blk_cell BK130.out 0).trans rfl, (blk_cell BK130.out 1).trans rfl, (blk_cell BK130.out 2).trans rfl, (blk_cell BK130.out 3).trans rfl, (blk_cell BK130.out 4).trans rfl⟩ (fun hHeld => ?_)
      clear hK K
      refine norm_ (a' := ?_) ?_ ?_
      rotate_left
      ·show Act.put _ (some 83) _ = _
       simp only [Act.put, List.setIfInBounds_toArray, List.set_cons_zero, List.set_cons_succ, i64_w, i32_w]
       rfl
      refine pure_ (i := 4) (N := some 84) (v := ?_) (a' := ?_) #[true, true, true, true, true, false] rfl rfl (by kernel_rfl) (fun _ _ _ h => h) (Or.inl ⟨by rfl, ?_⟩) ?_ ?_
      rotate_left
      ·intro w'
       go_simp
       with_reducible rfl
      rotate_left
      ·simp only [Act.put, List.setIfInBounds_toArray, List.set_cons_zero, List.set_cons_succ, i64_w, i32_w]
       rfl
      refine pure_ (i := 5) (N := some 8) (v := ?_) (a' := ?_) #[true, true, true, true, true, true] rfl rfl (by kernel_rfl) (fun _ _ _ h => h) (Or.inl ⟨by rfl, ?_⟩) ?_ ?_
      rotate_left
      ·intro w'
       go_simp
       with_reducible rfl
      rotate_left
      ·simp only [Act.put, List.setIfInBounds_toArray, List.set_cons_zero, List.set_cons_succ, i64_w, i32_w]
       rfl
      refine done_ (by kernel_rfl) ?_
      try go_wp2
      go_ret
      exact ⟨by first | rfl | (simp [errW_none, errW_some] <;> rfl) | (simp [*, errW_none, errW_some] <;> rfl), by repeat (first | (with_reducible first | exact HB.out | apply below_alloc | apply pw_below_drewN | apply below_drew1 | refine below_set ?_ GE130.out) | exact HB.out)⟩
     ·rw [if_neg c38] at H
      have c38b0 : ((Int.tmod a2 10) == 2) = false := beq_eq_false_iff_ne.mpr c38
      have c38b1 : ((Int.tmod a2 10) != 2) = true := bne_iff_ne.mpr c38
      by_cases c51 : (Int.tmod a2 10) = 3
      ·rw [if_pos c51] at H
       have c51b0 : ((Int.tmod a2 10) == 3) = true := beq_iff_eq.mpr c51
       have c51b1 : ((Int.tmod a2 10) != 3) = false := bne_eq_false_iff_eq.mpr c51
       clear c51
       replace H := Option.bind_eq_some_iff.mp H
       obtain ⟨t145, A520, H⟩ := H
       replace H : ((redpenref18_Check.f k t132 t133 t134 a3 t136).bind fun t146 => (some (t145 == t146))) = some r := H
       have A52 := Aside0.mk A520
       clear A520
       replace H := Option.bind_eq_some_iff.mp H
       obtain ⟨t146, A530, H⟩ := H
       replace H : (some (t145 == t146)) = some r := H
       have A53 := Aside0.mk A530
       clear A530
       obtain rfl := Option.some.inj H
       go_enter Tryd.func4, Tryd.ntmps4
       try go_wp2_with (first | ((with_reducible refine gate_dst (N := 4) rfl ?_); refine box_event ?hg (N := 4) ?hd (cs := #[.int .i64 a0_0, .int .i64 a0_1, .int .i64 a0_2, .int .i64 a0_3, .slice A0_4 l0_4.length c0_4]) (t := 26) ?hr ?_; (case hd => rfl); (case hg => rfl); (case hr => first | (go_simp; done) | (go_simp; rfl)); intro gb130 hg w54 hbox hb; have n0_ := Aside0.mk (below_step (by repeat (first | (with_reducible first | exact HB.out | apply below_alloc | apply pw_below_drewN | apply below_drew1) | exact HB.out)) hb); have n1_ := Aside0.mk (hbox); have n2_ := Aside0.mk ((by rw [hg]; exact (below_size (by repeat (first | (with_reducible first | exact HB.out | apply below_alloc | apply pw_below_drewN | apply below_drew1) | exact HB.out))) : w.heap.size ≤ gb130)); have n3_ := Aside0.mk ((by rw [hg]; exact (below_size (by repeat (first | (with_reducible first | exact HB.out | apply below_alloc | apply pw_below_drewN | apply below_drew1) | exact HB.out))) : w.heap.size ≤ gb130)); clear HB; have HB := n0_; have BK130 := n1_; have GW130 := n2_; have GE130 := n3_; clear n0_ n1_ n2_ n3_; clear hb hbox hg) | ((with_reducible refine gate_callee (f := 12) rfl ?_); refine goesL_ (some 9) rfl rfl Tryd.func12 (by kernel_rfl) rfl #[] rfl (by (try simp only [List.map_toArray, List.map_cons, List.map_nil]); first | done | rfl | (simp only [List.length_drop, List.length_take]; rfl)) ?_; (with_reducible refine (redpenlaw20_Awake.calls  true _ A5.out).mono ?_); rintro e w55 ⟨rfl, hb⟩; refine ⟨_, rfl, ?_⟩; have n0_ := Aside0.mk (blk_below (g := gb130) (o := .cells #[.int .i64 a0_0, .int .i64 a0_1, .int .i64 a0_2, .int .i64 a0_3, .slice A0_4 l0_4.length c0_4] 26 (0, 0)) (by (with_reducible repeat (first | refine blk_drewN ?_ _ | refine blk_drew ?_ | refine blk_alloc ?_ _)); exact BK130.out) hb); have n1_ := Aside0.mk (below_step (by repeat (first | (with_reducible first | exact HB.out | apply below_alloc | apply pw_below_drewN | apply below_drew1 | refine below_set ?_ GE130.out) | exact HB.out)) hb); clear BK130; clear HB; have BK130 := n0_; have HB := n1_; clear n0_ n1_; (try clear hb); (try clear hb2); (try clear hk); (try clear hi); have hcz56_0 : w55.cell? ⟨gb130, 0, none⟩ = some (.int .i64 a0_0) := (blk_cell BK130.out 0).trans rfl; have hcz56_1 : w55.cell? ⟨gb130, 1, none⟩ = some (.int .i64 a0_1) := (blk_cell BK130.out 1).trans rfl; have hcz56_2 : w55.cell? ⟨gb130, 2, none⟩ = some (.int .i64 a0_2) := (blk_cell BK130.out 2).trans rfl; have hcz56_3 : w55.cell? ⟨gb130, 3, none⟩ = some (.int .i64 a0_3) := (blk_cell BK130.out 3).trans rfl; have hcz56_4 : w55.cell? ⟨gb130, 4, none⟩ = some (.slice A0_4 l0_4.length c0_4) := (blk_cell BK130.out 4).trans rfl; have hfz56_0 := blk_frozen BK130.out 0; have hfz56_1 := blk_frozen BK130.out 1; have hfz56_2 := blk_frozen BK130.out 2; have hfz56_3 := blk_frozen BK130.out 3; have hfz56_4 := blk_frozen BK130.out 4) | ((with_reducible refine gate_callee (f := 15) rfl ?_); refine goesL_ (some 17) rfl rfl Tryd.func15 (by kernel_rfl) rfl #[.agg #[.int .i64 a0_0, .int .i64 a0_1, .int .i64 a0_2, .int .i64 a0_3, .slice A0_4 l0_4.length c0_4], .bool a1] rfl (by (try simp only [List.map_toArray, List.map_cons, List.map_nil]); first | done | rfl | (simp only [List.length_drop, List.length_take]; rfl)) ?_; (with_reducible refine (redpenlaw20_Tidied.calls k a0_0 a0_1 a0_2 a0_3 _ _ l0_4 a1 t132 t133 t134 t135 t136 _ ?side1 ?side2 A11.out).mono ?_); (case side1 => repeat (first | exact (Kd.C_below HR0_4.out HB.out) | (with_reducible refine Kd.C_alloc ?_ _) | (with_reducible refine Kd.C_drewN ?_ _) | (with_reducible refine Kd.C_drew ?_))); (case side2 => exact HC0_4.out); rintro e w57 ⟨v137, rfl, ho0, hb⟩; refine ⟨_, rfl, ?_⟩; have n0_ := Aside0.mk (Kd.R_lower ho0 (below_size (by repeat (first | (with_reducible first | exact HB.out | apply below_alloc | apply pw_below_drewN | apply below_drew1 | refine below_set ?_ GE130.out) | exact HB.out)))); have n1_ := Aside0.mk (blk_below (g := gb130) (o := .cells #[.int .i64 a0_0, .int .i64 a0_1, .int .i64 a0_2, .int .i64 a0_3, .slice A0_4 l0_4.length c0_4] 26 (0, 0)) (by (with_reducible repeat (first | refine blk_drewN ?_ _ | refine blk_drew ?_ | refine blk_alloc ?_ _)); exact BK130.out) hb); have n2_ := Aside0.mk (below_step (by repeat (first | (with_reducible first | exact HB.out | apply below_alloc | apply pw_below_drewN | apply below_drew1 | refine below_set ?_ GE130.out) | exact HB.out)) hb); clear BK130; clear HB; have HO138 := n0_; have BK130 := n1_; have HB := n2_; clear n0_ n1_ n2_; (try clear hb); (try clear hb2); (try clear hk); (try clear hi); (try clear ho0); have hcz58_0 : w57.cell? ⟨gb130, 0, none⟩ = some (.int .i64 a0_0) := (blk_cell BK130.out 0).trans rfl; have hcz58_1 : w57.cell? ⟨gb130, 1, none⟩ = some (.int .i64 a0_1) := (blk_cell BK130.out 1).trans rfl; have hcz58_2 : w57.cell? ⟨gb130, 2, none⟩ = some (.int .i64 a0_2) := (blk_cell BK130.out 2).trans rfl; have hcz58_3 : w57.cell? ⟨gb130, 3, none⟩ = some (.int .i64 a0_3) := (blk_cell BK130.out 3).trans rfl; have hcz58_4 : w57.cell? ⟨gb130, 4, none⟩ = some (.slice A0_4 l0_4.length c0_4) := (blk_cell BK130.out 4).trans rfl; have hfz58_0 := blk_frozen BK130.out 0; have hfz58_1 := blk_frozen BK130.out 1; have hfz58_2 := blk_frozen BK130.out 2; have hfz58_3 := blk_frozen BK130.out 3; have hfz58_4 := blk_frozen BK130.out 4; obtain ⟨Ao59, co59, eo59⟩ := Kd.R_slice HO138.out; subst eo59))
       have n0_ : Aside0 (Kd.R k29 29 ((((((w57.setCell ⟨gb130, 0, none⟩ (.int .i64 t132)).setCell ⟨gb130, 1, none⟩ (.int .i64 t133)).setCell ⟨gb130, 2, none⟩ (.int .i64 t134)).setCell ⟨gb130, 3, none⟩ (.int .i64 t135)).setCell ⟨gb130, 4, none⟩ (.slice Ao59 t136.length co59)).setCell ⟨gb130, 3, none⟩ (.int .i64 a3)) w.heap.size (fun _ => True) (.slice Ao59 t136.length co59) t136) := ⟨by (with_reducible repeat (first | apply Kd.R_alloc | apply Kd.R_drewN | apply Kd.R_drew)); exact Kd.R_mono (Kd.R_far (p := ⟨gb130, 3, none⟩) (Kd.R_far (p := ⟨gb130, 4, none⟩) (Kd.R_far (p := ⟨gb130, 3, none⟩) (Kd.R_far (p := ⟨gb130, 2, none⟩) (Kd.R_far (p := ⟨gb130, 1, none⟩) (Kd.R_far (p := ⟨gb130, 0, none⟩) (Kd.R_types HO138.out BK130.out (by decide)) (fun _ hk => hk.2) (.int .i64 t132)) (fun _ hk => hk.2) (.int .i64 t133)) (fun _ hk => hk.2) (.int .i64 t134)) (fun _ hk => hk.2) (.int .i64 t135)) (fun _ hk => hk.2) (.slice Ao59 t136.length co59)) (fun _ hk => hk.2) (.int .i64 a3)) (fun _ hk => trivial)⟩
       have n1_ : Aside0 (((((((w57.setCell ⟨gb130, 0, none⟩ (.int .i64 t132)).setCell ⟨gb130, 1, none⟩ (.int .i64 t133)).setCell ⟨gb130, 2, none⟩ (.int .i64 t134)).setCell ⟨gb130, 3, none⟩ (.int .i64 t135)).setCell ⟨gb130, 4, none⟩ (.slice Ao59 t136.length co59)).setCell ⟨gb130, 3, none⟩ (.int .i64 a3)).heap[gb130]? = some (.cells #[.int .i64 t132, .int .i64 t133, .int .i64 t134, .int .i64 a3, .slice Ao59 t136.length co59] 26 (0, 0))) := ⟨by (with_reducible repeat (first | refine blk_drewN ?_ _ | refine blk_drew ?_ | refine blk_alloc ?_ _)); refine blk_put (cs := #[.int .i64 t132, .int .i64 t133, .int .i64 t134, .int .i64 t135, .slice Ao59 t136.length co59]) ?_ 3 _ rfl; (with_reducible repeat (first | refine blk_drewN ?_ _ | refine blk_drew ?_ | refine blk_alloc ?_ _)); refine blk_put (cs := #[.int .i64 t132, .int .i64 t133, .int .i64 t134, .int .i64 t135, .slice A0_4 l0_4.length c0_4]) ?_ 4 _ rfl; (with_reducible repeat (first | refine blk_drewN ?_ _ | refine blk_drew ?_ | refine blk_alloc ?_ _)); refine blk_put (cs := #[.int .i64 t132, .int .i64 t133, .int .i64 t134, .int .i64 a0_3, .slice A0_4 l0_4.length c0_4]) ?_ 3 _ rfl; (with_reducible repeat (first | refine blk_drewN ?_ _ | refine blk_drew ?_ | refine blk_alloc ?_ _)); refine blk_put (cs := #[.int .i64 t132, .int .i64 t133, .int .i64 a0_2, .int .i64 a0_3, .slice A0_4 l0_4.length c0_4]) ?_ 2 _ rfl; (with_reducible repeat (first | refine blk_drewN ?_ _ | refine blk_drew ?_ | refine blk_alloc ?_ _)); refine blk_put (cs := #[.int .i64 t132, .int .i64 a0_1, .int .i64 a0_2, .int .i64 a0_3, .slice A0_4 l0_4.length c0_4]) ?_ 1 _ rfl; (with_reducible repeat (first | refine blk_drewN ?_ _ | refine blk_drew ?_ | refine blk_alloc ?_ _)); refine blk_put (cs := #[.int .i64 a0_0, .int .i64 a0_1, .int .i64 a0_2, .int .i64 a0_3, .slice A0_4 l0_4.length c0_4]) ?_ 0 _ rfl; (with_reducible repeat (first | refine blk_drewN ?_ _ | refine blk_drew ?_ | refine blk_alloc ?_ _)); exact BK130.out⟩
       have n2_ : Aside0 (Below w.heap.size w ((((((w57.setCell ⟨gb130, 0, none⟩ (.int .i64 t132)).setCell ⟨gb130, 1, none⟩ (.int .i64 t133)).setCell ⟨gb130, 2, none⟩ (.int .i64 t134)).setCell ⟨gb130, 3, none⟩ (.int .i64 t135)).setCell ⟨gb130, 4, none⟩ (.slice Ao59 t136.length co59)).setCell ⟨gb130, 3, none⟩ (.int .i64 a3))) := ⟨by repeat (first | (with_reducible first | exact HB.out | apply below_alloc | apply pw_below_drewN | apply below_drew1 | refine below_set ?_ GE130.out) | exact HB.out)⟩
       (try clear HO138)
       (try clear BK130)
       (try clear HB)
       generalize ((((((w57.setCell ⟨gb130, 0, none⟩ (.int .i64 t132)).setCell ⟨gb130, 1, none⟩ (.int .i64 t133)).setCell ⟨gb130, 2, none⟩ (.int .i64 t134)).setCell ⟨gb130, 3, none⟩ (.int .i64 t135)).setCell ⟨gb130, 4, none⟩ (.slice Ao59 t136.length co59)).setCell ⟨gb130, 3, none⟩ (.int .i64 a3)) = w60 at n0_ n1_ n2_ ⊢
       have HO138 := n0_
       have BK130 := n1_
       have HB := n2_
       clear n0_ n1_ n2_
       have n0_ := Aside0.mk (Kd.R_drew HO138.out)
       have n1_ := Aside0.mk (blk_drew BK130.out)
       have n2_ := Aside0.mk (below_drew1 HB.out)
       clear HO138
       clear BK130
       clear HB
       have HO138 := n0_
       have BK130 := n1_
       have HB := n2_
       clear n0_ n1_ n2_
       refine start_ (n := 6) (S := fun w' => w'.cell? ⟨gb130, 0, none⟩ = some (.int .i64 t132) ∧ w'.cell? ⟨gb130, 1, none⟩ = some (.int .i64 t133) ∧ w'.cell? ⟨gb130, 2, none⟩ = some (.int .i64 t134) ∧ w'.cell? ⟨gb130, 3, none⟩ = some (.int .i64 a3) ∧ w'.cell? ⟨gb130, 4, none⟩ = some (.slice Ao59 t136.length co59)) (ds := []) #[false, false, false, false, false, false] (by kernel_rfl) rfl rfl ⟨(blk_cell BK130.out 0).trans rfl, (blk_cell BK130.out 1).trans rfl, (blk_cell BK130.out 2).trans rfl, (blk_cell BK130.out 3).trans rfl, (blk_cell BK130.out 4).trans rfl⟩ (fun hHeld => ?_)
       generalize w60.drew = w61 at HO138 BK130 HB hHeld ⊢
       refine take_ (i := 0) (N := some 80) (v := ?_) (a' := ?_) #[true, false, false, false, false, false] rfl rfl (by kernel_rfl) (fun _ _ _ h => h) (Or.inl ⟨by rfl, ?_⟩) hHeld ?_ ?_
       rotate_left
       ·rintro w' ⟨s0, s1, s2, s3, s4⟩
        go_simp
        with_reducible rfl
       rotate_left
       ·simp only [Act.put, List.setIfInBounds_toArray, List.set_cons_zero, List.set_cons_succ, i64_w, i32_w]
        rfl
       refine take_ (i := 2) (N := some 82) (v := ?_) (a' := ?_) #[true, false, true, false, false, false] rfl rfl (by kernel_rfl) (fun _ _ _ h => h) (Or.inl ⟨by rfl, ?_⟩) hHeld ?_ ?_
       rotate_left
       ·rintro w' ⟨s0, s1, s2, s3, s4⟩
        go_simp
        with_reducible rfl
       rotate_left
       ·simp only [Act.put, List.setIfInBounds_toArray, List.set_cons_zero, List.set_cons_succ, i64_w, i32_w]
        rfl
       refine one_ (i := 1) (N := some 81) #[true, true, true, false, false, false] rfl rfl (by kernel_rfl) (by decide) (fun K hK => ?_)
       refine goes_ Tryd.func16 (by kernel_rfl) rfl #[.agg #[.int .i64 t132, .int .i64 t133, .int .i64 t134, .int .i64 a3, .slice Ao59 t136.length co59]] (by rfl) rfl rfl (by (try simp only [List.map_toArray, List.map_cons, List.map_nil]); first | done | rfl | (simp only [List.length_drop, List.length_take]; rfl)) ?_
       with_reducible refine (show_Check.calls k t132 t133 t134 a3 _ _ t136 t145 _ ?side1 ?side2 A52.out).mono ?_
       (case side1 => repeat (first | exact (Kd.R_reads' HO138.out).2.2 | (with_reducible refine Kd.C_alloc ?_ _) | (with_reducible refine Kd.C_drewN ?_ _) | (with_reducible refine Kd.C_drew ?_)))
       (case side2 => exact (Kd.R_reads' HO138.out).2.1)
       rintro e w62 ⟨rfl, hb⟩
       refine ⟨_, rfl, ?_⟩
       have n0_ := Aside0.mk (Kd.R_below (by (with_reducible repeat (first | apply Kd.R_alloc | apply Kd.R_drewN | apply Kd.R_drew)); exact HO138.out) hb)
       have n1_ := Aside0.mk (blk_below (g := gb130) (o := .cells #[.int .i64 t132, .int .i64 t133, .int .i64 t134, .int .i64 a3, .slice Ao59 t136.length co59] 26 (0, 0)) (by (with_reducible repeat (first | refine blk_drewN ?_ _ | refine blk_drew ?_ | refine blk_alloc ?_ _)); exact BK130.out) hb)
       have n2_ := Aside0.mk (below_step (by repeat (first | (with_reducible first | exact HB.out | apply below_alloc | apply pw_below_drewN | apply below_drew1 | refine below_set ?_ GE130.out) | exact HB.out)) hb)
       clear HO138
       clear BK130
       clear HB
       have HO138 := n0_
       have BK130 := n1_
       have HB := n2_
       clear n0_ n1_ n2_
       (try clear hb)
       (try clear hb2)
       (try clear hk)
       (try clear hi)
       refine hK.out _ _ ⟨(blk_cell BK130.out 0).trans rfl, (blk_cell BK130.out 1).trans rfl, (blk_cell BK130.out 2).trans rfl, (blk_cell BK130.out 3).trans rfl, (blk_cell BK130.out 4).trans rfl⟩ (fun hHeld => ?_)
       clear hK K
       refine norm_ (a' := ?_) ?_ ?_
       rotate_left
       ·show Act.put _ (some 81) _ = _
        simp only [Act.put, List.setIfInBounds_toArray, List.set_cons_zero, List.set_cons_succ, i64_w, i32_w]
        rfl
       refine one_ (i := 3) (N := some 83) #[true, true, true, true, false, false] rfl rfl (by kernel_rfl) (by decide) (fun K hK => ?_)
       refine goes_ Tryd.func17 (by kernel_rfl) rfl #[.agg #[.int .i64 t132, .int .i64 t133, .int .i64 t134, .int .i64 a3, .slice Ao59 t136.length co59]] (by rfl) rfl rfl (by (try simp only [List.map_toArray, List.map_cons, List.map_nil]); first | done | rfl | (simp only [List.length_drop, List.length_take]; rfl)) ?_
       with_reducible refine (redpenref18_Check.calls k t132 t133 t134 a3 _ _ t136 t146 _ ?side1 ?side2 A53.out).mono ?_
       (case side1 => repeat (first | exact (Kd.R_reads' HO138.out).2.2 | (with_reducible refine Kd.C_alloc ?_ _) | (with_reducible refine Kd.C_drewN ?_ _) | (with_reducible refine Kd.C_drew ?_)))
       (case side2 => exact (Kd.R_reads' HO138.out).2.1)
       rintro e w63 ⟨rfl, hb⟩
       refine ⟨_, rfl, ?_⟩
       have n0_ := Aside0.mk (Kd.R_below (by (with_reducible repeat (first | apply Kd.R_alloc | apply Kd.R_drewN | apply Kd.R_drew)); exact HO138.out) hb)
       have n1_ := Aside0.mk (blk_below (g := gb130) (o := .cells #[.int .i64 t132, .int .i64 t133, .int .i64 t134, .int .i64 a3, .slice Ao59 t136.length co59] 26 (0, 0)) (by (with_reducible repeat (first | refine blk_drewN ?_ _ | refine blk_drew ?_ | refine blk_alloc ?_ _)); exact BK130.out) hb)
       have n2_ := Aside0.mk (below_step (by repeat (first | (with_reducible first | exact HB.out | apply below_alloc | apply pw_below_drewN | apply below_drew1 | refine below_set ?_ GE130.out) | exact HB.out)) hb)
       clear HO138
       clear BK130
       clear HB
       have HO138 := n0_
       have BK130 := n1_
       have HB := n2_
       clear n0_ n1_ n2_
       (try clear hb)
       (try clear hb2)
       (try clear hk)
       (try clear hi)
       refine hK.out _ _ ⟨(blk_cell BK130.out 0).trans rfl, (blk_cell BK130.out 1).trans rfl, (blk_cell BK130.out 2).trans rfl, (blk_cell BK130.out 3).trans rfl, (blk_cell BK130.out 4).trans rfl⟩ (fun hHeld => ?_)
       clear hK K
       refine norm_ (a' := ?_) ?_ ?_
       rotate_left
       ·show Act.put _ (some 83) _ = _
        simp only [Act.put, List.setIfInBounds_toArray, List.set_cons_zero, List.set_cons_succ, i64_w, i32_w]
        rfl
       refine pure_ (i := 4) (N := some 84) (v := ?_) (a' := ?_) #[true, true, true, true, true, false] rfl rfl (by kernel_rfl) (fun _ _ _ h => h) (Or.inl ⟨by rfl, ?_⟩) ?_ ?_
       rotate_left
       ·intro w'
        go_simp
        with_reducible rfl
       rotate_left
       ·simp only [Act.put, List.setIfInBounds_toArray, List.set_cons_zero, List.set_cons_succ, i64_w, i32_w]
        rfl
       refine pure_ (i := 5) (N := some 8) (v := ?_) (a' := ?_) #[true, true, true, true, true, true] rfl rfl (by kernel_rfl) (fun _ _ _ h => h) (Or.inl ⟨by rfl, ?_⟩) ?_ ?_
       rotate_left
       ·intro w'
        go_simp
        with_reducible rfl
       rotate_left
       ·simp only [Act.put, List.setIfInBounds_toArray, List.set_cons_zero, List.set_cons_succ, i64_w, i32_w]
        rfl
       refine done_ (by kernel_rfl) ?_
       try go_wp2
       go_ret
       exact ⟨by first | rfl | (simp [errW_none, errW_some] <;> rfl) | (simp [*, errW_none, errW_some] <;> rfl), by repeat (first | (with_reducible first | exact HB.out | apply below_alloc | apply pw_below_drewN | apply below_drew1 | refine below_set ?_ GE130.out) | exact HB.out)⟩
      ·rw [if_neg c51] at H
       have c51b0 : ((Int.tmod a2 10) == 3) = false := beq_eq_false_iff_ne.mpr c51
       have c51b1 : ((Int.tmod a2 10) != 3) = true := bne_iff_ne.mpr c51
       by_cases c64 : (Int.tmod a2 10) = 4
       ·rw [if_pos c64] at H
        have c64b0 : ((Int.tmod a2 10) == 4) = true := beq_iff_eq.mpr c64
        have c64b1 : ((Int.tmod a2 10) != 4) = false := bne_eq_false_iff_eq.mpr c64
        clear c64
        by_cases c65 : (t136.length : Int) > 0
        ·rw [if_pos c65] at H
         have c65b0 : decide (0 < (t136.length : Int)) = true := decide_eq_true c65
         have c65b1 : decide (0 < t136.length) = true := decide_eq_true (by omega)
         clear c65
         by_cases c66 : 0 < (t136.length : Int)
         ·rw [if_pos c66] at H
          have c66b0 : decide (0 < (t136.length : Int)) = true := decide_eq_true c66
          have c66b1 : decide (0 < t136.length) = true := decide_eq_true (by omega)
          clear c66
          obtain ⟨y147, hy147⟩ : ∃ y_ : List (S29), y_ = (t136.set (0 : Int).toNat (⟨(a3) % 256, (rd_T29 t136 0).f1, (rd_T29 t136 0).f2⟩ : S29)) := ⟨_, rfl⟩
          replace H : ((show_Check.f k t132 t133 t134 t135 y147).bind fun t148 => ((redpenref18_Check.f k t132 t133 t134 t135 y147).bind fun t149 => (some (t148 == t149)))) = some r := by first | (rw [hy147]; with_reducible exact H) | (have H2_ := (Option.bind_some _ _).symm.trans H; rw [hy147]; with_reducible exact H2_) | (have H2_ := (Option.bind_some _ _).symm.trans H; with_reducible exact H2_) | with_reducible exact H | (rw [hy147]; exact H) | exact H
          have Ny147 := Aside0.mk hy147
          clear hy147
          replace H := Option.bind_eq_some_iff.mp H
          obtain ⟨t148, A680, H⟩ := H
          replace H : ((redpenref18_Check.f k t132 t133 t134 t135 y147).bind fun t149 => (some (t148 == t149))) = some r := H
          have A68 := Aside0.mk A680
          clear A680
          replace H := Option.bind_eq_some_iff.mp H
          obtain ⟨t149, A690, H⟩ := H
          replace H : (some (t148 == t149)) = some r := H
          have A69 := Aside0.mk A690
          clear A690
          obtain rfl := Option.some.inj H
          go_enter Tryd.func4, Tryd.ntmps4
          try go_wp2_with (first | ((with_reducible refine gate_dst (N := 4) rfl ?_); refine box_event ?hg (N := 4) ?hd (cs := #[.int .i64 a0_0, .int .i64 a0_1, .int .i64 a0_2, .int .i64 a0_3, .slice A0_4 l0_4.length c0_4]) (t := 26) ?hr ?_; (case hd => rfl); (case hg => rfl); (case hr => first | (go_simp; done) | (go_simp; rfl)); intro gb130 hg w70 hbox hb; have n0_ := Aside0.mk (below_step (by repeat (first | (with_reducible first | exact HB.out | apply below_alloc | apply pw_below_drewN | apply below_drew1) | exact HB.out)) hb); have n1_ := Aside0.mk (hbox); have n2_ := Aside0.mk ((by rw [hg]; exact (below_size (by repeat (first | (with_reducible first | exact HB.out | apply below_alloc | apply pw_below_drewN | apply below_drew1) | exact HB.out))) : w.heap.size ≤ gb130)); have n3_ := Aside0.mk ((by rw [hg]; exact (below_size (by repeat (first | (with_reducible first | exact HB.out | apply below_alloc | apply pw_below_drewN | apply below_drew1) | exact HB.out))) : w.heap.size ≤ gb130)); clear HB; have HB := n0_; have BK130 := n1_; have GW130 := n2_; have GE130 := n3_; clear n0_ n1_ n2_ n3_; clear hb hbox hg) | ((with_reducible refine gate_callee (f := 12) rfl ?_); refine goesL_ (some 9) rfl rfl Tryd.func12 (by kernel_rfl) rfl #[] rfl (by (try simp only [List.map_toArray, List.map_cons, List.map_nil]); first | done | rfl | (simp only [List.length_drop, List.length_take]; rfl)) ?_; (with_reducible refine (redpenlaw20_Awake.calls  true _ A5.out).mono ?_); rintro e w71 ⟨rfl, hb⟩; refine ⟨_, rfl, ?_⟩; have n0_ := Aside0.mk (blk_below (g := gb130) (o := .cells #[.int .i64 a0_0, .int .i64 a0_1, .int .i64 a0_2, .int .i64 a0_3, .slice A0_4 l0_4.length c0_4] 26 (0, 0)) (by (with_reducible repeat (first | refine blk_drewN ?_ _ | refine blk_drew ?_ | refine blk_alloc ?_ _)); exact BK130.out) hb); have n1_ := Aside0.mk (below_step (by repeat (first | (with_reducible first | exact HB.out | apply below_alloc | apply pw_below_drewN | apply below_drew1 | refine below_set ?_ GE130.out) | exact HB.out)) hb); clear BK130; clear HB; have BK130 := n0_; have HB := n1_; clear n0_ n1_; (try clear hb); (try clear hb2); (try clear hk); (try clear hi); have hcz72_0 : w71.cell? ⟨gb130, 0, none⟩ = some (.int .i64 a0_0) := (blk_cell BK130.out 0).trans rfl; have hcz72_1 : w71.cell? ⟨gb130, 1, none⟩ = some (.int .i64 a0_1) := (blk_cell BK130.out 1).trans rfl; have hcz72_2 : w71.cell? ⟨gb130, 2, none⟩ = some (.int .i64 a0_2) := (blk_cell BK130.out 2).trans rfl; have hcz72_3 : w71.cell? ⟨gb130, 3, none⟩ = some (.int .i64 a0_3) := (blk_cell BK130.out 3).trans rfl; have hcz72_4 : w71.cell? ⟨gb130, 4, none⟩ = some (.slice A0_4 l0_4.length c0_4) := (blk_cell BK130.out 4).trans rfl; have hfz72_0 := blk_frozen BK130.out 0; have hfz72_1 := blk_frozen BK130.out 1; have hfz72_2 := blk_frozen BK130.out 2; have hfz72_3 := blk_frozen BK130.out 3; have hfz72_4 := blk_frozen BK130.out 4) | ((with_reducible refine gate_callee (f := 15) rfl ?_); refine goesL_ (some 17) rfl rfl Tryd.func15 (by kernel_rfl) rfl #[.agg #[.int .i64 a0_0, .int .i64 a0_1, .int .i64 a0_2, .int .i64 a0_3, .slice A0_4 l0_4.length c0_4], .bool a1] rfl (by (try simp only [List.map_toArray, List.map_cons, List.map_nil]); first | done | rfl | (simp only [List.length_drop, List.length_take]; rfl)) ?_; (with_reducible refine (redpenlaw20_Tidied.calls k a0_0 a0_1 a0_2 a0_3 _ _ l0_4 a1 t132 t133 t134 t135 t136 _ ?side1 ?side2 A11.out).mono ?_); (case side1 => repeat (first | exact (Kd.C_below HR0_4.out HB.out) | (with_reducible refine Kd.C_alloc ?_ _) | (with_reducible refine Kd.C_drewN ?_ _) | (with_reducible refine Kd.C_drew ?_))); (case side2 => exact HC0_4.out); rintro e w73 ⟨v137, rfl, ho0, hb⟩; refine ⟨_, rfl, ?_⟩; have n0_ := Aside0.mk (Kd.R_lower ho0 (below_size (by repeat (first | (with_reducible first | exact HB.out | apply below_alloc | apply pw_below_drewN | apply below_drew1 | refine below_set ?_ GE130.out) | exact HB.out)))); have n1_ := Aside0.mk (blk_below (g := gb130) (o := .cells #[.int .i64 a0_0, .int .i64 a0_1, .int .i64 a0_2, .int .i64 a0_3, .slice A0_4 l0_4.length c0_4] 26 (0, 0)) (by (with_reducible repeat (first | refine blk_drewN ?_ _ | refine blk_drew ?_ | refine blk_alloc ?_ _)); exact BK130.out) hb); have n2_ := Aside0.mk (below_step (by repeat (first | (with_reducible first | exact HB.out | apply below_alloc | apply pw_below_drewN | apply below_drew1 | refine below_set ?_ GE130.out) | exact HB.out)) hb); clear BK130; clear HB; have HO138 := n0_; have BK130 := n1_; have HB := n2_; clear n0_ n1_ n2_; (try clear hb); (try clear hb2); (try clear hk); (try clear hi); (try clear ho0); have hcz74_0 : w73.cell? ⟨gb130, 0, none⟩ = some (.int .i64 a0_0) := (blk_cell BK130.out 0).trans rfl; have hcz74_1 : w73.cell? ⟨gb130, 1, none⟩ = some (.int .i64 a0_1) := (blk_cell BK130.out 1).trans rfl; have hcz74_2 : w73.cell? ⟨gb130, 2, none⟩ = some (.int .i64 a0_2) := (blk_cell BK130.out 2).trans rfl; have hcz74_3 : w73.cell? ⟨gb130, 3, none⟩ = some (.int .i64 a0_3) := (blk_cell BK130.out 3).trans rfl; have hcz74_4 : w73.cell? ⟨gb130, 4, none⟩ = some (.slice A0_4 l0_4.length c0_4) := (blk_cell BK130.out 4).trans rfl; have hfz74_0 := blk_frozen BK130.out 0; have hfz74_1 := blk_frozen BK130.out 1; have hfz74_2 := blk_frozen BK130.out 2; have hfz74_3 := blk_frozen BK130.out 3; have hfz74_4 := blk_frozen BK130.out 4; obtain ⟨Ao75, co75, eo75⟩ := Kd.R_slice HO138.out; subst eo75) | ((with_reducible refine gate_store (t := 26) (p := 4) rfl ?_); refine store_event (t := 26) (p := 4) (v := ?vo_w76) (w1 := (((((w73.setCell ⟨gb130, 0, none⟩ (.int .i64 t132)).setCell ⟨gb130, 1, none⟩ (.int .i64 t133)).setCell ⟨gb130, 2, none⟩ (.int .i64 t134)).setCell ⟨gb130, 3, none⟩ (.int .i64 t135)).setCell ⟨gb130, 4, none⟩ (.slice Ao75 t136.length co75))) ?hg ?ho ?hn ?hr ?_; (case ho => rfl); (case hg => rfl); (case hn => rfl); (case hr => first | (go_simp; done) | (go_simp; rfl)); intro w76 hw; have n0_ : Aside0 (Kd.R k29 29 w76 w.heap.size (fun _ => True) (.slice Ao75 t136.length co75) t136) := ⟨(by rw [hw]; exact (by (with_reducible repeat (first | apply Kd.R_alloc | apply Kd.R_drewN | apply Kd.R_drew)); exact Kd.R_mono (Kd.R_far (p := ⟨gb130, 4, none⟩) (Kd.R_far (p := ⟨gb130, 3, none⟩) (Kd.R_far (p := ⟨gb130, 2, none⟩) (Kd.R_far (p := ⟨gb130, 1, none⟩) (Kd.R_far (p := ⟨gb130, 0, none⟩) (Kd.R_types HO138.out BK130.out (by decide)) (fun _ hk => hk.2) (.int .i64 t132)) (fun _ hk => hk.2) (.int .i64 t133)) (fun _ hk => hk.2) (.int .i64 t134)) (fun _ hk => hk.2) (.int .i64 t135)) (fun _ hk => hk.2) (.slice Ao75 t136.length co75)) (fun _ hk => trivial)))⟩; have n1_ : Aside0 (w76.heap[gb130]? = some (.cells #[.int .i64 t132, .int .i64 t133, .int .i64 t134, .int .i64 t135, .slice Ao75 t136.length co75] 26 (0, 0))) := ⟨(by rw [hw]; exact (by (with_reducible repeat (first | refine blk_drewN ?_ _ | refine blk_drew ?_ | refine blk_alloc ?_ _)); refine blk_put (cs := #[.int .i64 t132, .int .i64 t133, .int .i64 t134, .int .i64 t135, .slice A0_4 l0_4.length c0_4]) ?_ 4 _ rfl; (with_reducible repeat (first | refine blk_drewN ?_ _ | refine blk_drew ?_ | refine blk_alloc ?_ _)); refine blk_put (cs := #[.int .i64 t132, .int .i64 t133, .int .i64 t134, .int .i64 a0_3, .slice A0_4 l0_4.length c0_4]) ?_ 3 _ rfl; (with_reducible repeat (first | refine blk_drewN ?_ _ | refine blk_drew ?_ | refine blk_alloc ?_ _)); refine blk_put (cs := #[.int .i64 t132, .int .i64 t133, .int .i64 a0_2, .int .i64 a0_3, .slice A0_4 l0_4.length c0_4]) ?_ 2 _ rfl; (with_reducible repeat (first | refine blk_drewN ?_ _ | refine blk_drew ?_ | refine blk_alloc ?_ _)); refine blk_put (cs := #[.int .i64 t132, .int .i64 a0_1, .int .i64 a0_2, .int .i64 a0_3, .slice A0_4 l0_4.length c0_4]) ?_ 1 _ rfl; (with_reducible repeat (first | refine blk_drewN ?_ _ | refine blk_drew ?_ | refine blk_alloc ?_ _)); refine blk_put (cs := #[.int .i64 a0_0, .int .i64 a0_1, .int .i64 a0_2, .int .i64 a0_3, .slice A0_4 l0_4.length c0_4]) ?_ 0 _ rfl; (with_reducible repeat (first | refine blk_drewN ?_ _ | refine blk_drew ?_ | refine blk_alloc ?_ _)); exact BK130.out))⟩; have n2_ : Aside0 (Below w.heap.size w w76) := ⟨(by rw [hw]; exact (by repeat (first | (with_reducible first | exact HB.out | apply below_alloc | apply pw_below_drewN | apply below_drew1 | refine below_set ?_ GE130.out) | exact HB.out)))⟩; clear hw; clear HO138; clear BK130; clear HB; have HO138 := n0_; have BK130 := n1_; have HB := n2_; clear n0_ n1_ n2_; have hcz77_0 : w76.cell? ⟨gb130, 0, none⟩ = some (.int .i64 t132) := (blk_cell BK130.out 0).trans rfl; have hcz77_1 : w76.cell? ⟨gb130, 1, none⟩ = some (.int .i64 t133) := (blk_cell BK130.out 1).trans rfl; have hcz77_2 : w76.cell? ⟨gb130, 2, none⟩ = some (.int .i64 t134) := (blk_cell BK130.out 2).trans rfl; have hcz77_3 : w76.cell? ⟨gb130, 3, none⟩ = some (.int .i64 t135) := (blk_cell BK130.out 3).trans rfl; have hcz77_4 : w76.cell? ⟨gb130, 4, none⟩ = some (.slice Ao75 t136.length co75) := (blk_cell BK130.out 4).trans rfl; have hfz77_0 := blk_frozen BK130.out 0; have hfz77_1 := blk_frozen BK130.out 1; have hfz77_2 := blk_frozen BK130.out 2; have hfz77_3 := blk_frozen BK130.out 3; have hfz77_4 := blk_frozen BK130.out 4; have p67 : 0 ≤ (0 : Int) := (by omega); have q67 : (0 : Int) < ((t136.length : Int) : Int) := of_decide_eq_true (by first | (with_reducible assumption) | assumption); have qi67 : (0 < t136.length) = True := eq_true (by omega); obtain ⟨go67, co67, eo67, gb67, gl67, cl67, HG67⟩ := Kd.R_form HO138.out (by omega); (first | cases eo67 | (injection eo67 with ea_ en_ ec_; (first | subst ea_ | (injection ea_ with ea_; subst ea_)); subst ec_; clear en_)); have GB67 := Aside0.mk gb67; have GG67 := Aside0.mk HG67; clear gb67 gl67 HG67; obtain ⟨ce67, hcl67, hM67, hcc67, hfr67⟩ := Kd.R_elem HO138.out z29 (0 : Int) p67 q67; obtain rfl := k29_openM hM67; have hx67_0 : w76.cell? ⟨go67, (0 : Int).toNat * 3, none⟩ = some (.int .u8 ((rd_T29 t136 0).f0)) := hcc67 0 _ rfl; have hx67_1 : w76.cell? ⟨go67, (0 : Int).toNat * 3 + 1, none⟩ = some (.string ((rd_T29 t136 0).f1)) := hcc67 1 _ rfl; have hx67_2 : w76.cell? ⟨go67, (0 : Int).toNat * 3 + 2, none⟩ = some (.bool ((rd_T29 t136 0).f2)) := hcc67 2 _ rfl; have hf67_0 : w76.frozen? ⟨go67, (0 : Int).toNat * 3, none⟩ = false := hfr67 0; have hf67_1 : w76.frozen? ⟨go67, (0 : Int).toNat * 3 + 1, none⟩ = false := hfr67 1; have hf67_2 : w76.frozen? ⟨go67, (0 : Int).toNat * 3 + 2, none⟩ = false := hfr67 2; clear hcl67 hcc67 hfr67 hM67; (try rw [show ((0 : Int)).toNat = 0 from rfl] at hx67_0); (try simp only [Nat.reduceMul, Nat.zero_mul, Nat.zero_add, Nat.reduceAdd] at hx67_0); (try rw [show ((0 : Int)).toNat = 0 from rfl] at hf67_0); (try simp only [Nat.reduceMul, Nat.zero_mul, Nat.zero_add, Nat.reduceAdd] at hf67_0); (try rw [show ((0 : Int)).toNat = 0 from rfl] at hx67_1); (try simp only [Nat.reduceMul, Nat.zero_mul, Nat.zero_add, Nat.reduceAdd] at hx67_1); (try rw [show ((0 : Int)).toNat = 0 from rfl] at hf67_1); (try simp only [Nat.reduceMul, Nat.zero_mul, Nat.zero_add, Nat.reduceAdd] at hf67_1); (try rw [show ((0 : Int)).toNat = 0 from rfl] at hx67_2); (try simp only [Nat.reduceMul, Nat.zero_mul, Nat.zero_add, Nat.reduceAdd] at hx67_2); (try rw [show ((0 : Int)).toNat = 0 from rfl] at hf67_2); (try simp only [Nat.reduceMul, Nat.zero_mul, Nat.zero_add, Nat.reduceAdd] at hf67_2); replace p67 := eq_true p67; replace q67 := eq_true q67; have HX78 := Aside0.mk (show Kd.R k29 29 w76 w.heap.size (fun _ => True) (.slice (some ⟨go67, 0, none⟩) t136.length co75) t136 from (by (with_reducible repeat (first | apply Kd.R_alloc | apply Kd.R_drewN | apply Kd.R_drew)); exact HO138.out)); obtain ⟨ce78, hcl78, hM78, hcc78, hfr78⟩ := Kd.R_elem HX78.out z29 (0 : Int) (by omega) (by have h_ : (0 : Int) < ((t136.length : Int) : Int) := of_decide_eq_true (by first | (with_reducible assumption) | assumption); first | exact h_ | (have e_ := (Kd.R_reads' HO138.out).1; omega) | simpa using h_); obtain rfl := k29_openM hM78; have HP78 := Kd.R_seg HX78.out (0 : Int) (by omega) (by have h_ : (0 : Int) < ((t136.length : Int) : Int) := of_decide_eq_true (by first | (with_reducible assumption) | assumption); first | exact h_ | (have e_ := (Kd.R_reads' HO138.out).1; omega) | simpa using h_) (seg := [.int .u8 ((a3) % 256)]) (j := 0) hcl78 hcc78 (show 1 ≤ 3 from by decide) (x' := (⟨(a3) % 256, (rd_T29 t136 0).f1, (rd_T29 t136 0).f2⟩ : S29)) (k29_mkM _ _ _ (⟨(a3) % 256, (rd_T29 t136 0).f1, (rd_T29 t136 0).f2⟩ : S29) ) (fun _ hk => hk); have hx78_0 := hcc78 0 _ rfl; (try simp only [show (k29).sz = 3 from rfl, Nat.mul_one, Nat.add_zero] at hx78_0); (try rw [show ((0 : Int)).toNat = 0 from rfl] at hx78_0); (try simp only [Nat.reduceMul, Nat.zero_mul, Nat.zero_add, Nat.reduceAdd] at hx78_0); have hf78_0 := hfr78 0; (try simp only [show (k29).sz = 3 from rfl, Nat.mul_one, Nat.add_zero] at hf78_0); (try rw [show ((0 : Int)).toNat = 0 from rfl] at hf78_0); (try simp only [Nat.reduceMul, Nat.zero_mul, Nat.zero_add, Nat.reduceAdd] at hf78_0); clear hcl78 hcc78 hfr78 hM78) | ((with_reducible refine gate_store (t := 5) (p := 47) rfl ?_); refine store_event (t := 5) (p := 47) (v := ?vo_w79) (w1 := (w76.setCell ⟨go67, 0, none⟩ (.int .u8 ((a3) % 256)))) ?hg ?ho ?hn ?hr ?_; (case ho => rfl); (case hg => rfl); (case hn => rfl); (case hr => first | (go_simp; done) | (go_simp; rfl)); intro w79 hw; have hg : w76.grownBy w79 (some go67) := (by rw [hw]; exact HP78.2); have hp_ : Kd.R k29 29 w79 w.heap.size (fun _ => True) (.slice (some ⟨go67, 0, none⟩) t136.length co75) y147 := (by rw [hw, Ny147.out]; exact HP78.1); clear HP78; have n0_ := Aside0.mk (blk_grown (g := gb130) (o := .cells #[.int .i64 t132, .int .i64 t133, .int .i64 t134, .int .i64 t135, .slice (some ⟨go67, 0, none⟩) t136.length co75] 26 (0, 0)) (by (with_reducible repeat (first | refine blk_drewN ?_ _ | refine blk_drew ?_ | refine blk_alloc ?_ _)); exact BK130.out) hg (Kd.R_ne HO138.out BK130.out (by decide))); have n1_ := Aside0.mk (hp_); have n2_ := Aside0.mk ((by rw [hw]; exact below_set (HB.out) GB67.out : Below w.heap.size w w79)); clear BK130; clear HO138; clear HB; have BK130 := n0_; have HO138 := n1_; have HB := n2_; clear n0_ n1_ n2_; clear hg hw hp_))
          have n0_ := Aside0.mk (Kd.R_drew HO138.out)
          have n1_ := Aside0.mk (blk_drew BK130.out)
          have n2_ := Aside0.mk (below_drew1 HB.out)
          clear HO138
          clear BK130
          clear HB
          have HO138 := n0_
          have BK130 := n1_
          have HB := n2_
          clear n0_ n1_ n2_
          refine start_ (n := 6) (S := fun w' => w'.cell? ⟨gb130, 0, none⟩ = some (.int .i64 t132) ∧ w'.cell? ⟨gb130, 1, none⟩ = some (.int .i64 t133) ∧ w'.cell? ⟨gb130, 2, none⟩ = some (.int .i64 t134) ∧ w'.cell? ⟨gb130, 3, none⟩ = some (.int .i64 t135) ∧ w'.cell? ⟨gb130, 4, none⟩ = some (.slice (some ⟨go67, 0, none⟩) t136.length co75)) (ds := []) #[false, false, false, false, false, false] (by kernel_rfl) rfl rfl ⟨(blk_cell BK130.out 0).trans rfl, (blk_cell BK130.out 1).trans rfl, (blk_cell BK130.out 2).trans rfl, (blk_cell BK130.out 3).trans rfl, (blk_cell BK130.out 4).trans rfl⟩ (fun hHeld => ?_)
          generalize w79.drew = w80 at HO138 BK130 HB hHeld ⊢
          refine take_ (i := 0) (N := some 80) (v := ?_) (a' := ?_) #[true, false, false, false, false, false] rfl rfl (by kernel_rfl) (fun _ _ _ h => h) (Or.inl ⟨by rfl, ?_⟩) hHeld ?_ ?_
          rotate_left
          ·rintro w' ⟨s0, s1, s2, s3, s4⟩
           go_simp
           with_reducible rfl
          rotate_left
          ·simp only [Act.put, List.setIfInBounds_toArray, List.set_cons_zero, List.set_cons_succ, i64_w, i32_w]
           rfl
          refine take_ (i := 2) (N := some 82) (v := ?_) (a' := ?_) #[true, false, true, false, false, false] rfl rfl (by kernel_rfl) (fun _ _ _ h => h) (Or.inl ⟨by rfl, ?_⟩) hHeld ?_ ?_
          rotate_left
          ·rintro w' ⟨s0, s1, s2, s3, s4⟩
           go_simp
           with_reducible rfl
          rotate_left
          ·simp only [Act.put, List.setIfInBounds_toArray, List.set_cons_zero, List.set_cons_succ, i64_w, i32_w]
           rfl
          refine one_ (i := 1) (N := some 81) #[true, true, true, false, false, false] rfl rfl (by kernel_rfl) (by decide) (fun K hK => ?_)
          refine goes_ Tryd.func16 (by kernel_rfl) rfl #[.agg #[.int .i64 t132, .int .i64 t133, .int .i64 t134, .int .i64 t135, .slice (some ⟨go67, 0, none⟩) y147.length co75]] (by rfl) rfl rfl (by (try simp only [List.map_toArray, List.map_cons, List.map_nil]); first | done | (rw [show y147.length = t136.length from (Kd.R_reads' HO138.out).1.symm] <;> rfl) | rfl | (simp only [List.length_drop, List.length_take]; rfl)) ?_
          with_reducible refine (show_Check.calls k t132 t133 t134 t135 _ _ y147 t148 _ ?side1 ?side2 A68.out).mono ?_
          (case side1 => repeat (first | exact (Kd.R_reads' HO138.out).2.2 | (with_reducible refine Kd.C_alloc ?_ _) | (with_reducible refine Kd.C_drewN ?_ _) | (with_reducible refine Kd.C_drew ?_)))
          (case side2 => rw [show y147.length = t136.length from (Kd.R_reads' HO138.out).1.symm]; exact (Kd.R_reads' HO138.out).2.1)
          rintro e w81 ⟨rfl, hb⟩
          refine ⟨_, rfl, ?_⟩
          have n0_ := Aside0.mk (Kd.R_below (by (with_reducible repeat (first | apply Kd.R_alloc | apply Kd.R_drewN | apply Kd.R_drew)); exact HO138.out) hb)
          have n1_ := Aside0.mk (blk_below (g := gb130) (o := .cells #[.int .i64 t132, .int .i64 t133, .int .i64 t134, .int .i64 t135, .slice (some ⟨go67, 0, none⟩) t136.length co75] 26 (0, 0)) (by (with_reducible repeat (first | refine blk_drewN ?_ _ | refine blk_drew ?_ | refine blk_alloc ?_ _)); exact BK130.out) hb)
          have n2_ := Aside0.mk (below_step (by repeat (first | (with_reducible first | exact HB.out | apply below_alloc | apply pw_below_drewN | apply below_drew1 | refine below_set ?_ GE130.out) | exact HB.out)) hb)
          clear HO138
          clear BK130
          clear HB
          have HO138 := n0_
          have BK130 := n1_
          have HB := n2_
          clear n0_ n1_ n2_
          (try clear hb)
          (try clear hb2)
          (try clear hk)
          (try clear hi)
          refine hK.out _ _ ⟨(blk_cell BK130.out 0).trans rfl, (blk_cell BK130.out 1).trans rfl, (blk_cell BK130.out 2).trans rfl, (blk_cell BK130.out 3).trans rfl, (blk_cell BK130.out 4).trans rfl⟩ (fun hHeld => ?_)
          clear hK K
          refine norm_ (a' := ?_) ?_ ?_
          rotate_left
          ·show Act.put _ (some 81) _ = _
           simp only [Act.put, List.setIfInBounds_toArray, List.set_cons_zero, List.set_cons_succ, i64_w, i32_w]
           rfl
          refine one_ (i := 3) (N := some 83) #[true, true, true, true, false, false] rfl rfl (by kernel_rfl) (by decide) (fun K hK => ?_)
          refine goes_ Tryd.func17 (by kernel_rfl) rfl #[.agg #[.int .i64 t132, .int .i64 t133, .int .i64 t134, .int .i64 t135, .slice (some ⟨go67, 0, none⟩) y147.length co75]] (by rfl) rfl rfl (by (try simp only [List.map_toArray, List.map_cons, List.map_nil]); first | done | (rw [show y147.length = t136.length from (Kd.R_reads' HO138.out).1.symm] <;> rfl) | rfl | (simp only [List.length_drop, List.length_take]; rfl)) ?_
          with_reducible refine (redpenref18_Check.calls k t132 t133 t134 t135 _ _ y147 t149 _ ?side1 ?side2 A69.out).mono ?_
          (case side1 => repeat (first | exact (Kd.R_reads' HO138.out).2.2 | (with_reducible refine Kd.C_alloc ?_ _) | (with_reducible refine Kd.C_drewN ?_ _) | (with_reducible refine Kd.C_drew ?_)))
          (case side2 => rw [show y147.length = t136.length from (Kd.R_reads' HO138.out).1.symm]; exact (Kd.R_reads' HO138.out).2.1)
          rintro e w82 ⟨rfl, hb⟩
          refine ⟨_, rfl, ?_⟩
          have n0_ := Aside0.mk (Kd.R_below (by (with_reducible repeat (first | apply Kd.R_alloc | apply Kd.R_drewN | apply Kd.R_drew)); exact HO138.out) hb)
          have n1_ := Aside0.mk (blk_below (g := gb130) (o := .cells #[.int .i64 t132, .int .i64 t133, .int .i64 t134, .int .i64 t135, .slice (some ⟨go67, 0, none⟩) t136.length co75] 26 (0, 0)) (by (with_reducible repeat (first | refine blk_drewN ?_ _ | refine blk_drew ?_ | refine blk_alloc ?_ _)); exact BK130.out) hb)
          have n2_ := Aside0.mk (below_step (by repeat (first | (with_reducible first | exact HB.out | apply below_alloc | apply pw_below_drewN | apply below_drew1 | refine below_set ?_ GE130.out) | exact HB.out)) hb)
          clear HO138
          clear BK130
          clear HB
          have HO138 := n0_
          have BK130 := n1_
          have HB := n2_
          clear n0_ n1_ n2_
          (try clear hb)
          (try clear hb2)
          (try clear hk)
          (try clear hi)
          refine hK.out _ _ ⟨(blk_cell BK130.out 0).trans rfl, (blk_cell BK130.out 1).trans rfl, (blk_cell BK130.out 2).trans rfl, (blk_cell BK130.out 3).trans rfl, (blk_cell BK130.out 4).trans rfl⟩ (fun hHeld => ?_)
          clear hK K
          refine norm_ (a' := ?_) ?_ ?_
          rotate_left
          ·show Act.put _ (some 83) _ = _
           simp only [Act.put, List.setIfInBounds_toArray, List.set_cons_zero, List.set_cons_succ, i64_w, i32_w]
           rfl
          refine pure_ (i := 4) (N := some 84) (v := ?_) (a' := ?_) #[true, true, true, true, true, false] rfl rfl (by kernel_rfl) (fun _ _ _ h => h) (Or.inl ⟨by rfl, ?_⟩) ?_ ?_
          rotate_left
          ·intro w'
           go_simp
           with_reducible rfl
          rotate_left
          ·simp only [Act.put, List.setIfInBounds_toArray, List.set_cons_zero, List.set_cons_succ, i64_w, i32_w]
           rfl
          refine pure_ (i := 5) (N := some 8) (v := ?_) (a' := ?_) #[true, true, true, true, true, true] rfl rfl (by kernel_rfl) (fun _ _ _ h => h) (Or.inl ⟨by rfl, ?_⟩) ?_ ?_
          rotate_left
          ·intro w'
           go_simp
           with_reducible rfl
          rotate_left
          ·simp only [Act.put, List.setIfInBounds_toArray, List.set_cons_zero, List.set_cons_succ, i64_w, i32_w]
           rfl
          refine done_ (by kernel_rfl) ?_
          try go_wp2
          go_ret
          exact ⟨by first | rfl | (simp [errW_none, errW_some] <;> rfl) | (simp [*, errW_none, errW_some] <;> rfl), by repeat (first | (with_reducible first | exact HB.out | apply below_alloc | apply pw_below_drewN | apply below_drew1 | refine below_set ?_ GE130.out) | exact HB.out)⟩
         ·rw [if_neg c66] at H
          exact absurd H (by simp)
        ·rw [if_neg c65] at H
         have c65b0 : decide (0 < (t136.length : Int)) = false := decide_eq_false c65
         have c65b1 : decide (0 < t136.length) = false := decide_eq_false (by omega)
         clear c65
         replace H := Option.bind_eq_some_iff.mp H
         obtain ⟨t150, A830, H⟩ := H
         replace H : ((redpenref18_Check.f k t132 t133 t134 t135 t136).bind fun t151 => (some (t150 == t151))) = some r := H
         have A83 := Aside0.mk A830
         clear A830
         replace H := Option.bind_eq_some_iff.mp H
         obtain ⟨t151, A840, H⟩ := H
         replace H : (some (t150 == t151)) = some r := H
         have A84 := Aside0.mk A840
         clear A840
         obtain rfl := Option.some.inj H
         go_enter Tryd.func4, Tryd.ntmps4
         try go_wp2_with (first | ((with_reducible refine gate_dst (N := 4) rfl ?_); refine box_event ?hg (N := 4) ?hd (cs := #[.int .i64 a0_0, .int .i64 a0_1, .int .i64 a0_2, .int .i64 a0_3, .slice A0_4 l0_4.length c0_4]) (t := 26) ?hr ?_; (case hd => rfl); (case hg => rfl); (case hr => first | (go_simp; done) | (go_simp; rfl)); intro gb130 hg w85 hbox hb; have n0_ := Aside0.mk (below_step (by repeat (first | (with_reducible first | exact HB.out | apply below_alloc | apply pw_below_drewN | apply below_drew1) | exact HB.out)) hb); have n1_ := Aside0.mk (hbox); have n2_ := Aside0.mk ((by rw [hg]; exact (below_size (by repeat (first | (with_reducible first | exact HB.out | apply below_alloc | apply pw_below_drewN | apply below_drew1) | exact HB.out))) : w.heap.size ≤ gb130)); have n3_ := Aside0.mk ((by rw [hg]; exact (below_size (by repeat (first | (with_reducible first | exact HB.out | apply below_alloc | apply pw_below_drewN | apply below_drew1) | exact HB.out))) : w.heap.size ≤ gb130)); clear HB; have HB := n0_; have BK130 := n1_; have GW130 := n2_; have GE130 := n3_; clear n0_ n1_ n2_ n3_; clear hb hbox hg) | ((with_reducible refine gate_callee (f := 12) rfl ?_); refine goesL_ (some 9) rfl rfl Tryd.func12 (by kernel_rfl) rfl #[] rfl (by (try simp only [List.map_toArray, List.map_cons, List.map_nil]); first | done | rfl | (simp only [List.length_drop, List.length_take]; rfl)) ?_; (with_reducible refine (redpenlaw20_Awake.calls  true _ A5.out).mono ?_); rintro e w86 ⟨rfl, hb⟩; refine ⟨_, rfl, ?_⟩; have n0_ := Aside0.mk (blk_below (g := gb130) (o := .cells #[.int .i64 a0_0, .int .i64 a0_1, .int .i64 a0_2, .int .i64 a0_3, .slice A0_4 l0_4.length c0_4] 26 (0, 0)) (by (with_reducible repeat (first | refine blk_drewN ?_ _ | refine blk_drew ?_ | refine blk_alloc ?_ _)); exact BK130.out) hb); have n1_ := Aside0.mk (below_step (by repeat (first | (with_reducible first | exact HB.out | apply below_alloc | apply pw_below_drewN | apply below_drew1 | refine below_set ?_ GE130.out) | exact HB.out)) hb); clear BK130; clear HB; have BK130 := n0_; have HB := n1_; clear n0_ n1_; (try clear hb); (try clear hb2); (try clear hk); (try clear hi); have hcz87_0 : w86.cell? ⟨gb130, 0, none⟩ = some (.int .i64 a0_0) := (blk_cell BK130.out 0).trans rfl; have hcz87_1 : w86.cell? ⟨gb130, 1, none⟩ = some (.int .i64 a0_1) := (blk_cell BK130.out 1).trans rfl; have hcz87_2 : w86.cell? ⟨gb130, 2, none⟩ = some (.int .i64 a0_2) := (blk_cell BK130.out 2).trans rfl; have hcz87_3 : w86.cell? ⟨gb130, 3, none⟩ = some (.int .i64 a0_3) := (blk_cell BK130.out 3).trans rfl; have hcz87_4 : w86.cell? ⟨gb130, 4, none⟩ = some (.slice A0_4 l0_4.length c0_4) := (blk_cell BK130.out 4).trans rfl; have hfz87_0 := blk_frozen BK130.out 0; have hfz87_1 := blk_frozen BK130.out 1; have hfz87_2 := blk_frozen BK130.out 2; have hfz87_3 := blk_frozen BK130.out 3; have hfz87_4 := blk_frozen BK130.out 4) | ((with_reducible refine gate_callee (f := 15) rfl ?_); refine goesL_ (some 17) rfl rfl Tryd.func15 (by kernel_rfl) rfl #[.agg #[.int .i64 a0_0, .int .i64 a0_1, .int .i64 a0_2, .int .i64 a0_3, .slice A0_4 l0_4.length c0_4], .bool a1] rfl (by (try simp only [List.map_toArray, List.map_cons, List.map_nil]); first | done | rfl | (simp only [List.length_drop, List.length_take]; rfl)) ?_; (with_reducible refine (redpenlaw20_Tidied.calls k a0_0 a0_1 a0_2 a0_3 _ _ l0_4 a1 t132 t133 t134 t135 t136 _ ?side1 ?side2 A11.out).mono ?_); (case side1 => repeat (first | exact (Kd.C_below HR0_4.out HB.out) | (with_reducible refine Kd.C_alloc ?_ _) | (with_reducible refine Kd.C_drewN ?_ _) | (with_reducible refine Kd.C_drew ?_))); (case side2 => exact HC0_4.out); rintro e w88 ⟨v137, rfl, ho0, hb⟩; refine ⟨_, rfl, ?_⟩; have n0_ := Aside0.mk (Kd.R_lower ho0 (below_size (by repeat (first | (with_reducible first | exact HB.out | apply below_alloc | apply pw_below_drewN | apply below_drew1 | refine below_set ?_ GE130.out) | exact HB.out)))); have n1_ := Aside0.mk (blk_below (g := gb130) (o := .cells #[.int .i64 a0_0, .int .i64 a0_1, .int .i64 a0_2, .int .i64 a0_3, .slice A0_4 l0_4.length c0_4] 26 (0, 0)) (by (with_reducible repeat (first | refine blk_drewN ?_ _ | refine blk_drew ?_ | refine blk_alloc ?_ _)); exact BK130.out) hb); have n2_ := Aside0.mk (below_step (by repeat (first | (with_reducible first | exact HB.out | apply below_alloc | apply pw_below_drewN | apply below_drew1 | refine below_set ?_ GE130.out) | exact HB.out)) hb); clear BK130; clear HB; have HO138 := n0_; have BK130 := n1_; have HB := n2_; clear n0_ n1_ n2_; (try clear hb); (try clear hb2); (try clear hk); (try clear hi); (try clear ho0); have hcz89_0 : w88.cell? ⟨gb130, 0, none⟩ = some (.int .i64 a0_0) := (blk_cell BK130.out 0).trans rfl; have hcz89_1 : w88.cell? ⟨gb130, 1, none⟩ = some (.int .i64 a0_1) := (blk_cell BK130.out 1).trans rfl; have hcz89_2 : w88.cell? ⟨gb130, 2, none⟩ = some (.int .i64 a0_2) := (blk_cell BK130.out 2).trans rfl; have hcz89_3 : w88.cell? ⟨gb130, 3, none⟩ = some (.int .i64 a0_3) := (blk_cell BK130.out 3).trans rfl; have hcz89_4 : w88.cell? ⟨gb130, 4, none⟩ = some (.slice A0_4 l0_4.length c0_4) := (blk_cell BK130.out 4).trans rfl; have hfz89_0 := blk_frozen BK130.out 0; have hfz89_1 := blk_frozen BK130.out 1; have hfz89_2 := blk_frozen BK130.out 2; have hfz89_3 := blk_frozen BK130.out 3; have hfz89_4 := blk_frozen BK130.out 4; obtain ⟨Ao90, co90, eo90⟩ := Kd.R_slice HO138.out; subst eo90))
         have n0_ : Aside0 (Kd.R k29 29 (((((w88.setCell ⟨gb130, 0, none⟩ (.int .i64 t132)).setCell ⟨gb130, 1, none⟩ (.int .i64 t133)).setCell ⟨gb130, 2, none⟩ (.int .i64 t134)).setCell ⟨gb130, 3, none⟩ (.int .i64 t135)).setCell ⟨gb130, 4, none⟩ (.slice Ao90 t136.length co90)) w.heap.size (fun _ => True) (.slice Ao90 t136.length co90) t136) := ⟨by (with_reducible repeat (first | apply Kd.R_alloc | apply Kd.R_drewN | apply Kd.R_drew)); exact Kd.R_mono (Kd.R_far (p := ⟨gb130, 4, none⟩) (Kd.R_far (p := ⟨gb130, 3, none⟩) (Kd.R_far (p := ⟨gb130, 2, none⟩) (Kd.R_far (p := ⟨gb130, 1, none⟩) (Kd.R_far (p := ⟨gb130, 0, none⟩) (Kd.R_types HO138.out BK130.out (by decide)) (fun _ hk => hk.2) (.int .i64 t132)) (fun _ hk => hk.2) (.int .i64 t133)) (fun _ hk => hk.2) (.int .i64 t134)) (fun _ hk => hk.2) (.int .i64 t135)) (fun _ hk => hk.2) (.slice Ao90 t136.length co90)) (fun _ hk => trivial)⟩
         have n1_ : Aside0 ((((((w88.setCell ⟨gb130, 0, none⟩ (.int .i64 t132)).setCell ⟨gb130, 1, none⟩ (.int .i64 t133)).setCell ⟨gb130, 2, none⟩ (.int .i64 t134)).setCell ⟨gb130, 3, none⟩ (.int .i64 t135)).setCell ⟨gb130, 4, none⟩ (.slice Ao90 t136.length co90)).heap[gb130]? = some (.cells #[.int .i64 t132, .int .i64 t133, .int .i64 t134, .int .i64 t135, .slice Ao90 t136.length co90] 26 (0, 0))) := ⟨by (with_reducible repeat (first | refine blk_drewN ?_ _ | refine blk_drew ?_ | refine blk_alloc ?_ _)); refine blk_put (cs := #[.int .i64 t132, .int .i64 t133, .int .i64 t134, .int .i64 t135, .slice A0_4 l0_4.length c0_4]) ?_ 4 _ rfl; (with_reducible repeat (first | refine blk_drewN ?_ _ | refine blk_drew ?_ | refine blk_alloc ?_ _)); refine blk_put (cs := #[.int .i64 t132, .int .i64 t133, .int .i64 t134, .int .i64 a0_3, .slice A0_4 l0_4.length c0_4]) ?_ 3 _ rfl; (with_reducible repeat (first | refine blk_drewN ?_ _ | refine blk_drew ?_ | refine blk_alloc ?_ _)); refine blk_put (cs := #[.int .i64 t132, .int .i64 t133, .int .i64 a0_2, .int .i64 a0_3, .slice A0_4 l0_4.length c0_4]) ?_ 2 _ rfl; (with_reducible repeat (first | refine blk_drewN ?_ _ | refine blk_drew ?_ | refine blk_alloc ?_ _)); refine blk_put (cs := #[.int .i64 t132, .int .i64 a0_1, .int .i64 a0_2, .int .i64 a0_3, .slice A0_4 l0_4.length c0_4]) ?_ 1 _ rfl; (with_reducible repeat (first | refine blk_drewN ?_ _ | refine blk_drew ?_ | refine blk_alloc ?_ _)); refine blk_put (cs := #[.int .i64 a0_0, .int .i64 a0_1, .int .i64 a0_2, .int .i64 a0_3, .slice A0_4 l0_4.length c0_4]) ?_ 0 _ rfl; (with_reducible repeat (first | refine blk_drewN ?_ _ | refine blk_drew ?_ | refine blk_alloc ?_ _)); exact BK130.out⟩
         have n2_ : Aside0 (Below w.heap.size w (((((w88.setCell ⟨gb130, 0, none⟩ (.int .i64 t132)).setCell ⟨gb130, 1, none⟩ (.int .i64 t133)).setCell ⟨gb130, 2, none⟩ (.int .i64 t134)).setCell ⟨gb130, 3, none⟩ (.int .i64 t135)).setCell ⟨gb130, 4, none⟩ (.slice Ao90 t136.length co90))) := ⟨by repeat (first | (with_reducible first | exact HB.out | apply below_alloc | apply pw_below_drewN | apply below_drew1 | refine below_set ?_ GE130.out) | exact HB.out)⟩
         (try clear HO138)
         (try clear BK130)
         (try clear HB)
         generalize (((((w88.setCell ⟨gb130, 0, none⟩ (.int .i64 t132)).setCell ⟨gb130, 1, none⟩ (.int .i64 t133)).setCell ⟨gb130, 2, none⟩ (.int .i64 t134)).setCell ⟨gb130, 3, none⟩ (.int .i64 t135)).setCell ⟨gb130, 4, none⟩ (.slice Ao90 t136.length co90)) = w91 at n0_ n1_ n2_ ⊢
         have HO138 := n0_
         have BK130 := n1_
         have HB := n2_
         clear n0_ n1_ n2_
         have n0_ := Aside0.mk (Kd.R_drew HO138.out)
         have n1_ := Aside0.mk (blk_drew BK130.out)
         have n2_ := Aside0.mk (below_drew1 HB.out)
         clear HO138
         clear BK130
         clear HB
         have HO138 := n0_
         have BK130 := n1_
         have HB := n2_
         clear n0_ n1_ n2_
         refine start_ (n := 6) (S := fun w' => w'.cell? ⟨gb130, 0, none⟩ = some (.int .i64 t132) ∧ w'.cell? ⟨gb130, 1, none⟩ = some (.int .i64 t133) ∧ w'.cell? ⟨gb130, 2, none⟩ = some (.int .i64 t134) ∧ w'.cell? ⟨gb130, 3, none⟩ = some (.int .i64 t135) ∧ w'.cell? ⟨gb130, 4, none⟩ = some (.slice Ao90 t136.length co90)) (ds := []) #[false, false, false, false, false, false] (by kernel_rfl) rfl rfl ⟨(blk_cell BK130.out 0).trans rfl, (blk_cell BK130.out 1).trans rfl, (blk_cell BK130.out 2).trans rfl, (blk_cell BK130.out 3).trans rfl, (blk_cell BK130.out 4).trans rfl⟩ (fun hHeld => ?_)
         generalize w91.drew = w92 at HO138 BK130 HB hHeld ⊢
         refine take_ (i := 0) (N := some 80) (v := ?_) (a' := ?_) #[true, false, false, false, false, false] rfl rfl (by kernel_rfl) (fun _ _ _ h => h) (Or.inl ⟨by rfl, ?_⟩) hHeld ?_ ?_
         rotate_left
         ·rintro w' ⟨s0, s1, s2, s3, s4⟩
          go_simp
          with_reducible rfl
         rotate_left
         ·simp only [Act.put, List.setIfInBounds_toArray, List.set_cons_zero, List.set_cons_succ, i64_w, i32_w]
          rfl
         refine take_ (i := 2) (N := some 82) (v := ?_) (a' := ?_) #[true, false, true, false, false, false] rfl rfl (by kernel_rfl) (fun _ _ _ h => h) (Or.inl ⟨by rfl, ?_⟩) hHeld ?_ ?_
         rotate_left
         ·rintro w' ⟨s0, s1, s2, s3, s4⟩
          go_simp
          with_reducible rfl
         rotate_left
         ·simp only [Act.put, List.setIfInBounds_toArray, List.set_cons_zero, List.set_cons_succ, i64_w, i32_w]
          rfl
         refine one_ (i := 1) (N := some 81) #[true, true, true, false, false, false] rfl rfl (by kernel_rfl) (by decide) (fun K hK => ?_)
         refine goes_ Tryd.func16 (by kernel_rfl) rfl #[.agg #[.int .i64 t132, .int .i64 t133, .int .i64 t134, .int .i64 t135, .slice Ao90 t136.length co90]] (by rfl) rfl rfl (by (try simp only [List.map_toArray, List.map_cons, List.map_nil]); first | done | rfl | (simp only [List.length_drop, List.length_take]; rfl)) ?_
         with_reducible refine (show_Check.calls k t132 t133 t134 t135 _ _ t136 t150 _ ?side1 ?side2 A83.out).mono ?_
         (case side1 => repeat (first | exact (Kd.R_reads' HO138.out).2.2 | (with_reducible refine Kd.C_alloc ?_ _) | (with_reducible refine Kd.C_drewN ?_ _) | (with_reducible refine Kd.C_drew ?_)))
         (case side2 => exact (Kd.R_reads' HO138.out).2.1)
         rintro e w93 ⟨rfl, hb⟩
         refine ⟨_, rfl, ?_⟩
         have n0_ := Aside0.mk (Kd.R_below (by (with_reducible repeat (first | apply Kd.R_alloc | apply Kd.R_drewN | apply Kd.R_drew)); exact HO138.out) hb)
         have n1_ := Aside0.mk (blk_below (g := gb130) (o := .cells #[.int .i64 t132, .int .i64 t133, .int .i64 t134, .int .i64 t135, .slice Ao90 t136.length co90] 26 (0, 0)) (by (with_reducible repeat (first | refine blk_drewN ?_ _ | refine blk_drew ?_ | refine blk_alloc ?_ _)); exact BK130.out) hb)
         have n2_ := Aside0.mk (below_step (by repeat (first | (with_reducible first | exact HB.out | apply below_alloc | apply pw_below_drewN | apply below_drew1 | refine below_set ?_ GE130.out) | exact HB.out)) hb)
         clear HO138
         clear BK130
         clear HB
         have HO138 := n0_
         have BK130 := n1_
         have HB := n2_
         clear n0_ n1_ n2_
         (try clear hb)
         (try clear hb2)
         (try clear hk)
         (try clear hi)
         refine hK.out _ _ ⟨(blk_cell BK130.out 0).trans rfl, (blk_cell BK130.out 1).trans rfl, (blk_cell BK130.out 2).trans rfl, (blk_cell BK130.out 3).trans rfl, (blk_cell BK130.out 4).trans rfl⟩ (fun hHeld => ?_)
         clear hK K
         refine norm_ (a' := ?_) ?_ ?_
         rotate_left
         ·show Act.put _ (some 81) _ = _
          simp only [Act.put, List.setIfInBounds_toArray, List.set_cons_zero, List.set_cons_succ, i64_w, i32_w]
          rfl
         refine one_ (i := 3) (N := some 83) #[true, true, true, true, false, false] rfl rfl (by kernel_rfl) (by decide) (fun K hK => ?_)
         refine goes_ Tryd.func17 (by kernel_rfl) rfl #[.agg #[.int .i64 t132, .int .i64 t133, .int .i64 t134, .int .i64 t135, .slice Ao90 t136.length co90]] (by rfl) rfl rfl (by (try simp only [List.map_toArray, List.map_cons, List.map_nil]); first | done | rfl | (simp only [List.length_drop, List.length_take]; rfl)) ?_
         with_reducible refine (redpenref18_Check.calls k t132 t133 t134 t135 _ _ t136 t151 _ ?side1 ?side2 A84.out).mono ?_
         (case side1 => repeat (first | exact (Kd.R_reads' HO138.out).2.2 | (with_reducible refine Kd.C_alloc ?_ _) | (with_reducible refine Kd.C_drewN ?_ _) | (with_reducible refine Kd.C_drew ?_)))
         (case side2 => exact (Kd.R_reads' HO138.out).2.1)
         rintro e w94 ⟨rfl, hb⟩
         refine ⟨_, rfl, ?_⟩
         have n0_ := Aside0.mk (Kd.R_below (by (with_reducible repeat (first | apply Kd.R_alloc | apply Kd.R_drewN | apply Kd.R_drew)); exact HO138.out) hb)
         have n1_ := Aside0.mk (blk_below (g := gb130) (o := .cells #[.int .i64 t132, .int .i64 t133, .int .i64 t134, .int .i64 t135, .slice Ao90 t136.length co90] 26 (0, 0)) (by (with_reducible repeat (first | refine blk_drewN ?_ _ | refine blk_drew ?_ | refine blk_alloc ?_ _)); exact BK130.out) hb)
         have n2_ := Aside0.mk (below_step (by repeat (first | (with_reducible first | exact HB.out | apply below_alloc | apply pw_below_drewN | apply below_drew1 | refine below_set ?_ GE130.out) | exact HB.out)) hb)
         clear HO138
         clear BK130
         clear HB
         have HO138 := n0_
         have BK130 := n1_
         have HB := n2_
         clear n0_ n1_ n2_
         (try clear hb)
         (try clear hb2)
         (try clear hk)
         (try clear hi)
         refine hK.out _ _ ⟨(blk_cell BK130.out 0).trans rfl, (blk_cell BK130.out 1).trans rfl, (blk_cell BK130.out 2).trans rfl, (blk_cell BK130.out 3).trans rfl, (blk_cell BK130.out 4).trans rfl⟩ (fun hHeld => ?_)
         clear hK K
         refine norm_ (a' := ?_) ?_ ?_
         rotate_left
         ·show Act.put _ (some 83) _ = _
          simp only [Act.put, List.setIfInBounds_toArray, List.set_cons_zero, List.set_cons_succ, i64_w, i32_w]
          rfl
         refine pure_ (i := 4) (N := some 84) (v := ?_) (a' := ?_) #[true, true, true, true, true, false] rfl rfl (by kernel_rfl) (fun _ _ _ h => h) (Or.inl ⟨by rfl, ?_⟩) ?_ ?_
         rotate_left
         ·intro w'
          go_simp
          with_reducible rfl
         rotate_left
         ·simp only [Act.put, List.setIfInBounds_toArray, List.set_cons_zero, List.set_cons_succ, i64_w, i32_w]
          rfl
         refine pure_ (i := 5) (N := some 8) (v := ?_) (a' := ?_) #[true, true, true, true, true, true] rfl rfl (by kernel_rfl) (fun _ _ _ h => h) (Or.inl ⟨by rfl, ?_⟩) ?_ ?_
         rotate_left
         ·intro w'
          go_simp
          with_reducible rfl
         rotate_left
         ·simp only [Act.put, List.setIfInBounds_toArray, List.set_cons_zero, List.set_cons_succ, i64_w, i32_w]
          rfl
         refine done_ (by kernel_rfl) ?_
         try go_wp2
         go_ret
         exact ⟨by first | rfl | (simp [errW_none, errW_some] <;> rfl) | (simp [*, errW_none, errW_some] <;> rfl), by repeat (first | (with_reducible first | exact HB.out | apply below_alloc | apply pw_below_drewN | apply below_drew1 | refine below_set ?_ GE130.out) | exact HB.out)⟩
       ·rw [if_neg c64] at H
        have c64b0 : ((Int.tmod a2 10) == 4) = false := beq_eq_false_iff_ne.mpr c64
        have c64b1 : ((Int.tmod a2 10) != 4) = true := bne_iff_ne.mpr c64
        by_cases c95 : (Int.tmod a2 10) = 5
        ·rw [if_pos c95] at H
         have c95b0 : ((Int.tmod a2 10) == 5) = true := beq_iff_eq.mpr c95
         have c95b1 : ((Int.tmod a2 10) != 5) = false := bne_eq_false_iff_eq.mpr c95
         clear c95
         by_cases c96 : (t136.length : Int) > 0
         ·rw [if_pos c96] at H
          have c96b0 : decide (0 < (t136.length : Int)) = true := decide_eq_true c96
          have c96b1 : decide (0 < t136.length) = true := decide_eq_true (by omega)
          clear c96
          obtain ⟨ji97, hji97⟩ : ∃ j_ : Int, (wrap64 ((t136.length : Int) / 2)) = j_ := ⟨_, rfl⟩
          replace H : (if 0 ≤ (ji97) then (if (ji97) < (t136.length : Int) then (if ((rd_T29 t136 (ji97)).f1).size + 1 ≤ 9223372036854775807 then ((some (t136.set ((ji97) : Int).toNat (⟨(rd_T29 t136 (ji97)).f0, ((rd_T29 t136 (ji97)).f1) ++ (⟨#[10]⟩ : ByteArray), (rd_T29 t136 (ji97)).f2⟩ : S29) : List (S29))).bind fun y153 => ((show_Check.f k t132 t133 t134 t135 y153).bind fun t154 => ((redpenref18_Check.f k t132 t133 t134 t135 y153).bind fun t155 => (some (t154 == t155))))) else (none)) else (none)) else (none)) = some r := by first | (rw [hji97] at H; exact H) | (simp only [hji97] at H ⊢; exact H)
          (try rw [hji97] at A5)
          (try rw [hji97] at A11)
          have hji97w : (IntKind.i64.wrap ((t136.length : Int) / 2)) = ji97 := (i64_w _).trans hji97
          by_cases c98 : 0 ≤ (ji97)
          ·rw [if_pos c98] at H
           have c98b0 : decide (0 ≤ (ji97)) = true := decide_eq_true c98
           clear c98
           by_cases c99 : (ji97) < (t136.length : Int)
           ·rw [if_pos c99] at H
            have c99b0 : decide ((ji97) < (t136.length : Int)) = true := decide_eq_true c99
            clear c99
            by_cases c100 : ((rd_T29 t136 (ji97)).f1).size + 1 ≤ 9223372036854775807
            ·rw [if_pos c100] at H
             have c100b0 := eq_true c100
             have c100b1 : decide (((rd_T29 t136 (ji97)).f1).size + 1 ≤ 9223372036854775807) = true := decide_eq_true c100
             try have c100b2 : (9223372036854775807 < ((rd_T29 t136 (ji97)).f1).size + 1) = False := eq_false (Nat.not_lt.2 c100)
             obtain ⟨y153, hy153⟩ : ∃ y_ : List (S29), y_ = (t136.set ((ji97) : Int).toNat (⟨(rd_T29 t136 (ji97)).f0, ((rd_T29 t136 (ji97)).f1) ++ (⟨#[10]⟩ : ByteArray), (rd_T29 t136 (ji97)).f2⟩ : S29)) := ⟨_, rfl⟩
             replace H : ((show_Check.f k t132 t133 t134 t135 y153).bind fun t154 => ((redpenref18_Check.f k t132 t133 t134 t135 y153).bind fun t155 => (some (t154 == t155)))) = some r := by first | (rw [hy153]; with_reducible exact H) | (have H2_ := (Option.bind_some _ _).symm.trans H; rw [hy153]; with_reducible exact H2_) | (have H2_ := (Option.bind_some _ _).symm.trans H; with_reducible exact H2_) | with_reducible exact H | (rw [hy153]; exact H) | exact H
             have Ny153 := Aside0.mk hy153
             clear hy153
             replace H := Option.bind_eq_some_iff.mp H
             obtain ⟨t154, A1020, H⟩ := H
             replace H : ((redpenref18_Check.f k t132 t133 t134 t135 y153).bind fun t155 => (some (t154 == t155))) = some r := H
             have A102 := Aside0.mk A1020
             clear A1020
             replace H := Option.bind_eq_some_iff.mp H
             obtain ⟨t155, A1030, H⟩ := H
             replace H : (some (t154 == t155)) = some r := H
             have A103 := Aside0.mk A1030
             clear A1030
             obtain rfl := Option.some.inj H
             go_enter Tryd.func4, Tryd.ntmps4
             try go_wp2_with (first | ((with_reducible refine gate_dst (N := 4) rfl ?_); refine box_event ?hg (N := 4) ?hd (cs := #[.int .i64 a0_0, .int .i64 a0_1, .int .i64 a0_2, .int .i64 a0_3, .slice A0_4 l0_4.length c0_4]) (t := 26) ?hr ?_; (case hd => rfl); (case hg => rfl); (case hr => first | (go_simp; done) | (go_simp; rfl)); intro gb130 hg w104 hbox hb; have n0_ := Aside0.mk (below_step (by repeat (first | (with_reducible first | exact HB.out | apply below_alloc | apply pw_below_drewN | apply below_drew1) | exact HB.out)) hb); have n1_ := Aside0.mk (hbox); have n2_ := Aside0.mk ((by rw [hg]; exact (below_size (by repeat (first | (with_reducible first | exact HB.out | apply below_alloc | apply pw_below_drewN | apply below_drew1) | exact HB.out))) : w.heap.size ≤ gb130)); have n3_ := Aside0.mk ((by rw [hg]; exact (below_size (by repeat (first | (with_reducible first | exact HB.out | apply below_alloc | apply pw_below_drewN | apply below_drew1) | exact HB.out))) : w.heap.size ≤ gb130)); clear HB; have HB := n0_; have BK130 := n1_; have GW130 := n2_; have GE130 := n3_; clear n0_ n1_ n2_ n3_; clear hb hbox hg) | ((with_reducible refine gate_callee (f := 12) rfl ?_); refine goesL_ (some 9) rfl rfl Tryd.func12 (by kernel_rfl) rfl #[] rfl (by (try simp only [List.map_toArray, List.map_cons, List.map_nil]); first | done | rfl | (simp only [List.length_drop, List.length_take]; rfl)) ?_; (with_reducible refine (redpenlaw20_Awake.calls  true _ A5.out).mono ?_); rintro e w105 ⟨rfl, hb⟩; refine ⟨_, rfl, ?_⟩; have n0_ := Aside0.mk (blk_below (g := gb130) (o := .cells #[.int .i64 a0_0, .int .i64 a0_1, .int .i64 a0_2, .int .i64 a0_3, .slice A0_4 l0_4.length c0_4] 26 (0, 0)) (by (with_reducible repeat (first | refine blk_drewN ?_ _ | refine blk_drew ?_ | refine blk_alloc ?_ _)); exact BK130.out) hb); have n1_ := Aside0.mk (below_step (by repeat (first | (with_reducible first | exact HB.out | apply below_alloc | apply pw_below_drewN | apply below_drew1 | refine below_set ?_ GE130.out) | exact HB.out)) hb); clear BK130; clear HB; have BK130 := n0_; have HB := n1_; clear n0_ n1_; (try clear hb); (try clear hb2); (try clear hk); (try clear hi); have hcz106_0 : w105.cell? ⟨gb130, 0, none⟩ = some (.int .i64 a0_0) := (blk_cell BK130.out 0).trans rfl; have hcz106_1 : w105.cell? ⟨gb130, 1, none⟩ = some (.int .i64 a0_1) := (blk_cell BK130.out 1).trans rfl; have hcz106_2 : w105.cell? ⟨gb130, 2, none⟩ = some (.int .i64 a0_2) := (blk_cell BK130.out 2).trans rfl; have hcz106_3 : w105.cell? ⟨gb130, 3, none⟩ = some (.int .i64 a0_3) := (blk_cell BK130.out 3).trans rfl; have hcz106_4 : w105.cell? ⟨gb130, 4, none⟩ = some (.slice A0_4 l0_4.length c0_4) := (blk_cell BK130.out 4).trans rfl; have hfz106_0 := blk_frozen BK130.out 0; have hfz106_1 := blk_frozen BK130.out 1; have hfz106_2 := blk_frozen BK130.out 2; have hfz106_3 := blk_frozen BK130.out 3; have hfz106_4 := blk_frozen BK130.out 4) | ((with_reducible refine gate_callee (f := 15) rfl ?_); refine goesL_ (some 17) rfl rfl Tryd.func15 (by kernel_rfl) rfl #[.agg #[.int .i64 a0_0, .int .i64 a0_1, .int .i64 a0_2, .int .i64 a0_3, .slice A0_4 l0_4.length c0_4], .bool a1] rfl (by (try simp only [List.map_toArray, List.map_cons, List.map_nil]); first | done | rfl | (simp only [List.length_drop, List.length_take]; rfl)) ?_; (with_reducible refine (redpenlaw20_Tidied.calls k a0_0 a0_1 a0_2 a0_3 _ _ l0_4 a1 t132 t133 t134 t135 t136 _ ?side1 ?side2 A11.out).mono ?_); (case side1 => repeat (first | exact (Kd.C_below HR0_4.out HB.out) | (with_reducible refine Kd.C_alloc ?_ _) | (with_reducible refine Kd.C_drewN ?_ _) | (with_reducible refine Kd.C_drew ?_))); (case side2 => exact HC0_4.out); rintro e w107 ⟨v137, rfl, ho0, hb⟩; refine ⟨_, rfl, ?_⟩; have n0_ := Aside0.mk (Kd.R_lower ho0 (below_size (by repeat (first | (with_reducible first | exact HB.out | apply below_alloc | apply pw_below_drewN | apply below_drew1 | refine below_set ?_ GE130.out) | exact HB.out)))); have n1_ := Aside0.mk (blk_below (g := gb130) (o := .cells #[.int .i64 a0_0, .int .i64 a0_1, .int .i64 a0_2, .int .i64 a0_3, .slice A0_4 l0_4.length c0_4] 26 (0, 0)) (by (with_reducible repeat (first | refine blk_drewN ?_ _ | refine blk_drew ?_ | refine blk_alloc ?_ _)); exact BK130.out) hb); have n2_ := Aside0.mk (below_step (by repeat (first | (with_reducible first | exact HB.out | apply below_alloc | apply pw_below_drewN | apply below_drew1 | refine below_set ?_ GE130.out) | exact HB.out)) hb); clear BK130; clear HB; have HO138 := n0_; have BK130 := n1_; have HB := n2_; clear n0_ n1_ n2_; (try clear hb); (try clear hb2); (try clear hk); (try clear hi); (try clear ho0); have hcz108_0 : w107.cell? ⟨gb130, 0, none⟩ = some (.int .i64 a0_0) := (blk_cell BK130.out 0).trans rfl; have hcz108_1 : w107.cell? ⟨gb130, 1, none⟩ = some (.int .i64 a0_1) := (blk_cell BK130.out 1).trans rfl; have hcz108_2 : w107.cell? ⟨gb130, 2, none⟩ = some (.int .i64 a0_2) := (blk_cell BK130.out 2).trans rfl; have hcz108_3 : w107.cell? ⟨gb130, 3, none⟩ = some (.int .i64 a0_3) := (blk_cell BK130.out 3).trans rfl; have hcz108_4 : w107.cell? ⟨gb130, 4, none⟩ = some (.slice A0_4 l0_4.length c0_4) := (blk_cell BK130.out 4).trans rfl; have hfz108_0 := blk_frozen BK130.out 0; have hfz108_1 := blk_frozen BK130.out 1; have hfz108_2 := blk_frozen BK130.out 2; have hfz108_3 := blk_frozen BK130.out 3; have hfz108_4 := blk_frozen BK130.out 4; obtain ⟨Ao109, co109, eo109⟩ := Kd.R_slice HO138.out; subst eo109) | ((with_reducible refine gate_store (t := 26) (p := 4) rfl ?_); refine store_event (t := 26) (p := 4) (v := ?vo_w110) (w1 := (((((w107.setCell ⟨gb130, 0, none⟩ (.int .i64 t132)).setCell ⟨gb130, 1, none⟩ (.int .i64 t133)).setCell ⟨gb130, 2, none⟩ (.int .i64 t134)).setCell ⟨gb130, 3, none⟩ (.int .i64 t135)).setCell ⟨gb130, 4, none⟩ (.slice Ao109 t136.length co109))) ?hg ?ho ?hn ?hr ?_; (case ho => rfl); (case hg => rfl); (case hn => rfl); (case hr => first | (go_simp; done) | (go_simp; rfl)); intro w110 hw; have n0_ : Aside0 (Kd.R k29 29 w110 w.heap.size (fun _ => True) (.slice Ao109 t136.length co109) t136) := ⟨(by rw [hw]; exact (by (with_reducible repeat (first | apply Kd.R_alloc | apply Kd.R_drewN | apply Kd.R_drew)); exact Kd.R_mono (Kd.R_far (p := ⟨gb130, 4, none⟩) (Kd.R_far (p := ⟨gb130, 3, none⟩) (Kd.R_far (p := ⟨gb130, 2, none⟩) (Kd.R_far (p := ⟨gb130, 1, none⟩) (Kd.R_far (p := ⟨gb130, 0, none⟩) (Kd.R_types HO138.out BK130.out (by decide)) (fun _ hk => hk.2) (.int .i64 t132)) (fun _ hk => hk.2) (.int .i64 t133)) (fun _ hk => hk.2) (.int .i64 t134)) (fun _ hk => hk.2) (.int .i64 t135)) (fun _ hk => hk.2) (.slice Ao109 t136.length co109)) (fun _ hk => trivial)))⟩; have n1_ : Aside0 (w110.heap[gb130]? = some (.cells #[.int .i64 t132, .int .i64 t133, .int .i64 t134, .int .i64 t135, .slice Ao109 t136.length co109] 26 (0, 0))) := ⟨(by rw [hw]; exact (by (with_reducible repeat (first | refine blk_drewN ?_ _ | refine blk_drew ?_ | refine blk_alloc ?_ _)); refine blk_put (cs := #[.int .i64 t132, .int .i64 t133, .int .i64 t134, .int .i64 t135, .slice A0_4 l0_4.length c0_4]) ?_ 4 _ rfl; (with_reducible repeat (first | refine blk_drewN ?_ _ | refine blk_drew ?_ | refine blk_alloc ?_ _)); refine blk_put (cs := #[.int .i64 t132, .int .i64 t133, .int .i64 t134, .int .i64 a0_3, .slice A0_4 l0_4.length c0_4]) ?_ 3 _ rfl; (with_reducible repeat (first | refine blk_drewN ?_ _ | refine blk_drew ?_ | refine blk_alloc ?_ _)); refine blk_put (cs := #[.int .i64 t132, .int .i64 t133, .int .i64 a0_2, .int .i64 a0_3, .slice A0_4 l0_4.length c0_4]) ?_ 2 _ rfl; (with_reducible repeat (first | refine blk_drewN ?_ _ | refine blk_drew ?_ | refine blk_alloc ?_ _)); refine blk_put (cs := #[.int .i64 t132, .int .i64 a0_1, .int .i64 a0_2, .int .i64 a0_3, .slice A0_4 l0_4.length c0_4]) ?_ 1 _ rfl; (with_reducible repeat (first | refine blk_drewN ?_ _ | refine blk_drew ?_ | refine blk_alloc ?_ _)); refine blk_put (cs := #[.int .i64 a0_0, .int .i64 a0_1, .int .i64 a0_2, .int .i64 a0_3, .slice A0_4 l0_4.length c0_4]) ?_ 0 _ rfl; (with_reducible repeat (first | refine blk_drewN ?_ _ | refine blk_drew ?_ | refine blk_alloc ?_ _)); exact BK130.out))⟩; have n2_ : Aside0 (Below w.heap.size w w110) := ⟨(by rw [hw]; exact (by repeat (first | (with_reducible first | exact HB.out | apply below_alloc | apply pw_below_drewN | apply below_drew1 | refine below_set ?_ GE130.out) | exact HB.out)))⟩; clear hw; clear HO138; clear BK130; clear HB; have HO138 := n0_; have BK130 := n1_; have HB := n2_; clear n0_ n1_ n2_; have hcz111_0 : w110.cell? ⟨gb130, 0, none⟩ = some (.int .i64 t132) := (blk_cell BK130.out 0).trans rfl; have hcz111_1 : w110.cell? ⟨gb130, 1, none⟩ = some (.int .i64 t133) := (blk_cell BK130.out 1).trans rfl; have hcz111_2 : w110.cell? ⟨gb130, 2, none⟩ = some (.int .i64 t134) := (blk_cell BK130.out 2).trans rfl; have hcz111_3 : w110.cell? ⟨gb130, 3, none⟩ = some (.int .i64 t135) := (blk_cell BK130.out 3).trans rfl; have hcz111_4 : w110.cell? ⟨gb130, 4, none⟩ = some (.slice Ao109 t136.length co109) := (blk_cell BK130.out 4).trans rfl; have hfz111_0 := blk_frozen BK130.out 0; have hfz111_1 := blk_frozen BK130.out 1; have hfz111_2 := blk_frozen BK130.out 2; have hfz111_3 := blk_frozen BK130.out 3; have hfz111_4 := blk_frozen BK130.out 4; have p152 : 0 ≤ ((ji97) : Int) := of_decide_eq_true (by first | (with_reducible assumption) | assumption); have q152 : (ji97) < (t136.length : Int) := of_decide_eq_true (by first | (with_reducible assumption) | assumption); obtain ⟨ad152, e152, hx152_0, hx152_1, hx152_2⟩ := at_T29 (Kd.R_reads' HO138.out).2.2 (ji97) p152 q152; cases e152; replace p152 := eq_true p152; replace q152 := eq_true q152; have p101 : 0 ≤ ((ji97) : Int) := of_decide_eq_true (by first | (with_reducible assumption) | assumption); have q101 : ((ji97) : Int) < ((t136.length : Int) : Int) := of_decide_eq_true (by first | (with_reducible assumption) | assumption); obtain ⟨go101, co101, eo101, gb101, gl101, cl101, HG101⟩ := Kd.R_form HO138.out (by omega); (first | cases eo101 | (injection eo101 with ea_ en_ ec_; (first | subst ea_ | (injection ea_ with ea_; subst ea_)); subst ec_; clear en_)); have GB101 := Aside0.mk gb101; have GG101 := Aside0.mk HG101; clear gb101 gl101 HG101; (first | simp only [add_plain] at hx152_0 | skip); (first | simp only [add_plain] at hx152_1 | skip); (first | simp only [add_plain] at hx152_2 | skip); obtain ⟨ce101, hcl101, hM101, hcc101, hfr101⟩ := Kd.R_elem HO138.out z29 ((ji97) : Int) p101 q101; obtain rfl := k29_openM hM101; have hx101_0 : w110.cell? ⟨go101, ((ji97) : Int).toNat * 3, none⟩ = some (.int .u8 ((rd_T29 t136 (ji97)).f0)) := hcc101 0 _ rfl; have hx101_1 : w110.cell? ⟨go101, ((ji97) : Int).toNat * 3 + 1, none⟩ = some (.string ((rd_T29 t136 (ji97)).f1)) := hcc101 1 _ rfl; have hx101_2 : w110.cell? ⟨go101, ((ji97) : Int).toNat * 3 + 2, none⟩ = some (.bool ((rd_T29 t136 (ji97)).f2)) := hcc101 2 _ rfl; have hf101_0 : w110.frozen? ⟨go101, ((ji97) : Int).toNat * 3, none⟩ = false := hfr101 0; have hf101_1 : w110.frozen? ⟨go101, ((ji97) : Int).toNat * 3 + 1, none⟩ = false := hfr101 1; have hf101_2 : w110.frozen? ⟨go101, ((ji97) : Int).toNat * 3 + 2, none⟩ = false := hfr101 2; clear hcl101 hcc101 hfr101 hM101; replace p101 := eq_true p101; replace q101 := eq_true q101; have HX112 := Aside0.mk (show Kd.R k29 29 w110 w.heap.size (fun _ => True) (.slice (some ⟨go101, 0, none⟩) t136.length co109) t136 from (by (with_reducible repeat (first | apply Kd.R_alloc | apply Kd.R_drewN | apply Kd.R_drew)); exact HO138.out)); obtain ⟨ce112, hcl112, hM112, hcc112, hfr112⟩ := Kd.R_elem HX112.out z29 ((ji97) : Int) (of_decide_eq_true (by first | (with_reducible assumption) | assumption)) (by have h_ : ((ji97) : Int) < ((t136.length : Int) : Int) := of_decide_eq_true (by first | (with_reducible assumption) | assumption); first | exact h_ | (have e_ := (Kd.R_reads' HO138.out).1; omega) | simpa using h_); obtain rfl := k29_openM hM112; have HP112 := Kd.R_seg HX112.out ((ji97) : Int) (of_decide_eq_true (by first | (with_reducible assumption) | assumption)) (by have h_ : ((ji97) : Int) < ((t136.length : Int) : Int) := of_decide_eq_true (by first | (with_reducible assumption) | assumption); first | exact h_ | (have e_ := (Kd.R_reads' HO138.out).1; omega) | simpa using h_) (seg := [.string (((rd_T29 t136 (ji97)).f1) ++ (⟨#[10]⟩ : ByteArray))]) (j := 1) hcl112 hcc112 (show 2 ≤ 3 from by decide) (x' := (⟨(rd_T29 t136 (ji97)).f0, ((rd_T29 t136 (ji97)).f1) ++ (⟨#[10]⟩ : ByteArray), (rd_T29 t136 (ji97)).f2⟩ : S29)) (k29_mkM _ _ _ (⟨(rd_T29 t136 (ji97)).f0, ((rd_T29 t136 (ji97)).f1) ++ (⟨#[10]⟩ : ByteArray), (rd_T29 t136 (ji97)).f2⟩ : S29) ) (fun _ hk => hk); have hx112_1 := hcc112 1 _ rfl; (try simp only [show (k29).sz = 3 from rfl, Nat.mul_one, Nat.add_zero] at hx112_1); have hf112_1 := hfr112 1; (try simp only [show (k29).sz = 3 from rfl, Nat.mul_one, Nat.add_zero] at hf112_1); clear hcl112 hcc112 hfr112 hM112) | ((with_reducible refine gate_store (t := 9) (p := 65) rfl ?_); refine store_event (t := 9) (p := 65) (v := ?vo_w113) (w1 := (w110.setCell ⟨go101, ((ji97) : Int).toNat * 3 + 1, none⟩ (.string (((rd_T29 t136 (ji97)).f1) ++ (⟨#[10]⟩ : ByteArray))))) ?hg ?ho ?hn ?hr ?_; (case ho => rfl); (case hg => rfl); (case hn => rfl); (case hr => first | (go_simp; done) | (go_simp; rfl)); intro w113 hw; have hg : w110.grownBy w113 (some go101) := (by rw [hw]; exact HP112.2); have hp_ : Kd.R k29 29 w113 w.heap.size (fun _ => True) (.slice (some ⟨go101, 0, none⟩) t136.length co109) y153 := (by rw [hw, Ny153.out]; exact HP112.1); clear HP112; have n0_ := Aside0.mk (blk_grown (g := gb130) (o := .cells #[.int .i64 t132, .int .i64 t133, .int .i64 t134, .int .i64 t135, .slice (some ⟨go101, 0, none⟩) t136.length co109] 26 (0, 0)) (by (with_reducible repeat (first | refine blk_drewN ?_ _ | refine blk_drew ?_ | refine blk_alloc ?_ _)); exact BK130.out) hg (Kd.R_ne HO138.out BK130.out (by decide))); have n1_ := Aside0.mk (hp_); have n2_ := Aside0.mk ((by rw [hw]; exact below_set (HB.out) GB101.out : Below w.heap.size w w113)); clear BK130; clear HO138; clear HB; have BK130 := n0_; have HO138 := n1_; have HB := n2_; clear n0_ n1_ n2_; clear hg hw hp_))
             have n0_ := Aside0.mk (Kd.R_drew HO138.out)
             have n1_ := Aside0.mk (blk_drew BK130.out)
             have n2_ := Aside0.mk (below_drew1 HB.out)
             clear HO138
             clear BK130
             clear HB
             have HO138 := n0_
             have BK130 := n1_
             have HB := n2_
             clear n0_ n1_ n2_
             refine start_ (n := 6) (S := fun w' => w'.cell? ⟨gb130, 0, none⟩ = some (.int .i64 t132) ∧ w'.cell? ⟨gb130, 1, none⟩ = some (.int .i64 t133) ∧ w'.cell? ⟨gb130, 2, none⟩ = some (.int .i64 t134) ∧ w'.cell? ⟨gb130, 3, none⟩ = some (.int .i64 t135) ∧ w'.cell? ⟨gb130, 4, none⟩ = some (.slice (some ⟨go101, 0, none⟩) t136.length co109)) (ds := []) #[false, false, false, false, false, false] (by kernel_rfl) rfl rfl ⟨(blk_cell BK130.out 0).trans rfl, (blk_cell BK130.out 1).trans rfl, (blk_cell BK130.out 2).trans rfl, (blk_cell BK130.out 3).trans rfl, (blk_cell BK130.out 4).trans rfl⟩ (fun hHeld => ?_)
             generalize w113.drew = w114 at HO138 BK130 HB hHeld ⊢
             refine take_ (i := 0) (N := some 80) (v := ?_) (a' := ?_) #[true, false, false, false, false, false] rfl rfl (by kernel_rfl) (fun _ _ _ h => h) (Or.inl ⟨by rfl, ?_⟩) hHeld ?_ ?_
             rotate_left
             ·rintro w' ⟨s0, s1, s2, s3, s4⟩
              go_simp
              with_reducible rfl
             rotate_left
             ·simp only [Act.put, List.setIfInBounds_toArray, List.set_cons_zero, List.set_cons_succ, i64_w, i32_w]
              rfl
             refine take_ (i := 2) (N := some 82) (v := ?_) (a' := ?_) #[true, false, true, false, false, false] rfl rfl (by kernel_rfl) (fun _ _ _ h => h) (Or.inl ⟨by rfl, ?_⟩) hHeld ?_ ?_
             rotate_left
             ·rintro w' ⟨s0, s1, s2, s3, s4⟩
              go_simp
              with_reducible rfl
             rotate_left
             ·simp only [Act.put, List.setIfInBounds_toArray, List.set_cons_zero, List.set_cons_succ, i64_w, i32_w]
              rfl
             refine one_ (i := 1) (N := some 81) #[true, true, true, false, false, false] rfl rfl (by kernel_rfl) (by decide) (fun K hK => ?_)
             refine goes_ Tryd.func16 (by kernel_rfl) rfl #[.agg #[.int .i64 t132, .int .i64 t133, .int .i64 t134, .int .i64 t135, .slice (some ⟨go101, 0, none⟩) y153.length co109]] (by rfl) rfl rfl (by (try simp only [List.map_toArray, List.map_cons, List.map_nil]); first | done | (rw [show y153.length = t136.length from (Kd.R_reads' HO138.out).1.symm] <;> rfl) | rfl | (simp only [List.length_drop, List.length_take]; rfl)) ?_
             with_reducible refine (show_Check.calls k t132 t133 t134 t135 _ _ y153 t154 _ ?side1 ?side2 A102.out).mono ?_
             (case side1 => repeat (first | exact (Kd.R_reads' HO138.out).2.2 | (with_reducible refine Kd.C_alloc ?_ _) | (with_reducible refine Kd.C_drewN ?_ _) | (with_reducible refine Kd.C_drew ?_)))
             (case side2 => rw [show y153.length = t136.length from (Kd.R_reads' HO138.out).1.symm]; exact (Kd.R_reads' HO138.out).2.1)
             rintro e w115 ⟨rfl, hb⟩
             refine ⟨_, rfl, ?_⟩
             have n0_ := Aside0.mk (Kd.R_below (by (with_reducible repeat (first | apply Kd.R_alloc | apply Kd.R_drewN | apply Kd.R_drew)); exact HO138.out) hb)
             have n1_ := Aside0.mk (blk_below (g := gb130) (o := .cells #[.int .i64 t132, .int .i64 t133, .int .i64 t134, .int .i64 t135, .slice (some ⟨go101, 0, none⟩) t136.length co109] 26 (0, 0)) (by (with_reducible repeat (first | refine blk_drewN ?_ _ | refine blk_drew ?_ | refine blk_alloc ?_ _)); exact BK130.out) hb)
             have n2_ := Aside0.mk (below_step (by repeat (first | (with_reducible first | exact HB.out | apply below_alloc | apply pw_below_drewN | apply below_drew1 | refine below_set ?_ GE130.out) | exact HB.out)) hb)
             clear HO138
             clear BK130
             clear HB
             have HO138 := n0_
             have BK130 := n1_
             have HB := n2_
             clear n0_ n1_ n2_
             (try clear hb)
             (try clear hb2)
             (try clear hk)
             (try clear hi)
             refine hK.out _ _ ⟨(blk_cell BK130.out 0).trans rfl, (blk_cell BK130.out 1).trans rfl, (blk_cell BK130.out 2).trans rfl, (blk_cell BK130.out 3).trans rfl, (blk_cell BK130.out 4).trans rfl⟩ (fun hHeld => ?_)
             clear hK K
             refine norm_ (a' := ?_) ?_ ?_
             rotate_left
             ·show Act.put _ (some 81) _ = _
              simp only [Act.put, List.setIfInBounds_toArray, List.set_cons_zero, List.set_cons_succ, i64_w, i32_w]
              rfl
             refine one_ (i := 3) (N := some 83) #[true, true, true, true, false, false] rfl rfl (by kernel_rfl) (by decide) (fun K hK => ?_)
             refine goes_ Tryd.func17 (by kernel_rfl) rfl #[.agg #[.int .i64 t132, .int .i64 t133, .int .i64 t134, .int .i64 t135, .slice (some ⟨go101, 0, none⟩) y153.length co109]] (by rfl) rfl rfl (by (try simp only [List.map_toArray, List.map_cons, List.map_nil]); first | done | (rw [show y153.length = t136.length from (Kd.R_reads' HO138.out).1.symm] <;> rfl) | rfl | (simp only [List.length_drop, List.length_take]; rfl)) ?_
             with_reducible refine (redpenref18_Check.calls k t132 t133 t134 t135 _ _ y153 t155 _ ?side1 ?side2 A103.out).mono ?_
             (case side1 => repeat (first | exact (Kd.R_reads' HO138.out).2.2 | (with_reducible refine Kd.C_alloc ?_ _) | (with_reducible refine Kd.C_drewN ?_ _) | (with_reducible refine Kd.C_drew ?_)))
             (case side2 => rw [show y153.length = t136.length from (Kd.R_reads' HO138.out).1.symm]; exact (Kd.R_reads' HO138.out).2.1)
             rintro e w116 ⟨rfl, hb⟩
             refine ⟨_, rfl, ?_⟩
             have n0_ := Aside0.mk (Kd.R_below (by (with_reducible repeat (first | apply Kd.R_alloc | apply Kd.R_drewN | apply Kd.R_drew)); exact HO138.out) hb)
             have n1_ := Aside0.mk (blk_below (g := gb130) (o := .cells #[.int .i64 t132, .int .i64 t133, .int .i64 t134, .int .i64 t135, .slice (some ⟨go101, 0, none⟩) t136.length co109] 26 (0, 0)) (by (with_reducible repeat (first | refine blk_drewN ?_ _ | refine blk_drew ?_ | refine blk_alloc ?_ _)); exact BK130.out) hb)
             have n2_ := Aside0.mk (below_step (by repeat (first | (with_reducible first | exact HB.out | apply below_alloc | apply pw_below_drewN | apply below_drew1 | refine below_set ?_ GE130.out) | exact HB.out)) hb)
             clear HO138
             clear BK130
             clear HB
             have HO138 := n0_
             have BK130 := n1_
             have HB := n2_
             clear n0_ n1_ n2_
             (try clear hb)
             (try clear hb2)
             (try clear hk)
             (try clear hi)
             refine hK.out _ _ ⟨(blk_cell BK130.out 0).trans rfl, (blk_cell BK130.out 1).trans rfl, (blk_cell BK130.out 2).trans rfl, (blk_cell BK130.out 3).trans rfl, (blk_cell BK130.out 4).trans rfl⟩ (fun hHeld => ?_)
             clear hK K
             refine norm_ (a' := ?_) ?_ ?_
             rotate_left
             ·show Act.put _ (some 83) _ = _
              simp only [Act.put, List.setIfInBounds_toArray, List.set_cons_zero, List.set_cons_succ, i64_w, i32_w]
              rfl
             refine pure_ (i := 4) (N := some 84) (v := ?_) (a' := ?_) #[true, true, true, true, true, false] rfl rfl (by kernel_rfl) (fun _ _ _ h => h) (Or.inl ⟨by rfl, ?_⟩) ?_ ?_
             rotate_left
             ·intro w'
              go_simp
              with_reducible rfl
             rotate_left
             ·simp only [Act.put, List.setIfInBounds_toArray, List.set_cons_zero, List.set_cons_succ, i64_w, i32_w]
              rfl
             refine pure_ (i := 5) (N := some 8) (v := ?_) (a' := ?_) #[true, true, true, true, true, true] rfl rfl (by kernel_rfl) (fun _ _ _ h => h) (Or.inl ⟨by rfl, ?_⟩) ?_ ?_
             rotate_left
             ·intro w'
              go_simp
              with_reducible rfl
             rotate_left
             ·simp only [Act.put, List.setIfInBounds_toArray, List.set_cons_zero, List.set_cons_succ, i64_w, i32_w]
              rfl
             refine done_ (by kernel_rfl) ?_
             try go_wp2
             go_ret
             exact ⟨by first | rfl | (simp [errW_none, errW_some] <;> rfl) | (simp only [← hji97]; first | rfl | (simp [errW_none, errW_some] <;> rfl)) | (simp [*, errW_none, errW_some] <;> rfl), by repeat (first | (with_reducible first | exact HB.out | apply below_alloc | apply pw_below_drewN | apply below_drew1 | refine below_set ?_ GE130.out) | exact HB.out)⟩
            ·rw [if_neg c100] at H
             exact absurd H (by simp)
           ·rw [if_neg c99] at H
            exact absurd H (by simp)
          ·rw [if_neg c98] at H
           exact absurd H (by simp)
         ·rw [if_neg c96] at H
          have c96b0 : decide (0 < (t136.length : Int)) = false := decide_eq_false c96
          have c96b1 : decide (0 < t136.length) = false := decide_eq_false (by omega)
          clear c96
          replace H := Option.bind_eq_some_iff.mp H
          obtain ⟨t156, A1170, H⟩ := H
          replace H : ((redpenref18_Check.f k t132 t133 t134 t135 t136).bind fun t157 => (some (t156 == t157))) = some r := H
          have A117 := Aside0.mk A1170
          clear A1170
          replace H := Option.bind_eq_some_iff.mp H
          obtain ⟨t157, A1180, H⟩ := H
          replace H : (some (t156 == t157)) = some r := H
          have A118 := Aside0.mk A1180
          clear A1180
          obtain rfl := Option.some.inj H
          go_enter Tryd.func4, Tryd.ntmps4
          try go_wp2_with (first | ((with_reducible refine gate_dst (N := 4) rfl ?_); refine box_event ?hg (N := 4) ?hd (cs := #[.int .i64 a0_0, .int .i64 a0_1, .int .i64 a0_2, .int .i64 a0_3, .slice A0_4 l0_4.length c0_4]) (t := 26) ?hr ?_; (case hd => rfl); (case hg => rfl); (case hr => first | (go_simp; done) | (go_simp; rfl)); intro gb130 hg w119 hbox hb; have n0_ := Aside0.mk (below_step (by repeat (first | (with_reducible first | exact HB.out | apply below_alloc | apply pw_below_drewN | apply below_drew1) | exact HB.out)) hb); have n1_ := Aside0.mk (hbox); have n2_ := Aside0.mk ((by rw [hg]; exact (below_size (by repeat (first | (with_reducible first | exact HB.out | apply below_alloc | apply pw_below_drewN | apply below_drew1) | exact HB.out))) : w.heap.size ≤ gb130)); have n3_ := Aside0.mk ((by rw [hg]; exact (below_size (by repeat (first | (with_reducible first | exact HB.out | apply below_alloc | apply pw_below_drewN | apply below_drew1) | exact HB.out))) : w.heap.size ≤ gb130)); clear HB; have HB := n0_; have BK130 := n1_; have GW130 := n2_; have GE130 := n3_; clear n0_ n1_ n2_ n3_; clear hb hbox hg) | ((with_reducible refine gate_callee (f := 12) rfl ?_); refine goesL_ (some 9) rfl rfl Tryd.func12 (by kernel_rfl) rfl #[] rfl (by (try simp only [List.map_toArray, List.map_cons, List.map_nil]); first | done | rfl | (simp only [List.length_drop, List.length_take]; rfl)) ?_; (with_reducible refine (redpenlaw20_Awake.calls  true _ A5.out).mono ?_); rintro e w120 ⟨rfl, hb⟩; refine ⟨_, rfl, ?_⟩; have n0_ := Aside0.mk (blk_below (g := gb130) (o := .cells #[.int .i64 a0_0, .int .i64 a0_1, .int .i64 a0_2, .int .i64 a0_3, .slice A0_4 l0_4.length c0_4] 26 (0, 0)) (by (with_reducible repeat (first | refine blk_drewN ?_ _ | refine blk_drew ?_ | refine blk_alloc ?_ _)); exact BK130.out) hb); have n1_ := Aside0.mk (below_step (by repeat (first | (with_reducible first | exact HB.out | apply below_alloc | apply pw_below_drewN | apply below_drew1 | refine below_set ?_ GE130.out) | exact HB.out)) hb); clear BK130; clear HB; have BK130 := n0_; have HB := n1_; clear n0_ n1_; (try clear hb); (try clear hb2); (try clear hk); (try clear hi); have hcz121_0 : w120.cell? ⟨gb130, 0, none⟩ = some (.int .i64 a0_0) := (blk_cell BK130.out 0).trans rfl; have hcz121_1 : w120.cell? ⟨gb130, 1, none⟩ = some (.int .i64 a0_1) := (blk_cell BK130.out 1).trans rfl; have hcz121_2 : w120.cell? ⟨gb130, 2, none⟩ = some (.int .i64 a0_2) := (blk_cell BK130.out 2).trans rfl; have hcz121_3 : w120.cell? ⟨gb130, 3, none⟩ = some (.int .i64 a0_3) := (blk_cell BK130.out 3).trans rfl; have hcz121_4 : w120.cell? ⟨gb130, 4, none⟩ = some (.slice A0_4 l0_4.length c0_4) := (blk_cell BK130.out 4).trans rfl; have hfz121_0 := blk_frozen BK130.out 0; have hfz121_1 := blk_frozen BK130.out 1; have hfz121_2 := blk_frozen BK130.out 2; have hfz121_3 := blk_frozen BK130.out 3; have hfz121_4 := blk_frozen BK130.out 4) | ((with_reducible refine gate_callee (f := 15) rfl ?_); refine goesL_ (some 17) rfl rfl Tryd.func15 (by kernel_rfl) rfl #[.agg #[.int .i64 a0_0, .int .i64 a0_1, .int .i64 a0_2, .int .i64 a0_3, .slice A0_4 l0_4.length c0_4], .bool a1] rfl (by (try simp only [List.map_toArray, List.map_cons, List.map_nil]); first | done | rfl | (simp only [List.length_drop, List.length_take]; rfl)) ?_; (with_reducible refine (redpenlaw20_Tidied.calls k a0_0 a0_1 a0_2 a0_3 _ _ l0_4 a1 t132 t133 t134 t135 t136 _ ?side1 ?side2 A11.out).mono ?_); (case side1 => repeat (first | exact (Kd.C_below HR0_4.out HB.out) | (with_reducible refine Kd.C_alloc ?_ _) | (with_reducible refine Kd.C_drewN ?_ _) | (with_reducible refine Kd.C_drew ?_))); (case side2 => exact HC0_4.out); rintro e w122 ⟨v137, rfl, ho0, hb⟩; refine ⟨_, rfl, ?_⟩; have n0_ := Aside0.mk (Kd.R_lower ho0 (below_size (by repeat (first | (with_reducible first | exact HB.out | apply below_alloc | apply pw_below_drewN | apply below_drew1 | refine below_set ?_ GE130.out) | exact HB.out)))); have n1_ := Aside0.mk (blk_below (g := gb130) (o := .cells #[.int .i64 a0_0, .int .i64 a0_1, .int .i64 a0_2, .int .i64 a0_3, .slice A0_4 l0_4.length c0_4] 26 (0, 0)) (by (with_reducible repeat (first | refine blk_drewN ?_ _ | refine blk_drew ?_ | refine blk_alloc ?_ _)); exact BK130.out) hb); have n2_ := Aside0.mk (below_step (by repeat (first | (with_reducible first | exact HB.out | apply below_alloc | apply pw_below_drewN | apply below_drew1 | refine below_set ?_ GE130.out) | exact HB.out)) hb); clear BK130; clear HB; have HO138 := n0_; have BK130 := n1_; have HB := n2_; clear n0_ n1_ n2_; (try clear hb); (try clear hb2); (try clear hk); (try clear hi); (try clear ho0); have hcz123_0 : w122.cell? ⟨gb130, 0, none⟩ = some (.int .i64 a0_0) := (blk_cell BK130.out 0).trans rfl; have hcz123_1 : w122.cell? ⟨gb130, 1, none⟩ = some (.int .i64 a0_1) := (blk_cell BK130.out 1).trans rfl; have hcz123_2 : w122.cell? ⟨gb130, 2, none⟩ = some (.int .i64 a0_2) := (blk_cell BK130.out 2).trans rfl; have hcz123_3 : w122.cell? ⟨gb130, 3, none⟩ = some (.int .i64 a0_3) := (blk_cell BK130.out 3).trans rfl; have hcz123_4 : w122.cell? ⟨gb130, 4, none⟩ = some (.slice A0_4 l0_4.length c0_4) := (blk_cell BK130.out 4).trans rfl; have hfz123_0 := blk_frozen BK130.out 0; have hfz123_1 := blk_frozen BK130.out 1; have hfz123_2 := blk_frozen BK130.out 2; have hfz123_3 := blk_frozen BK130.out 3; have hfz123_4 := blk_frozen BK130.out 4; obtain ⟨Ao124, co124, eo124⟩ := Kd.R_slice HO138.out; subst eo124))
          have n0_ : Aside0 (Kd.R k29 29 (((((w122.setCell ⟨gb130, 0, none⟩ (.int .i64 t132)).setCell ⟨gb130, 1, none⟩ (.int .i64 t133)).setCell ⟨gb130, 2, none⟩ (.int .i64 t134)).setCell ⟨gb130, 3, none⟩ (.int .i64 t135)).setCell ⟨gb130, 4, none⟩ (.slice Ao124 t136.length co124)) w.heap.size (fun _ => True) (.slice Ao124 t136.length co124) t136) := ⟨by (with_reducible repeat (first | apply Kd.R_alloc | apply Kd.R_drewN | apply Kd.R_drew)); exact Kd.R_mono (Kd.R_far (p := ⟨gb130, 4, none⟩) (Kd.R_far (p := ⟨gb130, 3, none⟩) (Kd.R_far (p := ⟨gb130, 2, none⟩) (Kd.R_far (p := ⟨gb130, 1, none⟩) (Kd.R_far (p := ⟨gb130, 0, none⟩) (Kd.R_types HO138.out BK130.out (by decide)) (fun _ hk => hk.2) (.int .i64 t132)) (fun _ hk => hk.2) (.int .i64 t133)) (fun _ hk => hk.2) (.int .i64 t134)) (fun _ hk => hk.2) (.int .i64 t135)) (fun _ hk => hk.2) (.slice Ao124 t136.length co124)) (fun _ hk => trivial)⟩
          have n1_ : Aside0 ((((((w122.setCell ⟨gb130, 0, none⟩ (.int .i64 t132)).setCell ⟨gb130, 1, none⟩ (.int .i64 t133)).setCell ⟨gb130, 2, none⟩ (.int .i64 t134)).setCell ⟨gb130, 3, none⟩ (.int .i64 t135)).setCell ⟨gb130, 4, none⟩ (.slice Ao124 t136.length co124)).heap[gb130]? = some (.cells #[.int .i64 t132, .int .i64 t133, .int .i64 t134, .int .i64 t135, .slice Ao124 t136.length co124] 26 (0, 0))) := ⟨by (with_reducible repeat (first | refine blk_drewN ?_ _ | refine blk_drew ?_ | refine blk_alloc ?_ _)); refine blk_put (cs := #[.int .i64 t132, .int .i64 t133, .int .i64 t134, .int .i64 t135, .slice A0_4 l0_4.length c0_4]) ?_ 4 _ rfl; (with_reducible repeat (first | refine blk_drewN ?_ _ | refine blk_drew ?_ | refine blk_alloc ?_ _)); refine blk_put (cs := #[.int .i64 t132, .int .i64 t133, .int .i64 t134, .int .i64 a0_3, .slice A0_4 l0_4.length c0_4]) ?_ 3 _ rfl; (with_reducible repeat (first | refine blk_drewN ?_ _ | refine blk_drew ?_ | refine blk_alloc ?_ _)); refine blk_put (cs := #[.int .i64 t132, .int .i64 t133, .int .i64 a0_2, .int .i64 a0_3, .slice A0_4 l0_4.length c0_4]) ?_ 2 _ rfl; (with_reducible repeat (first | refine blk_drewN ?_ _ | refine blk_drew ?_ | refine blk_alloc ?_ _)); refine blk_put (cs := #[.int .i64 t132, .int .i64 a0_1, .int .i64 a0_2, .int .i64 a0_3, .slice A0_4 l0_4.length c0_4]) ?_ 1 _ rfl; (with_reducible repeat (first | refine blk_drewN ?_ _ | refine blk_drew ?_ | refine blk_alloc ?_ _)); refine blk_put (cs := #[.int .i64 a0_0, .int .i64 a0_1, .int .i64 a0_2, .int .i64 a0_3, .slice A0_4 l0_4.length c0_4]) ?_ 0 _ rfl; (with_reducible repeat (first | refine blk_drewN ?_ _ | refine blk_drew ?_ | refine blk_alloc ?_ _)); exact BK130.out⟩
          have n2_ : Aside0 (Below w.heap.size w (((((w122.setCell ⟨gb130, 0, none⟩ (.int .i64 t132)).setCell ⟨gb130, 1, none⟩ (.int .i64 t133)).setCell ⟨gb130, 2, none⟩ (.int .i64 t134)).setCell ⟨gb130, 3, none⟩ (.int .i64 t135)).setCell ⟨gb130, 4, none⟩ (.slice Ao124 t136.length co124))) := ⟨by repeat (first | (with_reducible first | exact HB.out | apply below_alloc | apply pw_below_drewN | apply below_drew1 | refine below_set ?_ GE130.out) | exact HB.out)⟩
          (try clear HO138)
          (try clear BK130)
          (try clear HB)
          generalize (((((w122.setCell ⟨gb130, 0, none⟩ (.int .i64 t132)).setCell ⟨gb130, 1, none⟩ (.int .i64 t133)).setCell ⟨gb130, 2, none⟩ (.int .i64 t134)).setCell ⟨gb130, 3, none⟩ (.int .i64 t135)).setCell ⟨gb130, 4, none⟩ (.slice Ao124 t136.length co124)) = w125 at n0_ n1_ n2_ ⊢
          have HO138 := n0_
          have BK130 := n1_
          have HB := n2_
          clear n0_ n1_ n2_
          have n0_ := Aside0.mk (Kd.R_drew HO138.out)
          have n1_ := Aside0.mk (blk_drew BK130.out)
          have n2_ := Aside0.mk (below_drew1 HB.out)
          clear HO138
          clear BK130
          clear HB
          have HO138 := n0_
          have BK130 := n1_
          have HB := n2_
          clear n0_ n1_ n2_
          refine start_ (n := 6) (S := fun w' => w'.cell? ⟨gb130, 0, none⟩ = some (.int .i64 t132) ∧ w'.cell? ⟨gb130, 1, none⟩ = some (.int .i64 t133) ∧ w'.cell? ⟨gb130, 2, none⟩ = some (.int .i64 t134) ∧ w'.cell? ⟨gb130, 3, none⟩ = some (.int .i64 t135) ∧ w'.cell? ⟨gb130, 4, none⟩ = some (.slice Ao124 t136.length co124)) (ds := []) #[false, false, false, false, false, false] (by kernel_rfl) rfl rfl ⟨(blk_cell BK130.out 0).trans rfl, (blk_cell BK130.out 1).trans rfl, (blk_cell BK130.out 2).trans rfl, (blk_cell BK130.out 3).trans rfl, (blk_cell BK130.out 4).trans rfl⟩ (fun hHeld => ?_)
          generalize w125.drew = w126 at HO138 BK130 HB hHeld ⊢
          refine take_ (i := 0) (N := some 80) (v := ?_) (a' := ?_) #[true, false, false, false, false, false] rfl rfl (by kernel_rfl) (fun _ _ _ h => h) (Or.inl ⟨by rfl, ?_⟩) hHeld ?_ ?_
          rotate_left
          ·rintro w' ⟨s0, s1, s2, s3, s4⟩
           go_simp
           with_reducible rfl
          rotate_left
          ·simp only [Act.put, List.setIfInBounds_toArray, List.set_cons_zero, List.set_cons_succ, i64_w, i32_w]
           rfl
          refine take_ (i := 2) (N := some 82) (v := ?_) (a' := ?_) #[true, false, true, false, false, false] rfl rfl (by kernel_rfl) (fun _ _ _ h => h) (Or.inl ⟨by rfl, ?_⟩) hHeld ?_ ?_
          rotate_left
          ·rintro w' ⟨s0, s1, s2, s3, s4⟩
           go_simp
           with_reducible rfl
          rotate_left
          ·simp only [Act.put, List.setIfInBounds_toArray, List.set_cons_zero, List.set_cons_succ, i64_w, i32_w]
           rfl
          refine one_ (i := 1) (N := some 81) #[true, true, true, false, false, false] rfl rfl (by kernel_rfl) (by decide) (fun K hK => ?_)
          refine goes_ Tryd.func16 (by kernel_rfl) rfl #[.agg #[.int .i64 t132, .int .i64 t133, .int .i64 t134, .int .i64 t135, .slice Ao124 t136.length co124]] (by rfl) rfl rfl (by (try simp only [List.map_toArray, List.map_cons, List.map_nil]); first | done | rfl | (simp only [List.length_drop, List.length_take]; rfl)) ?_
          with_reducible refine (show_Check.calls k t132 t133 t134 t135 _ _ t136 t156 _ ?side1 ?side2 A117.out).mono ?_
          (case side1 => repeat (first | exact (Kd.R_reads' HO138.out).2.2 | (with_reducible refine Kd.C_alloc ?_ _) | (with_reducible refine Kd.C_drewN ?_ _) | (with_reducible refine Kd.C_drew ?_)))
          (case side2 => exact (Kd.R_reads' HO138.out).2.1)
          rintro e w127 ⟨rfl, hb⟩
          refine ⟨_, rfl, ?_⟩
          have n0_ := Aside0.mk (Kd.R_below (by (with_reducible repeat (first | apply Kd.R_alloc | apply Kd.R_drewN | apply Kd.R_drew)); exact HO138.out) hb)
          have n1_ := Aside0.mk (blk_below (g := gb130) (o := .cells #[.int .i64 t132, .int .i64 t133, .int .i64 t134, .int .i64 t135, .slice Ao124 t136.length co124] 26 (0, 0)) (by (with_reducible repeat (first | refine blk_drewN ?_ _ | refine blk_drew ?_ | refine blk_alloc ?_ _)); exact BK130.out) hb)
          have n2_ := Aside0.mk (below_step (by repeat (first | (with_reducible first | exact HB.out | apply below_alloc | apply pw_below_drewN | apply below_drew1 | refine below_set ?_ GE130.out) | exact HB.out)) hb)
          clear HO138
          clear BK130
          clear HB
          have HO138 := n0_
          have BK130 := n1_
          have HB := n2_
          clear n0_ n1_ n2_
          (try clear hb)
          (try clear hb2)
          (try clear hk)
          (try clear hi)
          refine hK.out _ _ ⟨(blk_cell BK130.out 0).trans rfl, (blk_cell BK130.out 1).trans rfl, (blk_cell BK130.out 2).trans rfl, (blk_cell BK130.out 3).trans rfl, (blk_cell BK130.out 4).trans rfl⟩ (fun hHeld => ?_)
          clear hK K
          refine norm_ (a' := ?_) ?_ ?_
          rotate_left
          ·show Act.put _ (some 81) _ = _
           simp only [Act.put, List.setIfInBounds_toArray, List.set_cons_zero, List.set_cons_succ, i64_w, i32_w]
           rfl
          refine one_ (i := 3) (N := some 83) #[true, true, true, true, false, false] rfl rfl (by kernel_rfl) (by decide) (fun K hK => ?_)
          refine goes_ Tryd.func17 (by kernel_rfl) rfl #[.agg #[.int .i64 t132, .int .i64 t133, .int .i64 t134, .int .i64 t135, .slice Ao124 t136.length co124]] (by rfl) rfl rfl (by (try simp only [List.map_toArray, List.map_cons, List.map_nil]); first | done | rfl | (simp only [List.length_drop, List.length_take]; rfl)) ?_
          with_reducible refine (redpenref18_Check.calls k t132 t133 t134 t135 _ _ t136 t157 _ ?side1 ?side2 A118.out).mono ?_
          (case side1 => repeat (first | exact (Kd.R_reads' HO138.out).2.2 | (with_reducible refine Kd.C_alloc ?_ _) | (with_reducible refine Kd.C_drewN ?_ _) | (with_reducible refine Kd.C_drew ?_)))
          (case side2 => exact (Kd.R_reads' HO138.out).2.1)
          rintro e w128 ⟨rfl, hb⟩
          refine ⟨_, rfl, ?_⟩
          have n0_ := Aside0.mk (Kd.R_below (by (with_reducible repeat (first | apply Kd.R_alloc | apply Kd.R_drewN | apply Kd.R_drew)); exact HO138.out) hb)
          have n1_ := Aside0.mk (blk_below (g := gb130) (o := .cells #[.int .i64 t132, .int .i64 t133, .int .i64 t134, .int .i64 t135, .slice Ao124 t136.length co124] 26 (0, 0)) (by (with_reducible repeat (first | refine blk_drewN ?_ _ | refine blk_drew ?_ | refine blk_alloc ?_ _)); exact BK130.out) hb)
          have n2_ := Aside0.mk (below_step (by repeat (first | (with_reducible first | exact HB.out | apply below_alloc | apply pw_below_drewN | apply below_drew1 | refine below_set ?_ GE130.out) | exact HB.out)) hb)
          clear HO138
          clear BK130
          clear HB
          have HO138 := n0_
          have BK130 := n1_
          have HB := n2_
          clear n0_ n1_ n2_
          (try clear hb)
          (try clear hb2)
          (try clear hk)
          (try clear hi)
          refine hK.out _ _ ⟨(blk_cell BK130.out 0).trans rfl, (blk_cell BK130.out 1).trans rfl, (blk_cell BK130.out 2).trans rfl, (blk_cell BK130.out 3).trans rfl, (blk_cell BK130.out 4).trans rfl⟩ (fun hHeld => ?_)
          clear hK K
          refine norm_ (a' := ?_) ?_ ?_
          rotate_left
          ·show Act.put _ (some 83) _ = _
           simp only [Act.put, List.setIfInBounds_toArray, List.set_cons_zero, List.set_cons_succ, i64_w, i32_w]
           rfl
          refine pure_ (i := 4) (N := some 84) (v := ?_) (a' := ?_) #[true, true, true, true, true, false] rfl rfl (by kernel_rfl) (fun _ _ _ h => h) (Or.inl ⟨by rfl, ?_⟩) ?_ ?_
          rotate_left
          ·intro w'
           go_simp
           with_reducible rfl
          rotate_left
          ·simp only [Act.put, List.setIfInBounds_toArray, List.set_cons_zero, List.set_cons_succ, i64_w, i32_w]
           rfl
          refine pure_ (i := 5) (N := some 8) (v := ?_) (a' := ?_) #[true, true, true, true, true, true] rfl rfl (by kernel_rfl) (fun _ _ _ h => h) (Or.inl ⟨by rfl, ?_⟩) ?_ ?_
          rotate_left
          ·intro w'
           go_simp
           with_reducible rfl
          rotate_left
          ·simp only [Act.put, List.setIfInBounds_toArray, List.set_cons_zero, List.set_cons_succ, i64_w, i32_w]
           rfl
          refine done_ (by kernel_rfl) ?_
          try go_wp2
          go_ret
          exact ⟨by first | rfl | (simp [errW_none, errW_some] <;> rfl) | (simp [*, errW_none, errW_some] <;> rfl), by repeat (first | (with_reducible first | exact HB.out | apply below_alloc | apply pw_below_drewN | apply below_drew1 | refine below_set ?_ GE130.out) | exact HB.out)⟩
        ·rw [if_neg c95] at H
         have c95b0 : ((Int.tmod a2 10) == 5) = false := beq_eq_false_iff_ne.mpr c95
         have c95b1 : ((Int.tmod a2 10) != 5) = true := bne_iff_ne.mpr c95
         by_cases c129 : (Int.tmod a2 10) = 6
         ·rw [if_pos c129] at H
          have c129b0 : ((Int.tmod a2 10) == 6) = true := beq_iff_eq.mpr c129
          have c129b1 : ((Int.tmod a2 10) != 6) = false := bne_eq_false_iff_eq.mpr c129
          clear c129
          by_cases c130 : (t136.length : Int) > 0
          ·rw [if_pos c130] at H
           have c130b0 : decide (0 < (t136.length : Int)) = true := decide_eq_true c130
           have c130b1 : decide (0 < t136.length) = true := decide_eq_true (by omega)
           clear c130
           obtain ⟨ji131, hji131⟩ : ∃ j_ : Int, (wrap64 ((t136.length : Int) / 2)) = j_ := ⟨_, rfl⟩
           replace H : (if 0 ≤ (ji131) then (if (ji131) < (t136.length : Int) then ((some (t136.set ((ji131) : Int).toNat (⟨(rd_T29 t136 (ji131)).f0, (rd_T29 t136 (ji131)).f1, true⟩ : S29) : List (S29))).bind fun y158 => ((show_Check.f k t132 t133 t134 t135 y158).bind fun t159 => ((redpenref18_Check.f k t132 t133 t134 t135 y158).bind fun t160 => (some (t159 == t160))))) else (none)) else (none)) = some r := by first | (rw [hji131] at H; exact H) | (simp only [hji131] at H ⊢; exact H)
           (try rw [hji131] at A5)
           (try rw [hji131] at A11)
           have hji131w : (IntKind.i64.wrap ((t136.length : Int) / 2)) = ji131 := (i64_w _).trans hji131
           by_cases c132 : 0 ≤ (ji131)
           ·rw [if_pos c132] at H
            have c132b0 : decide (0 ≤ (ji131)) = true := decide_eq_true c132
            clear c132
            by_cases c133 : (ji131) < (t136.length : Int)
            ·rw [if_pos c133] at H
             have c133b0 : decide ((ji131) < (t136.length : Int)) = true := decide_eq_true c133
             clear c133
             obtain ⟨y158, hy158⟩ : ∃ y_ : List (S29), y_ = (t136.set ((ji131) : Int).toNat (⟨(rd_T29 t136 (ji131)).f0, (rd_T29 t136 (ji131)).f1, true⟩ : S29)) := ⟨_, rfl⟩
             replace H : ((show_Check.f k t132 t133 t134 t135 y158).bind fun t159 => ((redpenref18_Check.f k t132 t133 t134 t135 y158).bind fun t160 => (some (t159 == t160)))) = some r := by first | (rw [hy158]; with_reducible exact H) | (have H2_ := (Option.bind_some _ _).symm.trans H; rw [hy158]; with_reducible exact H2_) | (have H2_ := (Option.bind_some _ _).symm.trans H; with_reducible exact H2_) | with_reducible exact H | (rw [hy158]; exact H) | exact H
             have Ny158 := Aside0.mk hy158
             clear hy158
             replace H := Option.bind_eq_some_iff.mp H
             obtain ⟨t159, A1350, H⟩ := H
             replace H : ((redpenref18_Check.f k t132 t133 t134 t135 y158).bind fun t160 => (some (t159 == t160))) = some r := H
             have A135 := Aside0.mk A1350
             clear A1350
             replace H := Option.bind_eq_some_iff.mp H
             obtain ⟨t160, A1360, H⟩ := H
             replace H : (some (t159 == t160)) = some r := H
             have A136 := Aside0.mk A1360
             clear A1360
             obtain rfl := Option.some.inj H
             go_enter Tryd.func4, Tryd.ntmps4
             try go_wp2_with (first | ((with_reducible refine gate_dst (N := 4) rfl ?_); refine box_event ?hg (N := 4) ?hd (cs := #[.int .i64 a0_0, .int .i64 a0_1, .int .i64 a0_2, .int .i64 a0_3, .slice A0_4 l0_4.length c0_4]) (t := 26) ?hr ?_; (case hd => rfl); (case hg => rfl); (case hr => first | (go_simp; done) | (go_simp; rfl)); intro gb130 hg w137 hbox hb; have n0_ := Aside0.mk (below_step (by repeat (first | (with_reducible first | exact HB.out | apply below_alloc | apply pw_below_drewN | apply below_drew1) | exact HB.out)) hb); have n1_ := Aside0.mk (hbox); have n2_ := Aside0.mk ((by rw [hg]; exact (below_size (by repeat (first | (with_reducible first | exact HB.out | apply below_alloc | apply pw_below_drewN | apply below_drew1) | exact HB.out))) : w.heap.size ≤ gb130)); have n3_ := Aside0.mk ((by rw [hg]; exact (below_size (by repeat (first | (with_reducible first | exact HB.out | apply below_alloc | apply pw_below_drewN | apply below_drew1) | exact HB.out))) : w.heap.size ≤ gb130)); clear HB; have HB := n0_; have BK130 := n1_; have GW130 := n2_; have GE130 := n3_; clear n0_ n1_ n2_ n3_; clear hb hbox hg) | ((with_reducible refine gate_callee (f := 12) rfl ?_); refine goesL_ (some 9) rfl rfl Tryd.func12 (by kernel_rfl) rfl #[] rfl (by (try simp only [List.map_toArray, List.map_cons, List.map_nil]); first | done | rfl | (simp only [List.length_drop, List.length_take]; rfl)) ?_; (with_reducible refine (redpenlaw20_Awake.calls  true _ A5.out).mono ?_); rintro e w138 ⟨rfl, hb⟩; refine ⟨_, rfl, ?_⟩; have n0_ := Aside0.mk (blk_below (g := gb130) (o := .cells #[.int .i64 a0_0, .int .i64 a0_1, .int .i64 a0_2, .int .i64 a0_3, .slice A0_4 l0_4.length c0_4] 26 (0, 0)) (by (with_reducible repeat (first | refine blk_drewN ?_ _ | refine blk_drew ?_ | refine blk_alloc ?_ _)); exact BK130.out) hb); have n1_ := Aside0.mk (below_step (by repeat (first | (with_reducible first | exact HB.out | apply below_alloc | apply pw_below_drewN | apply below_drew1 | refine below_set ?_ GE130.out) | exact HB.out)) hb); clear BK130; clear HB; have BK130 := n0_; have HB := n1_; clear n0_ n1_; (try clear hb); (try clear hb2); (try clear hk); (try clear hi); have hcz139_0 : w138.cell? ⟨gb130, 0, none⟩ = some (.int .i64 a0_0) := (blk_cell BK130.out 0).trans rfl; have hcz139_1 : w138.cell? ⟨gb130, 1, none⟩ = some (.int .i64 a0_1) := (blk_cell BK130.out 1).trans rfl; have hcz139_2 : w138.cell? ⟨gb130, 2, none⟩ = some (.int .i64 a0_2) := (blk_cell BK130.out 2).trans rfl; have hcz139_3 : w138.cell? ⟨gb130, 3, none⟩ = some (.int .i64 a0_3) := (blk_cell BK130.out 3).trans rfl; have hcz139_4 : w138.cell? ⟨gb130, 4, none⟩ = some (.slice A0_4 l0_4.length c0_4) := (blk_cell BK130.out 4).trans rfl; have hfz139_0 := blk_frozen BK130.out 0; have hfz139_1 := blk_frozen BK130.out 1; have hfz139_2 := blk_frozen BK130.out 2; have hfz139_3 := blk_frozen BK130.out 3; have hfz139_4 := blk_frozen BK130.out 4) | ((with_reducible refine gate_callee (f := 15) rfl ?_); refine goesL_ (some 17) rfl rfl Tryd.func15 (by kernel_rfl) rfl #[.agg #[.int .i64 a0_0, .int .i64 a0_1, .int .i64 a0_2, .int .i64 a0_3, .slice A0_4 l0_4.length c0_4], .bool a1] rfl (by (try simp only [List.map_toArray, List.map_cons, List.map_nil]); first | done | rfl | (simp only [List.length_drop, List.length_take]; rfl)) ?_; (with_reducible refine (redpenlaw20_Tidied.calls k a0_0 a0_1 a0_2 a0_3 _ _ l0_4 a1 t132 t133 t134 t135 t136 _ ?side1 ?side2 A11.out).mono ?_); (case side1 => repeat (first | exact (Kd.C_below HR0_4.out HB.out) | (with_reducible refine Kd.C_alloc ?_ _) | (with_reducible refine Kd.C_drewN ?_ _) | (with_reducible refine Kd.C_drew ?_))); (case side2 => exact HC0_4.out); rintro e w140 ⟨v137, rfl, ho0, hb⟩; refine ⟨_, rfl, ?_⟩; have n0_ := Aside0.mk (Kd.R_lower ho0 (below_size (by repeat (first | (with_reducible first | exact HB.out | apply below_alloc | apply pw_below_drewN | apply below_drew1 | refine below_set ?_ GE130.out) | exact HB.out)))); have n1_ := Aside0.mk (blk_below (g := gb130) (o := .cells #[.int .i64 a0_0, .int .i64 a0_1, .int .i64 a0_2, .int .i64 a0_3, .slice A0_4 l0_4.length c0_4] 26 (0, 0)) (by (with_reducible repeat (first | refine blk_drewN ?_ _ | refine blk_drew ?_ | refine blk_alloc ?_ _)); exact BK130.out) hb); have n2_ := Aside0.mk (below_step (by repeat (first | (with_reducible first | exact HB.out | apply below_alloc | apply pw_below_drewN | apply below_drew1 | refine below_set ?_ GE130.out) | exact HB.out)) hb); clear BK130; clear HB; have HO138 := n0_; have BK130 := n1_; have HB := n2_; clear n0_ n1_ n2_; (try clear hb); (try clear hb2); (try clear hk); (try clear hi); (try clear ho0); have hcz141_0 : w140.cell? ⟨gb130, 0, none⟩ = some (.int .i64 a0_0) := (blk_cell BK130.out 0).trans rfl; have hcz141_1 : w140.cell? ⟨gb130, 1, none⟩ = some (.int .i64 a0_1) := (blk_cell BK130.out 1).trans rfl; have hcz141_2 : w140.cell? ⟨gb130, 2, none⟩ = some (.int .i64 a0_2) := (blk_cell BK130.out 2).trans rfl; have hcz141_3 : w140.cell? ⟨gb130, 3, none⟩ = some (.int .i64 a0_3) := (blk_cell BK130.out 3).trans rfl; have hcz141_4 : w140.cell? ⟨gb130, 4, none⟩ = some (.slice A0_4 l0_4.length c0_4) := (blk_cell BK130.out 4).trans rfl; have hfz141_0 := blk_frozen BK130.out 0; have hfz141_1 := blk_frozen BK130.out 1; have hfz141_2 := blk_frozen BK130.out 2; have hfz141_3 := blk_frozen BK130.out 3; have hfz141_4 := blk_frozen BK130.out 4; obtain ⟨Ao142, co142, eo142⟩ := Kd.R_slice HO138.out; subst eo142) | ((with_reducible refine gate_store (t := 26) (p := 4) rfl ?_); refine store_event (t := 26) (p := 4) (v := ?vo_w143) (w1 := (((((w140.setCell ⟨gb130, 0, none⟩ (.int .i64 t132)).setCell ⟨gb130, 1, none⟩ (.int .i64 t133)).setCell ⟨gb130, 2, none⟩ (.int .i64 t134)).setCell ⟨gb130, 3, none⟩ (.int .i64 t135)).setCell ⟨gb130, 4, none⟩ (.slice Ao142 t136.length co142))) ?hg ?ho ?hn ?hr ?_; (case ho => rfl); (case hg => rfl); (case hn => rfl); (case hr => first | (go_simp; done) | (go_simp; rfl)); intro w143 hw; have n0_ : Aside0 (Kd.R k29 29 w143 w.heap.size (fun _ => True) (.slice Ao142 t136.length co142) t136) := ⟨(by rw [hw]; exact (by (with_reducible repeat (first | apply Kd.R_alloc | apply Kd.R_drewN | apply Kd.R_drew)); exact Kd.R_mono (Kd.R_far (p := ⟨gb130, 4, none⟩) (Kd.R_far (p := ⟨gb130, 3, none⟩) (Kd.R_far (p := ⟨gb130, 2, none⟩) (Kd.R_far (p := ⟨gb130, 1, none⟩) (Kd.R_far (p := ⟨gb130, 0, none⟩) (Kd.R_types HO138.out BK130.out (by decide)) (fun _ hk => hk.2) (.int .i64 t132)) (fun _ hk => hk.2) (.int .i64 t133)) (fun _ hk => hk.2) (.int .i64 t134)) (fun _ hk => hk.2) (.int .i64 t135)) (fun _ hk => hk.2) (.slice Ao142 t136.length co142)) (fun _ hk => trivial)))⟩; have n1_ : Aside0 (w143.heap[gb130]? = some (.cells #[.int .i64 t132, .int .i64 t133, .int .i64 t134, .int .i64 t135, .slice Ao142 t136.length co142] 26 (0, 0))) := ⟨(by rw [hw]; exact (by (with_reducible repeat (first | refine blk_drewN ?_ _ | refine blk_drew ?_ | refine blk_alloc ?_ _)); refine blk_put (cs := #[.int .i64 t132, .int .i64 t133, .int .i64 t134, .int .i64 t135, .slice A0_4 l0_4.length c0_4]) ?_ 4 _ rfl; (with_reducible repeat (first | refine blk_drewN ?_ _ | refine blk_drew ?_ | refine blk_alloc ?_ _)); refine blk_put (cs := #[.int .i64 t132, .int .i64 t133, .int .i64 t134, .int .i64 a0_3, .slice A0_4 l0_4.length c0_4]) ?_ 3 _ rfl; (with_reducible repeat (first | refine blk_drewN ?_ _ | refine blk_drew ?_ | refine blk_alloc ?_ _)); refine blk_put (cs := #[.int .i64 t132, .int .i64 t133, .int .i64 a0_2, .int .i64 a0_3, .slice A0_4 l0_4.length c0_4]) ?_ 2 _ rfl; (with_reducible repeat (first | refine blk_drewN ?_ _ | refine blk_drew ?_ | refine blk_alloc ?_ _)); refine blk_put (cs := #[.int .i64 t132, .int .i64 a0_1, .int .i64 a0_2, .int .i64 a0_3, .slice A0_4 l0_4.length c0_4]) ?_ 1 _ rfl; (with_reducible repeat (first | refine blk_drewN ?_ _ | refine blk_drew ?_ | refine blk_alloc ?_ _)); refine blk_put (cs := #[.int .i64 a0_0, .int .i64 a0_1, .int .i64 a0_2, .int .i64 a0_3, .slice A0_4 l0_4.length c0_4]) ?_ 0 _ rfl; (with_reducible repeat (first | refine blk_drewN ?_ _ | refine blk_drew ?_ | refine blk_alloc ?_ _)); exact BK130.out))⟩; have n2_ : Aside0 (Below w.heap.size w w143) := ⟨(by rw [hw]; exact (by repeat (first | (with_reducible first | exact HB.out | apply below_alloc | apply pw_below_drewN | apply below_drew1 | refine below_set ?_ GE130.out) | exact HB.out)))⟩; clear hw; clear HO138; clear BK130; clear HB; have HO138 := n0_; have BK130 := n1_; have HB := n2_; clear n0_ n1_ n2_; have hcz144_0 : w143.cell? ⟨gb130, 0, none⟩ = some (.int .i64 t132) := (blk_cell BK130.out 0).trans rfl; have hcz144_1 : w143.cell? ⟨gb130, 1, none⟩ = some (.int .i64 t133) := (blk_cell BK130.out 1).trans rfl; have hcz144_2 : w143.cell? ⟨gb130, 2, none⟩ = some (.int .i64 t134) := (blk_cell BK130.out 2).trans rfl; have hcz144_3 : w143.cell? ⟨gb130, 3, none⟩ = some (.int .i64 t135) := (blk_cell BK130.out 3).trans rfl; have hcz144_4 : w143.cell? ⟨gb130, 4, none⟩ = some (.slice Ao142 t136.length co142) := (blk_cell BK130.out 4).trans rfl; have hfz144_0 := blk_frozen BK130.out 0; have hfz144_1 := blk_frozen BK130.out 1; have hfz144_2 := blk_frozen BK130.out 2; have hfz144_3 := blk_frozen BK130.out 3; have hfz144_4 := blk_frozen BK130.out 4; have p134 : 0 ≤ ((ji131) : Int) := of_decide_eq_true (by first | (with_reducible assumption) | assumption); have q134 : ((ji131) : Int) < ((t136.length : Int) : Int) := of_decide_eq_true (by first | (with_reducible assumption) | assumption); obtain ⟨go134, co134, eo134, gb134, gl134, cl134, HG134⟩ := Kd.R_form HO138.out (by omega); (first | cases eo134 | (injection eo134 with ea_ en_ ec_; (first | subst ea_ | (injection ea_ with ea_; subst ea_)); subst ec_; clear en_)); have GB134 := Aside0.mk gb134; have GG134 := Aside0.mk HG134; clear gb134 gl134 HG134; obtain ⟨ce134, hcl134, hM134, hcc134, hfr134⟩ := Kd.R_elem HO138.out z29 ((ji131) : Int) p134 q134; obtain rfl := k29_openM hM134; have hx134_0 : w143.cell? ⟨go134, ((ji131) : Int).toNat * 3, none⟩ = some (.int .u8 ((rd_T29 t136 (ji131)).f0)) := hcc134 0 _ rfl; have hx134_1 : w143.cell? ⟨go134, ((ji131) : Int).toNat * 3 + 1, none⟩ = some (.string ((rd_T29 t136 (ji131)).f1)) := hcc134 1 _ rfl; have hx134_2 : w143.cell? ⟨go134, ((ji131) : Int).toNat * 3 + 2, none⟩ = some (.bool ((rd_T29 t136 (ji131)).f2)) := hcc134 2 _ rfl; have hf134_0 : w143.frozen? ⟨go134, ((ji131) : Int).toNat * 3, none⟩ = false := hfr134 0; have hf134_1 : w143.frozen? ⟨go134, ((ji131) : Int).toNat * 3 + 1, none⟩ = false := hfr134 1; have hf134_2 : w143.frozen? ⟨go134, ((ji131) : Int).toNat * 3 + 2, none⟩ = false := hfr134 2; clear hcl134 hcc134 hfr134 hM134; replace p134 := eq_true p134; replace q134 := eq_true q134; have HX145 := Aside0.mk (show Kd.R k29 29 w143 w.heap.size (fun _ => True) (.slice (some ⟨go134, 0, none⟩) t136.length co142) t136 from (by (with_reducible repeat (first | apply Kd.R_alloc | apply Kd.R_drewN | apply Kd.R_drew)); exact HO138.out)); obtain ⟨ce145, hcl145, hM145, hcc145, hfr145⟩ := Kd.R_elem HX145.out z29 ((ji131) : Int) (of_decide_eq_true (by first | (with_reducible assumption) | assumption)) (by have h_ : ((ji131) : Int) < ((t136.length : Int) : Int) := of_decide_eq_true (by first | (with_reducible assumption) | assumption); first | exact h_ | (have e_ := (Kd.R_reads' HO138.out).1; omega) | simpa using h_); obtain rfl := k29_openM hM145; have HP145 := Kd.R_seg HX145.out ((ji131) : Int) (of_decide_eq_true (by first | (with_reducible assumption) | assumption)) (by have h_ : ((ji131) : Int) < ((t136.length : Int) : Int) := of_decide_eq_true (by first | (with_reducible assumption) | assumption); first | exact h_ | (have e_ := (Kd.R_reads' HO138.out).1; omega) | simpa using h_) (seg := [.bool true]) (j := 2) hcl145 hcc145 (show 3 ≤ 3 from by decide) (x' := (⟨(rd_T29 t136 (ji131)).f0, (rd_T29 t136 (ji131)).f1, true⟩ : S29)) (k29_mkM _ _ _ (⟨(rd_T29 t136 (ji131)).f0, (rd_T29 t136 (ji131)).f1, true⟩ : S29) ) (fun _ hk => hk); have hx145_2 := hcc145 2 _ rfl; (try simp only [show (k29).sz = 3 from rfl, Nat.mul_one, Nat.add_zero] at hx145_2); have hf145_2 := hfr145 2; (try simp only [show (k29).sz = 3 from rfl, Nat.mul_one, Nat.add_zero] at hf145_2); clear hcl145 hcc145 hfr145 hM145) | ((with_reducible refine gate_store (t := 4) (p := 79) rfl ?_); refine store_event (t := 4) (p := 79) (v := ?vo_w146) (w1 := (w143.setCell ⟨go134, ((ji131) : Int).toNat * 3 + 2, none⟩ (.bool true))) ?hg ?ho ?hn ?hr ?_; (case ho => rfl); (case hg => rfl); (case hn => rfl); (case hr => first | (go_simp; done) | (go_simp; rfl)); intro w146 hw; have hg : w143.grownBy w146 (some go134) := (by rw [hw]; exact HP145.2); have hp_ : Kd.R k29 29 w146 w.heap.size (fun _ => True) (.slice (some ⟨go134, 0, none⟩) t136.length co142) y158 := (by rw [hw, Ny158.out]; exact HP145.1); clear HP145; have n0_ := Aside0.mk (blk_grown (g := gb130) (o := .cells #[.int .i64 t132, .int .i64 t133, .int .i64 t134, .int .i64 t135, .slice (some ⟨go134, 0, none⟩) t136.length co142] 26 (0, 0)) (by (with_reducible repeat (first | refine blk_drewN ?_ _ | refine blk_drew ?_ | refine blk_alloc ?_ _)); exact BK130.out) hg (Kd.R_ne HO138.out BK130.out (by decide))); have n1_ := Aside0.mk (hp_); have n2_ := Aside0.mk ((by rw [hw]; exact below_set (HB.out) GB134.out : Below w.heap.size w w146)); clear BK130; clear HO138; clear HB; have BK130 := n0_; have HO138 := n1_; have HB := n2_; clear n0_ n1_ n2_; clear hg hw hp_))
             have n0_ := Aside0.mk (Kd.R_drew HO138.out)
             have n1_ := Aside0.mk (blk_drew BK130.out)
             have n2_ := Aside0.mk (below_drew1 HB.out)
             clear HO138
             clear BK130
             clear HB
             have HO138 := n0_
             have BK130 := n1_
             have HB := n2_
             clear n0_ n1_ n2_
             refine start_ (n := 6) (S := fun w' => w'.cell? ⟨gb130, 0, none⟩ = some (.int .i64 t132) ∧ w'.cell? ⟨gb130, 1, none⟩ = some (.int .i64 t133) ∧ w'.cell? ⟨gb130, 2, none⟩ = some (.int .i64 t134) ∧ w'.cell? ⟨gb130, 3, none⟩ = some (.int .i64 t135) ∧ w'.cell? ⟨gb130, 4, none⟩ = some (.slice (some ⟨go134, 0, none⟩) t136.length co142)) (ds := []) #[false, false, false, false, false, false] (by kernel_rfl) rfl rfl ⟨(blk_cell BK130.out 0).trans rfl, (blk_cell BK130.out 1).trans rfl, (blk_cell BK130.out 2).trans rfl, (blk_cell BK130.out 3).trans rfl, (blk_cell BK130.out 4).trans rfl⟩ (fun hHeld => ?_)
             generalize w146.drew = w147 at HO138 BK130 HB hHeld ⊢
             refine take_ (i := 0) (N := some 80) (v := ?_) (a' := ?_) #[true, false, false, false, false, false] rfl rfl (by kernel_rfl) (fun _ _ _ h => h) (Or.inl ⟨by rfl, ?_⟩) hHeld ?_ ?_
             rotate_left
             ·rintro w' ⟨s0, s1, s2, s3, s4⟩
              go_simp
              with_reducible rfl
             rotate_left
             ·simp only [Act.put, List.setIfInBounds_toArray, List.set_cons_zero, List.set_cons_succ, i64_w, i32_w]
              rfl
             refine take_ (i := 2) (N := some 82) (v := ?_) (a' := ?_) #[true, false, true, false, false, false] rfl rfl (by kernel_rfl) (fun _ _ _ h => h) (Or.inl ⟨by rfl, ?_⟩) hHeld ?_ ?_
             rotate_left
             ·rintro w' ⟨s0, s1, s2, s3, s4⟩
              go_simp
              with_reducible rfl
             rotate_left
             ·simp only [Act.put, List.setIfInBounds_toArray, List.set_cons_zero, List.set_cons_succ, i64_w, i32_w]
              rfl
             refine one_ (i := 1) (N := some 81) #[true, true, true, false, false, false] rfl rfl (by kernel_rfl) (by decide) (fun K hK => ?_)
             refine goes_ Tryd.func16 (by kernel_rfl) rfl #[.agg #[.int .i64 t132, .int .i64 t133, .int .i64 t134, .int .i64 t135, .slice (some ⟨go134, 0, none⟩) y158.length co142]] (by rfl) rfl rfl (by (try simp only [List.map_toArray, List.map_cons, List.map_nil]); first | done | (rw [show y158.length = t136.length from (Kd.R_reads' HO138.out).1.symm] <;> rfl) | rfl | (simp only [List.length_drop, List.length_take]; rfl)) ?_
             with_reducible refine (show_Check.calls k t132 t133 t134 t135 _ _ y158 t159 _ ?side1 ?side2 A135.out).mono ?_
             (case side1 => repeat (first | exact (Kd.R_reads' HO138.out).2.2 | (with_reducible refine Kd.C_alloc ?_ _) | (with_reducible refine Kd.C_drewN ?_ _) | (with_reducible refine Kd.C_drew ?_)))
             (case side2 => rw [show y158.length = t136.length from (Kd.R_reads' HO138.out).1.symm]; exact (Kd.R_reads' HO138.out).2.1)
             rintro e w148 ⟨rfl, hb⟩
             refine ⟨_, rfl, ?_⟩
             have n0_ := Aside0.mk (Kd.R_below (by (with_reducible repeat (first | apply Kd.R_alloc | apply Kd.R_drewN | apply Kd.R_drew)); exact HO138.out) hb)
             have n1_ := Aside0.mk (blk_below (g := gb130) (o := .cells #[.int .i64 t132, .int .i64 t133, .int .i64 t134, .int .i64 t135, .slice (some ⟨go134, 0, none⟩) t136.length co142] 26 (0, 0)) (by (with_reducible repeat (first | refine blk_drewN ?_ _ | refine blk_drew ?_ | refine blk_alloc ?_ _)); exact BK130.out) hb)
             have n2_ := Aside0.mk (below_step (by repeat (first | (with_reducible first | exact HB.out | apply below_alloc | apply pw_below_drewN | apply below_drew1 | refine below_set ?_ GE130.out) | exact HB.out)) hb)
             clear HO138
             clear BK130
             clear HB
             have HO138 := n0_
             have BK130 := n1_
             have HB := n2_
             clear n0_ n1_ n2_
             (try clear hb)
             (try clear hb2)
             (try clear hk)
             (try clear hi)
             refine hK.out _ _ ⟨(blk_cell BK130.out 0).trans rfl, (blk_cell BK130.out 1).trans rfl, (blk_cell BK130.out 2).trans rfl, (blk_cell BK130.out 3).trans rfl, (blk_cell BK130.out 4).trans rfl⟩ (fun hHeld => ?_)
             clear hK K
             refine norm_ (a' := ?_) ?_ ?_
             rotate_left
             ·show Act.put _ (some 81) _ = _
              simp only [Act.put, List.setIfInBounds_toArray, List.set_cons_zero, List.set_cons_succ, i64_w, i32_w]
              rfl
             refine one_ (i := 3) (N := some 83) #[true, true, true, true, false, false] rfl rfl (by kernel_rfl) (by decide) (fun K hK => ?_)
             refine goes_ Tryd.func17 (by kernel_rfl) rfl #[.agg #[.int .i64 t132, .int .i64 t133, .int .i64 t134, .int .i64 t135, .slice (some ⟨go134, 0, none⟩) y158.length co142]] (by rfl) rfl rfl (by (try simp only [List.map_toArray, List.map_cons, List.map_nil]); first | done | (rw [show y158.length = t136.length from (Kd.R_reads' HO138.out).1.symm] <;> rfl) | rfl | (simp only [List.length_drop, List.length_take]; rfl)) ?_
             with_reducible refine (redpenref18_Check.calls k t132 t133 t134 t135 _ _ y158 t160 _ ?side1 ?side2 A136.out).mono ?_
             (case side1 => repeat (first | exact (Kd.R_reads' HO138.out).2.2 | (with_reducible refine Kd.C_alloc ?_ _) | (with_reducible refine Kd.C_drewN ?_ _) | (with_reducible refine Kd.C_drew ?_)))
             (case side2 => rw [show y158.length = t136.length from (Kd.R_reads' HO138.out).1.symm]; exact (Kd.R_reads' HO138.out).2.1)
             rintro e w149 ⟨rfl, hb⟩
             refine ⟨_, rfl, ?_⟩
             have n0_ := Aside0.mk (Kd.R_below (by (with_reducible repeat (first | apply Kd.R_alloc | apply Kd.R_drewN | apply Kd.R_drew)); exact HO138.out) hb)
             have n1_ := Aside0.mk (blk_below (g := gb130) (o := .cells #[.int .i64 t132, .int .i64 t133, .int .i64 t134, .int .i64 t135, .slice (some ⟨go134, 0, none⟩) t136.length co142] 26 (0, 0)) (by (with_reducible repeat (first | refine blk_drewN ?_ _ | refine blk_drew ?_ | refine blk_alloc ?_ _)); exact BK130.out) hb)
             have n2_ := Aside0.mk (below_step (by repeat (first | (with_reducible first | exact HB.out | apply below_alloc | apply pw_below_drewN | apply below_drew1 | refine below_set ?_ GE130.out) | exact HB.out)) hb)
             clear HO138
             clear BK130
             clear HB
             have HO138 := n0_
             have BK130 := n1_
             have HB := n2_
             clear n0_ n1_ n2_
             (try clear hb)
             (try clear hb2)
             (try clear hk)
             (try clear hi)
             refine hK.out _ _ ⟨(blk_cell BK130.out 0).trans rfl, (blk_cell BK130.out 1).trans rfl, (blk_cell BK130.out 2).trans rfl, (blk_cell BK130.out 3).trans rfl, (blk_cell BK130.out 4).trans rfl⟩ (fun hHeld => ?_)
             clear hK K
             refine norm_ (a' := ?_) ?_ ?_
             rotate_left
             ·show Act.put _ (some 83) _ = _
              simp only [Act.put, List.setIfInBounds_toArray, List.set_cons_zero, List.set_cons_succ, i64_w, i32_w]
              rfl
             refine pure_ (i := 4) (N := some 84) (v := ?_) (a' := ?_) #[true, true, true, true, true, false] rfl rfl (by kernel_rfl) (fun _ _ _ h => h) (Or.inl ⟨by rfl, ?_⟩) ?_ ?_
             rotate_left
             ·intro w'
              go_simp
              with_reducible rfl
             rotate_left
             ·simp only [Act.put, List.setIfInBounds_toArray, List.set_cons_zero, List.set_cons_succ, i64_w, i32_w]
              rfl
             refine pure_ (i := 5) (N := some 8) (v := ?_) (a' := ?_) #[true, true, true, true, true, true] rfl rfl (by kernel_rfl) (fun _ _ _ h => h) (Or.inl ⟨by rfl, ?_⟩) ?_ ?_
             rotate_left
             ·intro w'
              go_simp
              with_reducible rfl
             rotate_left
             ·simp only [Act.put, List.setIfInBounds_toArray, List.set_cons_zero, List.set_cons_succ, i64_w, i32_w]
              rfl
             refine done_ (by kernel_rfl) ?_
             try go_wp2
             go_ret
             exact ⟨by first | rfl | (simp [errW_none, errW_some] <;> rfl) | (simp only [← hji131]; first | rfl | (simp [errW_none, errW_some] <;> rfl)) | (simp [*, errW_none, errW_some] <;> rfl), by repeat (first | (with_reducible first | exact HB.out | apply below_alloc | apply pw_below_drewN | apply below_drew1 | refine below_set ?_ GE130.out) | exact HB.out)⟩
            ·rw [if_neg c133] at H
             exact absurd H (by simp)
           ·rw [if_neg c132] at H
            exact absurd H (by simp)
          ·rw [if_neg c130] at H
           have c130b0 : decide (0 < (t136.length : Int)) = false := decide_eq_false c130
           have c130b1 : decide (0 < t136.length) = false := decide_eq_false (by omega)
           clear c130
           replace H := Option.bind_eq_some_iff.mp H
           obtain ⟨t161, A1500, H⟩ := H
           replace H : ((redpenref18_Check.f k t132 t133 t134 t135 t136).bind fun t162 => (some (t161 == t162))) = some r := H
           have A150 := Aside0.mk A1500
           clear A1500
           replace H := Option.bind_eq_some_iff.mp H
           obtain ⟨t162, A1510, H⟩ := H
           replace H : (some (t161 == t162)) = some r := H
           have A151 := Aside0.mk A1510
           clear A1510
           obtain rfl := Option.some.inj H
           go_enter Tryd.func4, Tryd.ntmps4
           try go_wp2_with (first | ((with_reducible refine gate_dst (N := 4) rfl ?_); refine box_event ?hg (N := 4) ?hd (cs := #[.int .i64 a0_0, .int .i64 a0_1, .int .i64 a0_2, .int .i64 a0_3, .slice A0_4 l0_4.length c0_4]) (t := 26) ?hr ?_; (case hd => rfl); (case hg => rfl); (case hr => first | (go_simp; done) | (go_simp; rfl)); intro gb130 hg w152 hbox hb; have n0_ := Aside0.mk (below_step (by repeat (first | (with_reducible first | exact HB.out | apply below_alloc | apply pw_below_drewN | apply below_drew1) | exact HB.out)) hb); have n1_ := Aside0.mk (hbox); have n2_ := Aside0.mk ((by rw [hg]; exact (below_size (by repeat (first | (with_reducible first | exact HB.out | apply below_alloc | apply pw_below_drewN | apply below_drew1) | exact HB.out))) : w.heap.size ≤ gb130)); have n3_ := Aside0.mk ((by rw [hg]; exact (below_size (by repeat (first | (with_reducible first | exact HB.out | apply below_alloc | apply pw_below_drewN | apply below_drew1) | exact HB.out))) : w.heap.size ≤ gb130)); clear HB; have HB := n0_; have BK130 := n1_; have GW130 := n2_; have GE130 := n3_; clear n0_ n1_ n2_ n3_; clear hb hbox hg) | ((with_reducible refine gate_callee (f := 12) rfl ?_); refine goesL_ (some 9) rfl rfl Tryd.func12 (by kernel_rfl) rfl #[] rfl (by (try simp only [List.map_toArray, List.map_cons, List.map_nil]); first | done | rfl | (simp only [List.length_drop, List.length_take]; rfl)) ?_; (with_reducible refine (redpenlaw20_Awake.calls  true _ A5.out).mono ?_); rintro e w153 ⟨rfl, hb⟩; refine ⟨_, rfl, ?_⟩; have n0_ := Aside0.mk (blk_below (g := gb130) (o := .cells #[.int .i64 a0_0, .int .i64 a0_1, .int .i64 a0_2, .int .i64 a0_3, .slice A0_4 l0_4.length c0_4] 26 (0, 0)) (by (with_reducible repeat (first | refine blk_drewN ?_ _ | refine blk_drew ?_ | refine blk_alloc ?_ _)); exact BK130.out) hb); have n1_ := Aside0.mk (below_step (by repeat (first | (with_reducible first | exact HB.out | apply below_alloc | apply pw_below_drewN | apply below_drew1 | refine below_set ?_ GE130.out) | exact HB.out)) hb); clear BK130; clear HB; have BK130 := n0_; have HB := n1_; clear n0_ n1_; (try clear hb); (try clear hb2); (try clear hk); (try clear hi); have hcz154_0 : w153.cell? ⟨gb130, 0, none⟩ = some (.int .i64 a0_0) := (blk_cell BK130.out 0).trans rfl; have hcz154_1 : w153.cell? ⟨gb130, 1, none⟩ = some (.int .i64 a0_1) := (blk_cell BK130.out 1).trans rfl; have hcz154_2 : w153.cell? ⟨gb130, 2, none⟩ = some (.int .i64 a0_2) := (blk_cell BK130.out 2).trans rfl; have hcz154_3 : w153.cell? ⟨gb130, 3, none⟩ = some (.int .i64 a0_3) := (blk_cell BK130.out 3).trans rfl; have hcz154_4 : w153.cell? ⟨gb130, 4, none⟩ = some (.slice A0_4 l0_4.length c0_4) := (blk_cell BK130.out 4).trans rfl; have hfz154_0 := blk_frozen BK130.out 0; have hfz154_1 := blk_frozen BK130.out 1; have hfz154_2 := blk_frozen BK130.out 2; have hfz154_3 := blk_frozen BK130.out 3; have hfz154_4 := blk_frozen BK130.out 4) | ((with_reducible refine gate_callee (f := 15) rfl ?_); refine goesL_ (some 17) rfl rfl Tryd.func15 (by kernel_rfl) rfl #[.agg #[.int .i64 a0_0, .int .i64 a0_1, .int .i64 a0_2, .int .i64 a0_3, .slice A0_4 l0_4.length c0_4], .bool a1] rfl (by (try simp only [List.map_toArray, List.map_cons, List.map_nil]); first | done | rfl | (simp only [List.length_drop, List.length_take]; rfl)) ?_; (with_reducible refine (redpenlaw20_Tidied.calls k a0_0 a0_1 a0_2 a0_3 _ _ l0_4 a1 t132 t133 t134 t135 t136 _ ?side1 ?side2 A11.out).mono ?_); (case side1 => repeat (first | exact (Kd.C_below HR0_4.out HB.out) | (with_reducible refine Kd.C_alloc ?_ _) | (with_reducible refine Kd.C_drewN ?_ _) | (with_reducible refine Kd.C_drew ?_))); (case side2 => exact HC0_4.out); rintro e w155 ⟨v137, rfl, ho0, hb⟩; refine ⟨_, rfl, ?_⟩; have n0_ := Aside0.mk (Kd.R_lower ho0 (below_size (by repeat (first | (with_reducible first | exact HB.out | apply below_alloc | apply pw_below_drewN | apply below_drew1 | refine below_set ?_ GE130.out) | exact HB.out)))); have n1_ := Aside0.mk (blk_below (g := gb130) (o := .cells #[.int .i64 a0_0, .int .i64 a0_1, .int .i64 a0_2, .int .i64 a0_3, .slice A0_4 l0_4.length c0_4] 26 (0, 0)) (by (with_reducible repeat (first | refine blk_drewN ?_ _ | refine blk_drew ?_ | refine blk_alloc ?_ _)); exact BK130.out) hb); have n2_ := Aside0.mk (below_step (by repeat (first | (with_reducible first | exact HB.out | apply below_alloc | apply pw_below_drewN | apply below_drew1 | refine below_set ?_ GE130.out) | exact HB.out)) hb); clear BK130; clear HB; have HO138 := n0_; have BK130 := n1_; have HB := n2_; clear n0_ n1_ n2_; (try clear hb); (try clear hb2); (try clear hk); (try clear hi); (try clear ho0); have hcz156_0 : w155.cell? ⟨gb130, 0, none⟩ = some (.int .i64 a0_0) := (blk_cell BK130.out 0).trans rfl; have hcz156_1 : w155.cell? ⟨gb130, 1, none⟩ = some (.int .i64 a0_1) := (blk_cell BK130.out 1).trans rfl; have hcz156_2 : w155.cell? ⟨gb130, 2, none⟩ = some (.int .i64 a0_2) := (blk_cell BK130.out 2).trans rfl; have hcz156_3 : w155.cell? ⟨gb130, 3, none⟩ = some (.int .i64 a0_3) := (blk_cell BK130.out 3).trans rfl; have hcz156_4 : w155.cell? ⟨gb130, 4, none⟩ = some (.slice A0_4 l0_4.length c0_4) := (blk_cell BK130.out 4).trans rfl; have hfz156_0 := blk_frozen BK130.out 0; have hfz156_1 := blk_frozen BK130.out 1; have hfz156_2 := blk_frozen BK130.out 2; have hfz156_3 := blk_frozen BK130.out 3; have hfz156_4 := blk_frozen BK130.out 4; obtain ⟨Ao157, co157, eo157⟩ := Kd.R_slice HO138.out; subst eo157))
           have n0_ : Aside0 (Kd.R k29 29 (((((w155.setCell ⟨gb130, 0, none⟩ (.int .i64 t132)).setCell ⟨gb130, 1, none⟩ (.int .i64 t133)).setCell ⟨gb130, 2, none⟩ (.int .i64 t134)).setCell ⟨gb130, 3, none⟩ (.int .i64 t135)).setCell ⟨gb130, 4, none⟩ (.slice Ao157 t136.length co157)) w.heap.size (fun _ => True) (.slice Ao157 t136.length co157) t136) := ⟨by (with_reducible repeat (first | apply Kd.R_alloc | apply Kd.R_drewN | apply Kd.R_drew)); exact Kd.R_mono (Kd.R_far (p := ⟨gb130, 4, none⟩) (Kd.R_far (p := ⟨gb130, 3, none⟩) (Kd.R_far (p := ⟨gb130, 2, none⟩) (Kd.R_far (p := ⟨gb130, 1, none⟩) (Kd.R_far (p := ⟨gb130, 0, none⟩) (Kd.R_types HO138.out BK130.out (by decide)) (fun _ hk => hk.2) (.int .i64 t132)) (fun _ hk => hk.2) (.int .i64 t133)) (fun _ hk => hk.2) (.int .i64 t134)) (fun _ hk => hk.2) (.int .i64 t135)) (fun _ hk => hk.2) (.slice Ao157 t136.length co157)) (fun _ hk => trivial)⟩
           have n1_ : Aside0 ((((((w155.setCell ⟨gb130, 0, none⟩ (.int .i64 t132)).setCell ⟨gb130, 1, none⟩ (.int .i64 t133)).setCell ⟨gb130, 2, none⟩ (.int .i64 t134)).setCell ⟨gb130, 3, none⟩ (.int .i64 t135)).setCell ⟨gb130, 4, none⟩ (.slice Ao157 t136.length co157)).heap[gb130]? = some (.cells #[.int .i64 t132, .int .i64 t133, .int .i64 t134, .int .i64 t135, .slice Ao157 t136.length co157] 26 (0, 0))) := ⟨by (with_reducible repeat (first | refine blk_drewN ?_ _ | refine blk_drew ?_ | refine blk_alloc ?_ _)); refine blk_put (cs := #[.int .i64 t132, .int .i64 t133, .int .i64 t134, .int .i64 t135, .slice A0_4 l0_4.length c0_4]) ?_ 4 _ rfl; (with_reducible repeat (first | refine blk_drewN ?_ _ | refine blk_drew ?_ | refine blk_alloc ?_ _)); refine blk_put (cs := #[.int .i64 t132, .int .i64 t133, .int .i64 t134, .int .i64 a0_3, .slice A0_4 l0_4.length c0_4]) ?_ 3 _ rfl; (with_reducible repeat (first | refine blk_drewN ?_ _ | refine blk_drew ?_ | refine blk_alloc ?_ _)); refine blk_put (cs := #[.int .i64 t132, .int .i64 t133, .int .i64 a0_2, .int .i64 a0_3, .slice A0_4 l0_4.length c0_4]) ?_ 2 _ rfl; (with_reducible repeat (first | refine blk_drewN ?_ _ | refine blk_drew ?_ | refine blk_alloc ?_ _)); refine blk_put (cs := #[.int .i64 t132, .int .i64 a0_1, .int .i64 a0_2, .int .i64 a0_3, .slice A0_4 l0_4.length c0_4]) ?_ 1 _ rfl; (with_reducible repeat (first | refine blk_drewN ?_ _ | refine blk_drew ?_ | refine blk_alloc ?_ _)); refine blk_put (cs := #[.int .i64 a0_0, .int .i64 a0_1, .int .i64 a0_2, .int .i64 a0_3, .slice A0_4 l0_4.length c0_4]) ?_ 0 _ rfl; (with_reducible repeat (first | refine blk_drewN ?_ _ | refine blk_drew ?_ | refine blk_alloc ?_ _)); exact BK130.out⟩
           have n2_ : Aside0 (Below w.heap.size w (((((w155.setCell ⟨gb130, 0, none⟩ (.int .i64 t132)).setCell ⟨gb130, 1, none⟩ (.int .i64 t133)).setCell ⟨gb130, 2, none⟩ (.int .i64 t134)).setCell ⟨gb130, 3, none⟩ (.int .i64 t135)).setCell ⟨gb130, 4, none⟩ (.slice Ao157 t136.length co157))) := ⟨by repeat (first | (with_reducible first | exact HB.out | apply below_alloc | apply pw_below_drewN | apply below_drew1 | refine below_set ?_ GE130.out) | exact HB.out)⟩
           (try clear HO138)
           (try clear BK130)
           (try clear HB)
           generalize (((((w155.setCell ⟨gb130, 0, none⟩ (.int .i64 t132)).setCell ⟨gb130, 1, none⟩ (.int .i64 t133)).setCell ⟨gb130, 2, none⟩ (.int .i64 t134)).setCell ⟨gb130, 3, none⟩ (.int .i64 t135)).setCell ⟨gb130, 4, none⟩ (.slice Ao157 t136.length co157)) = w158 at n0_ n1_ n2_ ⊢
           have HO138 := n0_
           have BK130 := n1_
           have HB := n2_
           clear n0_ n1_ n2_
           have n0_ := Aside0.mk (Kd.R_drew HO138.out)
           have n1_ := Aside0.mk (blk_drew BK130.out)
           have n2_ := Aside0.mk (below_drew1 HB.out)
           clear HO138
           clear BK130
           clear HB
           have HO138 := n0_
           have BK130 := n1_
           have HB := n2_
           clear n0_ n1_ n2_
           refine start_ (n := 6) (S := fun w' => w'.cell? ⟨gb130, 0, none⟩ = some (.int .i64 t132) ∧ w'.cell? ⟨gb130, 1, none⟩ = some (.int .i64 t133) ∧ w'.cell? ⟨gb130, 2, none⟩ = some (.int .i64 t134) ∧ w'.cell? ⟨gb130, 3, none⟩ = some (.int .i64 t135) ∧ w'.cell? ⟨gb130, 4, none⟩ = some (.slice Ao157 t136.length co157)) (ds := []) #[false, false, false, false, false, false] (by kernel_rfl) rfl rfl ⟨(blk_cell BK130.out 0).trans rfl, (blk_cell BK130.out 1).trans rfl, (blk_cell BK130.out 2).trans rfl, (blk_cell BK130.out 3).trans rfl, (blk_cell BK130.out 4).trans rfl⟩ (fun hHeld => ?_)
           generalize w158.drew = w159 at HO138 BK130 HB hHeld ⊢
           refine take_ (i := 0) (N := some 80) (v := ?_) (a' := ?_) #[true, false, false, false, false, false] rfl rfl (by kernel_rfl) (fun _ _ _ h => h) (Or.inl ⟨by rfl, ?_⟩) hHeld ?_ ?_
           rotate_left
           ·rintro w' ⟨s0, s1, s2, s3, s4⟩
            go_simp
            with_reducible rfl
           rotate_left
           ·simp only [Act.put, List.setIfInBounds_toArray, List.set_cons_zero, List.set_cons_succ, i64_w, i32_w]
            rfl
           refine take_ (i := 2) (N := some 82) (v := ?_) (a' := ?_) #[true, false, true, false, false, false] rfl rfl (by kernel_rfl) (fun _ _ _ h => h) (Or.inl ⟨by rfl, ?_⟩) hHeld ?_ ?_
           rotate_left
           ·rintro w' ⟨s0, s1, s2, s3, s4⟩
            go_simp
            with_reducible rfl
           rotate_left
           ·simp only [Act.put, List.setIfInBounds_toArray, List.set_cons_zero, List.set_cons_succ, i64_w, i32_w]
            rfl
           refine one_ (i := 1) (N := some 81) #[true, true, true, false, false, false] rfl rfl (by kernel_rfl) (by decide) (fun K hK => ?_)
           refine goes_ Tryd.func16 (by kernel_rfl) rfl #[.agg #[.int .i64 t132, .int .i64 t133, .int .i64 t134, .int .i64 t135, .slice Ao157 t136.length co157]] (by rfl) rfl rfl (by (try simp only [List.map_toArray, List.map_cons, List.map_nil]); first | done | rfl | (simp only [List.length_drop, List.length_take]; rfl)) ?_
           with_reducible refine (show_Check.calls k t132 t133 t134 t135 _ _ t136 t161 _ ?side1 ?side2 A150.out).mono ?_
           (case side1 => repeat (first | exact (Kd.R_reads' HO138.out).2.2 | (with_reducible refine Kd.C_alloc ?_ _) | (with_reducible refine Kd.C_drewN ?_ _) | (with_reducible refine Kd.C_drew ?_)))
           (case side2 => exact (Kd.R_reads' HO138.out).2.1)
           rintro e w160 ⟨rfl, hb⟩
           refine ⟨_, rfl, ?_⟩
           have n0_ := Aside0.mk (Kd.R_below (by (with_reducible repeat (first | apply Kd.R_alloc | apply Kd.R_drewN | apply Kd.R_drew)); exact HO138.out) hb)
           have n1_ := Aside0.mk (blk_below (g := gb130) (o := .cells #[.int .i64 t132, .int .i64 t133, .int .i64 t134, .int .i64 t135, .slice Ao157 t136.length co157] 26 (0, 0)) (by (with_reducible repeat (first | refine blk_drewN ?_ _ | refine blk_drew ?_ | refine blk_alloc ?_ _)); exact BK130.out) hb)
           have n2_ := Aside0.mk (below_step (by repeat (first | (with_reducible first | exact HB.out | apply below_alloc | apply pw_below_drewN | apply below_drew1 | refine below_set ?_ GE130.out) | exact HB.out)) hb)
           clear HO138
           clear BK130
           clear HB
           have HO138 := n0_
           have BK130 := n1_
           have HB := n2_
           clear n0_ n1_ n2_
           (try clear hb)
           (try clear hb2)
           (try clear hk)
           (try clear hi)
           refine hK.out _ _ ⟨(blk_cell BK130.out 0).trans rfl, (blk_cell BK130.out 1).trans rfl, (blk_cell BK130.out 2).trans rfl, (blk_cell BK130.out 3).trans rfl, (blk_cell BK130.out 4).trans rfl⟩ (fun hHeld => ?_)
           clear hK K
           refine norm_ (a' := ?_) ?_ ?_
           rotate_left
           ·show Act.put _ (some 81) _ = _
            simp only [Act.put, List.setIfInBounds_toArray, List.set_cons_zero, List.set_cons_succ, i64_w, i32_w]
            rfl
           refine one_ (i := 3) (N := some 83) #[true, true, true, true, false, false] rfl rfl (by kernel_rfl) (by decide) (fun K hK => ?_)
           refine goes_ Tryd.func17 (by kernel_rfl) rfl #[.agg #[.int .i64 t132, .int .i64 t133, .int .i64 t134, .int .i64 t135, .slice Ao157 t136.length co157]] (by rfl) rfl rfl (by (try simp only [List.map_toArray, List.map_cons, List.map_nil]); first | done | rfl | (simp only [List.length_drop, List.length_take]; rfl)) ?_
           with_reducible refine (redpenref18_Check.calls k t132 t133 t134 t135 _ _ t136 t162 _ ?side1 ?side2 A151.out).mono ?_
           (case side1 => repeat (first | exact (Kd.R_reads' HO138.out).2.2 | (with_reducible refine Kd.C_alloc ?_ _) | (with_reducible refine Kd.C_drewN ?_ _) | (with_reducible refine Kd.C_drew ?_)))
           (case side2 => exact (Kd.R_reads' HO138.out).2.1)
           rintro e w161 ⟨rfl, hb⟩
           refine ⟨_, rfl, ?_⟩
           have n0_ := Aside0.mk (Kd.R_below (by (with_reducible repeat (first | apply Kd.R_alloc | apply Kd.R_drewN | apply Kd.R_drew)); exact HO138.out) hb)
           have n1_ := Aside0.mk (blk_below (g := gb130) (o := .cells #[.int .i64 t132, .int .i64 t133, .int .i64 t134, .int .i64 t135, .slice Ao157 t136.length co157] 26 (0, 0)) (by (with_reducible repeat (first | refine blk_drewN ?_ _ | refine blk_drew ?_ | refine blk_alloc ?_ _)); exact BK130.out) hb)
           have n2_ := Aside0.mk (below_step (by repeat (first | (with_reducible first | exact HB.out | apply below_alloc | apply pw_below_drewN | apply below_drew1 | refine below_set ?_ GE130.out) | exact HB.out)) hb)
           clear HO138
           clear BK130
           clear HB
           have HO138 := n0_
           have BK130 := n1_
           have HB := n2_
           clear n0_ n1_ n2_
           (try clear hb)
           (try clear hb2)
           (try clear hk)
           (try clear hi)
           refine hK.out _ _ ⟨(blk_cell BK130.out 0).trans rfl, (blk_cell BK130.out 1).trans rfl, (blk_cell BK130.out 2).trans rfl, (blk_cell BK130.out 3).trans rfl, (blk_cell BK130.out 4).trans rfl⟩ (fun hHeld => ?_)
           clear hK K
           refine norm_ (a' := ?_) ?_ ?_
           rotate_left
           ·show Act.put _ (some 83) _ = _
            simp only [Act.put, List.setIfInBounds_toArray, List.set_cons_zero, List.set_cons_succ, i64_w, i32_w]
            rfl
           refine pure_ (i := 4) (N := some 84) (v := ?_) (a' := ?_) #[true, true, true, true, true, false] rfl rfl (by kernel_rfl) (fun _ _ _ h => h) (Or.inl ⟨by rfl, ?_⟩) ?_ ?_
           rotate_left
           ·intro w'
            go_simp
            with_reducible rfl
           rotate_left
           ·simp only [Act.put, List.setIfInBounds_toArray, List.set_cons_zero, List.set_cons_succ, i64_w, i32_w]
            rfl
           refine pure_ (i := 5) (N := some 8) (v := ?_) (a' := ?_) #[true, true, true, true, true, true] rfl rfl (by kernel_rfl) (fun _ _ _ h => h) (Or.inl ⟨by rfl, ?_⟩) ?_ ?_
           rotate_left
           ·intro w'
            go_simp
            with_reducible rfl
           rotate_left
           ·simp only [Act.put, List.setIfInBounds_toArray, List.set_cons_zero, List.set_cons_succ, i64_w, i32_w]
            rfl
           refine done_ (by kernel_rfl) ?_
           try go_wp2
           go_ret
           exact ⟨by first | rfl | (simp [errW_none, errW_some] <;> rfl) | (simp [*, errW_none, errW_some] <;> rfl), by repeat (first | (with_reducible first | exact HB.out | apply below_alloc | apply pw_below_drewN | apply below_drew1 | refine below_set ?_ GE130.out) | exact HB.out)⟩
         ·rw [if_neg c129] at H
          have c129b0 : ((Int.tmod a2 10) == 6) = false := beq_eq_false_iff_ne.mpr c129
          have c129b1 : ((Int.tmod a2 10) != 6) = true := bne_iff_ne.mpr c129
          replace H := Option.bind_eq_some_iff.mp H
          obtain ⟨t163, A1620, H⟩ := H
          replace H : ((redpenref18_Check.f k t132 t133 t134 t135 t136).bind fun t164 => (some (t163 == t164))) = some r := H
          have A162 := Aside0.mk A1620
          clear A1620
          replace H := Option.bind_eq_some_iff.mp H
          obtain ⟨t164, A1630, H⟩ := H
          replace H : (some (t163 == t164)) = some r := H
          have A163 := Aside0.mk A1630
          clear A1630
          obtain rfl := Option.some.inj H
          go_enter Tryd.func4, Tryd.ntmps4
          try go_wp2_with (first | ((with_reducible refine gate_dst (N := 4) rfl ?_); refine box_event ?hg (N := 4) ?hd (cs := #[.int .i64 a0_0, .int .i64 a0_1, .int .i64 a0_2, .int .i64 a0_3, .slice A0_4 l0_4.length c0_4]) (t := 26) ?hr ?_; (case hd => rfl); (case hg => rfl); (case hr => first | (go_simp; done) | (go_simp; rfl)); intro gb130 hg w164 hbox hb; have n0_ := Aside0.mk (below_step (by repeat (first | (with_reducible first | exact HB.out | apply below_alloc | apply pw_below_drewN | apply below_drew1) | exact HB.out)) hb); have n1_ := Aside0.mk (hbox); have n2_ := Aside0.mk ((by rw [hg]; exact (below_size (by repeat (first | (with_reducible first | exact HB.out | apply below_alloc | apply pw_below_drewN | apply below_drew1) | exact HB.out))) : w.heap.size ≤ gb130)); have n3_ := Aside0.mk ((by rw [hg]; exact (below_size (by repeat (first | (with_reducible first | exact HB.out | apply below_alloc | apply pw_below_drewN | apply below_drew1) | exact HB.out))) : w.heap.size ≤ gb130)); clear HB; have HB := n0_; have BK130 := n1_; have GW130 := n2_; have GE130 := n3_; clear n0_ n1_ n2_ n3_; clear hb hbox hg) | ((with_reducible refine gate_callee (f := 12) rfl ?_); refine goesL_ (some 9) rfl rfl Tryd.func12 (by kernel_rfl) rfl #[] rfl (by (try simp only [List.map_toArray, List.map_cons, List.map_nil]); first | done | rfl | (simp only [List.length_drop, List.length_take]; rfl)) ?_; (with_reducible refine (redpenlaw20_Awake.calls  true _ A5.out).mono ?_); rintro e w165 ⟨rfl, hb⟩; refine ⟨_, rfl, ?_⟩; have n0_ := Aside0.mk (blk_below (g := gb130) (o := .cells #[.int .i64 a0_0, .int .i64 a0_1, .int .i64 a0_2, .int .i64 a0_3, .slice A0_4 l0_4.length c0_4] 26 (0, 0)) (by (with_reducible repeat (first | refine blk_drewN ?_ _ | refine blk_drew ?_ | refine blk_alloc ?_ _)); exact BK130.out) hb); have n1_ := Aside0.mk (below_step (by repeat (first | (with_reducible first | exact HB.out | apply below_alloc | apply pw_below_drewN | apply below_drew1 | refine below_set ?_ GE130.out) | exact HB.out)) hb); clear BK130; clear HB; have BK130 := n0_; have HB := n1_; clear n0_ n1_; (try clear hb); (try clear hb2); (try clear hk); (try clear hi); have hcz166_0 : w165.cell? ⟨gb130, 0, none⟩ = some (.int .i64 a0_0) := (blk_cell BK130.out 0).trans rfl; have hcz166_1 : w165.cell? ⟨gb130, 1, none⟩ = some (.int .i64 a0_1) := (blk_cell BK130.out 1).trans rfl; have hcz166_2 : w165.cell? ⟨gb130, 2, none⟩ = some (.int .i64 a0_2) := (blk_cell BK130.out 2).trans rfl; have hcz166_3 : w165.cell? ⟨gb130, 3, none⟩ = some (.int .i64 a0_3) := (blk_cell BK130.out 3).trans rfl; have hcz166_4 : w165.cell? ⟨gb130, 4, none⟩ = some (.slice A0_4 l0_4.length c0_4) := (blk_cell BK130.out 4).trans rfl; have hfz166_0 := blk_frozen BK130.out 0; have hfz166_1 := blk_frozen BK130.out 1; have hfz166_2 := blk_frozen BK130.out 2; have hfz166_3 := blk_frozen BK130.out 3; have hfz166_4 := blk_frozen BK130.out 4) | ((with_reducible refine gate_callee (f := 15) rfl ?_); refine goesL_ (some 17) rfl rfl Tryd.func15 (by kernel_rfl) rfl #[.agg #[.int .i64 a0_0, .int .i64 a0_1, .int .i64 a0_2, .int .i64 a0_3, .slice A0_4 l0_4.length c0_4], .bool a1] rfl (by (try simp only [List.map_toArray, List.map_cons, List.map_nil]); first | done | rfl | (simp only [List.length_drop, List.length_take]; rfl)) ?_; (with_reducible refine (redpenlaw20_Tidied.calls k a0_0 a0_1 a0_2 a0_3 _ _ l0_4 a1 t132 t133 t134 t135 t136 _ ?side1 ?side2 A11.out).mono ?_); (case side1 => repeat (first | exact (Kd.C_below HR0_4.out HB.out) | (with_reducible refine Kd.C_alloc ?_ _) | (with_reducible refine Kd.C_drewN ?_ _) | (with_reducible refine Kd.C_drew ?_))); (case side2 => exact HC0_4.out); rintro e w167 ⟨v137, rfl, ho0, hb⟩; refine ⟨_, rfl, ?_⟩; have n0_ := Aside0.mk (Kd.R_lower ho0 (below_size (by repeat (first | (with_reducible first | exact HB.out | apply below_alloc | apply pw_below_drewN | apply below_drew1 | refine below_set ?_ GE130.out) | exact HB.out)))); have n1_ := Aside0.mk (blk_below (g := gb130) (o := .cells #[.int .i64 a0_0, .int .i64 a0_1, .int .i64 a0_2, .int .i64 a0_3, .slice A0_4 l0_4.length c0_4] 26 (0, 0)) (by (with_reducible repeat (first | refine blk_drewN ?_ _ | refine blk_drew ?_ | refine blk_alloc ?_ _)); exact BK130.out) hb); have n2_ := Aside0.mk (below_step (by repeat (first | (with_reducible first | exact HB.out | apply below_alloc | apply pw_below_drewN | apply below_drew1 | refine below_set ?_ GE130.out) | exact HB.out)) hb); clear BK130; clear HB; have HO138 := n0_; have BK130 := n1_; have HB := n2_; clear n0_ n1_ n2_; (try clear hb); (try clear hb2); (try clear hk); (try clear hi); (try clear ho0); have hcz168_0 : w167.cell? ⟨gb130, 0, none⟩ = some (.int .i64 a0_0) := (blk_cell BK130.out 0).trans rfl; have hcz168_1 : w167.cell? ⟨gb130, 1, none⟩ = some (.int .i64 a0_1) := (blk_cell BK130.out 1).trans rfl; have hcz168_2 : w167.cell? ⟨gb130, 2, none⟩ = some (.int .i64 a0_2) := (blk_cell BK130.out 2).trans rfl; have hcz168_3 : w167.cell? ⟨gb130, 3, none⟩ = some (.int .i64 a0_3) := (blk_cell BK130.out 3).trans rfl; have hcz168_4 : w167.cell? ⟨gb130, 4, none⟩ = some (.slice A0_4 l0_4.length c0_4) := (blk_cell BK130.out 4).trans rfl; have hfz168_0 := blk_frozen BK130.out 0; have hfz168_1 := blk_frozen BK130.out 1; have hfz168_2 := blk_frozen BK130.out 2; have hfz168_3 := blk_frozen BK130.out 3; have hfz168_4 := blk_frozen BK130.out 4; obtain ⟨Ao169, co169, eo169⟩ := Kd.R_slice HO138.out; subst eo169))
          have n0_ : Aside0 (Kd.R k29 29 (((((w167.setCell ⟨gb130, 0, none⟩ (.int .i64 t132)).setCell ⟨gb130, 1, none⟩ (.int .i64 t133)).setCell ⟨gb130, 2, none⟩ (.int .i64 t134)).setCell ⟨gb130, 3, none⟩ (.int .i64 t135)).setCell ⟨gb130, 4, none⟩ (.slice Ao169 t136.length co169)) w.heap.size (fun _ => True) (.slice Ao169 t136.length co169) t136) := ⟨by (with_reducible repeat (first | apply Kd.R_alloc | apply Kd.R_drewN | apply Kd.R_drew)); exact Kd.R_mono (Kd.R_far (p := ⟨gb130, 4, none⟩) (Kd.R_far (p := ⟨gb130, 3, none⟩) (Kd.R_far (p := ⟨gb130, 2, none⟩) (Kd.R_far (p := ⟨gb130, 1, none⟩) (Kd.R_far (p := ⟨gb130, 0, none⟩) (Kd.R_types HO138.out BK130.out (by decide)) (fun _ hk => hk.2) (.int .i64 t132)) (fun _ hk => hk.2) (.int .i64 t133)) (fun _ hk => hk.2) (.int .i64 t134)) (fun _ hk => hk.2) (.int .i64 t135)) (fun _ hk => hk.2) (.slice Ao169 t136.length co169)) (fun _ hk => trivial)⟩
          have n1_ : Aside0 ((((((w167.setCell ⟨gb130, 0, none⟩ (.int .i64 t132)).setCell ⟨gb130, 1, none⟩ (.int .i64 t133)).setCell ⟨gb130, 2, none⟩ (.int .i64 t134)).setCell ⟨gb130, 3, none⟩ (.int .i64 t135)).setCell ⟨gb130, 4, none⟩ (.slice Ao169 t136.length co169)).heap[gb130]? = some (.cells #[.int .i64 t132, .int .i64 t133, .int .i64 t134, .int .i64 t135, .slice Ao169 t136.length co169] 26 (0, 0))) := ⟨by (with_reducible repeat (first | refine blk_drewN ?_ _ | refine blk_drew ?_ | refine blk_alloc ?_ _)); refine blk_put (cs := #[.int .i64 t132, .int .i64 t133, .int .i64 t134, .int .i64 t135, .slice A0_4 l0_4.length c0_4]) ?_ 4 _ rfl; (with_reducible repeat (first | refine blk_drewN ?_ _ | refine blk_drew ?_ | refine blk_alloc ?_ _)); refine blk_put (cs := #[.int .i64 t132, .int .i64 t133, .int .i64 t134, .int .i64 a0_3, .slice A0_4 l0_4.length c0_4]) ?_ 3 _ rfl; (with_reducible repeat (first | refine blk_drewN ?_ _ | refine blk_drew ?_ | refine blk_alloc ?_ _)); refine blk_put (cs := #[.int .i64 t132, .int .i64 t133, .int .i64 a0_2, .int .i64 a0_3, .slice A0_4 l0_4.length c0_4]) ?_ 2 _ rfl; (with_reducible repeat (first | refine blk_drewN ?_ _ | refine blk_drew ?_ | refine blk_alloc ?_ _)); refine blk_put (cs := #[.int .i64 t132, .int .i64 a0_1, .int .i64 a0_2, .int .i64 a0_3, .slice A0_4 l0_4.length c0_4]) ?_ 1 _ rfl; (with_reducible repeat (first | refine blk_drewN ?_ _ | refine blk_drew ?_ | refine blk_alloc ?_ _)); refine blk_put (cs := #[.int .i64 a0_0, .int .i64 a0_1, .int .i64 a0_2, .int .i64 a0_3, .slice A0_4 l0_4.length c0_4]) ?_ 0 _ rfl; (with_reducible repeat (first | refine blk_drewN ?_ _ | refine blk_drew ?_ | refine blk_alloc ?_ _)); exact BK130.out⟩
          have n2_ : Aside0 (Below w.heap.size w (((((w167.setCell ⟨gb130, 0, none⟩ (.int .i64 t132)).setCell ⟨gb130, 1, none⟩ (.int .i64 t133)).setCell ⟨gb130, 2, none⟩ (.int .i64 t134)).setCell ⟨gb130, 3, none⟩ (.int .i64 t135)).setCell ⟨gb130, 4, none⟩ (.slice Ao169 t136.length co169))) := ⟨by repeat (first | (with_reducible first | exact HB.out | apply below_alloc | apply pw_below_drewN | apply below_drew1 | refine below_set ?_ GE130.out) | exact HB.out)⟩
          (try clear HO138)
          (try clear BK130)
          (try clear HB)
          generalize (((((w167.setCell ⟨gb130, 0, none⟩ (.int .i64 t132)).setCell ⟨gb130, 1, none⟩ (.int .i64 t133)).setCell ⟨gb130, 2, none⟩ (.int .i64 t134)).setCell ⟨gb130, 3, none⟩ (.int .i64 t135)).setCell ⟨gb130, 4, none⟩ (.slice Ao169 t136.length co169)) = w170 at n0_ n1_ n2_ ⊢
          have HO138 := n0_
          have BK130 := n1_
          have HB := n2_
          clear n0_ n1_ n2_
          have n0_ := Aside0.mk (Kd.R_drew HO138.out)
          have n1_ := Aside0.mk (blk_drew BK130.out)
          have n2_ := Aside0.mk (below_drew1 HB.out)
          clear HO138
          clear BK130
          clear HB
          have HO138 := n0_
          have BK130 := n1_
          have HB := n2_
          clear n0_ n1_ n2_
          refine start_ (n := 6) (S := fun w' => w'.cell? ⟨gb130, 0, none⟩ = some (.int .i64 t132) ∧ w'.cell? ⟨gb130, 1, none⟩ = some (.int .i64 t133) ∧ w'.cell? ⟨gb130, 2, none⟩ = some (.int .i64 t134) ∧ w'.cell? ⟨gb130, 3, none⟩ = some (.int .i64 t135) ∧ w'.cell? ⟨gb130, 4, none⟩ = some (.slice Ao169 t136.length co169)) (ds := []) #[false, false, false, false, false, false] (by kernel_rfl) rfl rfl ⟨(blk_cell BK130.out 0).trans rfl, (blk_cell BK130.out 1).trans rfl, (blk_cell BK130.out 2).trans rfl, (blk_cell BK130.out 3).trans rfl, (blk_cell BK130.out 4).trans rfl⟩ (fun hHeld => ?_)
          generalize w170.drew = w171 at HO138 BK130 HB hHeld ⊢
          refine take_ (i := 0) (N := some 80) (v := ?_) (a' := ?_) #[true, false, false, false, false, false] rfl rfl (by kernel_rfl) (fun _ _ _ h => h) (Or.inl ⟨by rfl, ?_⟩) hHeld ?_ ?_
          rotate_left
          ·rintro w' ⟨s0, s1, s2, s3, s4⟩
           go_simp
           with_reducible rfl
          rotate_left
          ·simp only [Act.put, List.setIfInBounds_toArray, List.set_cons_zero, List.set_cons_succ, i64_w, i32_w]
           rfl
          refine take_ (i := 2) (N := some 82) (v := ?_) (a' := ?_) #[true, false, true, false, false, false] rfl rfl (by kernel_rfl) (fun _ _ _ h => h) (Or.inl ⟨by rfl, ?_⟩) hHeld ?_ ?_
          rotate_left
          ·rintro w' ⟨s0, s1, s2, s3, s4⟩
           go_simp
           with_reducible rfl
          rotate_left
          ·simp only [Act.put, List.setIfInBounds_toArray, List.set_cons_zero, List.set_cons_succ, i64_w, i32_w]
           rfl
          refine one_ (i := 1) (N := some 81) #[true, true, true, false, false, false] rfl rfl (by kernel_rfl) (by decide) (fun K hK => ?_)
          refine goes_ Tryd.func16 (by kernel_rfl) rfl #[.agg #[.int .i64 t132, .int .i64 t133, .int .i64 t134, .int .i64 t135, .slice Ao169 t136.length co169]] (by rfl) rfl rfl (by (try simp only [List.map_toArray, List.map_cons, List.map_nil]); first | done | rfl | (simp only [List.length_drop, List.length_take]; rfl)) ?_
          with_reducible refine (show_Check.calls k t132 t133 t134 t135 _ _ t136 t163 _ ?side1 ?side2 A162.out).mono ?_
          (case side1 => repeat (first | exact (Kd.R_reads' HO138.out).2.2 | (with_reducible refine Kd.C_alloc ?_ _) | (with_reducible refine Kd.C_drewN ?_ _) | (with_reducible refine Kd.C_drew ?_)))
          (case side2 => exact (Kd.R_reads' HO138.out).2.1)
          rintro e w172 ⟨rfl, hb⟩
          refine ⟨_, rfl, ?_⟩
          have n0_ := Aside0.mk (Kd.R_below (by (with_reducible repeat (first | apply Kd.R_alloc | apply Kd.R_drewN | apply Kd.R_drew)); exact HO138.out) hb)
          have n1_ := Aside0.mk (blk_below (g := gb130) (o := .cells #[.int .i64 t132, .int .i64 t133, .int .i64 t134, .int .i64 t135, .slice Ao169 t136.length co169] 26 (0, 0)) (by (with_reducible repeat (first | refine blk_drewN ?_ _ | refine blk_drew ?_ | refine blk_alloc ?_ _)); exact BK130.out) hb)
          have n2_ := Aside0.mk (below_step (by repeat (first | (with_reducible first | exact HB.out | apply below_alloc | apply pw_below_drewN | apply below_drew1 | refine below_set ?_ GE130.out) | exact HB.out)) hb)
          clear HO138
          clear BK130
          clear HB
          have HO138 := n0_
          have BK130 := n1_
          have HB := n2_
          clear n0_ n1_ n2_
          (try clear hb)
          (try clear hb2)
          (try clear hk)
          (try clear hi)
          refine hK.out _ _ ⟨(blk_cell BK130.out 0).trans rfl, (blk_cell BK130.out 1).trans rfl, (blk_cell BK130.out 2).trans rfl, (blk_cell BK130.out 3).trans rfl, (blk_cell BK130.out 4).trans rfl⟩ (fun hHeld => ?_)
          clear hK K
          refine norm_ (a' := ?_) ?_ ?_
          rotate_left
          ·show Act.put _ (some 81) _ = _
           simp only [Act.put, List.setIfInBounds_toArray, List.set_cons_zero, List.set_cons_succ, i64_w, i32_w]
           rfl
          refine one_ (i := 3) (N := some 83) #[true, true, true, true, false, false] rfl rfl (by kernel_rfl) (by decide) (fun K hK => ?_)
          refine goes_ Tryd.func17 (by kernel_rfl) rfl #[.agg #[.int .i64 t132, .int .i64 t133, .int .i64 t134, .int .i64 t135, .slice Ao169 t136.length co169]] (by rfl) rfl rfl (by (try simp only [List.map_toArray, List.map_cons, List.map_nil]); first | done | rfl | (simp only [List.length_drop, List.length_take]; rfl)) ?_
          with_reducible refine (redpenref18_Check.calls k t132 t133 t134 t135 _ _ t136 t164 _ ?side1 ?side2 A163.out).mono ?_
          (case side1 => repeat (first | exact (Kd.R_reads' HO138.out).2.2 | (with_reducible refine Kd.C_alloc ?_ _) | (with_reducible refine Kd.C_drewN ?_ _) | (with_reducible refine Kd.C_drew ?_)))
          (case side2 => exact (Kd.R_reads' HO138.out).2.1)
          rintro e w173 ⟨rfl, hb⟩
          refine ⟨_, rfl, ?_⟩
          have n0_ := Aside0.mk (Kd.R_below (by (with_reducible repeat (first | apply Kd.R_alloc | apply Kd.R_drewN | apply Kd.R_drew)); exact HO138.out) hb)
          have n1_ := Aside0.mk (blk_below (g := gb130) (o := .cells #[.int .i64 t132, .int .i64 t133, .int .i64 t134, .int .i64 t135, .slice Ao169 t136.length co169] 26 (0, 0)) (by (with_reducible repeat (first | refine blk_drewN ?_ _ | refine blk_drew ?_ | refine blk_alloc ?_ _)); exact BK130.out) hb)
          have n2_ := Aside0.mk (below_step (by repeat (first | (with_reducible first | exact HB.out | apply below_alloc | apply pw_below_drewN | apply below_drew1 | refine below_set ?_ GE130.out) | exact HB.out)) hb)
          clear HO138
          clear BK130
          clear HB
          have HO138 := n0_
          have BK130 := n1_
          have HB := n2_
          clear n0_ n1_ n2_
          (try clear hb)
          (try clear hb2)
          (try clear hk)
          (try clear hi)
          refine hK.out _ _ ⟨(blk_cell BK130.out 0).trans rfl, (blk_cell BK130.out 1).trans rfl, (blk_cell BK130.out 2).trans rfl, (blk_cell BK130.out 3).trans rfl, (blk_cell BK130.out 4).trans rfl⟩ (fun hHeld => ?_)
          clear hK K
          refine norm_ (a' := ?_) ?_ ?_
          rotate_left
          ·show Act.put _ (some 83) _ = _
           simp only [Act.put, List.setIfInBounds_toArray, List.set_cons_zero, List.set_cons_succ, i64_w, i32_w]
           rfl
          refine pure_ (i := 4) (N := some 84) (v := ?_) (a' := ?_) #[true, true, true, true, true, false] rfl rfl (by kernel_rfl) (fun _ _ _ h => h) (Or.inl ⟨by rfl, ?_⟩) ?_ ?_
          rotate_left
          ·intro w'
           go_simp
           with_reducible rfl
          rotate_left
          ·simp only [Act.put, List.setIfInBounds_toArray, List.set_cons_zero, List.set_cons_succ, i64_w, i32_w]
           rfl
          refine pure_ (i := 5) (N := some 8) (v := ?_) (a' := ?_) #[true, true, true, true, true, true] rfl rfl (by kernel_rfl) (fun _ _ _ h => h) (Or.inl ⟨by rfl, ?_⟩) ?_ ?_
          rotate_left
          ·intro w'
           go_simp
           with_reducible rfl
          rotate_left
          ·simp only [Act.put, List.setIfInBounds_toArray, List.set_cons_zero, List.set_cons_succ, i64_w, i32_w]
           rfl
          refine done_ (by kernel_rfl) ?_
          try go_wp2
          go_ret
          exact ⟨by first | rfl | (simp [errW_none, errW_some] <;> rfl) | (simp [*, errW_none, errW_some] <;> rfl), by repeat (first | (with_reducible first | exact HB.out | apply below_alloc | apply pw_below_drewN | apply below_drew1 | refine below_set ?_ GE130.out) | exact HB.out)⟩
 ·replace c6 := Bool.eq_false_iff.mpr c6
  subst c6
  have H1 : (some false) = some r := by rw [if_neg (show ¬ (false = true) by decide)] at H; exact H
  clear H
  have H := H1
  clear H1
  have hf_ := Option.some.inj H
  rw [hr_] at hf_
  cases hf_

end Go.Proofs.YtjabpbnlpljlkaaDoor.PShowChecks
