/- What show.Print leans on: strconv.Itoa of every number (a listed table), the Builder's text. -/
import Derived.Test.YtjabpbnlpljlkaaDoorProg
import Derived.Test.YtjabpbnlpljlkaaDoorHM
import Derived.Test.YtjabpbnlpljlkaaDoorHBuild
import Derived.Test.YtjabpbnlpljlkaaDoorHShelf
import Derived.Lib.AppendIntMem
import Derived.Lib.LaidTab
namespace Go.Proofs.YtjabpbnlpljlkaaDoor.H
open Go.RowKit Go.Proofs.YtjabpbnlpljlkaaDoorW.PrintWords Go.Proofs.YtjabpbnlpljlkaaDoorW.PrintLast
set_option linter.unusedVariables false

def Laid (w : World) : Prop := Lib.TabIs Tryd.prog w "internal/strconv.uint64pow10" .u64 Lib.pow10Tab
theorem Laid.below {w w' : World} (h : Laid w) (hb : Below w.heap.size w w') : Laid w' := Lib.tabBelow_of_tabIs h w' hb
theorem Laid.step {w0 w w' : World} (h : Laid w0) (hb : Below w0.heap.size w0 w) : Laid w := h.below hb
def itoaG (n : Int) : Option ByteArray := if -9223372036854775808 ≤ n then (if n ≤ 9223372036854775807 then some ⟨(Lib.itoa n).toArray⟩ else none) else none
theorem itoaG_at (n : Int) (r : ByteArray) (w : World) (h : itoaG n = some r) (hL : Laid w) :
    Calls Tryd.prog 76 #[.int .i64 n] w fun e w' => e = .returned (.string r) ∧ Below w.heap.size w w' := by
  unfold itoaG at h
  split at h
  · rename_i h0
    split at h
    · rename_i h1
      injection h with h
      subst h
      refine (L.strconv_Itoa n h0 h1 w hL).mono ?_
      rintro e w' ⟨rfl, k, os, rfl⟩
      exact ⟨rfl, Lib.below_grow _ w (Nat.le_refl _) k os⟩
    · cases h
  · cases h
theorem stringB (B b : Nat) (s : ByteArray) (gs : List Nat) (w : World) (h : BOK B b s gs w) :
    Calls Tryd.prog 34 #[.pointer (some ⟨b, 0, none⟩)] w fun e w' => e = .returned (.string s) ∧ Below B w w' :=
  L.Builder_String_any B b s.data.toList w h.1 h.2.1
end Go.Proofs.YtjabpbnlpljlkaaDoor.H
