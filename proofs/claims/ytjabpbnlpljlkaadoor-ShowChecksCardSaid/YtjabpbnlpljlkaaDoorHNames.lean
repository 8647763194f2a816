/- Walks of our own: strconv.Itoa of the least numbers; show.Name (a range over a string). -/
import Derived.Test.YtjabpbnlpljlkaaDoorProg
import Derived.Below
import Derived.Deep.Draws
import Derived.Deep.AppendLies
import Derived.Maps.AppendAt
import Derived.OwnWalk
import Derived.Laws.BytesArg
import Derived.Laws.MakeOwn
import Derived.Laws.OwnMore
import Derived.Deep.OwnRows
import Derived.Tactics
import Derived.Lib.ConvBytes
import Derived.Laws.Slices
import Derived.WalkKit
import Derived.KernelRfl
import Derived.RowKit3
import Derived.Deep.LoopGhost
import Derived.Deep.QuietTactic
import Derived.BigQuiet
import Derived.WideLaws
import Derived.Deep.DeepCutAuto
import Derived.Deep.CutBlock
import Derived.Deep.RegionHeld3
import Derived.Laws.Rows
import Derived.Lib.AppendStr
import Derived.ArgAppend
import Derived.Laws.IdiomCopy
import Derived.OrdersHeld
import Derived.Laws.BitsLemmas
import Derived.RowKit
import Derived.Test.YtjabpbnlpljlkaaDoorXWords
import Derived.Laws.RangeAny
import Derived.Scope
import Derived.FnLit
import Derived.LoopTactic
import Derived.Laws.Strings
import Derived.Laws.Strings2
import Derived.Laws.Strings3
namespace Go.Proofs.YtjabpbnlpljlkaaDoor.H
open Go.RowKit Go.Proofs.YtjabpbnlpljlkaaDoorW.PrintWords Go.Proofs.YtjabpbnlpljlkaaDoorW.PrintLast
set_option linter.unusedVariables false
set_option linter.unusedSimpArgs false

/-- The text of a number, of the least ones. -/
def itoaF (n : Int) : Option ByteArray := if n = 0 then some ⟨#[48]⟩ else if n = 1 then some ⟨#[49]⟩ else if n = 2 then some ⟨#[50]⟩ else if n = 3 then some ⟨#[51]⟩ else if n = 4 then some ⟨#[52]⟩ else none
set_option maxRecDepth 100000 in
set_option maxHeartbeats 4000000 in
theorem itoa_at (n : Int) (r : ByteArray) (w : World) (h : itoaF n = some r) : Calls Tryd.prog 76 #[.int .i64 n] w fun e w' => e = .returned (.string r) ∧ Drawn0 w w' := by
  unfold itoaF at h
  by_cases h0 : n = 0
  · subst h0; rw [if_pos rfl] at h; obtain rfl := Option.some.inj h
    go_enter Tryd.func76, Tryd.ntmps76
    go_wp2
    go_ret
    exact ⟨rfl, Drawn0.refl _⟩
  by_cases h1 : n = 1
  · subst h1; rw [if_neg h0, if_pos rfl] at h; obtain rfl := Option.some.inj h
    go_enter Tryd.func76, Tryd.ntmps76
    go_wp2
    go_ret
    exact ⟨rfl, Drawn0.refl _⟩
  by_cases h2 : n = 2
  · subst h2; rw [if_neg h0, if_neg h1, if_pos rfl] at h; obtain rfl := Option.some.inj h
    go_enter Tryd.func76, Tryd.ntmps76
    go_wp2
    go_ret
    exact ⟨rfl, Drawn0.refl _⟩
  by_cases h3 : n = 3
  · subst h3; rw [if_neg h0, if_neg h1, if_neg h2, if_pos rfl] at h; obtain rfl := Option.some.inj h
    go_enter Tryd.func76, Tryd.ntmps76
    go_wp2
    go_ret
    exact ⟨rfl, Drawn0.refl _⟩
  by_cases h4 : n = 4
  · subst h4; rw [if_neg h0, if_neg h1, if_neg h2, if_neg h3, if_pos rfl] at h; obtain rfl := Option.some.inj h
    go_enter Tryd.func76, Tryd.ntmps76
    go_wp2
    go_ret
    exact ⟨rfl, Drawn0.refl _⟩
  rw [if_neg h0, if_neg h1, if_neg h2, if_neg h3, if_neg h4] at h
  cases h

end Go.Proofs.YtjabpbnlpljlkaaDoor.H
