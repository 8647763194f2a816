/-
  No cell of these rows narrows 'for every input' (looked for: loops, veiled, ifaces, maps, wideKeys, modest, calm, conditions, laid).
  DERIVED. THE GIVEN ROWS OF THIS SEAT. 10 by the template 'for every input the law returns true; each argument reads behind the call as it read before'; 0 by the template 'total and deterministic' (their statements: YtgjnelloegkicaaTotals.lean).
  GIVEN WITH THE SEED: the statements are not yours to turn. If you find one false, say at which input.
  Laid BY PROGRAM, IN A SANDBOX (cutbox-rows.mjs): the forced cells as the released guide's own fill.sh prints them over the translation d348c443ff0469e7… (all of the seat's roots in one cut). By AI agents, Wed Nov 11 2026. No macro, syntax, notation, axiom, sorry.
-/
import Derived.Test.YtgjnelloegkicaaChecked
import GoSem.Claim
import GoSem.ClaimJoined
import GoSem.ClaimMapViews
import Derived.JoinedTies
import Derived.KernelRfl
namespace Go.Proofs.Ytgjnelloegkicaa
/- THE CELL 'sum', in the pinned program and in every row, IS THE sha256 OF THE DUMP (.gsa) THAT YtgjnelloegkicaaProg.lean LOADS. Nothing in Lean hashes anything: it is a label: what it is worth is what the hold of that sum in a sandbox is worth. -/
noncomputable def Try.pinned : Pinned := { name := "ytgjnelloegkicaa", sum := "d348c443ff0469e71d70185dbb46d1d9e567f75b7f4ae67916f160f1b1ea759c", checked := Try.checked }
namespace Rows
def none {H : Type} : Left H := { results := [], args := [] }

/-- 'redpenlaw02.UtfCuts': WHATEVER THE INPUT: true; the input reads as it did. -/
def utfCutsSpec : ChangeSpec := { name := "utfCuts", fn := fun _ => fun
  | [d1, d2] => { results := [.lit (.bool true)], args := [d1, d2] }
  | _ => none }
def utfCutsRow : OpenClaim := { program := "ytgjnelloegkicaa", sum := "d348c443ff0469e71d70185dbb46d1d9e567f75b7f4ae67916f160f1b1ea759c", func := "redpen/redpenlaw02.UtfCuts", spec := "utfCuts", apart := false }
def UtfCutsSaid : Prop := utfCutsRow.holds Try.pinned (OpenSpec.ofChange utfCutsSpec)

/-- ITS FALSE NEIGHBOUR: 'it returns false'. Refute it at one input. -/
def utfCutsWrong : ChangeSpec := { name := "utfCuts", fn := fun _ => fun
  | [d1, d2] => { results := [.lit (.bool false)], args := [d1, d2] }
  | _ => none }
def UtfCutsWrongFalsely : Prop := utfCutsRow.holds Try.pinned (OpenSpec.ofChange utfCutsWrong)

/-- 'redpenlaw02.UtfReads': WHATEVER THE INPUT: true; the input reads as it did. -/
def utfReadsSpec : ChangeSpec := { name := "utfReads", fn := fun _ => fun
  | [d] => { results := [.lit (.bool true)], args := [d] }
  | _ => none }
def utfReadsRow : OpenClaim := { program := "ytgjnelloegkicaa", sum := "d348c443ff0469e71d70185dbb46d1d9e567f75b7f4ae67916f160f1b1ea759c", func := "redpen/redpenlaw02.UtfReads", spec := "utfReads", apart := false }
def UtfReadsSaid : Prop := utfReadsRow.holds Try.pinned (OpenSpec.ofChange utfReadsSpec)

/-- ITS FALSE NEIGHBOUR: 'it returns false'. Refute it at one input. -/
def utfReadsWrong : ChangeSpec := { name := "utfReads", fn := fun _ => fun
  | [d] => { results := [.lit (.bool false)], args := [d] }
  | _ => none }
def UtfReadsWrongFalsely : Prop := utfReadsRow.holds Try.pinned (OpenSpec.ofChange utfReadsWrong)

/-- 'redpenlaw02.UtfPuts': WHATEVER THE INPUT: true; the input reads as it did. -/
def utfPutsSpec : ChangeSpec := { name := "utfPuts", fn := fun _ => fun
  | [d1, d2, d3] => { results := [.lit (.bool true)], args := [d1, d2, d3] }
  | _ => none }
def utfPutsRow : OpenClaim := { program := "ytgjnelloegkicaa", sum := "d348c443ff0469e71d70185dbb46d1d9e567f75b7f4ae67916f160f1b1ea759c", func := "redpen/redpenlaw02.UtfPuts", spec := "utfPuts", apart := false }
def UtfPutsSaid : Prop := utfPutsRow.holds Try.pinned (OpenSpec.ofChange utfPutsSpec)

/-- ITS FALSE NEIGHBOUR: 'it returns false'. Refute it at one input. -/
def utfPutsWrong : ChangeSpec := { name := "utfPuts", fn := fun _ => fun
  | [d1, d2, d3] => { results := [.lit (.bool false)], args := [d1, d2, d3] }
  | _ => none }
def UtfPutsWrongFalsely : Prop := utfPutsRow.holds Try.pinned (OpenSpec.ofChange utfPutsWrong)

/-- 'redpenlaw02.UtfJoins': WHATEVER THE INPUT: true; the input reads as it did. -/
def utfJoinsSpec : ChangeSpec := { name := "utfJoins", fn := fun _ => fun
  | [d1, d2] => { results := [.lit (.bool true)], args := [d1, d2] }
  | _ => none }
def utfJoinsRow : OpenClaim := { program := "ytgjnelloegkicaa", sum := "d348c443ff0469e71d70185dbb46d1d9e567f75b7f4ae67916f160f1b1ea759c", func := "redpen/redpenlaw02.UtfJoins", spec := "utfJoins", apart := false }
def UtfJoinsSaid : Prop := utfJoinsRow.holds Try.pinned (OpenSpec.ofChange utfJoinsSpec)

/-- ITS FALSE NEIGHBOUR: 'it returns false'. Refute it at one input. -/
def utfJoinsWrong : ChangeSpec := { name := "utfJoins", fn := fun _ => fun
  | [d1, d2] => { results := [.lit (.bool false)], args := [d1, d2] }
  | _ => none }
def UtfJoinsWrongFalsely : Prop := utfJoinsRow.holds Try.pinned (OpenSpec.ofChange utfJoinsWrong)

/-- 'redpenlaw02.UtfBack': WHATEVER THE INPUT: true; the input reads as it did. -/
def utfBackSpec : ChangeSpec := { name := "utfBack", fn := fun _ => fun
  | [d1, d2] => { results := [.lit (.bool true)], args := [d1, d2] }
  | _ => none }
def utfBackRow : OpenClaim := { program := "ytgjnelloegkicaa", sum := "d348c443ff0469e71d70185dbb46d1d9e567f75b7f4ae67916f160f1b1ea759c", func := "redpen/redpenlaw02.UtfBack", spec := "utfBack", apart := false }
def UtfBackSaid : Prop := utfBackRow.holds Try.pinned (OpenSpec.ofChange utfBackSpec)

/-- ITS FALSE NEIGHBOUR: 'it returns false'. Refute it at one input. -/
def utfBackWrong : ChangeSpec := { name := "utfBack", fn := fun _ => fun
  | [d1, d2] => { results := [.lit (.bool false)], args := [d1, d2] }
  | _ => none }
def UtfBackWrongFalsely : Prop := utfBackRow.holds Try.pinned (OpenSpec.ofChange utfBackWrong)

/-- 'redpenlaw03.LinesPlaces': WHATEVER THE INPUT: true; the input reads as it did. -/
def linesPlacesSpec : ChangeSpec := { name := "linesPlaces", fn := fun _ => fun
  | [d1, d2, d3] => { results := [.lit (.bool true)], args := [d1, d2, d3] }
  | _ => none }
def linesPlacesRow : OpenClaim := { program := "ytgjnelloegkicaa", sum := "d348c443ff0469e71d70185dbb46d1d9e567f75b7f4ae67916f160f1b1ea759c", func := "redpen/redpenlaw03.LinesPlaces", spec := "linesPlaces", unfollowed := true, recurses := true, apart := false }
def LinesPlacesSaid : Prop := linesPlacesRow.holds Try.pinned (OpenSpec.ofChange linesPlacesSpec)

/-- ITS FALSE NEIGHBOUR: 'it returns false'. Refute it at one input. -/
def linesPlacesWrong : ChangeSpec := { name := "linesPlaces", fn := fun _ => fun
  | [d1, d2, d3] => { results := [.lit (.bool false)], args := [d1, d2, d3] }
  | _ => none }
def LinesPlacesWrongFalsely : Prop := linesPlacesRow.holds Try.pinned (OpenSpec.ofChange linesPlacesWrong)

/-- 'redpenlaw03.LinesOwn': WHATEVER THE INPUT: true; the input reads as it did. -/
def linesOwnSpec : ChangeSpec := { name := "linesOwn", fn := fun _ => fun
  | [d1, d2] => { results := [.lit (.bool true)], args := [d1, d2] }
  | _ => none }
def linesOwnRow : OpenClaim := { program := "ytgjnelloegkicaa", sum := "d348c443ff0469e71d70185dbb46d1d9e567f75b7f4ae67916f160f1b1ea759c", func := "redpen/redpenlaw03.LinesOwn", spec := "linesOwn", unfollowed := true, recurses := true, apart := false }
def LinesOwnSaid : Prop := linesOwnRow.holds Try.pinned (OpenSpec.ofChange linesOwnSpec)

/-- ITS FALSE NEIGHBOUR: 'it returns false'. Refute it at one input. -/
def linesOwnWrong : ChangeSpec := { name := "linesOwn", fn := fun _ => fun
  | [d1, d2] => { results := [.lit (.bool false)], args := [d1, d2] }
  | _ => none }
def LinesOwnWrongFalsely : Prop := linesOwnRow.holds Try.pinned (OpenSpec.ofChange linesOwnWrong)

/-- 'redpenlaw03.LinesSplit': WHATEVER THE INPUT: true; the input reads as it did. -/
def linesSplitSpec : ChangeSpec := { name := "linesSplit", fn := fun _ => fun
  | [d1, d2] => { results := [.lit (.bool true)], args := [d1, d2] }
  | _ => none }
def linesSplitRow : OpenClaim := { program := "ytgjnelloegkicaa", sum := "d348c443ff0469e71d70185dbb46d1d9e567f75b7f4ae67916f160f1b1ea759c", func := "redpen/redpenlaw03.LinesSplit", spec := "linesSplit", unfollowed := true, recurses := true, apart := false }
def LinesSplitSaid : Prop := linesSplitRow.holds Try.pinned (OpenSpec.ofChange linesSplitSpec)

/-- ITS FALSE NEIGHBOUR: 'it returns false'. Refute it at one input. -/
def linesSplitWrong : ChangeSpec := { name := "linesSplit", fn := fun _ => fun
  | [d1, d2] => { results := [.lit (.bool false)], args := [d1, d2] }
  | _ => none }
def LinesSplitWrongFalsely : Prop := linesSplitRow.holds Try.pinned (OpenSpec.ofChange linesSplitWrong)

/-- 'redpenlaw03.LinesJoins': WHATEVER THE INPUT: true; the input reads as it did. -/
def linesJoinsSpec : ChangeSpec := { name := "linesJoins", fn := fun _ => fun
  | [d1, d2] => { results := [.lit (.bool true)], args := [d1, d2] }
  | _ => none }
def linesJoinsRow : OpenClaim := { program := "ytgjnelloegkicaa", sum := "d348c443ff0469e71d70185dbb46d1d9e567f75b7f4ae67916f160f1b1ea759c", func := "redpen/redpenlaw03.LinesJoins", spec := "linesJoins", unfollowed := true, recurses := true, apart := false }
def LinesJoinsSaid : Prop := linesJoinsRow.holds Try.pinned (OpenSpec.ofChange linesJoinsSpec)

/-- ITS FALSE NEIGHBOUR: 'it returns false'. Refute it at one input. -/
def linesJoinsWrong : ChangeSpec := { name := "linesJoins", fn := fun _ => fun
  | [d1, d2] => { results := [.lit (.bool false)], args := [d1, d2] }
  | _ => none }
def LinesJoinsWrongFalsely : Prop := linesJoinsRow.holds Try.pinned (OpenSpec.ofChange linesJoinsWrong)

/-- 'redpenlaw03.LinesCover': WHATEVER THE INPUT: true; the input reads as it did. -/
def linesCoverSpec : ChangeSpec := { name := "linesCover", fn := fun _ => fun
  | [d] => { results := [.lit (.bool true)], args := [d] }
  | _ => none }
def linesCoverRow : OpenClaim := { program := "ytgjnelloegkicaa", sum := "d348c443ff0469e71d70185dbb46d1d9e567f75b7f4ae67916f160f1b1ea759c", func := "redpen/redpenlaw03.LinesCover", spec := "linesCover", unfollowed := true, recurses := true, apart := false }
def LinesCoverSaid : Prop := linesCoverRow.holds Try.pinned (OpenSpec.ofChange linesCoverSpec)

/-- ITS FALSE NEIGHBOUR: 'it returns false'. Refute it at one input. -/
def linesCoverWrong : ChangeSpec := { name := "linesCover", fn := fun _ => fun
  | [d] => { results := [.lit (.bool false)], args := [d] }
  | _ => none }
def LinesCoverWrongFalsely : Prop := linesCoverRow.holds Try.pinned (OpenSpec.ofChange linesCoverWrong)

/- THE SECOND FORM. 'bulk': how many values and letters a reading holds, each counted each time it is reached (what is shared counts as often as it is met; a slice's spare places count too). A statement '..UptoSaid' is the law's where the arguments, and the package variables that the reading takes, are together of bulk at most 1048576: NARROWER than '..Said'. Prove '..Said' where nothing that the law and all that it calls make is longer than what came in: it says more and counts as full. Else prove '..UptoSaid'. A law counts once. -/
mutual
def uptoBulk {H : Type} : DataW H → Nat
  | .lit (.string bytes) => bytes.length + 1
  | .lit _ => 1
  | .nil => 1
  | .ptr d => uptoBulk d + 1
  | .slice elems spare => uptoBulkAll elems + uptoBulkAll spare + 1
  | .agg parts => uptoBulkAll parts + 1
  | .iface _ d => uptoBulk d + 1
  | .map entries => uptoBulkEntries entries + 1
  | .held _ => 1
def uptoBulkAll {H : Type} : List (DataW H) → Nat
  | [] => 0
  | d :: r => uptoBulk d + uptoBulkAll r
def uptoBulkEntries {H : Type} : List (Lit × DataW H) → Nat
  | [] => 0
  | x :: r => uptoBulkEntry x + uptoBulkEntries r
def uptoBulkEntry {H : Type} : Lit × DataW H → Nat
  | (.string bytes, d) => bytes.length + uptoBulk d + 1
  | (_, d) => uptoBulk d + 1
 end
def uptoSmall : (H : Type) → List (DataW H) → Bool := fun _ ds => decide (uptoBulkAll ds ≤ 1048576)
def OpenSpec.upto (s : _root_.Go.ChangeSpec) : _root_.Go.OpenSpec := { _root_.Go.OpenSpec.ofChange s with cond := some uptoSmall }

/-- 'redpenlaw02.UtfCuts', WHERE WHAT IT READS IS OF BULK AT MOST 1048576: true; the input reads as it did. -/
def utfCutsUptoRow : OpenClaim := { program := "ytgjnelloegkicaa", sum := "d348c443ff0469e71d70185dbb46d1d9e567f75b7f4ae67916f160f1b1ea759c", func := "redpen/redpenlaw02.UtfCuts", spec := "utfCuts", apart := false, narrowed := true }
def UtfCutsUptoSaid : Prop := utfCutsUptoRow.holds Try.pinned (OpenSpec.upto utfCutsSpec)

/-- 'redpenlaw02.UtfReads', WHERE WHAT IT READS IS OF BULK AT MOST 1048576: true; the input reads as it did. -/
def utfReadsUptoRow : OpenClaim := { program := "ytgjnelloegkicaa", sum := "d348c443ff0469e71d70185dbb46d1d9e567f75b7f4ae67916f160f1b1ea759c", func := "redpen/redpenlaw02.UtfReads", spec := "utfReads", apart := false, narrowed := true }
def UtfReadsUptoSaid : Prop := utfReadsUptoRow.holds Try.pinned (OpenSpec.upto utfReadsSpec)

/-- 'redpenlaw02.UtfPuts', WHERE WHAT IT READS IS OF BULK AT MOST 1048576: true; the input reads as it did. -/
def utfPutsUptoRow : OpenClaim := { program := "ytgjnelloegkicaa", sum := "d348c443ff0469e71d70185dbb46d1d9e567f75b7f4ae67916f160f1b1ea759c", func := "redpen/redpenlaw02.UtfPuts", spec := "utfPuts", apart := false, narrowed := true }
def UtfPutsUptoSaid : Prop := utfPutsUptoRow.holds Try.pinned (OpenSpec.upto utfPutsSpec)

/-- 'redpenlaw02.UtfJoins', WHERE WHAT IT READS IS OF BULK AT MOST 1048576: true; the input reads as it did. -/
def utfJoinsUptoRow : OpenClaim := { program := "ytgjnelloegkicaa", sum := "d348c443ff0469e71d70185dbb46d1d9e567f75b7f4ae67916f160f1b1ea759c", func := "redpen/redpenlaw02.UtfJoins", spec := "utfJoins", apart := false, narrowed := true }
def UtfJoinsUptoSaid : Prop := utfJoinsUptoRow.holds Try.pinned (OpenSpec.upto utfJoinsSpec)

/-- 'redpenlaw02.UtfBack', WHERE WHAT IT READS IS OF BULK AT MOST 1048576: true; the input reads as it did. -/
def utfBackUptoRow : OpenClaim := { program := "ytgjnelloegkicaa", sum := "d348c443ff0469e71d70185dbb46d1d9e567f75b7f4ae67916f160f1b1ea759c", func := "redpen/redpenlaw02.UtfBack", spec := "utfBack", apart := false, narrowed := true }
def UtfBackUptoSaid : Prop := utfBackUptoRow.holds Try.pinned (OpenSpec.upto utfBackSpec)

/-- 'redpenlaw03.LinesPlaces', WHERE WHAT IT READS IS OF BULK AT MOST 1048576: true; the input reads as it did. -/
def linesPlacesUptoRow : OpenClaim := { program := "ytgjnelloegkicaa", sum := "d348c443ff0469e71d70185dbb46d1d9e567f75b7f4ae67916f160f1b1ea759c", func := "redpen/redpenlaw03.LinesPlaces", spec := "linesPlaces", unfollowed := true, recurses := true, apart := false, narrowed := true }
def LinesPlacesUptoSaid : Prop := linesPlacesUptoRow.holds Try.pinned (OpenSpec.upto linesPlacesSpec)

/-- 'redpenlaw03.LinesOwn', WHERE WHAT IT READS IS OF BULK AT MOST 1048576: true; the input reads as it did. -/
def linesOwnUptoRow : OpenClaim := { program := "ytgjnelloegkicaa", sum := "d348c443ff0469e71d70185dbb46d1d9e567f75b7f4ae67916f160f1b1ea759c", func := "redpen/redpenlaw03.LinesOwn", spec := "linesOwn", unfollowed := true, recurses := true, apart := false, narrowed := true }
def LinesOwnUptoSaid : Prop := linesOwnUptoRow.holds Try.pinned (OpenSpec.upto linesOwnSpec)

/-- 'redpenlaw03.LinesSplit', WHERE WHAT IT READS IS OF BULK AT MOST 1048576: true; the input reads as it did. -/
def linesSplitUptoRow : OpenClaim := { program := "ytgjnelloegkicaa", sum := "d348c443ff0469e71d70185dbb46d1d9e567f75b7f4ae67916f160f1b1ea759c", func := "redpen/redpenlaw03.LinesSplit", spec := "linesSplit", unfollowed := true, recurses := true, apart := false, narrowed := true }
def LinesSplitUptoSaid : Prop := linesSplitUptoRow.holds Try.pinned (OpenSpec.upto linesSplitSpec)

/-- 'redpenlaw03.LinesJoins', WHERE WHAT IT READS IS OF BULK AT MOST 1048576: true; the input reads as it did. -/
def linesJoinsUptoRow : OpenClaim := { program := "ytgjnelloegkicaa", sum := "d348c443ff0469e71d70185dbb46d1d9e567f75b7f4ae67916f160f1b1ea759c", func := "redpen/redpenlaw03.LinesJoins", spec := "linesJoins", unfollowed := true, recurses := true, apart := false, narrowed := true }
def LinesJoinsUptoSaid : Prop := linesJoinsUptoRow.holds Try.pinned (OpenSpec.upto linesJoinsSpec)

/-- 'redpenlaw03.LinesCover', WHERE WHAT IT READS IS OF BULK AT MOST 1048576: true; the input reads as it did. -/
def linesCoverUptoRow : OpenClaim := { program := "ytgjnelloegkicaa", sum := "d348c443ff0469e71d70185dbb46d1d9e567f75b7f4ae67916f160f1b1ea759c", func := "redpen/redpenlaw03.LinesCover", spec := "linesCover", unfollowed := true, recurses := true, apart := false, narrowed := true }
def LinesCoverUptoSaid : Prop := linesCoverUptoRow.holds Try.pinned (OpenSpec.upto linesCoverSpec)

end Rows
end Go.Proofs.Ytgjnelloegkicaa
