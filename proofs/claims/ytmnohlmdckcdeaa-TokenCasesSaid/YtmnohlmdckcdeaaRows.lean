/-
  No cell of these rows narrows 'for every input' (looked for: loops, veiled, ifaces, maps, wideKeys, modest, calm, conditions, laid).
  DERIVED. THE GIVEN ROWS OF THIS SEAT. 7 by the template 'for every input the law returns true; each argument reads behind the call as it read before'; 0 by the template 'total and deterministic' (their statements: YtmnohlmdckcdeaaTotals.lean).
  GIVEN WITH THE SEED: the statements are not yours to turn. If you find one false, say at which input.
  Laid BY PROGRAM, IN A SANDBOX (cutbox-rows.mjs): the forced cells as the released guide's own fill.sh prints them over the translation 1768cf24de25a346… (all of the seat's roots in one cut). By AI agents, Wed Nov 11 2026. No macro, syntax, notation, axiom, sorry.
-/
import Derived.Test.YtmnohlmdckcdeaaChecked
import GoSem.Claim
import GoSem.ClaimJoined
import GoSem.ClaimMapViews
import Derived.JoinedTies
import Derived.KernelRfl
namespace Go.Proofs.Ytmnohlmdckcdeaa
/- THE CELL 'sum', in the pinned program and in every row, IS THE sha256 OF THE DUMP (.gsa) THAT YtmnohlmdckcdeaaProg.lean LOADS. Nothing in Lean hashes anything: it is a label: what it is worth is what the hold of that sum in a sandbox is worth. -/
noncomputable def Try.pinned : Pinned := { name := "ytmnohlmdckcdeaa", sum := "1768cf24de25a346cbe4b0bf38c938c68b8e510058a79c96a3105a571c7b5204", checked := Try.checked }
namespace Rows
def none {H : Type} : Left H := { results := [], args := [] }

/-- 'redpenlaw04.FoldSigns': WHATEVER THE INPUT: true; the input reads as it did. -/
def foldSignsSpec : ChangeSpec := { name := "foldSigns", fn := fun _ => fun
  | [d] => { results := [.lit (.bool true)], args := [d] }
  | _ => none }
def foldSignsRow : OpenClaim := { program := "ytmnohlmdckcdeaa", sum := "1768cf24de25a346cbe4b0bf38c938c68b8e510058a79c96a3105a571c7b5204", func := "redpen/redpenlaw04.FoldSigns", spec := "foldSigns", apart := false }
def FoldSignsSaid : Prop := foldSignsRow.holds Try.pinned (OpenSpec.ofChange foldSignsSpec)

/-- ITS FALSE NEIGHBOUR: 'it returns false'. Refute it at one input. -/
def foldSignsWrong : ChangeSpec := { name := "foldSigns", fn := fun _ => fun
  | [d] => { results := [.lit (.bool false)], args := [d] }
  | _ => none }
def FoldSignsWrongFalsely : Prop := foldSignsRow.holds Try.pinned (OpenSpec.ofChange foldSignsWrong)

/-- 'redpenlaw04.FoldPairs': WHATEVER THE INPUT: true; the input reads as it did. -/
def foldPairsSpec : ChangeSpec := { name := "foldPairs", fn := fun _ => fun
  | [d] => { results := [.lit (.bool true)], args := [d] }
  | _ => none }
def foldPairsRow : OpenClaim := { program := "ytmnohlmdckcdeaa", sum := "1768cf24de25a346cbe4b0bf38c938c68b8e510058a79c96a3105a571c7b5204", func := "redpen/redpenlaw04.FoldPairs", spec := "foldPairs", apart := false }
def FoldPairsSaid : Prop := foldPairsRow.holds Try.pinned (OpenSpec.ofChange foldPairsSpec)

/-- ITS FALSE NEIGHBOUR: 'it returns false'. Refute it at one input. -/
def foldPairsWrong : ChangeSpec := { name := "foldPairs", fn := fun _ => fun
  | [d] => { results := [.lit (.bool false)], args := [d] }
  | _ => none }
def FoldPairsWrongFalsely : Prop := foldPairsRow.holds Try.pinned (OpenSpec.ofChange foldPairsWrong)

/-- 'redpenlaw04.FoldTwice': WHATEVER THE INPUT: true; the input reads as it did. -/
def foldTwiceSpec : ChangeSpec := { name := "foldTwice", fn := fun _ => fun
  | [d] => { results := [.lit (.bool true)], args := [d] }
  | _ => none }
def foldTwiceRow : OpenClaim := { program := "ytmnohlmdckcdeaa", sum := "1768cf24de25a346cbe4b0bf38c938c68b8e510058a79c96a3105a571c7b5204", func := "redpen/redpenlaw04.FoldTwice", spec := "foldTwice", apart := false }
def FoldTwiceSaid : Prop := foldTwiceRow.holds Try.pinned (OpenSpec.ofChange foldTwiceSpec)

/-- ITS FALSE NEIGHBOUR: 'it returns false'. Refute it at one input. -/
def foldTwiceWrong : ChangeSpec := { name := "foldTwice", fn := fun _ => fun
  | [d] => { results := [.lit (.bool false)], args := [d] }
  | _ => none }
def FoldTwiceWrongFalsely : Prop := foldTwiceRow.holds Try.pinned (OpenSpec.ofChange foldTwiceWrong)

/-- 'redpenlaw16.TokenRuns': WHATEVER THE INPUT: true; the input reads as it did. -/
def tokenRunsSpec : ChangeSpec := { name := "tokenRuns", fn := fun _ => fun
  | [d1, d2, d3] => { results := [.lit (.bool true)], args := [d1, d2, d3] }
  | _ => none }
def tokenRunsRow : OpenClaim := { program := "ytmnohlmdckcdeaa", sum := "1768cf24de25a346cbe4b0bf38c938c68b8e510058a79c96a3105a571c7b5204", func := "redpen/redpenlaw16.TokenRuns", spec := "tokenRuns", unfollowed := true, recurses := true, apart := false }
def TokenRunsSaid : Prop := tokenRunsRow.holds Try.pinned (OpenSpec.ofChange tokenRunsSpec)

/-- ITS FALSE NEIGHBOUR: 'it returns false'. Refute it at one input. -/
def tokenRunsWrong : ChangeSpec := { name := "tokenRuns", fn := fun _ => fun
  | [d1, d2, d3] => { results := [.lit (.bool false)], args := [d1, d2, d3] }
  | _ => none }
def TokenRunsWrongFalsely : Prop := tokenRunsRow.holds Try.pinned (OpenSpec.ofChange tokenRunsWrong)

/-- 'redpenlaw16.TokenWhole': WHATEVER THE INPUT: true; the input reads as it did. -/
def tokenWholeSpec : ChangeSpec := { name := "tokenWhole", fn := fun _ => fun
  | [d1, d2] => { results := [.lit (.bool true)], args := [d1, d2] }
  | _ => none }
def tokenWholeRow : OpenClaim := { program := "ytmnohlmdckcdeaa", sum := "1768cf24de25a346cbe4b0bf38c938c68b8e510058a79c96a3105a571c7b5204", func := "redpen/redpenlaw16.TokenWhole", spec := "tokenWhole", unfollowed := true, recurses := true, apart := false }
def TokenWholeSaid : Prop := tokenWholeRow.holds Try.pinned (OpenSpec.ofChange tokenWholeSpec)

/-- ITS FALSE NEIGHBOUR: 'it returns false'. Refute it at one input. -/
def tokenWholeWrong : ChangeSpec := { name := "tokenWhole", fn := fun _ => fun
  | [d1, d2] => { results := [.lit (.bool false)], args := [d1, d2] }
  | _ => none }
def TokenWholeWrongFalsely : Prop := tokenWholeRow.holds Try.pinned (OpenSpec.ofChange tokenWholeWrong)

/-- 'redpenlaw16.TokenLengths': WHATEVER THE INPUT: true; the input reads as it did. -/
def tokenLengthsSpec : ChangeSpec := { name := "tokenLengths", fn := fun _ => fun
  | [d1, d2, d3, d4] => { results := [.lit (.bool true)], args := [d1, d2, d3, d4] }
  | _ => none }
def tokenLengthsRow : OpenClaim := { program := "ytmnohlmdckcdeaa", sum := "1768cf24de25a346cbe4b0bf38c938c68b8e510058a79c96a3105a571c7b5204", func := "redpen/redpenlaw16.TokenLengths", spec := "tokenLengths", unfollowed := true, recurses := true, apart := false }
def TokenLengthsSaid : Prop := tokenLengthsRow.holds Try.pinned (OpenSpec.ofChange tokenLengthsSpec)

/-- ITS FALSE NEIGHBOUR: 'it returns false'. Refute it at one input. -/
def tokenLengthsWrong : ChangeSpec := { name := "tokenLengths", fn := fun _ => fun
  | [d1, d2, d3, d4] => { results := [.lit (.bool false)], args := [d1, d2, d3, d4] }
  | _ => none }
def TokenLengthsWrongFalsely : Prop := tokenLengthsRow.holds Try.pinned (OpenSpec.ofChange tokenLengthsWrong)

/-- 'redpenlaw16.TokenCases': WHATEVER THE INPUT: true; the input reads as it did. -/
def tokenCasesSpec : ChangeSpec := { name := "tokenCases", fn := fun _ => fun
  | [d1, d2] => { results := [.lit (.bool true)], args := [d1, d2] }
  | _ => none }
def tokenCasesRow : OpenClaim := { program := "ytmnohlmdckcdeaa", sum := "1768cf24de25a346cbe4b0bf38c938c68b8e510058a79c96a3105a571c7b5204", func := "redpen/redpenlaw16.TokenCases", spec := "tokenCases", unfollowed := true, recurses := true, apart := false }
def TokenCasesSaid : Prop := tokenCasesRow.holds Try.pinned (OpenSpec.ofChange tokenCasesSpec)

/-- ITS FALSE NEIGHBOUR: 'it returns false'. Refute it at one input. -/
def tokenCasesWrong : ChangeSpec := { name := "tokenCases", fn := fun _ => fun
  | [d1, d2] => { results := [.lit (.bool false)], args := [d1, d2] }
  | _ => none }
def TokenCasesWrongFalsely : Prop := tokenCasesRow.holds Try.pinned (OpenSpec.ofChange tokenCasesWrong)

/- THE SECOND FORM. 'bulk': how many values and letters a reading holds, each counted each time it is reached (what is shared counts as often as it is met; a slice's spare places count too). A statement '..UptoSaid' is the law's where the arguments, and the package variables that the reading takes, are together of bulk at most 1048576: NARROWER than '..Said'. Prove '..Said' where nothing that the law and all that it calls make is longer than what came in: it says more and counts as full. Else prove '..UptoSaid'. A law counts once. -/
mutual
def uptoBulk {H : Type} : DataW H → Nat
  | .lit (.string bytes) => bytes.length + 1
  | .lit _ => 1
  | .nil => 1
  | .ptr d => uptoBulk d + 1
  | .slice elems spare => uptoBulkAll elems + uptoBulkAll spare + 1
  | .agg parts => uptoBulkAll parts + 1
  | .iface _ d => uptoBulk d + 1
  | .map entries => uptoBulkEntries entries + 1
  | .held _ => 1
def uptoBulkAll {H : Type} : List (DataW H) → Nat
  | [] => 0
  | d :: r => uptoBulk d + uptoBulkAll r
def uptoBulkEntries {H : Type} : List (Lit × DataW H) → Nat
  | [] => 0
  | x :: r => uptoBulkEntry x + uptoBulkEntries r
def uptoBulkEntry {H : Type} : Lit × DataW H → Nat
  | (.string bytes, d) => bytes.length + uptoBulk d + 1
  | (_, d) => uptoBulk d + 1
 end
def uptoSmall : (H : Type) → List (DataW H) → Bool := fun _ ds => decide (uptoBulkAll ds ≤ 1048576)
def OpenSpec.upto (s : _root_.Go.ChangeSpec) : _root_.Go.OpenSpec := { _root_.Go.OpenSpec.ofChange s with cond := some uptoSmall }

/-- 'redpenlaw04.FoldSigns', WHERE WHAT IT READS IS OF BULK AT MOST 1048576: true; the input reads as it did. -/
def foldSignsUptoRow : OpenClaim := { program := "ytmnohlmdckcdeaa", sum := "1768cf24de25a346cbe4b0bf38c938c68b8e510058a79c96a3105a571c7b5204", func := "redpen/redpenlaw04.FoldSigns", spec := "foldSigns", apart := false, narrowed := true }
def FoldSignsUptoSaid : Prop := foldSignsUptoRow.holds Try.pinned (OpenSpec.upto foldSignsSpec)

/-- 'redpenlaw04.FoldPairs', WHERE WHAT IT READS IS OF BULK AT MOST 1048576: true; the input reads as it did. -/
def foldPairsUptoRow : OpenClaim := { program := "ytmnohlmdckcdeaa", sum := "1768cf24de25a346cbe4b0bf38c938c68b8e510058a79c96a3105a571c7b5204", func := "redpen/redpenlaw04.FoldPairs", spec := "foldPairs", apart := false, narrowed := true }
def FoldPairsUptoSaid : Prop := foldPairsUptoRow.holds Try.pinned (OpenSpec.upto foldPairsSpec)

/-- 'redpenlaw04.FoldTwice', WHERE WHAT IT READS IS OF BULK AT MOST 1048576: true; the input reads as it did. -/
def foldTwiceUptoRow : OpenClaim := { program := "ytmnohlmdckcdeaa", sum := "1768cf24de25a346cbe4b0bf38c938c68b8e510058a79c96a3105a571c7b5204", func := "redpen/redpenlaw04.FoldTwice", spec := "foldTwice", apart := false, narrowed := true }
def FoldTwiceUptoSaid : Prop := foldTwiceUptoRow.holds Try.pinned (OpenSpec.upto foldTwiceSpec)

/-- 'redpenlaw16.TokenRuns', WHERE WHAT IT READS IS OF BULK AT MOST 1048576: true; the input reads as it did. -/
def tokenRunsUptoRow : OpenClaim := { program := "ytmnohlmdckcdeaa", sum := "1768cf24de25a346cbe4b0bf38c938c68b8e510058a79c96a3105a571c7b5204", func := "redpen/redpenlaw16.TokenRuns", spec := "tokenRuns", unfollowed := true, recurses := true, apart := false, narrowed := true }
def TokenRunsUptoSaid : Prop := tokenRunsUptoRow.holds Try.pinned (OpenSpec.upto tokenRunsSpec)

/-- 'redpenlaw16.TokenWhole', WHERE WHAT IT READS IS OF BULK AT MOST 1048576: true; the input reads as it did. -/
def tokenWholeUptoRow : OpenClaim := { program := "ytmnohlmdckcdeaa", sum := "1768cf24de25a346cbe4b0bf38c938c68b8e510058a79c96a3105a571c7b5204", func := "redpen/redpenlaw16.TokenWhole", spec := "tokenWhole", unfollowed := true, recurses := true, apart := false, narrowed := true }
def TokenWholeUptoSaid : Prop := tokenWholeUptoRow.holds Try.pinned (OpenSpec.upto tokenWholeSpec)

/-- 'redpenlaw16.TokenLengths', WHERE WHAT IT READS IS OF BULK AT MOST 1048576: true; the input reads as it did. -/
def tokenLengthsUptoRow : OpenClaim := { program := "ytmnohlmdckcdeaa", sum := "1768cf24de25a346cbe4b0bf38c938c68b8e510058a79c96a3105a571c7b5204", func := "redpen/redpenlaw16.TokenLengths", spec := "tokenLengths", unfollowed := true, recurses := true, apart := false, narrowed := true }
def TokenLengthsUptoSaid : Prop := tokenLengthsUptoRow.holds Try.pinned (OpenSpec.upto tokenLengthsSpec)

/-- 'redpenlaw16.TokenCases', WHERE WHAT IT READS IS OF BULK AT MOST 1048576: true; the input reads as it did. -/
def tokenCasesUptoRow : OpenClaim := { program := "ytmnohlmdckcdeaa", sum := "1768cf24de25a346cbe4b0bf38c938c68b8e510058a79c96a3105a571c7b5204", func := "redpen/redpenlaw16.TokenCases", spec := "tokenCases", unfollowed := true, recurses := true, apart := false, narrowed := true }
def TokenCasesUptoSaid : Prop := tokenCasesUptoRow.holds Try.pinned (OpenSpec.upto tokenCasesSpec)

end Rows
end Go.Proofs.Ytmnohlmdckcdeaa
