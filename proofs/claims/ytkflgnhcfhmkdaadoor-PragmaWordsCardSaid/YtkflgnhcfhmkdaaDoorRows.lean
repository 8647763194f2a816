/-
  NARROWER THAN 'FOR EVERY INPUT', by the rows' own cells (each row's printed sentence says how): PragmaLines: laid · PragmaReads: laid · PragmaWords: laid · PragmaNil: laid · PragmaPlain: laid.
  DERIVED. THE GIVEN ROWS OF THIS SEAT. 5 by the template 'for every input the law returns true; each argument reads behind the call as it read before'; 0 by the template 'total and deterministic' (their statements: YtkflgnhcfhmkdaaDoorTotals.lean).
  GIVEN WITH THE SEED: the statements are not yours to turn. If you find one false, say at which input.
  Laid BY PROGRAM, IN A SANDBOX (cutbox-rows.mjs): the forced cells as the released guide's own fill.sh prints them over the translation 3bd3288b13b4c308… (all of the seat's roots in one cut). By AI agents, Wed Nov 11 2026. No macro, syntax, notation, axiom, sorry.
-/
import Derived.Test.YtkflgnhcfhmkdaaDoorChecked
import GoSem.PinnedTables
import GoSem.Claim
import GoSem.ClaimJoined
import GoSem.ClaimMapViews
import Derived.JoinedTies
import Derived.KernelRfl
namespace Go.Proofs.YtkflgnhcfhmkdaaDoor
/- THE CELL 'sum', in the pinned program and in every row, IS THE sha256 OF THE DUMP (.gsa) THAT YtkflgnhcfhmkdaaDoorProg.lean LOADS. Nothing in Lean hashes anything: it is a label: what it is worth is what the hold of that sum in a sandbox is worth. -/
noncomputable def Tryd.pinned : Pinned := { name := "ytkflgnhcfhmkdaadoor", sum := "3bd3288b13b4c30884e4ffcbd0d66ada5e55d4a687d88a188faeb867ed87c74b", checked := Tryd.checked }
namespace Rows
def none {H : Type} : Left H := { results := [], args := [] }

/- WHAT THE LISTED PACKAGE-LEVEL VARIABLES READ AS WHEN THE CALL BEGINS. Each datum BY PROGRAM (the guide's laid-datum.mjs) off the statement by which the dump's own 'gosem.cut.vars' lays the variable. In a bare row this is a premise. The card (YtkflgnhcfhmkdaaDoorCards.lean) ties it to the program's text. -/
def laid_unicode_utf8_acceptRanges {H : Type} : DataW H := .agg [.agg [.lit (.int .u8 128), .lit (.int .u8 191)], .agg [.lit (.int .u8 160), .lit (.int .u8 191)], .agg [.lit (.int .u8 128), .lit (.int .u8 159)], .agg [.lit (.int .u8 144), .lit (.int .u8 191)], .agg [.lit (.int .u8 128), .lit (.int .u8 143)], .agg [.lit (.int .u8 0), .lit (.int .u8 0)], .agg [.lit (.int .u8 0), .lit (.int .u8 0)], .agg [.lit (.int .u8 0), .lit (.int .u8 0)], .agg [.lit (.int .u8 0), .lit (.int .u8 0)], .agg [.lit (.int .u8 0), .lit (.int .u8 0)], .agg [.lit (.int .u8 0), .lit (.int .u8 0)], .agg [.lit (.int .u8 0), .lit (.int .u8 0)], .agg [.lit (.int .u8 0), .lit (.int .u8 0)], .agg [.lit (.int .u8 0), .lit (.int .u8 0)], .agg [.lit (.int .u8 0), .lit (.int .u8 0)], .agg [.lit (.int .u8 0), .lit (.int .u8 0)]]
/-- One of Go's own tables, pinned by name: the form's constant. -/
def laid_unicode_utf8_first : DataW Unit := Go.Pinned.utf8First

/-- 'redpenlaw17.PragmaLines': WHATEVER THE INPUT: true; the input reads as it did. -/
def pragmaLinesSpec : ChangeSpec := { name := "pragmaLines", fn := fun _ => fun
  | [d] => { results := [.lit (.bool true)], args := [d] }
  | _ => none }
def pragmaLinesRow : OpenClaim := { program := "ytkflgnhcfhmkdaadoor", sum := "3bd3288b13b4c30884e4ffcbd0d66ada5e55d4a687d88a188faeb867ed87c74b", func := "redpen/redpenlaw17.PragmaLines", spec := "pragmaLines", inPlace := ["internal/bytealg.IndexByteString", "internal/bytealg.IndexString"], unfollowed := true, recurses := true, named := ["internal/bytealg.MaxLen", "unicode/utf8.first", "unicode/utf8.acceptRanges"], apart := false, laid := [("unicode/utf8.acceptRanges", laid_unicode_utf8_acceptRanges), ("unicode/utf8.first", laid_unicode_utf8_first)] }
def PragmaLinesSaid : Prop := pragmaLinesRow.holds Tryd.pinned (OpenSpec.ofChange pragmaLinesSpec)

/-- ITS FALSE NEIGHBOUR: 'it returns false'. Refute it at one input. -/
def pragmaLinesWrong : ChangeSpec := { name := "pragmaLines", fn := fun _ => fun
  | [d] => { results := [.lit (.bool false)], args := [d] }
  | _ => none }
def PragmaLinesWrongFalsely : Prop := pragmaLinesRow.holds Tryd.pinned (OpenSpec.ofChange pragmaLinesWrong)

/-- 'redpenlaw17.PragmaReads': WHATEVER THE INPUT: true; the input reads as it did. -/
def pragmaReadsSpec : ChangeSpec := { name := "pragmaReads", fn := fun _ => fun
  | [d1, d2, d3] => { results := [.lit (.bool true)], args := [d1, d2, d3] }
  | _ => none }
def pragmaReadsRow : OpenClaim := { program := "ytkflgnhcfhmkdaadoor", sum := "3bd3288b13b4c30884e4ffcbd0d66ada5e55d4a687d88a188faeb867ed87c74b", func := "redpen/redpenlaw17.PragmaReads", spec := "pragmaReads", inPlace := ["internal/bytealg.IndexByteString", "internal/bytealg.IndexString"], unfollowed := true, recurses := true, named := ["internal/bytealg.MaxLen", "unicode/utf8.first", "unicode/utf8.acceptRanges"], apart := false, laid := [("unicode/utf8.acceptRanges", laid_unicode_utf8_acceptRanges), ("unicode/utf8.first", laid_unicode_utf8_first)] }
def PragmaReadsSaid : Prop := pragmaReadsRow.holds Tryd.pinned (OpenSpec.ofChange pragmaReadsSpec)

/-- ITS FALSE NEIGHBOUR: 'it returns false'. Refute it at one input. -/
def pragmaReadsWrong : ChangeSpec := { name := "pragmaReads", fn := fun _ => fun
  | [d1, d2, d3] => { results := [.lit (.bool false)], args := [d1, d2, d3] }
  | _ => none }
def PragmaReadsWrongFalsely : Prop := pragmaReadsRow.holds Tryd.pinned (OpenSpec.ofChange pragmaReadsWrong)

/-- 'redpenlaw17.PragmaWords': WHATEVER THE INPUT: true; the input reads as it did. -/
def pragmaWordsSpec : ChangeSpec := { name := "pragmaWords", fn := fun _ => fun
  | [d1, d2] => { results := [.lit (.bool true)], args := [d1, d2] }
  | _ => none }
def pragmaWordsRow : OpenClaim := { program := "ytkflgnhcfhmkdaadoor", sum := "3bd3288b13b4c30884e4ffcbd0d66ada5e55d4a687d88a188faeb867ed87c74b", func := "redpen/redpenlaw17.PragmaWords", spec := "pragmaWords", inPlace := ["internal/bytealg.IndexByteString", "internal/bytealg.IndexString"], unfollowed := true, recurses := true, named := ["internal/bytealg.MaxLen", "unicode/utf8.first", "unicode/utf8.acceptRanges"], apart := false, laid := [("unicode/utf8.acceptRanges", laid_unicode_utf8_acceptRanges), ("unicode/utf8.first", laid_unicode_utf8_first)] }
def PragmaWordsSaid : Prop := pragmaWordsRow.holds Tryd.pinned (OpenSpec.ofChange pragmaWordsSpec)

/-- ITS FALSE NEIGHBOUR: 'it returns false'. Refute it at one input. -/
def pragmaWordsWrong : ChangeSpec := { name := "pragmaWords", fn := fun _ => fun
  | [d1, d2] => { results := [.lit (.bool false)], args := [d1, d2] }
  | _ => none }
def PragmaWordsWrongFalsely : Prop := pragmaWordsRow.holds Tryd.pinned (OpenSpec.ofChange pragmaWordsWrong)

/-- 'redpenlaw17.PragmaNil': WHATEVER THE INPUT: true; the input reads as it did. -/
def pragmaNilSpec : ChangeSpec := { name := "pragmaNil", fn := fun _ => fun
  | [d1, d2, d3] => { results := [.lit (.bool true)], args := [d1, d2, d3] }
  | _ => none }
def pragmaNilRow : OpenClaim := { program := "ytkflgnhcfhmkdaadoor", sum := "3bd3288b13b4c30884e4ffcbd0d66ada5e55d4a687d88a188faeb867ed87c74b", func := "redpen/redpenlaw17.PragmaNil", spec := "pragmaNil", inPlace := ["internal/bytealg.IndexByteString", "internal/bytealg.IndexString"], unfollowed := true, recurses := true, named := ["internal/bytealg.MaxLen", "unicode/utf8.first", "unicode/utf8.acceptRanges"], apart := false, laid := [("unicode/utf8.acceptRanges", laid_unicode_utf8_acceptRanges), ("unicode/utf8.first", laid_unicode_utf8_first)] }
def PragmaNilSaid : Prop := pragmaNilRow.holds Tryd.pinned (OpenSpec.ofChange pragmaNilSpec)

/-- ITS FALSE NEIGHBOUR: 'it returns false'. Refute it at one input. -/
def pragmaNilWrong : ChangeSpec := { name := "pragmaNil", fn := fun _ => fun
  | [d1, d2, d3] => { results := [.lit (.bool false)], args := [d1, d2, d3] }
  | _ => none }
def PragmaNilWrongFalsely : Prop := pragmaNilRow.holds Tryd.pinned (OpenSpec.ofChange pragmaNilWrong)

/-- 'redpenlaw17.PragmaPlain': WHATEVER THE INPUT: true; the input reads as it did. -/
def pragmaPlainSpec : ChangeSpec := { name := "pragmaPlain", fn := fun _ => fun
  | [d1, d2] => { results := [.lit (.bool true)], args := [d1, d2] }
  | _ => none }
def pragmaPlainRow : OpenClaim := { program := "ytkflgnhcfhmkdaadoor", sum := "3bd3288b13b4c30884e4ffcbd0d66ada5e55d4a687d88a188faeb867ed87c74b", func := "redpen/redpenlaw17.PragmaPlain", spec := "pragmaPlain", inPlace := ["internal/bytealg.IndexByteString", "internal/bytealg.IndexString"], unfollowed := true, recurses := true, named := ["internal/bytealg.MaxLen", "unicode/utf8.first", "unicode/utf8.acceptRanges"], apart := false, laid := [("unicode/utf8.acceptRanges", laid_unicode_utf8_acceptRanges), ("unicode/utf8.first", laid_unicode_utf8_first)] }
def PragmaPlainSaid : Prop := pragmaPlainRow.holds Tryd.pinned (OpenSpec.ofChange pragmaPlainSpec)

/-- ITS FALSE NEIGHBOUR: 'it returns false'. Refute it at one input. -/
def pragmaPlainWrong : ChangeSpec := { name := "pragmaPlain", fn := fun _ => fun
  | [d1, d2] => { results := [.lit (.bool false)], args := [d1, d2] }
  | _ => none }
def PragmaPlainWrongFalsely : Prop := pragmaPlainRow.holds Tryd.pinned (OpenSpec.ofChange pragmaPlainWrong)

/- THE SECOND FORM. 'bulk': how many values and letters a reading holds, each counted each time it is reached (what is shared counts as often as it is met; a slice's spare places count too). A statement '..UptoSaid' is the law's where the arguments, and the package variables that the reading takes, are together of bulk at most 1048576: NARROWER than '..Said'. Prove '..Said' where nothing that the law and all that it calls make is longer than what came in: it says more and counts as full. Else prove '..UptoSaid'. A law counts once. -/
mutual
def uptoBulk {H : Type} : DataW H → Nat
  | .lit (.string bytes) => bytes.length + 1
  | .lit _ => 1
  | .nil => 1
  | .ptr d => uptoBulk d + 1
  | .slice elems spare => uptoBulkAll elems + uptoBulkAll spare + 1
  | .agg parts => uptoBulkAll parts + 1
  | .iface _ d => uptoBulk d + 1
  | .map entries => uptoBulkEntries entries + 1
  | .held _ => 1
def uptoBulkAll {H : Type} : List (DataW H) → Nat
  | [] => 0
  | d :: r => uptoBulk d + uptoBulkAll r
def uptoBulkEntries {H : Type} : List (Lit × DataW H) → Nat
  | [] => 0
  | x :: r => uptoBulkEntry x + uptoBulkEntries r
def uptoBulkEntry {H : Type} : Lit × DataW H → Nat
  | (.string bytes, d) => bytes.length + uptoBulk d + 1
  | (_, d) => uptoBulk d + 1
 end
def uptoSmall : (H : Type) → List (DataW H) → Bool := fun _ ds => decide (uptoBulkAll ds ≤ 1048576)
def OpenSpec.upto (s : _root_.Go.ChangeSpec) : _root_.Go.OpenSpec := { _root_.Go.OpenSpec.ofChange s with cond := some uptoSmall }

/-- 'redpenlaw17.PragmaLines', WHERE WHAT IT READS IS OF BULK AT MOST 1048576: true; the input reads as it did. -/
def pragmaLinesUptoRow : OpenClaim := { program := "ytkflgnhcfhmkdaadoor", sum := "3bd3288b13b4c30884e4ffcbd0d66ada5e55d4a687d88a188faeb867ed87c74b", func := "redpen/redpenlaw17.PragmaLines", spec := "pragmaLines", inPlace := ["internal/bytealg.IndexByteString", "internal/bytealg.IndexString"], unfollowed := true, recurses := true, named := ["internal/bytealg.MaxLen", "unicode/utf8.first", "unicode/utf8.acceptRanges"], apart := false, laid := [("unicode/utf8.acceptRanges", laid_unicode_utf8_acceptRanges), ("unicode/utf8.first", laid_unicode_utf8_first)], narrowed := true }
def PragmaLinesUptoSaid : Prop := pragmaLinesUptoRow.holds Tryd.pinned (OpenSpec.upto pragmaLinesSpec)

/-- 'redpenlaw17.PragmaReads', WHERE WHAT IT READS IS OF BULK AT MOST 1048576: true; the input reads as it did. -/
def pragmaReadsUptoRow : OpenClaim := { program := "ytkflgnhcfhmkdaadoor", sum := "3bd3288b13b4c30884e4ffcbd0d66ada5e55d4a687d88a188faeb867ed87c74b", func := "redpen/redpenlaw17.PragmaReads", spec := "pragmaReads", inPlace := ["internal/bytealg.IndexByteString", "internal/bytealg.IndexString"], unfollowed := true, recurses := true, named := ["internal/bytealg.MaxLen", "unicode/utf8.first", "unicode/utf8.acceptRanges"], apart := false, laid := [("unicode/utf8.acceptRanges", laid_unicode_utf8_acceptRanges), ("unicode/utf8.first", laid_unicode_utf8_first)], narrowed := true }
def PragmaReadsUptoSaid : Prop := pragmaReadsUptoRow.holds Tryd.pinned (OpenSpec.upto pragmaReadsSpec)

/-- 'redpenlaw17.PragmaWords', WHERE WHAT IT READS IS OF BULK AT MOST 1048576: true; the input reads as it did. -/
def pragmaWordsUptoRow : OpenClaim := { program := "ytkflgnhcfhmkdaadoor", sum := "3bd3288b13b4c30884e4ffcbd0d66ada5e55d4a687d88a188faeb867ed87c74b", func := "redpen/redpenlaw17.PragmaWords", spec := "pragmaWords", inPlace := ["internal/bytealg.IndexByteString", "internal/bytealg.IndexString"], unfollowed := true, recurses := true, named := ["internal/bytealg.MaxLen", "unicode/utf8.first", "unicode/utf8.acceptRanges"], apart := false, laid := [("unicode/utf8.acceptRanges", laid_unicode_utf8_acceptRanges), ("unicode/utf8.first", laid_unicode_utf8_first)], narrowed := true }
def PragmaWordsUptoSaid : Prop := pragmaWordsUptoRow.holds Tryd.pinned (OpenSpec.upto pragmaWordsSpec)

/-- 'redpenlaw17.PragmaNil', WHERE WHAT IT READS IS OF BULK AT MOST 1048576: true; the input reads as it did. -/
def pragmaNilUptoRow : OpenClaim := { program := "ytkflgnhcfhmkdaadoor", sum := "3bd3288b13b4c30884e4ffcbd0d66ada5e55d4a687d88a188faeb867ed87c74b", func := "redpen/redpenlaw17.PragmaNil", spec := "pragmaNil", inPlace := ["internal/bytealg.IndexByteString", "internal/bytealg.IndexString"], unfollowed := true, recurses := true, named := ["internal/bytealg.MaxLen", "unicode/utf8.first", "unicode/utf8.acceptRanges"], apart := false, laid := [("unicode/utf8.acceptRanges", laid_unicode_utf8_acceptRanges), ("unicode/utf8.first", laid_unicode_utf8_first)], narrowed := true }
def PragmaNilUptoSaid : Prop := pragmaNilUptoRow.holds Tryd.pinned (OpenSpec.upto pragmaNilSpec)

/-- 'redpenlaw17.PragmaPlain', WHERE WHAT IT READS IS OF BULK AT MOST 1048576: true; the input reads as it did. -/
def pragmaPlainUptoRow : OpenClaim := { program := "ytkflgnhcfhmkdaadoor", sum := "3bd3288b13b4c30884e4ffcbd0d66ada5e55d4a687d88a188faeb867ed87c74b", func := "redpen/redpenlaw17.PragmaPlain", spec := "pragmaPlain", inPlace := ["internal/bytealg.IndexByteString", "internal/bytealg.IndexString"], unfollowed := true, recurses := true, named := ["internal/bytealg.MaxLen", "unicode/utf8.first", "unicode/utf8.acceptRanges"], apart := false, laid := [("unicode/utf8.acceptRanges", laid_unicode_utf8_acceptRanges), ("unicode/utf8.first", laid_unicode_utf8_first)], narrowed := true }
def PragmaPlainUptoSaid : Prop := pragmaPlainUptoRow.holds Tryd.pinned (OpenSpec.upto pragmaPlainSpec)

end Rows
end Go.Proofs.YtkflgnhcfhmkdaaDoor
