/-
  NARROWER THAN 'FOR EVERY INPUT', by the rows' own cells (each row's printed sentence says how): ListsLong: laid · ListsChecks: laid · ListsLine: laid · ListsEnds: laid · ListsWords: laid · ListsFixes: laid.
  DERIVED. THE GIVEN ROWS OF THIS SEAT. 6 by the template 'for every input the law returns true; each argument reads behind the call as it read before'; 0 by the template 'total and deterministic' (their statements: YtnmngglfeiifaaaGreatDoorTotals.lean).
  GIVEN WITH THE SEED: the statements are not yours to turn. If you find one false, say at which input.
  Laid BY PROGRAM, IN A SANDBOX (cutbox-rows.mjs): the forced cells as the released guide's own fill.sh prints them over the translation 07b6d4c70e4e888e… (all of the seat's roots in one cut). By AI agents, Wed Nov 11 2026. No macro, syntax, notation, axiom, sorry.
-/
import Derived.Test.YtnmngglfeiifaaaGreatDoorChecked
import GoSem.PinnedTables
import GoSem.Claim
import GoSem.ClaimJoined
import GoSem.ClaimMapViews
import Derived.JoinedTies
import Derived.KernelRfl
namespace Go.Proofs.YtnmngglfeiifaaaGreatDoor
/- THE CELL 'sum', in the pinned program and in every row, IS THE sha256 OF THE DUMP (.gsa) THAT YtnmngglfeiifaaaGreatDoorProg.lean LOADS. Nothing in Lean hashes anything: it is a label: what it is worth is what the hold of that sum in a sandbox is worth. -/
noncomputable def Tryz.pinned : Pinned := { name := "ytnmngglfeiifaaagreatdoor", sum := "07b6d4c70e4e888ec656d6801d00d8215dfce0ce17ff7121e54c946eb4be5bf9", checked := Tryz.checked }
namespace Rows
def none {H : Type} : Left H := { results := [], args := [] }

/- WHAT THE LISTED PACKAGE-LEVEL VARIABLES READ AS WHEN THE CALL BEGINS. Each datum BY PROGRAM (the guide's laid-datum.mjs) off the statement by which the dump's own 'gosem.cut.vars' lays the variable. In a bare row this is a premise. The card (YtnmngglfeiifaaaGreatDoorCards.lean) ties it to the program's text. -/
def laid_unicode_utf8_acceptRanges {H : Type} : DataW H := .agg [.agg [.lit (.int .u8 128), .lit (.int .u8 191)], .agg [.lit (.int .u8 160), .lit (.int .u8 191)], .agg [.lit (.int .u8 128), .lit (.int .u8 159)], .agg [.lit (.int .u8 144), .lit (.int .u8 191)], .agg [.lit (.int .u8 128), .lit (.int .u8 143)], .agg [.lit (.int .u8 0), .lit (.int .u8 0)], .agg [.lit (.int .u8 0), .lit (.int .u8 0)], .agg [.lit (.int .u8 0), .lit (.int .u8 0)], .agg [.lit (.int .u8 0), .lit (.int .u8 0)], .agg [.lit (.int .u8 0), .lit (.int .u8 0)], .agg [.lit (.int .u8 0), .lit (.int .u8 0)], .agg [.lit (.int .u8 0), .lit (.int .u8 0)], .agg [.lit (.int .u8 0), .lit (.int .u8 0)], .agg [.lit (.int .u8 0), .lit (.int .u8 0)], .agg [.lit (.int .u8 0), .lit (.int .u8 0)], .agg [.lit (.int .u8 0), .lit (.int .u8 0)]]
def laid_errors_errorType {H : Type} : DataW H := .iface "internal/reflectlite.rtype" (.agg [.ptr (.lit (.string [101, 114, 114, 111, 114]))])
/-- One of Go's own tables, pinned by name: the form's constant. -/
def laid_unicode_utf8_first : DataW Unit := Go.Pinned.utf8First

/-- 'redpenlaw06.ListsLong': WHATEVER THE INPUT: true; the input reads as it did. -/
def listsLongSpec : ChangeSpec := { name := "listsLong", fn := fun _ => fun
  | [d1, d2, d3] => { results := [.lit (.bool true)], args := [d1, d2, d3] }
  | _ => none }
def listsLongRow : OpenClaim := { program := "ytnmngglfeiifaaagreatdoor", sum := "07b6d4c70e4e888ec656d6801d00d8215dfce0ce17ff7121e54c946eb4be5bf9", func := "redpen/redpenlaw06.ListsLong", spec := "listsLong", inPlace := ["internal/bytealg.IndexByteString", "internal/bytealg.IndexString", "internal/bytealg.CountString", "internal/bytealg.abigen_runtime_cmpstring", "internal/reflectlite.ValueOf", "(internal/reflectlite.Value).Type", "(internal/reflectlite.Value).IsNil", "internal/reflectlite.TypeOf", "(internal/reflectlite.Value).Elem", "(internal/reflectlite.Value).Set"], unfollowed := true, recurses := true, named := ["internal/bytealg.MaxLen", "unicode/utf8.first", "unicode/utf8.acceptRanges", "errors.errorType"], apart := false, laid := [("unicode/utf8.acceptRanges", laid_unicode_utf8_acceptRanges), ("errors.errorType", laid_errors_errorType), ("unicode/utf8.first", laid_unicode_utf8_first)] }
def ListsLongSaid : Prop := listsLongRow.holds Tryz.pinned (OpenSpec.ofChange listsLongSpec)

/-- ITS FALSE NEIGHBOUR: 'it returns false'. Refute it at one input. -/
def listsLongWrong : ChangeSpec := { name := "listsLong", fn := fun _ => fun
  | [d1, d2, d3] => { results := [.lit (.bool false)], args := [d1, d2, d3] }
  | _ => none }
def ListsLongWrongFalsely : Prop := listsLongRow.holds Tryz.pinned (OpenSpec.ofChange listsLongWrong)

/-- 'redpenlaw06.ListsChecks': WHATEVER THE INPUT: true; the input reads as it did. -/
def listsChecksSpec : ChangeSpec := { name := "listsChecks", fn := fun _ => fun
  | [d] => { results := [.lit (.bool true)], args := [d] }
  | _ => none }
def listsChecksRow : OpenClaim := { program := "ytnmngglfeiifaaagreatdoor", sum := "07b6d4c70e4e888ec656d6801d00d8215dfce0ce17ff7121e54c946eb4be5bf9", func := "redpen/redpenlaw06.ListsChecks", spec := "listsChecks", inPlace := ["internal/bytealg.IndexByteString", "internal/bytealg.IndexString", "internal/bytealg.CountString", "internal/bytealg.abigen_runtime_cmpstring"], unfollowed := true, recurses := true, named := ["internal/bytealg.MaxLen", "unicode/utf8.first", "unicode/utf8.acceptRanges"], apart := false, laid := [("unicode/utf8.acceptRanges", laid_unicode_utf8_acceptRanges), ("unicode/utf8.first", laid_unicode_utf8_first)] }
def ListsChecksSaid : Prop := listsChecksRow.holds Tryz.pinned (OpenSpec.ofChange listsChecksSpec)

/-- ITS FALSE NEIGHBOUR: 'it returns false'. Refute it at one input. -/
def listsChecksWrong : ChangeSpec := { name := "listsChecks", fn := fun _ => fun
  | [d] => { results := [.lit (.bool false)], args := [d] }
  | _ => none }
def ListsChecksWrongFalsely : Prop := listsChecksRow.holds Tryz.pinned (OpenSpec.ofChange listsChecksWrong)

/-- 'redpenlaw06.ListsLine': WHATEVER THE INPUT: true; the input reads as it did. -/
def listsLineSpec : ChangeSpec := { name := "listsLine", fn := fun _ => fun
  | [d1, d2] => { results := [.lit (.bool true)], args := [d1, d2] }
  | _ => none }
def listsLineRow : OpenClaim := { program := "ytnmngglfeiifaaagreatdoor", sum := "07b6d4c70e4e888ec656d6801d00d8215dfce0ce17ff7121e54c946eb4be5bf9", func := "redpen/redpenlaw06.ListsLine", spec := "listsLine", inPlace := ["internal/bytealg.IndexByteString", "internal/bytealg.IndexString", "internal/bytealg.CountString", "internal/bytealg.abigen_runtime_cmpstring", "internal/reflectlite.ValueOf", "(internal/reflectlite.Value).Type", "(internal/reflectlite.Value).IsNil", "internal/reflectlite.TypeOf", "(internal/reflectlite.Value).Elem", "(internal/reflectlite.Value).Set"], unfollowed := true, recurses := true, named := ["internal/bytealg.MaxLen", "unicode/utf8.first", "unicode/utf8.acceptRanges", "errors.errorType"], apart := false, laid := [("unicode/utf8.acceptRanges", laid_unicode_utf8_acceptRanges), ("errors.errorType", laid_errors_errorType), ("unicode/utf8.first", laid_unicode_utf8_first)] }
def ListsLineSaid : Prop := listsLineRow.holds Tryz.pinned (OpenSpec.ofChange listsLineSpec)

/-- ITS FALSE NEIGHBOUR: 'it returns false'. Refute it at one input. -/
def listsLineWrong : ChangeSpec := { name := "listsLine", fn := fun _ => fun
  | [d1, d2] => { results := [.lit (.bool false)], args := [d1, d2] }
  | _ => none }
def ListsLineWrongFalsely : Prop := listsLineRow.holds Tryz.pinned (OpenSpec.ofChange listsLineWrong)

/-- 'redpenlaw06.ListsEnds': WHATEVER THE INPUT: true; the input reads as it did. -/
def listsEndsSpec : ChangeSpec := { name := "listsEnds", fn := fun _ => fun
  | [d1, d2] => { results := [.lit (.bool true)], args := [d1, d2] }
  | _ => none }
def listsEndsRow : OpenClaim := { program := "ytnmngglfeiifaaagreatdoor", sum := "07b6d4c70e4e888ec656d6801d00d8215dfce0ce17ff7121e54c946eb4be5bf9", func := "redpen/redpenlaw06.ListsEnds", spec := "listsEnds", inPlace := ["internal/bytealg.IndexByteString", "internal/bytealg.IndexString", "internal/bytealg.CountString", "internal/bytealg.abigen_runtime_cmpstring", "internal/reflectlite.ValueOf", "(internal/reflectlite.Value).Type", "(internal/reflectlite.Value).IsNil", "internal/reflectlite.TypeOf", "(internal/reflectlite.Value).Elem", "(internal/reflectlite.Value).Set"], unfollowed := true, recurses := true, named := ["internal/bytealg.MaxLen", "unicode/utf8.first", "unicode/utf8.acceptRanges", "errors.errorType"], apart := false, laid := [("unicode/utf8.acceptRanges", laid_unicode_utf8_acceptRanges), ("errors.errorType", laid_errors_errorType), ("unicode/utf8.first", laid_unicode_utf8_first)] }
def ListsEndsSaid : Prop := listsEndsRow.holds Tryz.pinned (OpenSpec.ofChange listsEndsSpec)

/-- ITS FALSE NEIGHBOUR: 'it returns false'. Refute it at one input. -/
def listsEndsWrong : ChangeSpec := { name := "listsEnds", fn := fun _ => fun
  | [d1, d2] => { results := [.lit (.bool false)], args := [d1, d2] }
  | _ => none }
def ListsEndsWrongFalsely : Prop := listsEndsRow.holds Tryz.pinned (OpenSpec.ofChange listsEndsWrong)

/-- 'redpenlaw06.ListsWords': WHATEVER THE INPUT: true; the input reads as it did. -/
def listsWordsSpec : ChangeSpec := { name := "listsWords", fn := fun _ => fun
  | [d] => { results := [.lit (.bool true)], args := [d] }
  | _ => none }
def listsWordsRow : OpenClaim := { program := "ytnmngglfeiifaaagreatdoor", sum := "07b6d4c70e4e888ec656d6801d00d8215dfce0ce17ff7121e54c946eb4be5bf9", func := "redpen/redpenlaw06.ListsWords", spec := "listsWords", inPlace := ["internal/bytealg.IndexByteString", "internal/bytealg.IndexString", "internal/bytealg.CountString", "internal/bytealg.abigen_runtime_cmpstring", "internal/reflectlite.ValueOf", "(internal/reflectlite.Value).Type", "(internal/reflectlite.Value).IsNil", "internal/reflectlite.TypeOf", "(internal/reflectlite.Value).Elem", "(internal/reflectlite.Value).Set"], unfollowed := true, recurses := true, named := ["internal/bytealg.MaxLen", "unicode/utf8.first", "unicode/utf8.acceptRanges", "errors.errorType"], apart := false, laid := [("unicode/utf8.acceptRanges", laid_unicode_utf8_acceptRanges), ("errors.errorType", laid_errors_errorType), ("unicode/utf8.first", laid_unicode_utf8_first)] }
def ListsWordsSaid : Prop := listsWordsRow.holds Tryz.pinned (OpenSpec.ofChange listsWordsSpec)

/-- ITS FALSE NEIGHBOUR: 'it returns false'. Refute it at one input. -/
def listsWordsWrong : ChangeSpec := { name := "listsWords", fn := fun _ => fun
  | [d] => { results := [.lit (.bool false)], args := [d] }
  | _ => none }
def ListsWordsWrongFalsely : Prop := listsWordsRow.holds Tryz.pinned (OpenSpec.ofChange listsWordsWrong)

/-- 'redpenlaw06.ListsFixes': WHATEVER THE INPUT: true; the input reads as it did. -/
def listsFixesSpec : ChangeSpec := { name := "listsFixes", fn := fun _ => fun
  | [d] => { results := [.lit (.bool true)], args := [d] }
  | _ => none }
def listsFixesRow : OpenClaim := { program := "ytnmngglfeiifaaagreatdoor", sum := "07b6d4c70e4e888ec656d6801d00d8215dfce0ce17ff7121e54c946eb4be5bf9", func := "redpen/redpenlaw06.ListsFixes", spec := "listsFixes", inPlace := ["internal/bytealg.IndexByteString", "internal/bytealg.IndexString", "internal/bytealg.CountString", "internal/bytealg.abigen_runtime_cmpstring", "internal/reflectlite.ValueOf", "(internal/reflectlite.Value).Type", "(internal/reflectlite.Value).IsNil", "internal/reflectlite.TypeOf", "(internal/reflectlite.Value).Elem", "(internal/reflectlite.Value).Set"], unfollowed := true, recurses := true, named := ["internal/bytealg.MaxLen", "unicode/utf8.first", "unicode/utf8.acceptRanges", "errors.errorType"], apart := false, laid := [("unicode/utf8.acceptRanges", laid_unicode_utf8_acceptRanges), ("errors.errorType", laid_errors_errorType), ("unicode/utf8.first", laid_unicode_utf8_first)] }
def ListsFixesSaid : Prop := listsFixesRow.holds Tryz.pinned (OpenSpec.ofChange listsFixesSpec)

/-- ITS FALSE NEIGHBOUR: 'it returns false'. Refute it at one input. -/
def listsFixesWrong : ChangeSpec := { name := "listsFixes", fn := fun _ => fun
  | [d] => { results := [.lit (.bool false)], args := [d] }
  | _ => none }
def ListsFixesWrongFalsely : Prop := listsFixesRow.holds Tryz.pinned (OpenSpec.ofChange listsFixesWrong)

/- THE SECOND FORM. 'bulk': how many values and letters a reading holds, each counted each time it is reached (what is shared counts as often as it is met; a slice's spare places count too). A statement '..UptoSaid' is the law's where the arguments, and the package variables that the reading takes, are together of bulk at most 1048576: NARROWER than '..Said'. Prove '..Said' where nothing that the law and all that it calls make is longer than what came in: it says more and counts as full. Else prove '..UptoSaid'. A law counts once. -/
mutual
def uptoBulk {H : Type} : DataW H → Nat
  | .lit (.string bytes) => bytes.length + 1
  | .lit _ => 1
  | .nil => 1
  | .ptr d => uptoBulk d + 1
  | .slice elems spare => uptoBulkAll elems + uptoBulkAll spare + 1
  | .agg parts => uptoBulkAll parts + 1
  | .iface _ d => uptoBulk d + 1
  | .map entries => uptoBulkEntries entries + 1
  | .held _ => 1
def uptoBulkAll {H : Type} : List (DataW H) → Nat
  | [] => 0
  | d :: r => uptoBulk d + uptoBulkAll r
def uptoBulkEntries {H : Type} : List (Lit × DataW H) → Nat
  | [] => 0
  | x :: r => uptoBulkEntry x + uptoBulkEntries r
def uptoBulkEntry {H : Type} : Lit × DataW H → Nat
  | (.string bytes, d) => bytes.length + uptoBulk d + 1
  | (_, d) => uptoBulk d + 1
 end
def uptoSmall : (H : Type) → List (DataW H) → Bool := fun _ ds => decide (uptoBulkAll ds ≤ 1048576)
def OpenSpec.upto (s : _root_.Go.ChangeSpec) : _root_.Go.OpenSpec := { _root_.Go.OpenSpec.ofChange s with cond := some uptoSmall }

/-- 'redpenlaw06.ListsLong', WHERE WHAT IT READS IS OF BULK AT MOST 1048576: true; the input reads as it did. -/
def listsLongUptoRow : OpenClaim := { program := "ytnmngglfeiifaaagreatdoor", sum := "07b6d4c70e4e888ec656d6801d00d8215dfce0ce17ff7121e54c946eb4be5bf9", func := "redpen/redpenlaw06.ListsLong", spec := "listsLong", inPlace := ["internal/bytealg.IndexByteString", "internal/bytealg.IndexString", "internal/bytealg.CountString", "internal/bytealg.abigen_runtime_cmpstring", "internal/reflectlite.ValueOf", "(internal/reflectlite.Value).Type", "(internal/reflectlite.Value).IsNil", "internal/reflectlite.TypeOf", "(internal/reflectlite.Value).Elem", "(internal/reflectlite.Value).Set"], unfollowed := true, recurses := true, named := ["internal/bytealg.MaxLen", "unicode/utf8.first", "unicode/utf8.acceptRanges", "errors.errorType"], apart := false, laid := [("unicode/utf8.acceptRanges", laid_unicode_utf8_acceptRanges), ("errors.errorType", laid_errors_errorType), ("unicode/utf8.first", laid_unicode_utf8_first)], narrowed := true }
def ListsLongUptoSaid : Prop := listsLongUptoRow.holds Tryz.pinned (OpenSpec.upto listsLongSpec)

/-- 'redpenlaw06.ListsChecks', WHERE WHAT IT READS IS OF BULK AT MOST 1048576: true; the input reads as it did. -/
def listsChecksUptoRow : OpenClaim := { program := "ytnmngglfeiifaaagreatdoor", sum := "07b6d4c70e4e888ec656d6801d00d8215dfce0ce17ff7121e54c946eb4be5bf9", func := "redpen/redpenlaw06.ListsChecks", spec := "listsChecks", inPlace := ["internal/bytealg.IndexByteString", "internal/bytealg.IndexString", "internal/bytealg.CountString", "internal/bytealg.abigen_runtime_cmpstring"], unfollowed := true, recurses := true, named := ["internal/bytealg.MaxLen", "unicode/utf8.first", "unicode/utf8.acceptRanges"], apart := false, laid := [("unicode/utf8.acceptRanges", laid_unicode_utf8_acceptRanges), ("unicode/utf8.first", laid_unicode_utf8_first)], narrowed := true }
def ListsChecksUptoSaid : Prop := listsChecksUptoRow.holds Tryz.pinned (OpenSpec.upto listsChecksSpec)

/-- 'redpenlaw06.ListsLine', WHERE WHAT IT READS IS OF BULK AT MOST 1048576: true; the input reads as it did. -/
def listsLineUptoRow : OpenClaim := { program := "ytnmngglfeiifaaagreatdoor", sum := "07b6d4c70e4e888ec656d6801d00d8215dfce0ce17ff7121e54c946eb4be5bf9", func := "redpen/redpenlaw06.ListsLine", spec := "listsLine", inPlace := ["internal/bytealg.IndexByteString", "internal/bytealg.IndexString", "internal/bytealg.CountString", "internal/bytealg.abigen_runtime_cmpstring", "internal/reflectlite.ValueOf", "(internal/reflectlite.Value).Type", "(internal/reflectlite.Value).IsNil", "internal/reflectlite.TypeOf", "(internal/reflectlite.Value).Elem", "(internal/reflectlite.Value).Set"], unfollowed := true, recurses := true, named := ["internal/bytealg.MaxLen", "unicode/utf8.first", "unicode/utf8.acceptRanges", "errors.errorType"], apart := false, laid := [("unicode/utf8.acceptRanges", laid_unicode_utf8_acceptRanges), ("errors.errorType", laid_errors_errorType), ("unicode/utf8.first", laid_unicode_utf8_first)], narrowed := true }
def ListsLineUptoSaid : Prop := listsLineUptoRow.holds Tryz.pinned (OpenSpec.upto listsLineSpec)

/-- 'redpenlaw06.ListsEnds', WHERE WHAT IT READS IS OF BULK AT MOST 1048576: true; the input reads as it did. -/
def listsEndsUptoRow : OpenClaim := { program := "ytnmngglfeiifaaagreatdoor", sum := "07b6d4c70e4e888ec656d6801d00d8215dfce0ce17ff7121e54c946eb4be5bf9", func := "redpen/redpenlaw06.ListsEnds", spec := "listsEnds", inPlace := ["internal/bytealg.IndexByteString", "internal/bytealg.IndexString", "internal/bytealg.CountString", "internal/bytealg.abigen_runtime_cmpstring", "internal/reflectlite.ValueOf", "(internal/reflectlite.Value).Type", "(internal/reflectlite.Value).IsNil", "internal/reflectlite.TypeOf", "(internal/reflectlite.Value).Elem", "(internal/reflectlite.Value).Set"], unfollowed := true, recurses := true, named := ["internal/bytealg.MaxLen", "unicode/utf8.first", "unicode/utf8.acceptRanges", "errors.errorType"], apart := false, laid := [("unicode/utf8.acceptRanges", laid_unicode_utf8_acceptRanges), ("errors.errorType", laid_errors_errorType), ("unicode/utf8.first", laid_unicode_utf8_first)], narrowed := true }
def ListsEndsUptoSaid : Prop := listsEndsUptoRow.holds Tryz.pinned (OpenSpec.upto listsEndsSpec)

/-- 'redpenlaw06.ListsWords', WHERE WHAT IT READS IS OF BULK AT MOST 1048576: true; the input reads as it did. -/
def listsWordsUptoRow : OpenClaim := { program := "ytnmngglfeiifaaagreatdoor", sum := "07b6d4c70e4e888ec656d6801d00d8215dfce0ce17ff7121e54c946eb4be5bf9", func := "redpen/redpenlaw06.ListsWords", spec := "listsWords", inPlace := ["internal/bytealg.IndexByteString", "internal/bytealg.IndexString", "internal/bytealg.CountString", "internal/bytealg.abigen_runtime_cmpstring", "internal/reflectlite.ValueOf", "(internal/reflectlite.Value).Type", "(internal/reflectlite.Value).IsNil", "internal/reflectlite.TypeOf", "(internal/reflectlite.Value).Elem", "(internal/reflectlite.Value).Set"], unfollowed := true, recurses := true, named := ["internal/bytealg.MaxLen", "unicode/utf8.first", "unicode/utf8.acceptRanges", "errors.errorType"], apart := false, laid := [("unicode/utf8.acceptRanges", laid_unicode_utf8_acceptRanges), ("errors.errorType", laid_errors_errorType), ("unicode/utf8.first", laid_unicode_utf8_first)], narrowed := true }
def ListsWordsUptoSaid : Prop := listsWordsUptoRow.holds Tryz.pinned (OpenSpec.upto listsWordsSpec)

/-- 'redpenlaw06.ListsFixes', WHERE WHAT IT READS IS OF BULK AT MOST 1048576: true; the input reads as it did. -/
def listsFixesUptoRow : OpenClaim := { program := "ytnmngglfeiifaaagreatdoor", sum := "07b6d4c70e4e888ec656d6801d00d8215dfce0ce17ff7121e54c946eb4be5bf9", func := "redpen/redpenlaw06.ListsFixes", spec := "listsFixes", inPlace := ["internal/bytealg.IndexByteString", "internal/bytealg.IndexString", "internal/bytealg.CountString", "internal/bytealg.abigen_runtime_cmpstring", "internal/reflectlite.ValueOf", "(internal/reflectlite.Value).Type", "(internal/reflectlite.Value).IsNil", "internal/reflectlite.TypeOf", "(internal/reflectlite.Value).Elem", "(internal/reflectlite.Value).Set"], unfollowed := true, recurses := true, named := ["internal/bytealg.MaxLen", "unicode/utf8.first", "unicode/utf8.acceptRanges", "errors.errorType"], apart := false, laid := [("unicode/utf8.acceptRanges", laid_unicode_utf8_acceptRanges), ("errors.errorType", laid_errors_errorType), ("unicode/utf8.first", laid_unicode_utf8_first)], narrowed := true }
def ListsFixesUptoSaid : Prop := listsFixesUptoRow.holds Tryz.pinned (OpenSpec.upto listsFixesSpec)

end Rows
end Go.Proofs.YtnmngglfeiifaaaGreatDoor
