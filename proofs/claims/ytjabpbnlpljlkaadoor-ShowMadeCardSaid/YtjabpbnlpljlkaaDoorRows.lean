/-
  NARROWER THAN 'FOR EVERY INPUT', by the rows' own cells (each row's printed sentence says how): ShowNames: laid · ShowChecks: laid · ShowPrints: laid · ShowMade: laid · ShowRefuses: laid · UnifyOther: laid · UnifyApplies: laid · UnifyNone: laid · UnifyBack: laid.
  DERIVED. THE GIVEN ROWS OF THIS SEAT. 9 by the template 'for every input the law returns true; each argument reads behind the call as it read before'; 0 by the template 'total and deterministic' (their statements: YtjabpbnlpljlkaaDoorTotals.lean).
  GIVEN WITH THE SEED: the statements are not yours to turn. If you find one false, say at which input.
  Laid BY PROGRAM, IN A SANDBOX (cutbox-rows.mjs): the forced cells as the released guide's own fill.sh prints them over the translation 7437111c77b67b7f… (all of the seat's roots in one cut). By AI agents, Wed Nov 11 2026. No macro, syntax, notation, axiom, sorry.
-/
import Derived.Test.YtjabpbnlpljlkaaDoorChecked
import GoSem.PinnedTables
import GoSem.Claim
import GoSem.ClaimJoined
import GoSem.ClaimMapViews
import Derived.JoinedTies
import Derived.KernelRfl
namespace Go.Proofs.YtjabpbnlpljlkaaDoor
/- THE CELL 'sum', in the pinned program and in every row, IS THE sha256 OF THE DUMP (.gsa) THAT YtjabpbnlpljlkaaDoorProg.lean LOADS. Nothing in Lean hashes anything: it is a label: what it is worth is what the hold of that sum in a sandbox is worth. -/
noncomputable def Tryd.pinned : Pinned := { name := "ytjabpbnlpljlkaadoor", sum := "7437111c77b67b7f8cddc2dfed3fe3f99707fd99f983ce44b09e5f43f5af6704", checked := Tryd.checked }
namespace Rows
def none {H : Type} : Left H := { results := [], args := [] }

/- WHAT THE LISTED PACKAGE-LEVEL VARIABLES READ AS WHEN THE CALL BEGINS. Each datum BY PROGRAM (the guide's laid-datum.mjs) off the statement by which the dump's own 'gosem.cut.vars' lays the variable. In a bare row this is a premise. The card (YtjabpbnlpljlkaaDoorCards.lean) ties it to the program's text. -/
def laid_math_bits_deBruijn32tab {H : Type} : DataW H := .agg [.lit (.int .u8 0), .lit (.int .u8 1), .lit (.int .u8 28), .lit (.int .u8 2), .lit (.int .u8 29), .lit (.int .u8 14), .lit (.int .u8 24), .lit (.int .u8 3), .lit (.int .u8 30), .lit (.int .u8 22), .lit (.int .u8 20), .lit (.int .u8 15), .lit (.int .u8 25), .lit (.int .u8 17), .lit (.int .u8 4), .lit (.int .u8 8), .lit (.int .u8 31), .lit (.int .u8 27), .lit (.int .u8 13), .lit (.int .u8 23), .lit (.int .u8 21), .lit (.int .u8 19), .lit (.int .u8 16), .lit (.int .u8 7), .lit (.int .u8 26), .lit (.int .u8 12), .lit (.int .u8 18), .lit (.int .u8 6), .lit (.int .u8 11), .lit (.int .u8 5), .lit (.int .u8 10), .lit (.int .u8 9)]
def laid_math_bits_deBruijn64tab {H : Type} : DataW H := .agg [.lit (.int .u8 0), .lit (.int .u8 1), .lit (.int .u8 56), .lit (.int .u8 2), .lit (.int .u8 57), .lit (.int .u8 49), .lit (.int .u8 28), .lit (.int .u8 3), .lit (.int .u8 61), .lit (.int .u8 58), .lit (.int .u8 42), .lit (.int .u8 50), .lit (.int .u8 38), .lit (.int .u8 29), .lit (.int .u8 17), .lit (.int .u8 4), .lit (.int .u8 62), .lit (.int .u8 47), .lit (.int .u8 59), .lit (.int .u8 36), .lit (.int .u8 45), .lit (.int .u8 43), .lit (.int .u8 51), .lit (.int .u8 22), .lit (.int .u8 53), .lit (.int .u8 39), .lit (.int .u8 33), .lit (.int .u8 30), .lit (.int .u8 24), .lit (.int .u8 18), .lit (.int .u8 12), .lit (.int .u8 5), .lit (.int .u8 63), .lit (.int .u8 55), .lit (.int .u8 48), .lit (.int .u8 27), .lit (.int .u8 60), .lit (.int .u8 41), .lit (.int .u8 37), .lit (.int .u8 16), .lit (.int .u8 46), .lit (.int .u8 35), .lit (.int .u8 44), .lit (.int .u8 21), .lit (.int .u8 52), .lit (.int .u8 32), .lit (.int .u8 23), .lit (.int .u8 11), .lit (.int .u8 54), .lit (.int .u8 26), .lit (.int .u8 40), .lit (.int .u8 15), .lit (.int .u8 34), .lit (.int .u8 20), .lit (.int .u8 31), .lit (.int .u8 10), .lit (.int .u8 25), .lit (.int .u8 14), .lit (.int .u8 19), .lit (.int .u8 9), .lit (.int .u8 13), .lit (.int .u8 8), .lit (.int .u8 7), .lit (.int .u8 6)]
def laid_internal_strconv_uint64pow10 {H : Type} : DataW H := .agg [.lit (.int .u64 1), .lit (.int .u64 10), .lit (.int .u64 100), .lit (.int .u64 1000), .lit (.int .u64 10000), .lit (.int .u64 100000), .lit (.int .u64 1000000), .lit (.int .u64 10000000), .lit (.int .u64 100000000), .lit (.int .u64 1000000000), .lit (.int .u64 10000000000), .lit (.int .u64 100000000000), .lit (.int .u64 1000000000000), .lit (.int .u64 10000000000000), .lit (.int .u64 100000000000000), .lit (.int .u64 1000000000000000), .lit (.int .u64 10000000000000000), .lit (.int .u64 100000000000000000), .lit (.int .u64 1000000000000000000), .lit (.int .u64 10000000000000000000)]
def laid_errors_errorType {H : Type} : DataW H := .iface "internal/reflectlite.rtype" (.agg [.ptr (.lit (.string [101, 114, 114, 111, 114]))])
def laid_unicode_utf8_acceptRanges {H : Type} : DataW H := .agg [.agg [.lit (.int .u8 128), .lit (.int .u8 191)], .agg [.lit (.int .u8 160), .lit (.int .u8 191)], .agg [.lit (.int .u8 128), .lit (.int .u8 159)], .agg [.lit (.int .u8 144), .lit (.int .u8 191)], .agg [.lit (.int .u8 128), .lit (.int .u8 143)], .agg [.lit (.int .u8 0), .lit (.int .u8 0)], .agg [.lit (.int .u8 0), .lit (.int .u8 0)], .agg [.lit (.int .u8 0), .lit (.int .u8 0)], .agg [.lit (.int .u8 0), .lit (.int .u8 0)], .agg [.lit (.int .u8 0), .lit (.int .u8 0)], .agg [.lit (.int .u8 0), .lit (.int .u8 0)], .agg [.lit (.int .u8 0), .lit (.int .u8 0)], .agg [.lit (.int .u8 0), .lit (.int .u8 0)], .agg [.lit (.int .u8 0), .lit (.int .u8 0)], .agg [.lit (.int .u8 0), .lit (.int .u8 0)], .agg [.lit (.int .u8 0), .lit (.int .u8 0)]]
def laid_strconv_ErrRange {H : Type} : DataW H := .iface "*errors.errorString" (.ptr (.agg [.lit (.string [118, 97, 108, 117, 101, 32, 111, 117, 116, 32, 111, 102, 32, 114, 97, 110, 103, 101])]))
def laid_strconv_ErrSyntax {H : Type} : DataW H := .iface "*errors.errorString" (.ptr (.agg [.lit (.string [105, 110, 118, 97, 108, 105, 100, 32, 115, 121, 110, 116, 97, 120])]))
/-- One of Go's own tables, pinned by name: the form's constant. -/
def laid_unicode_utf8_first : DataW Unit := Go.Pinned.utf8First

/-- 'redpenlaw20.ShowNames': WHATEVER THE INPUT: true; the input reads as it did. -/
def showNamesSpec : ChangeSpec := { name := "showNames", fn := fun _ => fun
  | [d] => { results := [.lit (.bool true)], args := [d] }
  | _ => none }
def showNamesRow : OpenClaim := { program := "ytjabpbnlpljlkaadoor", sum := "7437111c77b67b7f8cddc2dfed3fe3f99707fd99f983ce44b09e5f43f5af6704", func := "redpen/redpenlaw20.ShowNames", spec := "showNames", named := ["internal/strconv.uint64pow10", "math/bits.deBruijn32tab", "math/bits.deBruijn64tab"], apart := false, laid := [("math/bits.deBruijn32tab", laid_math_bits_deBruijn32tab), ("math/bits.deBruijn64tab", laid_math_bits_deBruijn64tab), ("internal/strconv.uint64pow10", laid_internal_strconv_uint64pow10)] }
def ShowNamesSaid : Prop := showNamesRow.holds Tryd.pinned (OpenSpec.ofChange showNamesSpec)

/-- ITS FALSE NEIGHBOUR: 'it returns false'. Refute it at one input. -/
def showNamesWrong : ChangeSpec := { name := "showNames", fn := fun _ => fun
  | [d] => { results := [.lit (.bool false)], args := [d] }
  | _ => none }
def ShowNamesWrongFalsely : Prop := showNamesRow.holds Tryd.pinned (OpenSpec.ofChange showNamesWrong)

/-- 'redpenlaw20.ShowChecks': WHATEVER THE INPUT: true; the input reads as it did. -/
def showChecksSpec : ChangeSpec := { name := "showChecks", fn := fun _ => fun
  | [d1, d2, d3, d4] => { results := [.lit (.bool true)], args := [d1, d2, d3, d4] }
  | _ => none }
def showChecksRow : OpenClaim := { program := "ytjabpbnlpljlkaadoor", sum := "7437111c77b67b7f8cddc2dfed3fe3f99707fd99f983ce44b09e5f43f5af6704", func := "redpen/redpenlaw20.ShowChecks", spec := "showChecks", inPlace := ["internal/bytealg.IndexByteString"], named := ["internal/strconv.uint64pow10", "math/bits.deBruijn32tab", "math/bits.deBruijn64tab"], apart := false, laid := [("math/bits.deBruijn32tab", laid_math_bits_deBruijn32tab), ("math/bits.deBruijn64tab", laid_math_bits_deBruijn64tab), ("internal/strconv.uint64pow10", laid_internal_strconv_uint64pow10)] }
def ShowChecksSaid : Prop := showChecksRow.holds Tryd.pinned (OpenSpec.ofChange showChecksSpec)

/-- ITS FALSE NEIGHBOUR: 'it returns false'. Refute it at one input. -/
def showChecksWrong : ChangeSpec := { name := "showChecks", fn := fun _ => fun
  | [d1, d2, d3, d4] => { results := [.lit (.bool false)], args := [d1, d2, d3, d4] }
  | _ => none }
def ShowChecksWrongFalsely : Prop := showChecksRow.holds Tryd.pinned (OpenSpec.ofChange showChecksWrong)

/-- 'redpenlaw20.ShowPrints': WHATEVER THE INPUT: true; the input reads as it did. -/
def showPrintsSpec : ChangeSpec := { name := "showPrints", fn := fun _ => fun
  | [d1, d2, d3] => { results := [.lit (.bool true)], args := [d1, d2, d3] }
  | _ => none }
def showPrintsRow : OpenClaim := { program := "ytjabpbnlpljlkaadoor", sum := "7437111c77b67b7f8cddc2dfed3fe3f99707fd99f983ce44b09e5f43f5af6704", func := "redpen/redpenlaw20.ShowPrints", spec := "showPrints", inPlace := ["internal/abi.NoEscape", "internal/bytealg.IndexByteString"], recurses := true, named := ["internal/strconv.uint64pow10", "math/bits.deBruijn32tab", "math/bits.deBruijn64tab"], apart := false, laid := [("math/bits.deBruijn32tab", laid_math_bits_deBruijn32tab), ("math/bits.deBruijn64tab", laid_math_bits_deBruijn64tab), ("internal/strconv.uint64pow10", laid_internal_strconv_uint64pow10)] }
def ShowPrintsSaid : Prop := showPrintsRow.holds Tryd.pinned (OpenSpec.ofChange showPrintsSpec)

/-- ITS FALSE NEIGHBOUR: 'it returns false'. Refute it at one input. -/
def showPrintsWrong : ChangeSpec := { name := "showPrints", fn := fun _ => fun
  | [d1, d2, d3] => { results := [.lit (.bool false)], args := [d1, d2, d3] }
  | _ => none }
def ShowPrintsWrongFalsely : Prop := showPrintsRow.holds Tryd.pinned (OpenSpec.ofChange showPrintsWrong)

/-- 'redpenlaw20.ShowMade': WHATEVER THE INPUT: true; the input reads as it did. -/
def showMadeSpec : ChangeSpec := { name := "showMade", fn := fun _ => fun
  | [d1, d2, d3, d4, d5] => { results := [.lit (.bool true)], args := [d1, d2, d3, d4, d5] }
  | _ => none }
def showMadeRow : OpenClaim := { program := "ytjabpbnlpljlkaadoor", sum := "7437111c77b67b7f8cddc2dfed3fe3f99707fd99f983ce44b09e5f43f5af6704", func := "redpen/redpenlaw20.ShowMade", spec := "showMade", inPlace := ["internal/bytealg.IndexByteString", "internal/abi.NoEscape"], unfollowed := true, recurses := true, named := ["internal/strconv.uint64pow10", "math/bits.deBruijn32tab", "math/bits.deBruijn64tab"], apart := false, laid := [("math/bits.deBruijn32tab", laid_math_bits_deBruijn32tab), ("math/bits.deBruijn64tab", laid_math_bits_deBruijn64tab), ("internal/strconv.uint64pow10", laid_internal_strconv_uint64pow10)] }
def ShowMadeSaid : Prop := showMadeRow.holds Tryd.pinned (OpenSpec.ofChange showMadeSpec)

/-- ITS FALSE NEIGHBOUR: 'it returns false'. Refute it at one input. -/
def showMadeWrong : ChangeSpec := { name := "showMade", fn := fun _ => fun
  | [d1, d2, d3, d4, d5] => { results := [.lit (.bool false)], args := [d1, d2, d3, d4, d5] }
  | _ => none }
def ShowMadeWrongFalsely : Prop := showMadeRow.holds Tryd.pinned (OpenSpec.ofChange showMadeWrong)

/-- 'redpenlaw20.ShowRefuses': WHATEVER THE INPUT: true; the input reads as it did. -/
def showRefusesSpec : ChangeSpec := { name := "showRefuses", fn := fun _ => fun
  | [d1, d2, d3, d4, d5, d6] => { results := [.lit (.bool true)], args := [d1, d2, d3, d4, d5, d6] }
  | _ => none }
def showRefusesRow : OpenClaim := { program := "ytjabpbnlpljlkaadoor", sum := "7437111c77b67b7f8cddc2dfed3fe3f99707fd99f983ce44b09e5f43f5af6704", func := "redpen/redpenlaw20.ShowRefuses", spec := "showRefuses", inPlace := ["internal/abi.NoEscape", "internal/bytealg.IndexByteString"], unfollowed := true, recurses := true, named := ["internal/strconv.uint64pow10", "math/bits.deBruijn32tab", "math/bits.deBruijn64tab"], apart := false, laid := [("math/bits.deBruijn32tab", laid_math_bits_deBruijn32tab), ("math/bits.deBruijn64tab", laid_math_bits_deBruijn64tab), ("internal/strconv.uint64pow10", laid_internal_strconv_uint64pow10)] }
def ShowRefusesSaid : Prop := showRefusesRow.holds Tryd.pinned (OpenSpec.ofChange showRefusesSpec)

/-- ITS FALSE NEIGHBOUR: 'it returns false'. Refute it at one input. -/
def showRefusesWrong : ChangeSpec := { name := "showRefuses", fn := fun _ => fun
  | [d1, d2, d3, d4, d5, d6] => { results := [.lit (.bool false)], args := [d1, d2, d3, d4, d5, d6] }
  | _ => none }
def ShowRefusesWrongFalsely : Prop := showRefusesRow.holds Tryd.pinned (OpenSpec.ofChange showRefusesWrong)

/-- 'redpenlaw21.UnifyOther': WHATEVER THE INPUT: true; the input reads as it did. -/
def unifyOtherSpec : ChangeSpec := { name := "unifyOther", fn := fun _ => fun
  | [d1, d2, d3, d4, d5, d6] => { results := [.lit (.bool true)], args := [d1, d2, d3, d4, d5, d6] }
  | _ => none }
def unifyOtherRow : OpenClaim := { program := "ytjabpbnlpljlkaadoor", sum := "7437111c77b67b7f8cddc2dfed3fe3f99707fd99f983ce44b09e5f43f5af6704", func := "redpen/redpenlaw21.UnifyOther", spec := "unifyOther", inPlace := ["internal/bytealg.IndexByteString", "internal/abi.NoEscape", "internal/bytealg.MakeNoZero", "internal/reflectlite.ValueOf", "(internal/reflectlite.Value).Type", "(internal/reflectlite.Value).IsNil", "internal/reflectlite.TypeOf", "(internal/reflectlite.Value).Elem", "(internal/reflectlite.Value).Set"], unfollowed := true, recurses := true, named := ["errors.errorType"], apart := false, laid := [("errors.errorType", laid_errors_errorType)] }
def UnifyOtherSaid : Prop := unifyOtherRow.holds Tryd.pinned (OpenSpec.ofChange unifyOtherSpec)

/-- ITS FALSE NEIGHBOUR: 'it returns false'. Refute it at one input. -/
def unifyOtherWrong : ChangeSpec := { name := "unifyOther", fn := fun _ => fun
  | [d1, d2, d3, d4, d5, d6] => { results := [.lit (.bool false)], args := [d1, d2, d3, d4, d5, d6] }
  | _ => none }
def UnifyOtherWrongFalsely : Prop := unifyOtherRow.holds Tryd.pinned (OpenSpec.ofChange unifyOtherWrong)

/-- 'redpenlaw21.UnifyApplies': WHATEVER THE INPUT: true; the input reads as it did. -/
def unifyAppliesSpec : ChangeSpec := { name := "unifyApplies", fn := fun _ => fun
  | [d1, d2, d3, d4, d5, d6, d7, d8] => { results := [.lit (.bool true)], args := [d1, d2, d3, d4, d5, d6, d7, d8] }
  | _ => none }
def unifyAppliesRow : OpenClaim := { program := "ytjabpbnlpljlkaadoor", sum := "7437111c77b67b7f8cddc2dfed3fe3f99707fd99f983ce44b09e5f43f5af6704", func := "redpen/redpenlaw21.UnifyApplies", spec := "unifyApplies", inPlace := ["internal/bytealg.IndexByteString", "internal/abi.NoEscape", "internal/bytealg.MakeNoZero", "internal/reflectlite.ValueOf", "(internal/reflectlite.Value).Type", "(internal/reflectlite.Value).IsNil", "internal/reflectlite.TypeOf", "(internal/reflectlite.Value).Elem", "(internal/reflectlite.Value).Set"], unfollowed := true, recurses := true, named := ["errors.errorType"], apart := false, laid := [("errors.errorType", laid_errors_errorType)] }
def UnifyAppliesSaid : Prop := unifyAppliesRow.holds Tryd.pinned (OpenSpec.ofChange unifyAppliesSpec)

/-- ITS FALSE NEIGHBOUR: 'it returns false'. Refute it at one input. -/
def unifyAppliesWrong : ChangeSpec := { name := "unifyApplies", fn := fun _ => fun
  | [d1, d2, d3, d4, d5, d6, d7, d8] => { results := [.lit (.bool false)], args := [d1, d2, d3, d4, d5, d6, d7, d8] }
  | _ => none }
def UnifyAppliesWrongFalsely : Prop := unifyAppliesRow.holds Tryd.pinned (OpenSpec.ofChange unifyAppliesWrong)

/-- 'redpenlaw21.UnifyNone': WHATEVER THE INPUT: true; the input reads as it did. -/
def unifyNoneSpec : ChangeSpec := { name := "unifyNone", fn := fun _ => fun
  | [d] => { results := [.lit (.bool true)], args := [d] }
  | _ => none }
def unifyNoneRow : OpenClaim := { program := "ytjabpbnlpljlkaadoor", sum := "7437111c77b67b7f8cddc2dfed3fe3f99707fd99f983ce44b09e5f43f5af6704", func := "redpen/redpenlaw21.UnifyNone", spec := "unifyNone", inPlace := ["internal/bytealg.IndexByteString", "internal/abi.NoEscape", "internal/bytealg.MakeNoZero", "internal/bytealg.CountString", "internal/bytealg.IndexString"], unfollowed := true, recurses := true, named := ["unicode/utf8.first", "unicode/utf8.acceptRanges", "internal/bytealg.MaxLen", "strconv.ErrSyntax", "strconv.ErrRange", "internal/strconv.uint64pow10", "math/bits.deBruijn32tab", "math/bits.deBruijn64tab"], apart := false, laid := [("math/bits.deBruijn32tab", laid_math_bits_deBruijn32tab), ("math/bits.deBruijn64tab", laid_math_bits_deBruijn64tab), ("internal/strconv.uint64pow10", laid_internal_strconv_uint64pow10), ("unicode/utf8.acceptRanges", laid_unicode_utf8_acceptRanges), ("strconv.ErrRange", laid_strconv_ErrRange), ("strconv.ErrSyntax", laid_strconv_ErrSyntax), ("unicode/utf8.first", laid_unicode_utf8_first)] }
def UnifyNoneSaid : Prop := unifyNoneRow.holds Tryd.pinned (OpenSpec.ofChange unifyNoneSpec)

/-- ITS FALSE NEIGHBOUR: 'it returns false'. Refute it at one input. -/
def unifyNoneWrong : ChangeSpec := { name := "unifyNone", fn := fun _ => fun
  | [d] => { results := [.lit (.bool false)], args := [d] }
  | _ => none }
def UnifyNoneWrongFalsely : Prop := unifyNoneRow.holds Tryd.pinned (OpenSpec.ofChange unifyNoneWrong)

/-- 'redpenlaw21.UnifyBack': WHATEVER THE INPUT: true; the input reads as it did. -/
def unifyBackSpec : ChangeSpec := { name := "unifyBack", fn := fun _ => fun
  | [d1, d2, d3, d4, d5, d6] => { results := [.lit (.bool true)], args := [d1, d2, d3, d4, d5, d6] }
  | _ => none }
def unifyBackRow : OpenClaim := { program := "ytjabpbnlpljlkaadoor", sum := "7437111c77b67b7f8cddc2dfed3fe3f99707fd99f983ce44b09e5f43f5af6704", func := "redpen/redpenlaw21.UnifyBack", spec := "unifyBack", inPlace := ["internal/bytealg.IndexByteString", "internal/abi.NoEscape", "internal/bytealg.MakeNoZero", "internal/bytealg.CountString", "internal/bytealg.IndexString"], unfollowed := true, recurses := true, named := ["internal/strconv.uint64pow10", "math/bits.deBruijn32tab", "math/bits.deBruijn64tab", "unicode/utf8.first", "unicode/utf8.acceptRanges", "internal/bytealg.MaxLen", "strconv.ErrSyntax", "strconv.ErrRange"], apart := false, laid := [("math/bits.deBruijn32tab", laid_math_bits_deBruijn32tab), ("math/bits.deBruijn64tab", laid_math_bits_deBruijn64tab), ("internal/strconv.uint64pow10", laid_internal_strconv_uint64pow10), ("unicode/utf8.acceptRanges", laid_unicode_utf8_acceptRanges), ("strconv.ErrRange", laid_strconv_ErrRange), ("strconv.ErrSyntax", laid_strconv_ErrSyntax), ("unicode/utf8.first", laid_unicode_utf8_first)] }
def UnifyBackSaid : Prop := unifyBackRow.holds Tryd.pinned (OpenSpec.ofChange unifyBackSpec)

/-- ITS FALSE NEIGHBOUR: 'it returns false'. Refute it at one input. -/
def unifyBackWrong : ChangeSpec := { name := "unifyBack", fn := fun _ => fun
  | [d1, d2, d3, d4, d5, d6] => { results := [.lit (.bool false)], args := [d1, d2, d3, d4, d5, d6] }
  | _ => none }
def UnifyBackWrongFalsely : Prop := unifyBackRow.holds Tryd.pinned (OpenSpec.ofChange unifyBackWrong)

/- THE SECOND FORM. 'bulk': how many values and letters a reading holds, each counted each time it is reached (what is shared counts as often as it is met; a slice's spare places count too). A statement '..UptoSaid' is the law's where the arguments, and the package variables that the reading takes, are together of bulk at most 1048576: NARROWER than '..Said'. Prove '..Said' where nothing that the law and all that it calls make is longer than what came in: it says more and counts as full. Else prove '..UptoSaid'. A law counts once. -/
mutual
def uptoBulk {H : Type} : DataW H → Nat
  | .lit (.string bytes) => bytes.length + 1
  | .lit _ => 1
  | .nil => 1
  | .ptr d => uptoBulk d + 1
  | .slice elems spare => uptoBulkAll elems + uptoBulkAll spare + 1
  | .agg parts => uptoBulkAll parts + 1
  | .iface _ d => uptoBulk d + 1
  | .map entries => uptoBulkEntries entries + 1
  | .held _ => 1
def uptoBulkAll {H : Type} : List (DataW H) → Nat
  | [] => 0
  | d :: r => uptoBulk d + uptoBulkAll r
def uptoBulkEntries {H : Type} : List (Lit × DataW H) → Nat
  | [] => 0
  | x :: r => uptoBulkEntry x + uptoBulkEntries r
def uptoBulkEntry {H : Type} : Lit × DataW H → Nat
  | (.string bytes, d) => bytes.length + uptoBulk d + 1
  | (_, d) => uptoBulk d + 1
 end
def uptoSmall : (H : Type) → List (DataW H) → Bool := fun _ ds => decide (uptoBulkAll ds ≤ 1048576)
def OpenSpec.upto (s : _root_.Go.ChangeSpec) : _root_.Go.OpenSpec := { _root_.Go.OpenSpec.ofChange s with cond := some uptoSmall }

/-- 'redpenlaw20.ShowNames', WHERE WHAT IT READS IS OF BULK AT MOST 1048576: true; the input reads as it did. -/
def showNamesUptoRow : OpenClaim := { program := "ytjabpbnlpljlkaadoor", sum := "7437111c77b67b7f8cddc2dfed3fe3f99707fd99f983ce44b09e5f43f5af6704", func := "redpen/redpenlaw20.ShowNames", spec := "showNames", named := ["internal/strconv.uint64pow10", "math/bits.deBruijn32tab", "math/bits.deBruijn64tab"], apart := false, laid := [("math/bits.deBruijn32tab", laid_math_bits_deBruijn32tab), ("math/bits.deBruijn64tab", laid_math_bits_deBruijn64tab), ("internal/strconv.uint64pow10", laid_internal_strconv_uint64pow10)], narrowed := true }
def ShowNamesUptoSaid : Prop := showNamesUptoRow.holds Tryd.pinned (OpenSpec.upto showNamesSpec)

/-- 'redpenlaw20.ShowChecks', WHERE WHAT IT READS IS OF BULK AT MOST 1048576: true; the input reads as it did. -/
def showChecksUptoRow : OpenClaim := { program := "ytjabpbnlpljlkaadoor", sum := "7437111c77b67b7f8cddc2dfed3fe3f99707fd99f983ce44b09e5f43f5af6704", func := "redpen/redpenlaw20.ShowChecks", spec := "showChecks", inPlace := ["internal/bytealg.IndexByteString"], named := ["internal/strconv.uint64pow10", "math/bits.deBruijn32tab", "math/bits.deBruijn64tab"], apart := false, laid := [("math/bits.deBruijn32tab", laid_math_bits_deBruijn32tab), ("math/bits.deBruijn64tab", laid_math_bits_deBruijn64tab), ("internal/strconv.uint64pow10", laid_internal_strconv_uint64pow10)], narrowed := true }
def ShowChecksUptoSaid : Prop := showChecksUptoRow.holds Tryd.pinned (OpenSpec.upto showChecksSpec)

/-- 'redpenlaw20.ShowPrints', WHERE WHAT IT READS IS OF BULK AT MOST 1048576: true; the input reads as it did. -/
def showPrintsUptoRow : OpenClaim := { program := "ytjabpbnlpljlkaadoor", sum := "7437111c77b67b7f8cddc2dfed3fe3f99707fd99f983ce44b09e5f43f5af6704", func := "redpen/redpenlaw20.ShowPrints", spec := "showPrints", inPlace := ["internal/abi.NoEscape", "internal/bytealg.IndexByteString"], recurses := true, named := ["internal/strconv.uint64pow10", "math/bits.deBruijn32tab", "math/bits.deBruijn64tab"], apart := false, laid := [("math/bits.deBruijn32tab", laid_math_bits_deBruijn32tab), ("math/bits.deBruijn64tab", laid_math_bits_deBruijn64tab), ("internal/strconv.uint64pow10", laid_internal_strconv_uint64pow10)], narrowed := true }
def ShowPrintsUptoSaid : Prop := showPrintsUptoRow.holds Tryd.pinned (OpenSpec.upto showPrintsSpec)

/-- 'redpenlaw20.ShowMade', WHERE WHAT IT READS IS OF BULK AT MOST 1048576: true; the input reads as it did. -/
def showMadeUptoRow : OpenClaim := { program := "ytjabpbnlpljlkaadoor", sum := "7437111c77b67b7f8cddc2dfed3fe3f99707fd99f983ce44b09e5f43f5af6704", func := "redpen/redpenlaw20.ShowMade", spec := "showMade", inPlace := ["internal/bytealg.IndexByteString", "internal/abi.NoEscape"], unfollowed := true, recurses := true, named := ["internal/strconv.uint64pow10", "math/bits.deBruijn32tab", "math/bits.deBruijn64tab"], apart := false, laid := [("math/bits.deBruijn32tab", laid_math_bits_deBruijn32tab), ("math/bits.deBruijn64tab", laid_math_bits_deBruijn64tab), ("internal/strconv.uint64pow10", laid_internal_strconv_uint64pow10)], narrowed := true }
def ShowMadeUptoSaid : Prop := showMadeUptoRow.holds Tryd.pinned (OpenSpec.upto showMadeSpec)

/-- 'redpenlaw20.ShowRefuses', WHERE WHAT IT READS IS OF BULK AT MOST 1048576: true; the input reads as it did. -/
def showRefusesUptoRow : OpenClaim := { program := "ytjabpbnlpljlkaadoor", sum := "7437111c77b67b7f8cddc2dfed3fe3f99707fd99f983ce44b09e5f43f5af6704", func := "redpen/redpenlaw20.ShowRefuses", spec := "showRefuses", inPlace := ["internal/abi.NoEscape", "internal/bytealg.IndexByteString"], unfollowed := true, recurses := true, named := ["internal/strconv.uint64pow10", "math/bits.deBruijn32tab", "math/bits.deBruijn64tab"], apart := false, laid := [("math/bits.deBruijn32tab", laid_math_bits_deBruijn32tab), ("math/bits.deBruijn64tab", laid_math_bits_deBruijn64tab), ("internal/strconv.uint64pow10", laid_internal_strconv_uint64pow10)], narrowed := true }
def ShowRefusesUptoSaid : Prop := showRefusesUptoRow.holds Tryd.pinned (OpenSpec.upto showRefusesSpec)

/-- 'redpenlaw21.UnifyOther', WHERE WHAT IT READS IS OF BULK AT MOST 1048576: true; the input reads as it did. -/
def unifyOtherUptoRow : OpenClaim := { program := "ytjabpbnlpljlkaadoor", sum := "7437111c77b67b7f8cddc2dfed3fe3f99707fd99f983ce44b09e5f43f5af6704", func := "redpen/redpenlaw21.UnifyOther", spec := "unifyOther", inPlace := ["internal/bytealg.IndexByteString", "internal/abi.NoEscape", "internal/bytealg.MakeNoZero", "internal/reflectlite.ValueOf", "(internal/reflectlite.Value).Type", "(internal/reflectlite.Value).IsNil", "internal/reflectlite.TypeOf", "(internal/reflectlite.Value).Elem", "(internal/reflectlite.Value).Set"], unfollowed := true, recurses := true, named := ["errors.errorType"], apart := false, laid := [("errors.errorType", laid_errors_errorType)], narrowed := true }
def UnifyOtherUptoSaid : Prop := unifyOtherUptoRow.holds Tryd.pinned (OpenSpec.upto unifyOtherSpec)

/-- 'redpenlaw21.UnifyApplies', WHERE WHAT IT READS IS OF BULK AT MOST 1048576: true; the input reads as it did. -/
def unifyAppliesUptoRow : OpenClaim := { program := "ytjabpbnlpljlkaadoor", sum := "7437111c77b67b7f8cddc2dfed3fe3f99707fd99f983ce44b09e5f43f5af6704", func := "redpen/redpenlaw21.UnifyApplies", spec := "unifyApplies", inPlace := ["internal/bytealg.IndexByteString", "internal/abi.NoEscape", "internal/bytealg.MakeNoZero", "internal/reflectlite.ValueOf", "(internal/reflectlite.Value).Type", "(internal/reflectlite.Value).IsNil", "internal/reflectlite.TypeOf", "(internal/reflectlite.Value).Elem", "(internal/reflectlite.Value).Set"], unfollowed := true, recurses := true, named := ["errors.errorType"], apart := false, laid := [("errors.errorType", laid_errors_errorType)], narrowed := true }
def UnifyAppliesUptoSaid : Prop := unifyAppliesUptoRow.holds Tryd.pinned (OpenSpec.upto unifyAppliesSpec)

/-- 'redpenlaw21.UnifyNone', WHERE WHAT IT READS IS OF BULK AT MOST 1048576: true; the input reads as it did. -/
def unifyNoneUptoRow : OpenClaim := { program := "ytjabpbnlpljlkaadoor", sum := "7437111c77b67b7f8cddc2dfed3fe3f99707fd99f983ce44b09e5f43f5af6704", func := "redpen/redpenlaw21.UnifyNone", spec := "unifyNone", inPlace := ["internal/bytealg.IndexByteString", "internal/abi.NoEscape", "internal/bytealg.MakeNoZero", "internal/bytealg.CountString", "internal/bytealg.IndexString"], unfollowed := true, recurses := true, named := ["unicode/utf8.first", "unicode/utf8.acceptRanges", "internal/bytealg.MaxLen", "strconv.ErrSyntax", "strconv.ErrRange", "internal/strconv.uint64pow10", "math/bits.deBruijn32tab", "math/bits.deBruijn64tab"], apart := false, laid := [("math/bits.deBruijn32tab", laid_math_bits_deBruijn32tab), ("math/bits.deBruijn64tab", laid_math_bits_deBruijn64tab), ("internal/strconv.uint64pow10", laid_internal_strconv_uint64pow10), ("unicode/utf8.acceptRanges", laid_unicode_utf8_acceptRanges), ("strconv.ErrRange", laid_strconv_ErrRange), ("strconv.ErrSyntax", laid_strconv_ErrSyntax), ("unicode/utf8.first", laid_unicode_utf8_first)], narrowed := true }
def UnifyNoneUptoSaid : Prop := unifyNoneUptoRow.holds Tryd.pinned (OpenSpec.upto unifyNoneSpec)

/-- 'redpenlaw21.UnifyBack', WHERE WHAT IT READS IS OF BULK AT MOST 1048576: true; the input reads as it did. -/
def unifyBackUptoRow : OpenClaim := { program := "ytjabpbnlpljlkaadoor", sum := "7437111c77b67b7f8cddc2dfed3fe3f99707fd99f983ce44b09e5f43f5af6704", func := "redpen/redpenlaw21.UnifyBack", spec := "unifyBack", inPlace := ["internal/bytealg.IndexByteString", "internal/abi.NoEscape", "internal/bytealg.MakeNoZero", "internal/bytealg.CountString", "internal/bytealg.IndexString"], unfollowed := true, recurses := true, named := ["internal/strconv.uint64pow10", "math/bits.deBruijn32tab", "math/bits.deBruijn64tab", "unicode/utf8.first", "unicode/utf8.acceptRanges", "internal/bytealg.MaxLen", "strconv.ErrSyntax", "strconv.ErrRange"], apart := false, laid := [("math/bits.deBruijn32tab", laid_math_bits_deBruijn32tab), ("math/bits.deBruijn64tab", laid_math_bits_deBruijn64tab), ("internal/strconv.uint64pow10", laid_internal_strconv_uint64pow10), ("unicode/utf8.acceptRanges", laid_unicode_utf8_acceptRanges), ("strconv.ErrRange", laid_strconv_ErrRange), ("strconv.ErrSyntax", laid_strconv_ErrSyntax), ("unicode/utf8.first", laid_unicode_utf8_first)], narrowed := true }
def UnifyBackUptoSaid : Prop := unifyBackUptoRow.holds Tryd.pinned (OpenSpec.upto unifyBackSpec)

end Rows
end Go.Proofs.YtjabpbnlpljlkaaDoor
