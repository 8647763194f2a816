/-
  NARROWER THAN 'FOR EVERY INPUT', by the rows' own cells (each row's printed sentence says how): DecodeOnes: laid · DecodeCover: laid · DecodeUnits: laid · DecodeBack: laid · DecodeLiteral: laid · TokenWords: laid.
  DERIVED. THE GIVEN ROWS OF THIS SEAT. 6 by the template 'for every input the law returns true; each argument reads behind the call as it read before'; 0 by the template 'total and deterministic' (their statements: YtekalnhackjldaaDoorTotals.lean).
  GIVEN WITH THE SEED: the statements are not yours to turn. If you find one false, say at which input.
  Laid BY PROGRAM, IN A SANDBOX (cutbox-rows.mjs): the forced cells as the released guide's own fill.sh prints them over the translation 8c8b32e3435ba5d3… (all of the seat's roots in one cut). By AI agents, Wed Nov 11 2026. No macro, syntax, notation, axiom, sorry.
-/
import Derived.Test.YtekalnhackjldaaDoorChecked
import GoSem.Claim
import GoSem.ClaimJoined
import GoSem.ClaimMapViews
import Derived.JoinedTies
import Derived.KernelRfl
namespace Go.Proofs.YtekalnhackjldaaDoor
/- THE CELL 'sum', in the pinned program and in every row, IS THE sha256 OF THE DUMP (.gsa) THAT YtekalnhackjldaaDoorProg.lean LOADS. Nothing in Lean hashes anything: it is a label: what it is worth is what the hold of that sum in a sandbox is worth. -/
noncomputable def Tryd.pinned : Pinned := { name := "ytekalnhackjldaadoor", sum := "8c8b32e3435ba5d314347a30eae07823d4de52970fc5e7d60b876a02c261ea49", checked := Tryd.checked }
namespace Rows
def none {H : Type} : Left H := { results := [], args := [] }

/- WHAT THE LISTED PACKAGE-LEVEL VARIABLES READ AS WHEN THE CALL BEGINS. Each datum BY PROGRAM (the guide's laid-datum.mjs) off the statement by which the dump's own 'gosem.cut.vars' lays the variable. In a bare row this is a premise. The card (YtekalnhackjldaaDoorCards.lean) ties it to the program's text. -/
def laid_math_bits_deBruijn32tab {H : Type} : DataW H := .agg [.lit (.int .u8 0), .lit (.int .u8 1), .lit (.int .u8 28), .lit (.int .u8 2), .lit (.int .u8 29), .lit (.int .u8 14), .lit (.int .u8 24), .lit (.int .u8 3), .lit (.int .u8 30), .lit (.int .u8 22), .lit (.int .u8 20), .lit (.int .u8 15), .lit (.int .u8 25), .lit (.int .u8 17), .lit (.int .u8 4), .lit (.int .u8 8), .lit (.int .u8 31), .lit (.int .u8 27), .lit (.int .u8 13), .lit (.int .u8 23), .lit (.int .u8 21), .lit (.int .u8 19), .lit (.int .u8 16), .lit (.int .u8 7), .lit (.int .u8 26), .lit (.int .u8 12), .lit (.int .u8 18), .lit (.int .u8 6), .lit (.int .u8 11), .lit (.int .u8 5), .lit (.int .u8 10), .lit (.int .u8 9)]
def laid_math_bits_deBruijn64tab {H : Type} : DataW H := .agg [.lit (.int .u8 0), .lit (.int .u8 1), .lit (.int .u8 56), .lit (.int .u8 2), .lit (.int .u8 57), .lit (.int .u8 49), .lit (.int .u8 28), .lit (.int .u8 3), .lit (.int .u8 61), .lit (.int .u8 58), .lit (.int .u8 42), .lit (.int .u8 50), .lit (.int .u8 38), .lit (.int .u8 29), .lit (.int .u8 17), .lit (.int .u8 4), .lit (.int .u8 62), .lit (.int .u8 47), .lit (.int .u8 59), .lit (.int .u8 36), .lit (.int .u8 45), .lit (.int .u8 43), .lit (.int .u8 51), .lit (.int .u8 22), .lit (.int .u8 53), .lit (.int .u8 39), .lit (.int .u8 33), .lit (.int .u8 30), .lit (.int .u8 24), .lit (.int .u8 18), .lit (.int .u8 12), .lit (.int .u8 5), .lit (.int .u8 63), .lit (.int .u8 55), .lit (.int .u8 48), .lit (.int .u8 27), .lit (.int .u8 60), .lit (.int .u8 41), .lit (.int .u8 37), .lit (.int .u8 16), .lit (.int .u8 46), .lit (.int .u8 35), .lit (.int .u8 44), .lit (.int .u8 21), .lit (.int .u8 52), .lit (.int .u8 32), .lit (.int .u8 23), .lit (.int .u8 11), .lit (.int .u8 54), .lit (.int .u8 26), .lit (.int .u8 40), .lit (.int .u8 15), .lit (.int .u8 34), .lit (.int .u8 20), .lit (.int .u8 31), .lit (.int .u8 10), .lit (.int .u8 25), .lit (.int .u8 14), .lit (.int .u8 19), .lit (.int .u8 9), .lit (.int .u8 13), .lit (.int .u8 8), .lit (.int .u8 7), .lit (.int .u8 6)]
def laid_internal_strconv_uint64pow10 {H : Type} : DataW H := .agg [.lit (.int .u64 1), .lit (.int .u64 10), .lit (.int .u64 100), .lit (.int .u64 1000), .lit (.int .u64 10000), .lit (.int .u64 100000), .lit (.int .u64 1000000), .lit (.int .u64 10000000), .lit (.int .u64 100000000), .lit (.int .u64 1000000000), .lit (.int .u64 10000000000), .lit (.int .u64 100000000000), .lit (.int .u64 1000000000000), .lit (.int .u64 10000000000000), .lit (.int .u64 100000000000000), .lit (.int .u64 1000000000000000), .lit (.int .u64 10000000000000000), .lit (.int .u64 100000000000000000), .lit (.int .u64 1000000000000000000), .lit (.int .u64 10000000000000000000)]
def laid_strconv_ErrRange {H : Type} : DataW H := .iface "*errors.errorString" (.ptr (.agg [.lit (.string [118, 97, 108, 117, 101, 32, 111, 117, 116, 32, 111, 102, 32, 114, 97, 110, 103, 101])]))
def laid_strconv_ErrSyntax {H : Type} : DataW H := .iface "*errors.errorString" (.ptr (.agg [.lit (.string [105, 110, 118, 97, 108, 105, 100, 32, 115, 121, 110, 116, 97, 120])]))
def laid_redpen_decode_names {H : Type} : DataW H := .agg [.agg [.lit (.string [97, 109, 112]), .lit (.int .i32 38)], .agg [.lit (.string [97, 112, 111, 115]), .lit (.int .i32 39)], .agg [.lit (.string [103, 116]), .lit (.int .i32 62)], .agg [.lit (.string [108, 116]), .lit (.int .i32 60)], .agg [.lit (.string [110, 98, 115, 112]), .lit (.int .i32 160)], .agg [.lit (.string [113, 117, 111, 116]), .lit (.int .i32 34)]]

/-- 'redpenlaw15.DecodeOnes': WHATEVER THE INPUT: true; the input reads as it did. -/
def decodeOnesSpec : ChangeSpec := { name := "decodeOnes", fn := fun _ => fun
  | [d1, d2, d3] => { results := [.lit (.bool true)], args := [d1, d2, d3] }
  | _ => none }
def decodeOnesRow : OpenClaim := { program := "ytekalnhackjldaadoor", sum := "8c8b32e3435ba5d314347a30eae07823d4de52970fc5e7d60b876a02c261ea49", func := "redpen/redpenlaw15.DecodeOnes", spec := "decodeOnes", named := ["redpen/decode.names", "strconv.ErrSyntax", "strconv.ErrRange", "internal/strconv.uint64pow10", "math/bits.deBruijn32tab", "math/bits.deBruijn64tab"], apart := false, laid := [("math/bits.deBruijn32tab", laid_math_bits_deBruijn32tab), ("math/bits.deBruijn64tab", laid_math_bits_deBruijn64tab), ("internal/strconv.uint64pow10", laid_internal_strconv_uint64pow10), ("strconv.ErrRange", laid_strconv_ErrRange), ("strconv.ErrSyntax", laid_strconv_ErrSyntax), ("redpen/decode.names", laid_redpen_decode_names)] }
def DecodeOnesSaid : Prop := decodeOnesRow.holds Tryd.pinned (OpenSpec.ofChange decodeOnesSpec)

/-- ITS FALSE NEIGHBOUR: 'it returns false'. Refute it at one input. -/
def decodeOnesWrong : ChangeSpec := { name := "decodeOnes", fn := fun _ => fun
  | [d1, d2, d3] => { results := [.lit (.bool false)], args := [d1, d2, d3] }
  | _ => none }
def DecodeOnesWrongFalsely : Prop := decodeOnesRow.holds Tryd.pinned (OpenSpec.ofChange decodeOnesWrong)

/-- 'redpenlaw15.DecodeCover': WHATEVER THE INPUT: true; the input reads as it did. -/
def decodeCoverSpec : ChangeSpec := { name := "decodeCover", fn := fun _ => fun
  | [d1, d2, d3, d4] => { results := [.lit (.bool true)], args := [d1, d2, d3, d4] }
  | _ => none }
def decodeCoverRow : OpenClaim := { program := "ytekalnhackjldaadoor", sum := "8c8b32e3435ba5d314347a30eae07823d4de52970fc5e7d60b876a02c261ea49", func := "redpen/redpenlaw15.DecodeCover", spec := "decodeCover", named := ["redpen/decode.names", "strconv.ErrSyntax", "strconv.ErrRange", "internal/strconv.uint64pow10", "math/bits.deBruijn32tab", "math/bits.deBruijn64tab"], apart := false, laid := [("math/bits.deBruijn32tab", laid_math_bits_deBruijn32tab), ("math/bits.deBruijn64tab", laid_math_bits_deBruijn64tab), ("internal/strconv.uint64pow10", laid_internal_strconv_uint64pow10), ("strconv.ErrRange", laid_strconv_ErrRange), ("strconv.ErrSyntax", laid_strconv_ErrSyntax), ("redpen/decode.names", laid_redpen_decode_names)] }
def DecodeCoverSaid : Prop := decodeCoverRow.holds Tryd.pinned (OpenSpec.ofChange decodeCoverSpec)

/-- ITS FALSE NEIGHBOUR: 'it returns false'. Refute it at one input. -/
def decodeCoverWrong : ChangeSpec := { name := "decodeCover", fn := fun _ => fun
  | [d1, d2, d3, d4] => { results := [.lit (.bool false)], args := [d1, d2, d3, d4] }
  | _ => none }
def DecodeCoverWrongFalsely : Prop := decodeCoverRow.holds Tryd.pinned (OpenSpec.ofChange decodeCoverWrong)

/-- 'redpenlaw15.DecodeUnits': WHATEVER THE INPUT: true; the input reads as it did. -/
def decodeUnitsSpec : ChangeSpec := { name := "decodeUnits", fn := fun _ => fun
  | [d1, d2, d3, d4, d5, d6] => { results := [.lit (.bool true)], args := [d1, d2, d3, d4, d5, d6] }
  | _ => none }
def decodeUnitsRow : OpenClaim := { program := "ytekalnhackjldaadoor", sum := "8c8b32e3435ba5d314347a30eae07823d4de52970fc5e7d60b876a02c261ea49", func := "redpen/redpenlaw15.DecodeUnits", spec := "decodeUnits", named := ["redpen/decode.names", "strconv.ErrSyntax", "strconv.ErrRange", "internal/strconv.uint64pow10", "math/bits.deBruijn32tab", "math/bits.deBruijn64tab"], apart := false, laid := [("math/bits.deBruijn32tab", laid_math_bits_deBruijn32tab), ("math/bits.deBruijn64tab", laid_math_bits_deBruijn64tab), ("internal/strconv.uint64pow10", laid_internal_strconv_uint64pow10), ("strconv.ErrRange", laid_strconv_ErrRange), ("strconv.ErrSyntax", laid_strconv_ErrSyntax), ("redpen/decode.names", laid_redpen_decode_names)] }
def DecodeUnitsSaid : Prop := decodeUnitsRow.holds Tryd.pinned (OpenSpec.ofChange decodeUnitsSpec)

/-- ITS FALSE NEIGHBOUR: 'it returns false'. Refute it at one input. -/
def decodeUnitsWrong : ChangeSpec := { name := "decodeUnits", fn := fun _ => fun
  | [d1, d2, d3, d4, d5, d6] => { results := [.lit (.bool false)], args := [d1, d2, d3, d4, d5, d6] }
  | _ => none }
def DecodeUnitsWrongFalsely : Prop := decodeUnitsRow.holds Tryd.pinned (OpenSpec.ofChange decodeUnitsWrong)

/-- 'redpenlaw15.DecodeBack': WHATEVER THE INPUT: true; the input reads as it did. -/
def decodeBackSpec : ChangeSpec := { name := "decodeBack", fn := fun _ => fun
  | [d1, d2] => { results := [.lit (.bool true)], args := [d1, d2] }
  | _ => none }
def decodeBackRow : OpenClaim := { program := "ytekalnhackjldaadoor", sum := "8c8b32e3435ba5d314347a30eae07823d4de52970fc5e7d60b876a02c261ea49", func := "redpen/redpenlaw15.DecodeBack", spec := "decodeBack", unfollowed := true, recurses := true, named := ["redpen/decode.names", "strconv.ErrSyntax", "strconv.ErrRange", "internal/strconv.uint64pow10", "math/bits.deBruijn32tab", "math/bits.deBruijn64tab"], apart := false, laid := [("math/bits.deBruijn32tab", laid_math_bits_deBruijn32tab), ("math/bits.deBruijn64tab", laid_math_bits_deBruijn64tab), ("internal/strconv.uint64pow10", laid_internal_strconv_uint64pow10), ("strconv.ErrRange", laid_strconv_ErrRange), ("strconv.ErrSyntax", laid_strconv_ErrSyntax), ("redpen/decode.names", laid_redpen_decode_names)] }
def DecodeBackSaid : Prop := decodeBackRow.holds Tryd.pinned (OpenSpec.ofChange decodeBackSpec)

/-- ITS FALSE NEIGHBOUR: 'it returns false'. Refute it at one input. -/
def decodeBackWrong : ChangeSpec := { name := "decodeBack", fn := fun _ => fun
  | [d1, d2] => { results := [.lit (.bool false)], args := [d1, d2] }
  | _ => none }
def DecodeBackWrongFalsely : Prop := decodeBackRow.holds Tryd.pinned (OpenSpec.ofChange decodeBackWrong)

/-- 'redpenlaw15.DecodeLiteral': WHATEVER THE INPUT: true; the input reads as it did. -/
def decodeLiteralSpec : ChangeSpec := { name := "decodeLiteral", fn := fun _ => fun
  | [d1, d2] => { results := [.lit (.bool true)], args := [d1, d2] }
  | _ => none }
def decodeLiteralRow : OpenClaim := { program := "ytekalnhackjldaadoor", sum := "8c8b32e3435ba5d314347a30eae07823d4de52970fc5e7d60b876a02c261ea49", func := "redpen/redpenlaw15.DecodeLiteral", spec := "decodeLiteral", named := ["redpen/decode.names", "strconv.ErrSyntax", "strconv.ErrRange", "internal/strconv.uint64pow10", "math/bits.deBruijn32tab", "math/bits.deBruijn64tab"], apart := false, laid := [("math/bits.deBruijn32tab", laid_math_bits_deBruijn32tab), ("math/bits.deBruijn64tab", laid_math_bits_deBruijn64tab), ("internal/strconv.uint64pow10", laid_internal_strconv_uint64pow10), ("strconv.ErrRange", laid_strconv_ErrRange), ("strconv.ErrSyntax", laid_strconv_ErrSyntax), ("redpen/decode.names", laid_redpen_decode_names)] }
def DecodeLiteralSaid : Prop := decodeLiteralRow.holds Tryd.pinned (OpenSpec.ofChange decodeLiteralSpec)

/-- ITS FALSE NEIGHBOUR: 'it returns false'. Refute it at one input. -/
def decodeLiteralWrong : ChangeSpec := { name := "decodeLiteral", fn := fun _ => fun
  | [d1, d2] => { results := [.lit (.bool false)], args := [d1, d2] }
  | _ => none }
def DecodeLiteralWrongFalsely : Prop := decodeLiteralRow.holds Tryd.pinned (OpenSpec.ofChange decodeLiteralWrong)

/-- 'redpenlaw16.TokenWords': WHATEVER THE INPUT: true; the input reads as it did. -/
def tokenWordsSpec : ChangeSpec := { name := "tokenWords", fn := fun _ => fun
  | [d1, d2, d3, d4, d5, d6] => { results := [.lit (.bool true)], args := [d1, d2, d3, d4, d5, d6] }
  | _ => none }
def tokenWordsRow : OpenClaim := { program := "ytekalnhackjldaadoor", sum := "8c8b32e3435ba5d314347a30eae07823d4de52970fc5e7d60b876a02c261ea49", func := "redpen/redpenlaw16.TokenWords", spec := "tokenWords", unfollowed := true, recurses := true, named := ["redpen/decode.names", "strconv.ErrSyntax", "strconv.ErrRange", "internal/strconv.uint64pow10", "math/bits.deBruijn32tab", "math/bits.deBruijn64tab"], apart := false, laid := [("math/bits.deBruijn32tab", laid_math_bits_deBruijn32tab), ("math/bits.deBruijn64tab", laid_math_bits_deBruijn64tab), ("internal/strconv.uint64pow10", laid_internal_strconv_uint64pow10), ("strconv.ErrRange", laid_strconv_ErrRange), ("strconv.ErrSyntax", laid_strconv_ErrSyntax), ("redpen/decode.names", laid_redpen_decode_names)] }
def TokenWordsSaid : Prop := tokenWordsRow.holds Tryd.pinned (OpenSpec.ofChange tokenWordsSpec)

/-- ITS FALSE NEIGHBOUR: 'it returns false'. Refute it at one input. -/
def tokenWordsWrong : ChangeSpec := { name := "tokenWords", fn := fun _ => fun
  | [d1, d2, d3, d4, d5, d6] => { results := [.lit (.bool false)], args := [d1, d2, d3, d4, d5, d6] }
  | _ => none }
def TokenWordsWrongFalsely : Prop := tokenWordsRow.holds Tryd.pinned (OpenSpec.ofChange tokenWordsWrong)

/- THE SECOND FORM. 'bulk': how many values and letters a reading holds, each counted each time it is reached (what is shared counts as often as it is met; a slice's spare places count too). A statement '..UptoSaid' is the law's where the arguments, and the package variables that the reading takes, are together of bulk at most 1048576: NARROWER than '..Said'. Prove '..Said' where nothing that the law and all that it calls make is longer than what came in: it says more and counts as full. Else prove '..UptoSaid'. A law counts once. -/
mutual
def uptoBulk {H : Type} : DataW H → Nat
  | .lit (.string bytes) => bytes.length + 1
  | .lit _ => 1
  | .nil => 1
  | .ptr d => uptoBulk d + 1
  | .slice elems spare => uptoBulkAll elems + uptoBulkAll spare + 1
  | .agg parts => uptoBulkAll parts + 1
  | .iface _ d => uptoBulk d + 1
  | .map entries => uptoBulkEntries entries + 1
  | .held _ => 1
def uptoBulkAll {H : Type} : List (DataW H) → Nat
  | [] => 0
  | d :: r => uptoBulk d + uptoBulkAll r
def uptoBulkEntries {H : Type} : List (Lit × DataW H) → Nat
  | [] => 0
  | x :: r => uptoBulkEntry x + uptoBulkEntries r
def uptoBulkEntry {H : Type} : Lit × DataW H → Nat
  | (.string bytes, d) => bytes.length + uptoBulk d + 1
  | (_, d) => uptoBulk d + 1
 end
def uptoSmall : (H : Type) → List (DataW H) → Bool := fun _ ds => decide (uptoBulkAll ds ≤ 1048576)
def OpenSpec.upto (s : _root_.Go.ChangeSpec) : _root_.Go.OpenSpec := { _root_.Go.OpenSpec.ofChange s with cond := some uptoSmall }

/-- 'redpenlaw15.DecodeOnes', WHERE WHAT IT READS IS OF BULK AT MOST 1048576: true; the input reads as it did. -/
def decodeOnesUptoRow : OpenClaim := { program := "ytekalnhackjldaadoor", sum := "8c8b32e3435ba5d314347a30eae07823d4de52970fc5e7d60b876a02c261ea49", func := "redpen/redpenlaw15.DecodeOnes", spec := "decodeOnes", named := ["redpen/decode.names", "strconv.ErrSyntax", "strconv.ErrRange", "internal/strconv.uint64pow10", "math/bits.deBruijn32tab", "math/bits.deBruijn64tab"], apart := false, laid := [("math/bits.deBruijn32tab", laid_math_bits_deBruijn32tab), ("math/bits.deBruijn64tab", laid_math_bits_deBruijn64tab), ("internal/strconv.uint64pow10", laid_internal_strconv_uint64pow10), ("strconv.ErrRange", laid_strconv_ErrRange), ("strconv.ErrSyntax", laid_strconv_ErrSyntax), ("redpen/decode.names", laid_redpen_decode_names)], narrowed := true }
def DecodeOnesUptoSaid : Prop := decodeOnesUptoRow.holds Tryd.pinned (OpenSpec.upto decodeOnesSpec)

/-- 'redpenlaw15.DecodeCover', WHERE WHAT IT READS IS OF BULK AT MOST 1048576: true; the input reads as it did. -/
def decodeCoverUptoRow : OpenClaim := { program := "ytekalnhackjldaadoor", sum := "8c8b32e3435ba5d314347a30eae07823d4de52970fc5e7d60b876a02c261ea49", func := "redpen/redpenlaw15.DecodeCover", spec := "decodeCover", named := ["redpen/decode.names", "strconv.ErrSyntax", "strconv.ErrRange", "internal/strconv.uint64pow10", "math/bits.deBruijn32tab", "math/bits.deBruijn64tab"], apart := false, laid := [("math/bits.deBruijn32tab", laid_math_bits_deBruijn32tab), ("math/bits.deBruijn64tab", laid_math_bits_deBruijn64tab), ("internal/strconv.uint64pow10", laid_internal_strconv_uint64pow10), ("strconv.ErrRange", laid_strconv_ErrRange), ("strconv.ErrSyntax", laid_strconv_ErrSyntax), ("redpen/decode.names", laid_redpen_decode_names)], narrowed := true }
def DecodeCoverUptoSaid : Prop := decodeCoverUptoRow.holds Tryd.pinned (OpenSpec.upto decodeCoverSpec)

/-- 'redpenlaw15.DecodeUnits', WHERE WHAT IT READS IS OF BULK AT MOST 1048576: true; the input reads as it did. -/
def decodeUnitsUptoRow : OpenClaim := { program := "ytekalnhackjldaadoor", sum := "8c8b32e3435ba5d314347a30eae07823d4de52970fc5e7d60b876a02c261ea49", func := "redpen/redpenlaw15.DecodeUnits", spec := "decodeUnits", named := ["redpen/decode.names", "strconv.ErrSyntax", "strconv.ErrRange", "internal/strconv.uint64pow10", "math/bits.deBruijn32tab", "math/bits.deBruijn64tab"], apart := false, laid := [("math/bits.deBruijn32tab", laid_math_bits_deBruijn32tab), ("math/bits.deBruijn64tab", laid_math_bits_deBruijn64tab), ("internal/strconv.uint64pow10", laid_internal_strconv_uint64pow10), ("strconv.ErrRange", laid_strconv_ErrRange), ("strconv.ErrSyntax", laid_strconv_ErrSyntax), ("redpen/decode.names", laid_redpen_decode_names)], narrowed := true }
def DecodeUnitsUptoSaid : Prop := decodeUnitsUptoRow.holds Tryd.pinned (OpenSpec.upto decodeUnitsSpec)

/-- 'redpenlaw15.DecodeBack', WHERE WHAT IT READS IS OF BULK AT MOST 1048576: true; the input reads as it did. -/
def decodeBackUptoRow : OpenClaim := { program := "ytekalnhackjldaadoor", sum := "8c8b32e3435ba5d314347a30eae07823d4de52970fc5e7d60b876a02c261ea49", func := "redpen/redpenlaw15.DecodeBack", spec := "decodeBack", unfollowed := true, recurses := true, named := ["redpen/decode.names", "strconv.ErrSyntax", "strconv.ErrRange", "internal/strconv.uint64pow10", "math/bits.deBruijn32tab", "math/bits.deBruijn64tab"], apart := false, laid := [("math/bits.deBruijn32tab", laid_math_bits_deBruijn32tab), ("math/bits.deBruijn64tab", laid_math_bits_deBruijn64tab), ("internal/strconv.uint64pow10", laid_internal_strconv_uint64pow10), ("strconv.ErrRange", laid_strconv_ErrRange), ("strconv.ErrSyntax", laid_strconv_ErrSyntax), ("redpen/decode.names", laid_redpen_decode_names)], narrowed := true }
def DecodeBackUptoSaid : Prop := decodeBackUptoRow.holds Tryd.pinned (OpenSpec.upto decodeBackSpec)

/-- 'redpenlaw15.DecodeLiteral', WHERE WHAT IT READS IS OF BULK AT MOST 1048576: true; the input reads as it did. -/
def decodeLiteralUptoRow : OpenClaim := { program := "ytekalnhackjldaadoor", sum := "8c8b32e3435ba5d314347a30eae07823d4de52970fc5e7d60b876a02c261ea49", func := "redpen/redpenlaw15.DecodeLiteral", spec := "decodeLiteral", named := ["redpen/decode.names", "strconv.ErrSyntax", "strconv.ErrRange", "internal/strconv.uint64pow10", "math/bits.deBruijn32tab", "math/bits.deBruijn64tab"], apart := false, laid := [("math/bits.deBruijn32tab", laid_math_bits_deBruijn32tab), ("math/bits.deBruijn64tab", laid_math_bits_deBruijn64tab), ("internal/strconv.uint64pow10", laid_internal_strconv_uint64pow10), ("strconv.ErrRange", laid_strconv_ErrRange), ("strconv.ErrSyntax", laid_strconv_ErrSyntax), ("redpen/decode.names", laid_redpen_decode_names)], narrowed := true }
def DecodeLiteralUptoSaid : Prop := decodeLiteralUptoRow.holds Tryd.pinned (OpenSpec.upto decodeLiteralSpec)

/-- 'redpenlaw16.TokenWords', WHERE WHAT IT READS IS OF BULK AT MOST 1048576: true; the input reads as it did. -/
def tokenWordsUptoRow : OpenClaim := { program := "ytekalnhackjldaadoor", sum := "8c8b32e3435ba5d314347a30eae07823d4de52970fc5e7d60b876a02c261ea49", func := "redpen/redpenlaw16.TokenWords", spec := "tokenWords", unfollowed := true, recurses := true, named := ["redpen/decode.names", "strconv.ErrSyntax", "strconv.ErrRange", "internal/strconv.uint64pow10", "math/bits.deBruijn32tab", "math/bits.deBruijn64tab"], apart := false, laid := [("math/bits.deBruijn32tab", laid_math_bits_deBruijn32tab), ("math/bits.deBruijn64tab", laid_math_bits_deBruijn64tab), ("internal/strconv.uint64pow10", laid_internal_strconv_uint64pow10), ("strconv.ErrRange", laid_strconv_ErrRange), ("strconv.ErrSyntax", laid_strconv_ErrSyntax), ("redpen/decode.names", laid_redpen_decode_names)], narrowed := true }
def TokenWordsUptoSaid : Prop := tokenWordsUptoRow.holds Tryd.pinned (OpenSpec.upto tokenWordsSpec)

end Rows
end Go.Proofs.YtekalnhackjldaaDoor
