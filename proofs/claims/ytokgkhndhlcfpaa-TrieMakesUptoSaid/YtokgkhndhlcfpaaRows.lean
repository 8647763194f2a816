/-
  No cell of these rows narrows 'for every input' (looked for: loops, veiled, ifaces, maps, wideKeys, modest, calm, conditions, laid).
  DERIVED. THE GIVEN ROWS OF THIS SEAT. 11 by the template 'for every input the law returns true; each argument reads behind the call as it read before'; 0 by the template 'total and deterministic' (their statements: YtokgkhndhlcfpaaTotals.lean).
  GIVEN WITH THE SEED: the statements are not yours to turn. If you find one false, say at which input.
  Laid BY PROGRAM, IN A SANDBOX (cutbox-rows.mjs): the forced cells as the released guide's own fill.sh prints them over the translation de788eb085022d38… (all of the seat's roots in one cut). By AI agents, Wed Nov 11 2026. No macro, syntax, notation, axiom, sorry.
-/
import Derived.Test.YtokgkhndhlcfpaaChecked
import GoSem.Claim
import GoSem.ClaimJoined
import GoSem.ClaimMapViews
import Derived.JoinedTies
import Derived.KernelRfl
namespace Go.Proofs.Ytokgkhndhlcfpaa
/- THE CELL 'sum', in the pinned program and in every row, IS THE sha256 OF THE DUMP (.gsa) THAT YtokgkhndhlcfpaaProg.lean LOADS. Nothing in Lean hashes anything: it is a label: what it is worth is what the hold of that sum in a sandbox is worth. -/
noncomputable def Try.pinned : Pinned := { name := "ytokgkhndhlcfpaa", sum := "de788eb085022d380cf28ae1459dddfc1c17c8c7db6fc4d770c17f64cd9c9a13", checked := Try.checked }
namespace Rows
def none {H : Type} : Left H := { results := [], args := [] }

/-- 'redpenlaw07.TrieLimits': WHATEVER THE INPUT: true; the input reads as it did. -/
def trieLimitsSpec : ChangeSpec := { name := "trieLimits", fn := fun _ => fun
  | [d1, d2, d3] => { results := [.lit (.bool true)], args := [d1, d2, d3] }
  | _ => none }
def trieLimitsRow : OpenClaim := { program := "ytokgkhndhlcfpaa", sum := "de788eb085022d380cf28ae1459dddfc1c17c8c7db6fc4d770c17f64cd9c9a13", func := "redpen/redpenlaw07.TrieLimits", spec := "trieLimits", apart := false }
def TrieLimitsSaid : Prop := trieLimitsRow.holds Try.pinned (OpenSpec.ofChange trieLimitsSpec)

/-- ITS FALSE NEIGHBOUR: 'it returns false'. Refute it at one input. -/
def trieLimitsWrong : ChangeSpec := { name := "trieLimits", fn := fun _ => fun
  | [d1, d2, d3] => { results := [.lit (.bool false)], args := [d1, d2, d3] }
  | _ => none }
def TrieLimitsWrongFalsely : Prop := trieLimitsRow.holds Try.pinned (OpenSpec.ofChange trieLimitsWrong)

/-- 'redpenlaw19.HunksChanges': WHATEVER THE INPUT: true; the input reads as it did. -/
def hunksChangesSpec : ChangeSpec := { name := "hunksChanges", fn := fun _ => fun
  | [d1, d2, d3, d4] => { results := [.lit (.bool true)], args := [d1, d2, d3, d4] }
  | _ => none }
def hunksChangesRow : OpenClaim := { program := "ytokgkhndhlcfpaa", sum := "de788eb085022d380cf28ae1459dddfc1c17c8c7db6fc4d770c17f64cd9c9a13", func := "redpen/redpenlaw19.HunksChanges", spec := "hunksChanges", unfollowed := true, recurses := true, apart := false }
def HunksChangesSaid : Prop := hunksChangesRow.holds Try.pinned (OpenSpec.ofChange hunksChangesSpec)

/-- ITS FALSE NEIGHBOUR: 'it returns false'. Refute it at one input. -/
def hunksChangesWrong : ChangeSpec := { name := "hunksChanges", fn := fun _ => fun
  | [d1, d2, d3, d4] => { results := [.lit (.bool false)], args := [d1, d2, d3, d4] }
  | _ => none }
def HunksChangesWrongFalsely : Prop := hunksChangesRow.holds Try.pinned (OpenSpec.ofChange hunksChangesWrong)

/-- 'redpenlaw19.HunksMakes': WHATEVER THE INPUT: true; the input reads as it did. -/
def hunksMakesSpec : ChangeSpec := { name := "hunksMakes", fn := fun _ => fun
  | [d1, d2, d3, d4, d5, d6] => { results := [.lit (.bool true)], args := [d1, d2, d3, d4, d5, d6] }
  | _ => none }
def hunksMakesRow : OpenClaim := { program := "ytokgkhndhlcfpaa", sum := "de788eb085022d380cf28ae1459dddfc1c17c8c7db6fc4d770c17f64cd9c9a13", func := "redpen/redpenlaw19.HunksMakes", spec := "hunksMakes", unfollowed := true, recurses := true, apart := false }
def HunksMakesSaid : Prop := hunksMakesRow.holds Try.pinned (OpenSpec.ofChange hunksMakesSpec)

/-- ITS FALSE NEIGHBOUR: 'it returns false'. Refute it at one input. -/
def hunksMakesWrong : ChangeSpec := { name := "hunksMakes", fn := fun _ => fun
  | [d1, d2, d3, d4, d5, d6] => { results := [.lit (.bool false)], args := [d1, d2, d3, d4, d5, d6] }
  | _ => none }
def HunksMakesWrongFalsely : Prop := hunksMakesRow.holds Try.pinned (OpenSpec.ofChange hunksMakesWrong)

/-- 'redpenlaw19.HunksLeast': WHATEVER THE INPUT: true; the input reads as it did. -/
def hunksLeastSpec : ChangeSpec := { name := "hunksLeast", fn := fun _ => fun
  | [d1, d2, d3, d4] => { results := [.lit (.bool true)], args := [d1, d2, d3, d4] }
  | _ => none }
def hunksLeastRow : OpenClaim := { program := "ytokgkhndhlcfpaa", sum := "de788eb085022d380cf28ae1459dddfc1c17c8c7db6fc4d770c17f64cd9c9a13", func := "redpen/redpenlaw19.HunksLeast", spec := "hunksLeast", unfollowed := true, recurses := true, apart := false }
def HunksLeastSaid : Prop := hunksLeastRow.holds Try.pinned (OpenSpec.ofChange hunksLeastSpec)

/-- ITS FALSE NEIGHBOUR: 'it returns false'. Refute it at one input. -/
def hunksLeastWrong : ChangeSpec := { name := "hunksLeast", fn := fun _ => fun
  | [d1, d2, d3, d4] => { results := [.lit (.bool false)], args := [d1, d2, d3, d4] }
  | _ => none }
def HunksLeastWrongFalsely : Prop := hunksLeastRow.holds Try.pinned (OpenSpec.ofChange hunksLeastWrong)

/-- 'redpenlaw19.HunksSame': WHATEVER THE INPUT: true; the input reads as it did. -/
def hunksSameSpec : ChangeSpec := { name := "hunksSame", fn := fun _ => fun
  | [d1, d2, d3, d4, d5] => { results := [.lit (.bool true)], args := [d1, d2, d3, d4, d5] }
  | _ => none }
def hunksSameRow : OpenClaim := { program := "ytokgkhndhlcfpaa", sum := "de788eb085022d380cf28ae1459dddfc1c17c8c7db6fc4d770c17f64cd9c9a13", func := "redpen/redpenlaw19.HunksSame", spec := "hunksSame", unfollowed := true, recurses := true, apart := false }
def HunksSameSaid : Prop := hunksSameRow.holds Try.pinned (OpenSpec.ofChange hunksSameSpec)

/-- ITS FALSE NEIGHBOUR: 'it returns false'. Refute it at one input. -/
def hunksSameWrong : ChangeSpec := { name := "hunksSame", fn := fun _ => fun
  | [d1, d2, d3, d4, d5] => { results := [.lit (.bool false)], args := [d1, d2, d3, d4, d5] }
  | _ => none }
def HunksSameWrongFalsely : Prop := hunksSameRow.holds Try.pinned (OpenSpec.ofChange hunksSameWrong)

/-- 'redpenlaw19.HunksGreat': WHATEVER THE INPUT: true; the input reads as it did. -/
def hunksGreatSpec : ChangeSpec := { name := "hunksGreat", fn := fun _ => fun
  | [d1, d2, d3] => { results := [.lit (.bool true)], args := [d1, d2, d3] }
  | _ => none }
def hunksGreatRow : OpenClaim := { program := "ytokgkhndhlcfpaa", sum := "de788eb085022d380cf28ae1459dddfc1c17c8c7db6fc4d770c17f64cd9c9a13", func := "redpen/redpenlaw19.HunksGreat", spec := "hunksGreat", unfollowed := true, recurses := true, apart := false }
def HunksGreatSaid : Prop := hunksGreatRow.holds Try.pinned (OpenSpec.ofChange hunksGreatSpec)

/-- ITS FALSE NEIGHBOUR: 'it returns false'. Refute it at one input. -/
def hunksGreatWrong : ChangeSpec := { name := "hunksGreat", fn := fun _ => fun
  | [d1, d2, d3] => { results := [.lit (.bool false)], args := [d1, d2, d3] }
  | _ => none }
def HunksGreatWrongFalsely : Prop := hunksGreatRow.holds Try.pinned (OpenSpec.ofChange hunksGreatWrong)

/-- 'redpenlaw19.HunksOne': WHATEVER THE INPUT: true; the input reads as it did. -/
def hunksOneSpec : ChangeSpec := { name := "hunksOne", fn := fun _ => fun
  | [d1, d2, d3, d4] => { results := [.lit (.bool true)], args := [d1, d2, d3, d4] }
  | _ => none }
def hunksOneRow : OpenClaim := { program := "ytokgkhndhlcfpaa", sum := "de788eb085022d380cf28ae1459dddfc1c17c8c7db6fc4d770c17f64cd9c9a13", func := "redpen/redpenlaw19.HunksOne", spec := "hunksOne", unfollowed := true, recurses := true, apart := false }
def HunksOneSaid : Prop := hunksOneRow.holds Try.pinned (OpenSpec.ofChange hunksOneSpec)

/-- ITS FALSE NEIGHBOUR: 'it returns false'. Refute it at one input. -/
def hunksOneWrong : ChangeSpec := { name := "hunksOne", fn := fun _ => fun
  | [d1, d2, d3, d4] => { results := [.lit (.bool false)], args := [d1, d2, d3, d4] }
  | _ => none }
def HunksOneWrongFalsely : Prop := hunksOneRow.holds Try.pinned (OpenSpec.ofChange hunksOneWrong)

/-- 'redpenlaw07.TrieHas': WHATEVER THE INPUT: true; the input reads as it did. -/
def trieHasSpec : ChangeSpec := { name := "trieHas", fn := fun _ => fun
  | [d1, d2, d3, d4] => { results := [.lit (.bool true)], args := [d1, d2, d3, d4] }
  | _ => none }
def trieHasRow : OpenClaim := { program := "ytokgkhndhlcfpaa", sum := "de788eb085022d380cf28ae1459dddfc1c17c8c7db6fc4d770c17f64cd9c9a13", func := "redpen/redpenlaw07.TrieHas", spec := "trieHas", unfollowed := true, recurses := true, apart := false }
def TrieHasSaid : Prop := trieHasRow.holds Try.pinned (OpenSpec.ofChange trieHasSpec)

/-- ITS FALSE NEIGHBOUR: 'it returns false'. Refute it at one input. -/
def trieHasWrong : ChangeSpec := { name := "trieHas", fn := fun _ => fun
  | [d1, d2, d3, d4] => { results := [.lit (.bool false)], args := [d1, d2, d3, d4] }
  | _ => none }
def TrieHasWrongFalsely : Prop := trieHasRow.holds Try.pinned (OpenSpec.ofChange trieHasWrong)

/-- 'redpenlaw07.TrieNodes': WHATEVER THE INPUT: true; the input reads as it did. -/
def trieNodesSpec : ChangeSpec := { name := "trieNodes", fn := fun _ => fun
  | [d] => { results := [.lit (.bool true)], args := [d] }
  | _ => none }
def trieNodesRow : OpenClaim := { program := "ytokgkhndhlcfpaa", sum := "de788eb085022d380cf28ae1459dddfc1c17c8c7db6fc4d770c17f64cd9c9a13", func := "redpen/redpenlaw07.TrieNodes", spec := "trieNodes", unfollowed := true, recurses := true, apart := false }
def TrieNodesSaid : Prop := trieNodesRow.holds Try.pinned (OpenSpec.ofChange trieNodesSpec)

/-- ITS FALSE NEIGHBOUR: 'it returns false'. Refute it at one input. -/
def trieNodesWrong : ChangeSpec := { name := "trieNodes", fn := fun _ => fun
  | [d] => { results := [.lit (.bool false)], args := [d] }
  | _ => none }
def TrieNodesWrongFalsely : Prop := trieNodesRow.holds Try.pinned (OpenSpec.ofChange trieNodesWrong)

/-- 'redpenlaw07.TrieMore': WHATEVER THE INPUT: true; the input reads as it did. -/
def trieMoreSpec : ChangeSpec := { name := "trieMore", fn := fun _ => fun
  | [d1, d2] => { results := [.lit (.bool true)], args := [d1, d2] }
  | _ => none }
def trieMoreRow : OpenClaim := { program := "ytokgkhndhlcfpaa", sum := "de788eb085022d380cf28ae1459dddfc1c17c8c7db6fc4d770c17f64cd9c9a13", func := "redpen/redpenlaw07.TrieMore", spec := "trieMore", apart := false }
def TrieMoreSaid : Prop := trieMoreRow.holds Try.pinned (OpenSpec.ofChange trieMoreSpec)

/-- ITS FALSE NEIGHBOUR: 'it returns false'. Refute it at one input. -/
def trieMoreWrong : ChangeSpec := { name := "trieMore", fn := fun _ => fun
  | [d1, d2] => { results := [.lit (.bool false)], args := [d1, d2] }
  | _ => none }
def TrieMoreWrongFalsely : Prop := trieMoreRow.holds Try.pinned (OpenSpec.ofChange trieMoreWrong)

/-- 'redpenlaw07.TrieMakes': WHATEVER THE INPUT: true; the input reads as it did. -/
def trieMakesSpec : ChangeSpec := { name := "trieMakes", fn := fun _ => fun
  | [d1, d2] => { results := [.lit (.bool true)], args := [d1, d2] }
  | _ => none }
def trieMakesRow : OpenClaim := { program := "ytokgkhndhlcfpaa", sum := "de788eb085022d380cf28ae1459dddfc1c17c8c7db6fc4d770c17f64cd9c9a13", func := "redpen/redpenlaw07.TrieMakes", spec := "trieMakes", recurses := true, apart := false }
def TrieMakesSaid : Prop := trieMakesRow.holds Try.pinned (OpenSpec.ofChange trieMakesSpec)

/-- ITS FALSE NEIGHBOUR: 'it returns false'. Refute it at one input. -/
def trieMakesWrong : ChangeSpec := { name := "trieMakes", fn := fun _ => fun
  | [d1, d2] => { results := [.lit (.bool false)], args := [d1, d2] }
  | _ => none }
def TrieMakesWrongFalsely : Prop := trieMakesRow.holds Try.pinned (OpenSpec.ofChange trieMakesWrong)

/- THE SECOND FORM. 'bulk': how many values and letters a reading holds, each counted each time it is reached (what is shared counts as often as it is met; a slice's spare places count too). A statement '..UptoSaid' is the law's where the arguments, and the package variables that the reading takes, are together of bulk at most 1048576: NARROWER than '..Said'. Prove '..Said' where nothing that the law and all that it calls make is longer than what came in: it says more and counts as full. Else prove '..UptoSaid'. A law counts once. -/
mutual
def uptoBulk {H : Type} : DataW H → Nat
  | .lit (.string bytes) => bytes.length + 1
  | .lit _ => 1
  | .nil => 1
  | .ptr d => uptoBulk d + 1
  | .slice elems spare => uptoBulkAll elems + uptoBulkAll spare + 1
  | .agg parts => uptoBulkAll parts + 1
  | .iface _ d => uptoBulk d + 1
  | .map entries => uptoBulkEntries entries + 1
  | .held _ => 1
def uptoBulkAll {H : Type} : List (DataW H) → Nat
  | [] => 0
  | d :: r => uptoBulk d + uptoBulkAll r
def uptoBulkEntries {H : Type} : List (Lit × DataW H) → Nat
  | [] => 0
  | x :: r => uptoBulkEntry x + uptoBulkEntries r
def uptoBulkEntry {H : Type} : Lit × DataW H → Nat
  | (.string bytes, d) => bytes.length + uptoBulk d + 1
  | (_, d) => uptoBulk d + 1
 end
def uptoSmall : (H : Type) → List (DataW H) → Bool := fun _ ds => decide (uptoBulkAll ds ≤ 1048576)
def OpenSpec.upto (s : _root_.Go.ChangeSpec) : _root_.Go.OpenSpec := { _root_.Go.OpenSpec.ofChange s with cond := some uptoSmall }

/-- 'redpenlaw07.TrieLimits', WHERE WHAT IT READS IS OF BULK AT MOST 1048576: true; the input reads as it did. -/
def trieLimitsUptoRow : OpenClaim := { program := "ytokgkhndhlcfpaa", sum := "de788eb085022d380cf28ae1459dddfc1c17c8c7db6fc4d770c17f64cd9c9a13", func := "redpen/redpenlaw07.TrieLimits", spec := "trieLimits", apart := false, narrowed := true }
def TrieLimitsUptoSaid : Prop := trieLimitsUptoRow.holds Try.pinned (OpenSpec.upto trieLimitsSpec)

/-- 'redpenlaw19.HunksChanges', WHERE WHAT IT READS IS OF BULK AT MOST 1048576: true; the input reads as it did. -/
def hunksChangesUptoRow : OpenClaim := { program := "ytokgkhndhlcfpaa", sum := "de788eb085022d380cf28ae1459dddfc1c17c8c7db6fc4d770c17f64cd9c9a13", func := "redpen/redpenlaw19.HunksChanges", spec := "hunksChanges", unfollowed := true, recurses := true, apart := false, narrowed := true }
def HunksChangesUptoSaid : Prop := hunksChangesUptoRow.holds Try.pinned (OpenSpec.upto hunksChangesSpec)

/-- 'redpenlaw19.HunksMakes', WHERE WHAT IT READS IS OF BULK AT MOST 1048576: true; the input reads as it did. -/
def hunksMakesUptoRow : OpenClaim := { program := "ytokgkhndhlcfpaa", sum := "de788eb085022d380cf28ae1459dddfc1c17c8c7db6fc4d770c17f64cd9c9a13", func := "redpen/redpenlaw19.HunksMakes", spec := "hunksMakes", unfollowed := true, recurses := true, apart := false, narrowed := true }
def HunksMakesUptoSaid : Prop := hunksMakesUptoRow.holds Try.pinned (OpenSpec.upto hunksMakesSpec)

/-- 'redpenlaw19.HunksLeast', WHERE WHAT IT READS IS OF BULK AT MOST 1048576: true; the input reads as it did. -/
def hunksLeastUptoRow : OpenClaim := { program := "ytokgkhndhlcfpaa", sum := "de788eb085022d380cf28ae1459dddfc1c17c8c7db6fc4d770c17f64cd9c9a13", func := "redpen/redpenlaw19.HunksLeast", spec := "hunksLeast", unfollowed := true, recurses := true, apart := false, narrowed := true }
def HunksLeastUptoSaid : Prop := hunksLeastUptoRow.holds Try.pinned (OpenSpec.upto hunksLeastSpec)

/-- 'redpenlaw19.HunksSame', WHERE WHAT IT READS IS OF BULK AT MOST 1048576: true; the input reads as it did. -/
def hunksSameUptoRow : OpenClaim := { program := "ytokgkhndhlcfpaa", sum := "de788eb085022d380cf28ae1459dddfc1c17c8c7db6fc4d770c17f64cd9c9a13", func := "redpen/redpenlaw19.HunksSame", spec := "hunksSame", unfollowed := true, recurses := true, apart := false, narrowed := true }
def HunksSameUptoSaid : Prop := hunksSameUptoRow.holds Try.pinned (OpenSpec.upto hunksSameSpec)

/-- 'redpenlaw19.HunksGreat', WHERE WHAT IT READS IS OF BULK AT MOST 1048576: true; the input reads as it did. -/
def hunksGreatUptoRow : OpenClaim := { program := "ytokgkhndhlcfpaa", sum := "de788eb085022d380cf28ae1459dddfc1c17c8c7db6fc4d770c17f64cd9c9a13", func := "redpen/redpenlaw19.HunksGreat", spec := "hunksGreat", unfollowed := true, recurses := true, apart := false, narrowed := true }
def HunksGreatUptoSaid : Prop := hunksGreatUptoRow.holds Try.pinned (OpenSpec.upto hunksGreatSpec)

/-- 'redpenlaw19.HunksOne', WHERE WHAT IT READS IS OF BULK AT MOST 1048576: true; the input reads as it did. -/
def hunksOneUptoRow : OpenClaim := { program := "ytokgkhndhlcfpaa", sum := "de788eb085022d380cf28ae1459dddfc1c17c8c7db6fc4d770c17f64cd9c9a13", func := "redpen/redpenlaw19.HunksOne", spec := "hunksOne", unfollowed := true, recurses := true, apart := false, narrowed := true }
def HunksOneUptoSaid : Prop := hunksOneUptoRow.holds Try.pinned (OpenSpec.upto hunksOneSpec)

/-- 'redpenlaw07.TrieHas', WHERE WHAT IT READS IS OF BULK AT MOST 1048576: true; the input reads as it did. -/
def trieHasUptoRow : OpenClaim := { program := "ytokgkhndhlcfpaa", sum := "de788eb085022d380cf28ae1459dddfc1c17c8c7db6fc4d770c17f64cd9c9a13", func := "redpen/redpenlaw07.TrieHas", spec := "trieHas", unfollowed := true, recurses := true, apart := false, narrowed := true }
def TrieHasUptoSaid : Prop := trieHasUptoRow.holds Try.pinned (OpenSpec.upto trieHasSpec)

/-- 'redpenlaw07.TrieNodes', WHERE WHAT IT READS IS OF BULK AT MOST 1048576: true; the input reads as it did. -/
def trieNodesUptoRow : OpenClaim := { program := "ytokgkhndhlcfpaa", sum := "de788eb085022d380cf28ae1459dddfc1c17c8c7db6fc4d770c17f64cd9c9a13", func := "redpen/redpenlaw07.TrieNodes", spec := "trieNodes", unfollowed := true, recurses := true, apart := false, narrowed := true }
def TrieNodesUptoSaid : Prop := trieNodesUptoRow.holds Try.pinned (OpenSpec.upto trieNodesSpec)

/-- 'redpenlaw07.TrieMore', WHERE WHAT IT READS IS OF BULK AT MOST 1048576: true; the input reads as it did. -/
def trieMoreUptoRow : OpenClaim := { program := "ytokgkhndhlcfpaa", sum := "de788eb085022d380cf28ae1459dddfc1c17c8c7db6fc4d770c17f64cd9c9a13", func := "redpen/redpenlaw07.TrieMore", spec := "trieMore", apart := false, narrowed := true }
def TrieMoreUptoSaid : Prop := trieMoreUptoRow.holds Try.pinned (OpenSpec.upto trieMoreSpec)

/-- 'redpenlaw07.TrieMakes', WHERE WHAT IT READS IS OF BULK AT MOST 1048576: true; the input reads as it did. -/
def trieMakesUptoRow : OpenClaim := { program := "ytokgkhndhlcfpaa", sum := "de788eb085022d380cf28ae1459dddfc1c17c8c7db6fc4d770c17f64cd9c9a13", func := "redpen/redpenlaw07.TrieMakes", spec := "trieMakes", recurses := true, apart := false, narrowed := true }
def TrieMakesUptoSaid : Prop := trieMakesUptoRow.holds Try.pinned (OpenSpec.upto trieMakesSpec)

end Rows
end Go.Proofs.Ytokgkhndhlcfpaa
