/-
  DERIVED. GIVEN WITH THE SEED: THE CARDS: each row of YtekalnhackjldaaDoorRows.lean that lists a variable, with what it lists TIED to the program's text (the seventh form; the later family's looks); each row that meets fmt, with fmt's text TOLD by the authors' own Lean function (tested against real Go, not proved from fmt's source: count such statements apart). THE CARD IS WHAT COUNTS. Prove the row's statement (the work); the ties are given (YtekalnhackjldaaDoorTie.lean); close each card by the builder's one call (the guide's Derived/Test/ToyasCard.lean, 'card_holds'). Laid BY PROGRAM, IN A SANDBOX (cutbox-door.mjs). By AI agents, Wed Nov 11 2026. No macro, syntax, notation, axiom, sorry.
-/
import Derived.Test.YtekalnhackjldaaDoorRows
import GoSem.ClaimSeven
namespace Go.Proofs.YtekalnhackjldaaDoor
namespace Rows

/-- THE TIED CARD OF 'redpenlaw15.DecodeOnes'. -/
def decodeOnesCard : Claim7 := { stood := { row := decodeOnesRow, standIns := [], harness := (true, "0590a2a067537320ee760ca8ab71f4964c9fb3fc03ca2e57b37e0e987bccc1ac"), looks := true }, kinds := [], alts := [], laidByText := true, laidKinds := [.data, .data, .data, .sentinel, .sentinel, .data], laidTests := true, laidLooks := .later }
def DecodeOnesCardSaid : Prop := Claim7.holds Tryd.pinned (.plain (OpenSpec.ofChange decodeOnesSpec)) decodeOnesCard

/-- THE TIED CARD OF 'redpenlaw15.DecodeCover'. -/
def decodeCoverCard : Claim7 := { stood := { row := decodeCoverRow, standIns := [], harness := (true, "0590a2a067537320ee760ca8ab71f4964c9fb3fc03ca2e57b37e0e987bccc1ac"), looks := true }, kinds := [], alts := [], laidByText := true, laidKinds := [.data, .data, .data, .sentinel, .sentinel, .data], laidTests := true, laidLooks := .later }
def DecodeCoverCardSaid : Prop := Claim7.holds Tryd.pinned (.plain (OpenSpec.ofChange decodeCoverSpec)) decodeCoverCard

/-- THE TIED CARD OF 'redpenlaw15.DecodeUnits'. -/
def decodeUnitsCard : Claim7 := { stood := { row := decodeUnitsRow, standIns := [], harness := (true, "0590a2a067537320ee760ca8ab71f4964c9fb3fc03ca2e57b37e0e987bccc1ac"), looks := true }, kinds := [], alts := [], laidByText := true, laidKinds := [.data, .data, .data, .sentinel, .sentinel, .data], laidTests := true, laidLooks := .later }
def DecodeUnitsCardSaid : Prop := Claim7.holds Tryd.pinned (.plain (OpenSpec.ofChange decodeUnitsSpec)) decodeUnitsCard

/-- THE TIED CARD OF 'redpenlaw15.DecodeBack'. -/
def decodeBackCard : Claim7 := { stood := { row := decodeBackRow, standIns := [], harness := (true, "0590a2a067537320ee760ca8ab71f4964c9fb3fc03ca2e57b37e0e987bccc1ac"), looks := true }, kinds := [], alts := [], laidByText := true, laidKinds := [.data, .data, .data, .sentinel, .sentinel, .data], laidTests := true, laidLooks := .later }
def DecodeBackCardSaid : Prop := Claim7.holds Tryd.pinned (.plain (OpenSpec.ofChange decodeBackSpec)) decodeBackCard

/-- THE TIED CARD OF 'redpenlaw15.DecodeLiteral'. -/
def decodeLiteralCard : Claim7 := { stood := { row := decodeLiteralRow, standIns := [], harness := (true, "0590a2a067537320ee760ca8ab71f4964c9fb3fc03ca2e57b37e0e987bccc1ac"), looks := true }, kinds := [], alts := [], laidByText := true, laidKinds := [.data, .data, .data, .sentinel, .sentinel, .data], laidTests := true, laidLooks := .later }
def DecodeLiteralCardSaid : Prop := Claim7.holds Tryd.pinned (.plain (OpenSpec.ofChange decodeLiteralSpec)) decodeLiteralCard

/-- THE TIED CARD OF 'redpenlaw16.TokenWords'. -/
def tokenWordsCard : Claim7 := { stood := { row := tokenWordsRow, standIns := [], harness := (true, "0590a2a067537320ee760ca8ab71f4964c9fb3fc03ca2e57b37e0e987bccc1ac"), looks := true }, kinds := [], alts := [], laidByText := true, laidKinds := [.data, .data, .data, .sentinel, .sentinel, .data], laidTests := true, laidLooks := .later }
def TokenWordsCardSaid : Prop := Claim7.holds Tryd.pinned (.plain (OpenSpec.ofChange tokenWordsSpec)) tokenWordsCard

/-- THE SECOND FORM's CARD OF 'redpenlaw15.DecodeOnes'. -/
def decodeOnesUptoCard : Claim7 := { stood := { row := decodeOnesUptoRow, standIns := [], harness := (true, "0590a2a067537320ee760ca8ab71f4964c9fb3fc03ca2e57b37e0e987bccc1ac"), looks := true }, kinds := [], alts := [], laidByText := true, laidKinds := [.data, .data, .data, .sentinel, .sentinel, .data], laidTests := true, laidLooks := .later }
def DecodeOnesUptoCardSaid : Prop := Claim7.holds Tryd.pinned (.plain (OpenSpec.upto decodeOnesSpec)) decodeOnesUptoCard

/-- THE SECOND FORM's CARD OF 'redpenlaw15.DecodeCover'. -/
def decodeCoverUptoCard : Claim7 := { stood := { row := decodeCoverUptoRow, standIns := [], harness := (true, "0590a2a067537320ee760ca8ab71f4964c9fb3fc03ca2e57b37e0e987bccc1ac"), looks := true }, kinds := [], alts := [], laidByText := true, laidKinds := [.data, .data, .data, .sentinel, .sentinel, .data], laidTests := true, laidLooks := .later }
def DecodeCoverUptoCardSaid : Prop := Claim7.holds Tryd.pinned (.plain (OpenSpec.upto decodeCoverSpec)) decodeCoverUptoCard

/-- THE SECOND FORM's CARD OF 'redpenlaw15.DecodeUnits'. -/
def decodeUnitsUptoCard : Claim7 := { stood := { row := decodeUnitsUptoRow, standIns := [], harness := (true, "0590a2a067537320ee760ca8ab71f4964c9fb3fc03ca2e57b37e0e987bccc1ac"), looks := true }, kinds := [], alts := [], laidByText := true, laidKinds := [.data, .data, .data, .sentinel, .sentinel, .data], laidTests := true, laidLooks := .later }
def DecodeUnitsUptoCardSaid : Prop := Claim7.holds Tryd.pinned (.plain (OpenSpec.upto decodeUnitsSpec)) decodeUnitsUptoCard

/-- THE SECOND FORM's CARD OF 'redpenlaw15.DecodeBack'. -/
def decodeBackUptoCard : Claim7 := { stood := { row := decodeBackUptoRow, standIns := [], harness := (true, "0590a2a067537320ee760ca8ab71f4964c9fb3fc03ca2e57b37e0e987bccc1ac"), looks := true }, kinds := [], alts := [], laidByText := true, laidKinds := [.data, .data, .data, .sentinel, .sentinel, .data], laidTests := true, laidLooks := .later }
def DecodeBackUptoCardSaid : Prop := Claim7.holds Tryd.pinned (.plain (OpenSpec.upto decodeBackSpec)) decodeBackUptoCard

/-- THE SECOND FORM's CARD OF 'redpenlaw15.DecodeLiteral'. -/
def decodeLiteralUptoCard : Claim7 := { stood := { row := decodeLiteralUptoRow, standIns := [], harness := (true, "0590a2a067537320ee760ca8ab71f4964c9fb3fc03ca2e57b37e0e987bccc1ac"), looks := true }, kinds := [], alts := [], laidByText := true, laidKinds := [.data, .data, .data, .sentinel, .sentinel, .data], laidTests := true, laidLooks := .later }
def DecodeLiteralUptoCardSaid : Prop := Claim7.holds Tryd.pinned (.plain (OpenSpec.upto decodeLiteralSpec)) decodeLiteralUptoCard

/-- THE SECOND FORM's CARD OF 'redpenlaw16.TokenWords'. -/
def tokenWordsUptoCard : Claim7 := { stood := { row := tokenWordsUptoRow, standIns := [], harness := (true, "0590a2a067537320ee760ca8ab71f4964c9fb3fc03ca2e57b37e0e987bccc1ac"), looks := true }, kinds := [], alts := [], laidByText := true, laidKinds := [.data, .data, .data, .sentinel, .sentinel, .data], laidTests := true, laidLooks := .later }
def TokenWordsUptoCardSaid : Prop := Claim7.holds Tryd.pinned (.plain (OpenSpec.upto tokenWordsSpec)) tokenWordsUptoCard
end Rows
end Go.Proofs.YtekalnhackjldaaDoor
