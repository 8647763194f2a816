/-
  DERIVED. GIVEN WITH THE SEED: THE CARDS: each row of YtnmngglfeiifaaaGreatDoorRows.lean that lists a variable, with what it lists TIED to the program's text (the seventh form; the later family's looks); each row that meets fmt, with fmt's text TOLD by the authors' own Lean function (tested against real Go, not proved from fmt's source: count such statements apart). THE CARD IS WHAT COUNTS. Prove the row's statement (the work); the ties are given (YtnmngglfeiifaaaGreatDoorTie.lean); close each card by the builder's one call (the guide's Derived/Test/ToyasCard.lean, 'card_holds'). Laid BY PROGRAM, IN A SANDBOX (cutbox-door.mjs). By AI agents, Wed Nov 11 2026. No macro, syntax, notation, axiom, sorry.
-/
import Derived.Test.YtnmngglfeiifaaaGreatDoorRows
import GoSem.ClaimSeven
namespace Go.Proofs.YtnmngglfeiifaaaGreatDoor
namespace Rows

/-- THE TIED CARD OF 'redpenlaw06.ListsLong'. -/
def listsLongCard : Claim7 := { stood := { row := listsLongRow, standIns := [], harness := (true, "db7f1869dae243745884b00ae5b2806b83ed8d4e1b63256a1f5df0e179b08e61"), looks := true }, kinds := [], alts := [], laidByText := true, laidKinds := [.data, .handle, .pinned], laidTests := true, laidLooks := .later }
def ListsLongCardSaid : Prop := Claim7.holds Tryz.pinned (.plain (OpenSpec.ofChange listsLongSpec)) listsLongCard

/-- THE TIED CARD OF 'redpenlaw06.ListsChecks'. -/
def listsChecksCard : Claim7 := { stood := { row := listsChecksRow, standIns := [], harness := (true, "db7f1869dae243745884b00ae5b2806b83ed8d4e1b63256a1f5df0e179b08e61"), looks := true }, kinds := [], alts := [], laidByText := true, laidKinds := [.data, .pinned], laidTests := true, laidLooks := .later }
def ListsChecksCardSaid : Prop := Claim7.holds Tryz.pinned (.plain (OpenSpec.ofChange listsChecksSpec)) listsChecksCard

/-- THE TIED CARD OF 'redpenlaw06.ListsLine'. -/
def listsLineCard : Claim7 := { stood := { row := listsLineRow, standIns := [], harness := (true, "db7f1869dae243745884b00ae5b2806b83ed8d4e1b63256a1f5df0e179b08e61"), looks := true }, kinds := [], alts := [], laidByText := true, laidKinds := [.data, .handle, .pinned], laidTests := true, laidLooks := .later }
def ListsLineCardSaid : Prop := Claim7.holds Tryz.pinned (.plain (OpenSpec.ofChange listsLineSpec)) listsLineCard

/-- THE TIED CARD OF 'redpenlaw06.ListsEnds'. -/
def listsEndsCard : Claim7 := { stood := { row := listsEndsRow, standIns := [], harness := (true, "db7f1869dae243745884b00ae5b2806b83ed8d4e1b63256a1f5df0e179b08e61"), looks := true }, kinds := [], alts := [], laidByText := true, laidKinds := [.data, .handle, .pinned], laidTests := true, laidLooks := .later }
def ListsEndsCardSaid : Prop := Claim7.holds Tryz.pinned (.plain (OpenSpec.ofChange listsEndsSpec)) listsEndsCard

/-- THE TIED CARD OF 'redpenlaw06.ListsWords'. -/
def listsWordsCard : Claim7 := { stood := { row := listsWordsRow, standIns := [], harness := (true, "db7f1869dae243745884b00ae5b2806b83ed8d4e1b63256a1f5df0e179b08e61"), looks := true }, kinds := [], alts := [], laidByText := true, laidKinds := [.data, .handle, .pinned], laidTests := true, laidLooks := .later }
def ListsWordsCardSaid : Prop := Claim7.holds Tryz.pinned (.plain (OpenSpec.ofChange listsWordsSpec)) listsWordsCard

/-- THE TIED CARD OF 'redpenlaw06.ListsFixes'. -/
def listsFixesCard : Claim7 := { stood := { row := listsFixesRow, standIns := [], harness := (true, "db7f1869dae243745884b00ae5b2806b83ed8d4e1b63256a1f5df0e179b08e61"), looks := true }, kinds := [], alts := [], laidByText := true, laidKinds := [.data, .handle, .pinned], laidTests := true, laidLooks := .later }
def ListsFixesCardSaid : Prop := Claim7.holds Tryz.pinned (.plain (OpenSpec.ofChange listsFixesSpec)) listsFixesCard

/-- THE SECOND FORM's CARD OF 'redpenlaw06.ListsLong'. -/
def listsLongUptoCard : Claim7 := { stood := { row := listsLongUptoRow, standIns := [], harness := (true, "db7f1869dae243745884b00ae5b2806b83ed8d4e1b63256a1f5df0e179b08e61"), looks := true }, kinds := [], alts := [], laidByText := true, laidKinds := [.data, .handle, .pinned], laidTests := true, laidLooks := .later }
def ListsLongUptoCardSaid : Prop := Claim7.holds Tryz.pinned (.plain (OpenSpec.upto listsLongSpec)) listsLongUptoCard

/-- THE SECOND FORM's CARD OF 'redpenlaw06.ListsChecks'. -/
def listsChecksUptoCard : Claim7 := { stood := { row := listsChecksUptoRow, standIns := [], harness := (true, "db7f1869dae243745884b00ae5b2806b83ed8d4e1b63256a1f5df0e179b08e61"), looks := true }, kinds := [], alts := [], laidByText := true, laidKinds := [.data, .pinned], laidTests := true, laidLooks := .later }
def ListsChecksUptoCardSaid : Prop := Claim7.holds Tryz.pinned (.plain (OpenSpec.upto listsChecksSpec)) listsChecksUptoCard

/-- THE SECOND FORM's CARD OF 'redpenlaw06.ListsLine'. -/
def listsLineUptoCard : Claim7 := { stood := { row := listsLineUptoRow, standIns := [], harness := (true, "db7f1869dae243745884b00ae5b2806b83ed8d4e1b63256a1f5df0e179b08e61"), looks := true }, kinds := [], alts := [], laidByText := true, laidKinds := [.data, .handle, .pinned], laidTests := true, laidLooks := .later }
def ListsLineUptoCardSaid : Prop := Claim7.holds Tryz.pinned (.plain (OpenSpec.upto listsLineSpec)) listsLineUptoCard

/-- THE SECOND FORM's CARD OF 'redpenlaw06.ListsEnds'. -/
def listsEndsUptoCard : Claim7 := { stood := { row := listsEndsUptoRow, standIns := [], harness := (true, "db7f1869dae243745884b00ae5b2806b83ed8d4e1b63256a1f5df0e179b08e61"), looks := true }, kinds := [], alts := [], laidByText := true, laidKinds := [.data, .handle, .pinned], laidTests := true, laidLooks := .later }
def ListsEndsUptoCardSaid : Prop := Claim7.holds Tryz.pinned (.plain (OpenSpec.upto listsEndsSpec)) listsEndsUptoCard

/-- THE SECOND FORM's CARD OF 'redpenlaw06.ListsWords'. -/
def listsWordsUptoCard : Claim7 := { stood := { row := listsWordsUptoRow, standIns := [], harness := (true, "db7f1869dae243745884b00ae5b2806b83ed8d4e1b63256a1f5df0e179b08e61"), looks := true }, kinds := [], alts := [], laidByText := true, laidKinds := [.data, .handle, .pinned], laidTests := true, laidLooks := .later }
def ListsWordsUptoCardSaid : Prop := Claim7.holds Tryz.pinned (.plain (OpenSpec.upto listsWordsSpec)) listsWordsUptoCard

/-- THE SECOND FORM's CARD OF 'redpenlaw06.ListsFixes'. -/
def listsFixesUptoCard : Claim7 := { stood := { row := listsFixesUptoRow, standIns := [], harness := (true, "db7f1869dae243745884b00ae5b2806b83ed8d4e1b63256a1f5df0e179b08e61"), looks := true }, kinds := [], alts := [], laidByText := true, laidKinds := [.data, .handle, .pinned], laidTests := true, laidLooks := .later }
def ListsFixesUptoCardSaid : Prop := Claim7.holds Tryz.pinned (.plain (OpenSpec.upto listsFixesSpec)) listsFixesUptoCard
end Rows
end Go.Proofs.YtnmngglfeiifaaaGreatDoor
