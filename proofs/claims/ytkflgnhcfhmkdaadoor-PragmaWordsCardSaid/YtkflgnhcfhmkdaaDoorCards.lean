/-
  DERIVED. GIVEN WITH THE SEED: THE CARDS: each row of YtkflgnhcfhmkdaaDoorRows.lean that lists a variable, with what it lists TIED to the program's text (the seventh form; the later family's looks); each row that meets fmt, with fmt's text TOLD by the authors' own Lean function (tested against real Go, not proved from fmt's source: count such statements apart). THE CARD IS WHAT COUNTS. Prove the row's statement (the work); the ties are given (YtkflgnhcfhmkdaaDoorTie.lean); close each card by the builder's one call (the guide's Derived/Test/ToyasCard.lean, 'card_holds'). Laid BY PROGRAM, IN A SANDBOX (cutbox-door.mjs). By AI agents, Wed Nov 11 2026. No macro, syntax, notation, axiom, sorry.
-/
import Derived.Test.YtkflgnhcfhmkdaaDoorRows
import GoSem.ClaimSeven
namespace Go.Proofs.YtkflgnhcfhmkdaaDoor
namespace Rows

/-- THE TIED CARD OF 'redpenlaw17.PragmaLines'. -/
def pragmaLinesCard : Claim7 := { stood := { row := pragmaLinesRow, standIns := [], harness := (true, "227c918316b5d54de31edc9d2af9682db00965d0b4a87664297d14d7d21f2a12"), looks := false }, kinds := [], alts := [], laidByText := true, laidKinds := [.data, .pinned], laidTests := true, laidLooks := .later }
def PragmaLinesCardSaid : Prop := Claim7.holds Tryd.pinned (.plain (OpenSpec.ofChange pragmaLinesSpec)) pragmaLinesCard

/-- THE TIED CARD OF 'redpenlaw17.PragmaReads'. -/
def pragmaReadsCard : Claim7 := { stood := { row := pragmaReadsRow, standIns := [], harness := (true, "227c918316b5d54de31edc9d2af9682db00965d0b4a87664297d14d7d21f2a12"), looks := false }, kinds := [], alts := [], laidByText := true, laidKinds := [.data, .pinned], laidTests := true, laidLooks := .later }
def PragmaReadsCardSaid : Prop := Claim7.holds Tryd.pinned (.plain (OpenSpec.ofChange pragmaReadsSpec)) pragmaReadsCard

/-- THE TIED CARD OF 'redpenlaw17.PragmaWords'. -/
def pragmaWordsCard : Claim7 := { stood := { row := pragmaWordsRow, standIns := [], harness := (true, "227c918316b5d54de31edc9d2af9682db00965d0b4a87664297d14d7d21f2a12"), looks := false }, kinds := [], alts := [], laidByText := true, laidKinds := [.data, .pinned], laidTests := true, laidLooks := .later }
def PragmaWordsCardSaid : Prop := Claim7.holds Tryd.pinned (.plain (OpenSpec.ofChange pragmaWordsSpec)) pragmaWordsCard

/-- THE TIED CARD OF 'redpenlaw17.PragmaNil'. -/
def pragmaNilCard : Claim7 := { stood := { row := pragmaNilRow, standIns := [], harness := (true, "227c918316b5d54de31edc9d2af9682db00965d0b4a87664297d14d7d21f2a12"), looks := false }, kinds := [], alts := [], laidByText := true, laidKinds := [.data, .pinned], laidTests := true, laidLooks := .later }
def PragmaNilCardSaid : Prop := Claim7.holds Tryd.pinned (.plain (OpenSpec.ofChange pragmaNilSpec)) pragmaNilCard

/-- THE TIED CARD OF 'redpenlaw17.PragmaPlain'. -/
def pragmaPlainCard : Claim7 := { stood := { row := pragmaPlainRow, standIns := [], harness := (true, "227c918316b5d54de31edc9d2af9682db00965d0b4a87664297d14d7d21f2a12"), looks := false }, kinds := [], alts := [], laidByText := true, laidKinds := [.data, .pinned], laidTests := true, laidLooks := .later }
def PragmaPlainCardSaid : Prop := Claim7.holds Tryd.pinned (.plain (OpenSpec.ofChange pragmaPlainSpec)) pragmaPlainCard

/-- THE SECOND FORM's CARD OF 'redpenlaw17.PragmaLines'. -/
def pragmaLinesUptoCard : Claim7 := { stood := { row := pragmaLinesUptoRow, standIns := [], harness := (true, "227c918316b5d54de31edc9d2af9682db00965d0b4a87664297d14d7d21f2a12"), looks := false }, kinds := [], alts := [], laidByText := true, laidKinds := [.data, .pinned], laidTests := true, laidLooks := .later }
def PragmaLinesUptoCardSaid : Prop := Claim7.holds Tryd.pinned (.plain (OpenSpec.upto pragmaLinesSpec)) pragmaLinesUptoCard

/-- THE SECOND FORM's CARD OF 'redpenlaw17.PragmaReads'. -/
def pragmaReadsUptoCard : Claim7 := { stood := { row := pragmaReadsUptoRow, standIns := [], harness := (true, "227c918316b5d54de31edc9d2af9682db00965d0b4a87664297d14d7d21f2a12"), looks := false }, kinds := [], alts := [], laidByText := true, laidKinds := [.data, .pinned], laidTests := true, laidLooks := .later }
def PragmaReadsUptoCardSaid : Prop := Claim7.holds Tryd.pinned (.plain (OpenSpec.upto pragmaReadsSpec)) pragmaReadsUptoCard

/-- THE SECOND FORM's CARD OF 'redpenlaw17.PragmaWords'. -/
def pragmaWordsUptoCard : Claim7 := { stood := { row := pragmaWordsUptoRow, standIns := [], harness := (true, "227c918316b5d54de31edc9d2af9682db00965d0b4a87664297d14d7d21f2a12"), looks := false }, kinds := [], alts := [], laidByText := true, laidKinds := [.data, .pinned], laidTests := true, laidLooks := .later }
def PragmaWordsUptoCardSaid : Prop := Claim7.holds Tryd.pinned (.plain (OpenSpec.upto pragmaWordsSpec)) pragmaWordsUptoCard

/-- THE SECOND FORM's CARD OF 'redpenlaw17.PragmaNil'. -/
def pragmaNilUptoCard : Claim7 := { stood := { row := pragmaNilUptoRow, standIns := [], harness := (true, "227c918316b5d54de31edc9d2af9682db00965d0b4a87664297d14d7d21f2a12"), looks := false }, kinds := [], alts := [], laidByText := true, laidKinds := [.data, .pinned], laidTests := true, laidLooks := .later }
def PragmaNilUptoCardSaid : Prop := Claim7.holds Tryd.pinned (.plain (OpenSpec.upto pragmaNilSpec)) pragmaNilUptoCard

/-- THE SECOND FORM's CARD OF 'redpenlaw17.PragmaPlain'. -/
def pragmaPlainUptoCard : Claim7 := { stood := { row := pragmaPlainUptoRow, standIns := [], harness := (true, "227c918316b5d54de31edc9d2af9682db00965d0b4a87664297d14d7d21f2a12"), looks := false }, kinds := [], alts := [], laidByText := true, laidKinds := [.data, .pinned], laidTests := true, laidLooks := .later }
def PragmaPlainUptoCardSaid : Prop := Claim7.holds Tryd.pinned (.plain (OpenSpec.upto pragmaPlainSpec)) pragmaPlainUptoCard
end Rows
end Go.Proofs.YtkflgnhcfhmkdaaDoor
