/-
  DERIVED. GIVEN WITH THE SEED: THE CARDS: each row of YtjabpbnlpljlkaaDoorRows.lean that lists a variable, with what it lists TIED to the program's text (the seventh form; the later family's looks); each row that meets fmt, with fmt's text TOLD by the authors' own Lean function (tested against real Go, not proved from fmt's source: count such statements apart). THE CARD IS WHAT COUNTS. Prove the row's statement (the work); the ties are given (YtjabpbnlpljlkaaDoorTie.lean); close each card by the builder's one call (the guide's Derived/Test/ToyasCard.lean, 'card_holds'). Laid BY PROGRAM, IN A SANDBOX (cutbox-door.mjs). By AI agents, Wed Nov 11 2026. No macro, syntax, notation, axiom, sorry.
-/
import Derived.Test.YtjabpbnlpljlkaaDoorRows
import GoSem.ClaimSeven
namespace Go.Proofs.YtjabpbnlpljlkaaDoor
namespace Rows

/-- THE TIED CARD OF 'redpenlaw20.ShowNames'. -/
def showNamesCard : Claim7 := { stood := { row := showNamesRow, standIns := [], harness := (true, "752826a34bacc6b67def5b0f6a82ba7bfc0f32c66cbe0c6128932376d4331592"), looks := true }, kinds := [], alts := [], laidByText := true, laidKinds := [.data, .data, .data], laidTests := true, laidLooks := .later }
def ShowNamesCardSaid : Prop := Claim7.holds Tryd.pinned (.plain (OpenSpec.ofChange showNamesSpec)) showNamesCard

/-- THE TIED CARD OF 'redpenlaw20.ShowChecks'. -/
def showChecksCard : Claim7 := { stood := { row := showChecksRow, standIns := [], harness := (true, "752826a34bacc6b67def5b0f6a82ba7bfc0f32c66cbe0c6128932376d4331592"), looks := true }, kinds := [], alts := [], laidByText := true, laidKinds := [.data, .data, .data], laidTests := true, laidLooks := .later }
def ShowChecksCardSaid : Prop := Claim7.holds Tryd.pinned (.plain (OpenSpec.ofChange showChecksSpec)) showChecksCard

/-- THE TIED CARD OF 'redpenlaw20.ShowPrints'. -/
def showPrintsCard : Claim7 := { stood := { row := showPrintsRow, standIns := [], harness := (true, "752826a34bacc6b67def5b0f6a82ba7bfc0f32c66cbe0c6128932376d4331592"), looks := true }, kinds := [], alts := [], laidByText := true, laidKinds := [.data, .data, .data], laidTests := true, laidLooks := .later }
def ShowPrintsCardSaid : Prop := Claim7.holds Tryd.pinned (.plain (OpenSpec.ofChange showPrintsSpec)) showPrintsCard

/-- THE TIED CARD OF 'redpenlaw20.ShowMade'. -/
def showMadeCard : Claim7 := { stood := { row := showMadeRow, standIns := [], harness := (true, "752826a34bacc6b67def5b0f6a82ba7bfc0f32c66cbe0c6128932376d4331592"), looks := true }, kinds := [], alts := [], laidByText := true, laidKinds := [.data, .data, .data], laidTests := true, laidLooks := .later }
def ShowMadeCardSaid : Prop := Claim7.holds Tryd.pinned (.plain (OpenSpec.ofChange showMadeSpec)) showMadeCard

/-- THE TIED CARD OF 'redpenlaw20.ShowRefuses'. -/
def showRefusesCard : Claim7 := { stood := { row := showRefusesRow, standIns := [], harness := (true, "752826a34bacc6b67def5b0f6a82ba7bfc0f32c66cbe0c6128932376d4331592"), looks := true }, kinds := [], alts := [], laidByText := true, laidKinds := [.data, .data, .data], laidTests := true, laidLooks := .later }
def ShowRefusesCardSaid : Prop := Claim7.holds Tryd.pinned (.plain (OpenSpec.ofChange showRefusesSpec)) showRefusesCard

/-- THE TIED CARD OF 'redpenlaw21.UnifyOther'. -/
def unifyOtherCard : Claim7 := { stood := { row := unifyOtherRow, standIns := [], harness := (true, "752826a34bacc6b67def5b0f6a82ba7bfc0f32c66cbe0c6128932376d4331592"), looks := true }, kinds := [], alts := [], laidByText := true, laidKinds := [.handle], laidTests := true, laidLooks := .later }
def UnifyOtherCardSaid : Prop := Claim7.holds Tryd.pinned (.plain (OpenSpec.ofChange unifyOtherSpec)) unifyOtherCard

/-- THE TIED CARD OF 'redpenlaw21.UnifyApplies'. -/
def unifyAppliesCard : Claim7 := { stood := { row := unifyAppliesRow, standIns := [], harness := (true, "752826a34bacc6b67def5b0f6a82ba7bfc0f32c66cbe0c6128932376d4331592"), looks := true }, kinds := [], alts := [], laidByText := true, laidKinds := [.handle], laidTests := true, laidLooks := .later }
def UnifyAppliesCardSaid : Prop := Claim7.holds Tryd.pinned (.plain (OpenSpec.ofChange unifyAppliesSpec)) unifyAppliesCard

/-- THE TIED CARD OF 'redpenlaw21.UnifyNone'. -/
def unifyNoneCard : Claim7 := { stood := { row := unifyNoneRow, standIns := [], harness := (true, "752826a34bacc6b67def5b0f6a82ba7bfc0f32c66cbe0c6128932376d4331592"), looks := true }, kinds := [], alts := [], laidByText := true, laidKinds := [.data, .data, .data, .data, .sentinel, .sentinel, .pinned], laidTests := true, laidLooks := .later }
def UnifyNoneCardSaid : Prop := Claim7.holds Tryd.pinned (.plain (OpenSpec.ofChange unifyNoneSpec)) unifyNoneCard

/-- THE TIED CARD OF 'redpenlaw21.UnifyBack'. -/
def unifyBackCard : Claim7 := { stood := { row := unifyBackRow, standIns := [], harness := (true, "752826a34bacc6b67def5b0f6a82ba7bfc0f32c66cbe0c6128932376d4331592"), looks := true }, kinds := [], alts := [], laidByText := true, laidKinds := [.data, .data, .data, .data, .sentinel, .sentinel, .pinned], laidTests := true, laidLooks := .later }
def UnifyBackCardSaid : Prop := Claim7.holds Tryd.pinned (.plain (OpenSpec.ofChange unifyBackSpec)) unifyBackCard

/-- THE SECOND FORM's CARD OF 'redpenlaw20.ShowNames'. -/
def showNamesUptoCard : Claim7 := { stood := { row := showNamesUptoRow, standIns := [], harness := (true, "752826a34bacc6b67def5b0f6a82ba7bfc0f32c66cbe0c6128932376d4331592"), looks := true }, kinds := [], alts := [], laidByText := true, laidKinds := [.data, .data, .data], laidTests := true, laidLooks := .later }
def ShowNamesUptoCardSaid : Prop := Claim7.holds Tryd.pinned (.plain (OpenSpec.upto showNamesSpec)) showNamesUptoCard

/-- THE SECOND FORM's CARD OF 'redpenlaw20.ShowChecks'. -/
def showChecksUptoCard : Claim7 := { stood := { row := showChecksUptoRow, standIns := [], harness := (true, "752826a34bacc6b67def5b0f6a82ba7bfc0f32c66cbe0c6128932376d4331592"), looks := true }, kinds := [], alts := [], laidByText := true, laidKinds := [.data, .data, .data], laidTests := true, laidLooks := .later }
def ShowChecksUptoCardSaid : Prop := Claim7.holds Tryd.pinned (.plain (OpenSpec.upto showChecksSpec)) showChecksUptoCard

/-- THE SECOND FORM's CARD OF 'redpenlaw20.ShowPrints'. -/
def showPrintsUptoCard : Claim7 := { stood := { row := showPrintsUptoRow, standIns := [], harness := (true, "752826a34bacc6b67def5b0f6a82ba7bfc0f32c66cbe0c6128932376d4331592"), looks := true }, kinds := [], alts := [], laidByText := true, laidKinds := [.data, .data, .data], laidTests := true, laidLooks := .later }
def ShowPrintsUptoCardSaid : Prop := Claim7.holds Tryd.pinned (.plain (OpenSpec.upto showPrintsSpec)) showPrintsUptoCard

/-- THE SECOND FORM's CARD OF 'redpenlaw20.ShowMade'. -/
def showMadeUptoCard : Claim7 := { stood := { row := showMadeUptoRow, standIns := [], harness := (true, "752826a34bacc6b67def5b0f6a82ba7bfc0f32c66cbe0c6128932376d4331592"), looks := true }, kinds := [], alts := [], laidByText := true, laidKinds := [.data, .data, .data], laidTests := true, laidLooks := .later }
def ShowMadeUptoCardSaid : Prop := Claim7.holds Tryd.pinned (.plain (OpenSpec.upto showMadeSpec)) showMadeUptoCard

/-- THE SECOND FORM's CARD OF 'redpenlaw20.ShowRefuses'. -/
def showRefusesUptoCard : Claim7 := { stood := { row := showRefusesUptoRow, standIns := [], harness := (true, "752826a34bacc6b67def5b0f6a82ba7bfc0f32c66cbe0c6128932376d4331592"), looks := true }, kinds := [], alts := [], laidByText := true, laidKinds := [.data, .data, .data], laidTests := true, laidLooks := .later }
def ShowRefusesUptoCardSaid : Prop := Claim7.holds Tryd.pinned (.plain (OpenSpec.upto showRefusesSpec)) showRefusesUptoCard

/-- THE SECOND FORM's CARD OF 'redpenlaw21.UnifyOther'. -/
def unifyOtherUptoCard : Claim7 := { stood := { row := unifyOtherUptoRow, standIns := [], harness := (true, "752826a34bacc6b67def5b0f6a82ba7bfc0f32c66cbe0c6128932376d4331592"), looks := true }, kinds := [], alts := [], laidByText := true, laidKinds := [.handle], laidTests := true, laidLooks := .later }
def UnifyOtherUptoCardSaid : Prop := Claim7.holds Tryd.pinned (.plain (OpenSpec.upto unifyOtherSpec)) unifyOtherUptoCard

/-- THE SECOND FORM's CARD OF 'redpenlaw21.UnifyApplies'. -/
def unifyAppliesUptoCard : Claim7 := { stood := { row := unifyAppliesUptoRow, standIns := [], harness := (true, "752826a34bacc6b67def5b0f6a82ba7bfc0f32c66cbe0c6128932376d4331592"), looks := true }, kinds := [], alts := [], laidByText := true, laidKinds := [.handle], laidTests := true, laidLooks := .later }
def UnifyAppliesUptoCardSaid : Prop := Claim7.holds Tryd.pinned (.plain (OpenSpec.upto unifyAppliesSpec)) unifyAppliesUptoCard

/-- THE SECOND FORM's CARD OF 'redpenlaw21.UnifyNone'. -/
def unifyNoneUptoCard : Claim7 := { stood := { row := unifyNoneUptoRow, standIns := [], harness := (true, "752826a34bacc6b67def5b0f6a82ba7bfc0f32c66cbe0c6128932376d4331592"), looks := true }, kinds := [], alts := [], laidByText := true, laidKinds := [.data, .data, .data, .data, .sentinel, .sentinel, .pinned], laidTests := true, laidLooks := .later }
def UnifyNoneUptoCardSaid : Prop := Claim7.holds Tryd.pinned (.plain (OpenSpec.upto unifyNoneSpec)) unifyNoneUptoCard

/-- THE SECOND FORM's CARD OF 'redpenlaw21.UnifyBack'. -/
def unifyBackUptoCard : Claim7 := { stood := { row := unifyBackUptoRow, standIns := [], harness := (true, "752826a34bacc6b67def5b0f6a82ba7bfc0f32c66cbe0c6128932376d4331592"), looks := true }, kinds := [], alts := [], laidByText := true, laidKinds := [.data, .data, .data, .data, .sentinel, .sentinel, .pinned], laidTests := true, laidLooks := .later }
def UnifyBackUptoCardSaid : Prop := Claim7.holds Tryd.pinned (.plain (OpenSpec.upto unifyBackSpec)) unifyBackUptoCard
end Rows
end Go.Proofs.YtjabpbnlpljlkaaDoor
