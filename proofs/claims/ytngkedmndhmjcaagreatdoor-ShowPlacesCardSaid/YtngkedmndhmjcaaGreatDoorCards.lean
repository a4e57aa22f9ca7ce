/-
  DERIVED. GIVEN WITH THE SEED: THE CARDS: each row of YtngkedmndhmjcaaGreatDoorRows.lean that lists a variable, with what it lists TIED to the program's text (the seventh form; the later family's looks); each row that meets fmt, with fmt's text TOLD by the authors' own Lean function (tested against real Go, not proved from fmt's source: count such statements apart). THE CARD IS WHAT COUNTS. Prove the row's statement (the work); the ties are given (YtngkedmndhmjcaaGreatDoorTie.lean); close each card by the builder's one call (the guide's Derived/Test/ToyasCard.lean, 'card_holds'). Laid BY PROGRAM, IN A SANDBOX (cutbox-door.mjs). By AI agents, Wed Nov 11 2026. No macro, syntax, notation, axiom, sorry.
-/
import Derived.Test.YtngkedmndhmjcaaGreatDoorRows
import GoSem.ClaimSeven
namespace Go.Proofs.YtngkedmndhmjcaaGreatDoor
namespace Rows

/-- THE TIED CARD OF 'windrowlaw05.ShowRights'. -/
def showRightsCard : Claim7 := { stood := { row := showRightsRow, standIns := [], harness := (true, "6b0332563988c3c9831dd8c1ae8e8223c6dedf0ac6856cf3866d1abfefcde385"), looks := true }, kinds := [], alts := [], laidByText := true, laidKinds := [.data, .data, .data, .data, .sentinel, .sentinel, .listed, .data, .pinned], laidTests := true, laidLooks := .later }
def ShowRightsCardSaid : Prop := Claim7.holds Tryz.pinned (.plain (OpenSpec.ofChange showRightsSpec)) showRightsCard

/-- THE TIED CARD OF 'windrowlaw05.ShowTexts'. -/
def showTextsCard : Claim7 := { stood := { row := showTextsRow, standIns := [], harness := (true, "6b0332563988c3c9831dd8c1ae8e8223c6dedf0ac6856cf3866d1abfefcde385"), looks := true }, kinds := [], alts := [], laidByText := true, laidKinds := [.data, .data, .data, .data, .sentinel, .sentinel, .listed, .data, .pinned], laidTests := true, laidLooks := .later }
def ShowTextsCardSaid : Prop := Claim7.holds Tryz.pinned (.plain (OpenSpec.ofChange showTextsSpec)) showTextsCard

/-- THE TIED CARD OF 'windrowlaw05.ShowBack'. -/
def showBackCard : Claim7 := { stood := { row := showBackRow, standIns := [], harness := (true, "6b0332563988c3c9831dd8c1ae8e8223c6dedf0ac6856cf3866d1abfefcde385"), looks := true }, kinds := [], alts := [], laidByText := true, laidKinds := [.data, .data, .data, .data, .sentinel, .sentinel, .listed, .data, .pinned], laidTests := true, laidLooks := .later }
def ShowBackCardSaid : Prop := Claim7.holds Tryz.pinned (.plain (OpenSpec.ofChange showBackSpec)) showBackCard

/-- THE TIED CARD OF 'windrowlaw05.ShowReads'. -/
def showReadsCard : Claim7 := { stood := { row := showReadsRow, standIns := [], harness := (true, "6b0332563988c3c9831dd8c1ae8e8223c6dedf0ac6856cf3866d1abfefcde385"), looks := true }, kinds := [], alts := [], laidByText := true, laidKinds := [.data, .data, .data, .data, .sentinel, .sentinel, .listed, .data, .pinned], laidTests := true, laidLooks := .later }
def ShowReadsCardSaid : Prop := Claim7.holds Tryz.pinned (.plain (OpenSpec.ofChange showReadsSpec)) showReadsCard

/-- THE TIED CARD OF 'windrowlaw05.ShowShort'. -/
def showShortCard : Claim7 := { stood := { row := showShortRow, standIns := [], harness := (true, "6b0332563988c3c9831dd8c1ae8e8223c6dedf0ac6856cf3866d1abfefcde385"), looks := true }, kinds := [], alts := [], laidByText := true, laidKinds := [.data, .data, .data, .data, .sentinel, .sentinel, .listed, .data, .pinned], laidTests := true, laidLooks := .later }
def ShowShortCardSaid : Prop := Claim7.holds Tryz.pinned (.plain (OpenSpec.ofChange showShortSpec)) showShortCard

/-- THE TIED CARD OF 'windrowlaw05.ShowUnlike'. -/
def showUnlikeCard : Claim7 := { stood := { row := showUnlikeRow, standIns := [], harness := (true, "6b0332563988c3c9831dd8c1ae8e8223c6dedf0ac6856cf3866d1abfefcde385"), looks := true }, kinds := [], alts := [], laidByText := true, laidKinds := [.data, .data, .data, .data, .sentinel, .sentinel, .listed, .data, .pinned], laidTests := true, laidLooks := .later }
def ShowUnlikeCardSaid : Prop := Claim7.holds Tryz.pinned (.plain (OpenSpec.ofChange showUnlikeSpec)) showUnlikeCard

/-- THE TIED CARD OF 'windrowlaw05.ShowPlaces'. -/
def showPlacesCard : Claim7 := { stood := { row := showPlacesRow, standIns := [], harness := (true, "6b0332563988c3c9831dd8c1ae8e8223c6dedf0ac6856cf3866d1abfefcde385"), looks := true }, kinds := [], alts := [], laidByText := true, laidKinds := [.data, .data, .data, .data, .sentinel, .sentinel, .listed, .data, .pinned], laidTests := true, laidLooks := .later }
def ShowPlacesCardSaid : Prop := Claim7.holds Tryz.pinned (.plain (OpenSpec.ofChange showPlacesSpec)) showPlacesCard

/-- THE SECOND FORM's CARD OF 'windrowlaw05.ShowRights'. -/
def showRightsUptoCard : Claim7 := { stood := { row := showRightsUptoRow, standIns := [], harness := (true, "6b0332563988c3c9831dd8c1ae8e8223c6dedf0ac6856cf3866d1abfefcde385"), looks := true }, kinds := [], alts := [], laidByText := true, laidKinds := [.data, .data, .data, .data, .sentinel, .sentinel, .listed, .data, .pinned], laidTests := true, laidLooks := .later }
def ShowRightsUptoCardSaid : Prop := Claim7.holds Tryz.pinned (.plain (OpenSpec.upto showRightsSpec)) showRightsUptoCard

/-- THE SECOND FORM's CARD OF 'windrowlaw05.ShowTexts'. -/
def showTextsUptoCard : Claim7 := { stood := { row := showTextsUptoRow, standIns := [], harness := (true, "6b0332563988c3c9831dd8c1ae8e8223c6dedf0ac6856cf3866d1abfefcde385"), looks := true }, kinds := [], alts := [], laidByText := true, laidKinds := [.data, .data, .data, .data, .sentinel, .sentinel, .listed, .data, .pinned], laidTests := true, laidLooks := .later }
def ShowTextsUptoCardSaid : Prop := Claim7.holds Tryz.pinned (.plain (OpenSpec.upto showTextsSpec)) showTextsUptoCard

/-- THE SECOND FORM's CARD OF 'windrowlaw05.ShowBack'. -/
def showBackUptoCard : Claim7 := { stood := { row := showBackUptoRow, standIns := [], harness := (true, "6b0332563988c3c9831dd8c1ae8e8223c6dedf0ac6856cf3866d1abfefcde385"), looks := true }, kinds := [], alts := [], laidByText := true, laidKinds := [.data, .data, .data, .data, .sentinel, .sentinel, .listed, .data, .pinned], laidTests := true, laidLooks := .later }
def ShowBackUptoCardSaid : Prop := Claim7.holds Tryz.pinned (.plain (OpenSpec.upto showBackSpec)) showBackUptoCard

/-- THE SECOND FORM's CARD OF 'windrowlaw05.ShowReads'. -/
def showReadsUptoCard : Claim7 := { stood := { row := showReadsUptoRow, standIns := [], harness := (true, "6b0332563988c3c9831dd8c1ae8e8223c6dedf0ac6856cf3866d1abfefcde385"), looks := true }, kinds := [], alts := [], laidByText := true, laidKinds := [.data, .data, .data, .data, .sentinel, .sentinel, .listed, .data, .pinned], laidTests := true, laidLooks := .later }
def ShowReadsUptoCardSaid : Prop := Claim7.holds Tryz.pinned (.plain (OpenSpec.upto showReadsSpec)) showReadsUptoCard

/-- THE SECOND FORM's CARD OF 'windrowlaw05.ShowShort'. -/
def showShortUptoCard : Claim7 := { stood := { row := showShortUptoRow, standIns := [], harness := (true, "6b0332563988c3c9831dd8c1ae8e8223c6dedf0ac6856cf3866d1abfefcde385"), looks := true }, kinds := [], alts := [], laidByText := true, laidKinds := [.data, .data, .data, .data, .sentinel, .sentinel, .listed, .data, .pinned], laidTests := true, laidLooks := .later }
def ShowShortUptoCardSaid : Prop := Claim7.holds Tryz.pinned (.plain (OpenSpec.upto showShortSpec)) showShortUptoCard

/-- THE SECOND FORM's CARD OF 'windrowlaw05.ShowUnlike'. -/
def showUnlikeUptoCard : Claim7 := { stood := { row := showUnlikeUptoRow, standIns := [], harness := (true, "6b0332563988c3c9831dd8c1ae8e8223c6dedf0ac6856cf3866d1abfefcde385"), looks := true }, kinds := [], alts := [], laidByText := true, laidKinds := [.data, .data, .data, .data, .sentinel, .sentinel, .listed, .data, .pinned], laidTests := true, laidLooks := .later }
def ShowUnlikeUptoCardSaid : Prop := Claim7.holds Tryz.pinned (.plain (OpenSpec.upto showUnlikeSpec)) showUnlikeUptoCard

/-- THE SECOND FORM's CARD OF 'windrowlaw05.ShowPlaces'. -/
def showPlacesUptoCard : Claim7 := { stood := { row := showPlacesUptoRow, standIns := [], harness := (true, "6b0332563988c3c9831dd8c1ae8e8223c6dedf0ac6856cf3866d1abfefcde385"), looks := true }, kinds := [], alts := [], laidByText := true, laidKinds := [.data, .data, .data, .data, .sentinel, .sentinel, .listed, .data, .pinned], laidTests := true, laidLooks := .later }
def ShowPlacesUptoCardSaid : Prop := Claim7.holds Tryz.pinned (.plain (OpenSpec.upto showPlacesSpec)) showPlacesUptoCard
end Rows
end Go.Proofs.YtngkedmndhmjcaaGreatDoor
