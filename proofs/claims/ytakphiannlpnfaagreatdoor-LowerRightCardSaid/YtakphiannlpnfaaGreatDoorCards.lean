/-
  DERIVED. GIVEN WITH THE SEED: THE CARDS: each row of YtakphiannlpnfaaGreatDoorRows.lean that lists a variable, with what it lists TIED to the program's text (the seventh form; the later family's looks); each row that meets fmt, with fmt's text TOLD by the authors' own Lean function (tested against real Go, not proved from fmt's source: count such statements apart). THE CARD IS WHAT COUNTS. Prove the row's statement (the work); the ties are given (YtakphiannlpnfaaGreatDoorTie.lean); close each card by the builder's one call (the guide's Derived/Test/ToyasCard.lean, 'card_holds'). Laid BY PROGRAM, IN A SANDBOX (cutbox-door.mjs). By AI agents, Wed Nov 11 2026. No macro, syntax, notation, axiom, sorry.
-/
import Derived.Test.YtakphiannlpnfaaGreatDoorRows
import GoSem.ClaimSeven
namespace Go.Proofs.YtakphiannlpnfaaGreatDoor
namespace Rows

/-- THE TIED CARD OF 'windrowlaw11.LowerSides'. -/
def lowerSidesCard : Claim7 := { stood := { row := lowerSidesRow, standIns := [], harness := (true, "81f027ed8170ffc3d98e28d0dc2adfdaafb8535bce3a0e8c7d209335e3f003d6"), looks := true }, kinds := [], alts := [], laidByText := true, laidKinds := [.data, .data, .data, .data, .sentinel, .sentinel, .listed, .data, .pinned], laidTests := true, laidLooks := .later }
def LowerSidesCardSaid : Prop := Claim7.holds Tryz.pinned (.plain (OpenSpec.ofChange lowerSidesSpec)) lowerSidesCard

/-- THE TIED CARD OF 'windrowlaw11.LowerAhead'. -/
def lowerAheadCard : Claim7 := { stood := { row := lowerAheadRow, standIns := [], harness := (true, "81f027ed8170ffc3d98e28d0dc2adfdaafb8535bce3a0e8c7d209335e3f003d6"), looks := true }, kinds := [], alts := [], laidByText := true, laidKinds := [.data, .data, .data, .data, .sentinel, .sentinel, .listed, .data, .pinned], laidTests := true, laidLooks := .later }
def LowerAheadCardSaid : Prop := Claim7.holds Tryz.pinned (.plain (OpenSpec.ofChange lowerAheadSpec)) lowerAheadCard

/-- THE TIED CARD OF 'windrowlaw11.LowerPlaces'. -/
def lowerPlacesCard : Claim7 := { stood := { row := lowerPlacesRow, standIns := [], harness := (true, "81f027ed8170ffc3d98e28d0dc2adfdaafb8535bce3a0e8c7d209335e3f003d6"), looks := true }, kinds := [], alts := [], laidByText := true, laidKinds := [.data, .data, .data, .data, .sentinel, .sentinel, .listed, .data, .pinned], laidTests := true, laidLooks := .later }
def LowerPlacesCardSaid : Prop := Claim7.holds Tryz.pinned (.plain (OpenSpec.ofChange lowerPlacesSpec)) lowerPlacesCard

/-- THE TIED CARD OF 'windrowlaw11.LowerRight'. -/
def lowerRightCard : Claim7 := { stood := { row := lowerRightRow, standIns := [], harness := (true, "81f027ed8170ffc3d98e28d0dc2adfdaafb8535bce3a0e8c7d209335e3f003d6"), looks := true }, kinds := [], alts := [], laidByText := true, laidKinds := [.data, .data, .data, .data, .sentinel, .sentinel, .listed, .data, .pinned], laidTests := true, laidLooks := .later }
def LowerRightCardSaid : Prop := Claim7.holds Tryz.pinned (.plain (OpenSpec.ofChange lowerRightSpec)) lowerRightCard

/-- THE SECOND FORM's CARD OF 'windrowlaw11.LowerSides'. -/
def lowerSidesUptoCard : Claim7 := { stood := { row := lowerSidesUptoRow, standIns := [], harness := (true, "81f027ed8170ffc3d98e28d0dc2adfdaafb8535bce3a0e8c7d209335e3f003d6"), looks := true }, kinds := [], alts := [], laidByText := true, laidKinds := [.data, .data, .data, .data, .sentinel, .sentinel, .listed, .data, .pinned], laidTests := true, laidLooks := .later }
def LowerSidesUptoCardSaid : Prop := Claim7.holds Tryz.pinned (.plain (OpenSpec.upto lowerSidesSpec)) lowerSidesUptoCard

/-- THE SECOND FORM's CARD OF 'windrowlaw11.LowerAhead'. -/
def lowerAheadUptoCard : Claim7 := { stood := { row := lowerAheadUptoRow, standIns := [], harness := (true, "81f027ed8170ffc3d98e28d0dc2adfdaafb8535bce3a0e8c7d209335e3f003d6"), looks := true }, kinds := [], alts := [], laidByText := true, laidKinds := [.data, .data, .data, .data, .sentinel, .sentinel, .listed, .data, .pinned], laidTests := true, laidLooks := .later }
def LowerAheadUptoCardSaid : Prop := Claim7.holds Tryz.pinned (.plain (OpenSpec.upto lowerAheadSpec)) lowerAheadUptoCard

/-- THE SECOND FORM's CARD OF 'windrowlaw11.LowerPlaces'. -/
def lowerPlacesUptoCard : Claim7 := { stood := { row := lowerPlacesUptoRow, standIns := [], harness := (true, "81f027ed8170ffc3d98e28d0dc2adfdaafb8535bce3a0e8c7d209335e3f003d6"), looks := true }, kinds := [], alts := [], laidByText := true, laidKinds := [.data, .data, .data, .data, .sentinel, .sentinel, .listed, .data, .pinned], laidTests := true, laidLooks := .later }
def LowerPlacesUptoCardSaid : Prop := Claim7.holds Tryz.pinned (.plain (OpenSpec.upto lowerPlacesSpec)) lowerPlacesUptoCard

/-- THE SECOND FORM's CARD OF 'windrowlaw11.LowerRight'. -/
def lowerRightUptoCard : Claim7 := { stood := { row := lowerRightUptoRow, standIns := [], harness := (true, "81f027ed8170ffc3d98e28d0dc2adfdaafb8535bce3a0e8c7d209335e3f003d6"), looks := true }, kinds := [], alts := [], laidByText := true, laidKinds := [.data, .data, .data, .data, .sentinel, .sentinel, .listed, .data, .pinned], laidTests := true, laidLooks := .later }
def LowerRightUptoCardSaid : Prop := Claim7.holds Tryz.pinned (.plain (OpenSpec.upto lowerRightSpec)) lowerRightUptoCard
end Rows
end Go.Proofs.YtakphiannlpnfaaGreatDoor
