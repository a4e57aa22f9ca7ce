/-
  DERIVED. GIVEN WITH THE SEED: THE CARDS: each row of YtbgdphbebhjpiaaGreatDoorRows.lean that lists a variable, with what it lists TIED to the program's text (the seventh form; the later family's looks); each row that meets fmt, with fmt's text TOLD by the authors' own Lean function (tested against real Go, not proved from fmt's source: count such statements apart). THE CARD IS WHAT COUNTS. Prove the row's statement (the work); the ties are given (YtbgdphbebhjpiaaGreatDoorTie.lean); close each card by the builder's one call (the guide's Derived/Test/ToyasCard.lean, 'card_holds'). Laid BY PROGRAM, IN A SANDBOX (cutbox-door.mjs). By AI agents, Wed Nov 11 2026. No macro, syntax, notation, axiom, sorry.
-/
import Derived.Test.YtbgdphbebhjpiaaGreatDoorRows
import GoSem.ClaimSeven
namespace Go.Proofs.YtbgdphbebhjpiaaGreatDoor
namespace Rows

/-- THE TIED CARD OF 'windrowlaw08.MeanVars'. -/
def meanVarsCard : Claim7 := { stood := { row := meanVarsRow, standIns := [], harness := (true, "bb7bf41d1dc0512ea495631aa3ce4eae8f642dbd4bbcf6b3dc41278b51044380"), looks := true }, kinds := [], alts := [], laidByText := true, laidKinds := [.data, .data, .data, .data, .sentinel, .sentinel, .listed, .data, .pinned], laidTests := true, laidLooks := .later }
def MeanVarsCardSaid : Prop := Claim7.holds Tryz.pinned (.plain (OpenSpec.ofChange meanVarsSpec)) meanVarsCard

/-- THE TIED CARD OF 'windrowlaw08.MeanMeans'. -/
def meanMeansCard : Claim7 := { stood := { row := meanMeansRow, standIns := [], harness := (true, "bb7bf41d1dc0512ea495631aa3ce4eae8f642dbd4bbcf6b3dc41278b51044380"), looks := true }, kinds := [], alts := [], laidByText := true, laidKinds := [.data, .data, .data, .data, .sentinel, .sentinel, .listed, .data, .pinned], laidTests := true, laidLooks := .later }
def MeanMeansCardSaid : Prop := Claim7.holds Tryz.pinned (.plain (OpenSpec.ofChange meanMeansSpec)) meanMeansCard

/-- THE TIED CARD OF 'windrowlaw08.MeanNames'. -/
def meanNamesCard : Claim7 := { stood := { row := meanNamesRow, standIns := [], harness := (true, "bb7bf41d1dc0512ea495631aa3ce4eae8f642dbd4bbcf6b3dc41278b51044380"), looks := true }, kinds := [], alts := [], laidByText := true, laidKinds := [.data, .data, .data, .data, .sentinel, .sentinel, .listed, .data, .pinned], laidTests := true, laidLooks := .later }
def MeanNamesCardSaid : Prop := Claim7.holds Tryz.pinned (.plain (OpenSpec.ofChange meanNamesSpec)) meanNamesCard

/-- THE TIED CARD OF 'windrowlaw09.TypeTypes'. -/
def typeTypesCard : Claim7 := { stood := { row := typeTypesRow, standIns := [], harness := (true, "bb7bf41d1dc0512ea495631aa3ce4eae8f642dbd4bbcf6b3dc41278b51044380"), looks := true }, kinds := [], alts := [], laidByText := true, laidKinds := [.data, .data, .data, .data, .sentinel, .sentinel, .listed, .data, .pinned], laidTests := true, laidLooks := .later }
def TypeTypesCardSaid : Prop := Claim7.holds Tryz.pinned (.plain (OpenSpec.ofChange typeTypesSpec)) typeTypesCard

/-- THE TIED CARD OF 'windrowlaw09.TypeNames'. -/
def typeNamesCard : Claim7 := { stood := { row := typeNamesRow, standIns := [], harness := (true, "bb7bf41d1dc0512ea495631aa3ce4eae8f642dbd4bbcf6b3dc41278b51044380"), looks := true }, kinds := [], alts := [], laidByText := true, laidKinds := [.data, .data, .data, .data, .sentinel, .sentinel, .listed, .data, .pinned], laidTests := true, laidLooks := .later }
def TypeNamesCardSaid : Prop := Claim7.holds Tryz.pinned (.plain (OpenSpec.ofChange typeNamesSpec)) typeNamesCard

/-- THE TIED CARD OF 'windrowlaw09.TypeGrows'. -/
def typeGrowsCard : Claim7 := { stood := { row := typeGrowsRow, standIns := [], harness := (true, "bb7bf41d1dc0512ea495631aa3ce4eae8f642dbd4bbcf6b3dc41278b51044380"), looks := true }, kinds := [], alts := [], laidByText := true, laidKinds := [.data, .data, .data, .data, .sentinel, .sentinel, .listed, .data, .pinned], laidTests := true, laidLooks := .later }
def TypeGrowsCardSaid : Prop := Claim7.holds Tryz.pinned (.plain (OpenSpec.ofChange typeGrowsSpec)) typeGrowsCard

/-- THE TIED CARD OF 'windrowlaw09.TypePlaces'. -/
def typePlacesCard : Claim7 := { stood := { row := typePlacesRow, standIns := [], harness := (true, "bb7bf41d1dc0512ea495631aa3ce4eae8f642dbd4bbcf6b3dc41278b51044380"), looks := true }, kinds := [], alts := [], laidByText := true, laidKinds := [.data, .data, .data, .data, .sentinel, .sentinel, .listed, .data, .pinned], laidTests := true, laidLooks := .later }
def TypePlacesCardSaid : Prop := Claim7.holds Tryz.pinned (.plain (OpenSpec.ofChange typePlacesSpec)) typePlacesCard

/-- THE TIED CARD OF 'windrowlaw09.TypeFits'. -/
def typeFitsCard : Claim7 := { stood := { row := typeFitsRow, standIns := [], harness := (true, "bb7bf41d1dc0512ea495631aa3ce4eae8f642dbd4bbcf6b3dc41278b51044380"), looks := true }, kinds := [], alts := [], laidByText := true, laidKinds := [.data, .data, .data, .data, .sentinel, .sentinel, .listed, .data, .pinned], laidTests := true, laidLooks := .later }
def TypeFitsCardSaid : Prop := Claim7.holds Tryz.pinned (.plain (OpenSpec.ofChange typeFitsSpec)) typeFitsCard

/-- THE SECOND FORM's CARD OF 'windrowlaw08.MeanVars'. -/
def meanVarsUptoCard : Claim7 := { stood := { row := meanVarsUptoRow, standIns := [], harness := (true, "bb7bf41d1dc0512ea495631aa3ce4eae8f642dbd4bbcf6b3dc41278b51044380"), looks := true }, kinds := [], alts := [], laidByText := true, laidKinds := [.data, .data, .data, .data, .sentinel, .sentinel, .listed, .data, .pinned], laidTests := true, laidLooks := .later }
def MeanVarsUptoCardSaid : Prop := Claim7.holds Tryz.pinned (.plain (OpenSpec.upto meanVarsSpec)) meanVarsUptoCard

/-- THE SECOND FORM's CARD OF 'windrowlaw08.MeanMeans'. -/
def meanMeansUptoCard : Claim7 := { stood := { row := meanMeansUptoRow, standIns := [], harness := (true, "bb7bf41d1dc0512ea495631aa3ce4eae8f642dbd4bbcf6b3dc41278b51044380"), looks := true }, kinds := [], alts := [], laidByText := true, laidKinds := [.data, .data, .data, .data, .sentinel, .sentinel, .listed, .data, .pinned], laidTests := true, laidLooks := .later }
def MeanMeansUptoCardSaid : Prop := Claim7.holds Tryz.pinned (.plain (OpenSpec.upto meanMeansSpec)) meanMeansUptoCard

/-- THE SECOND FORM's CARD OF 'windrowlaw08.MeanNames'. -/
def meanNamesUptoCard : Claim7 := { stood := { row := meanNamesUptoRow, standIns := [], harness := (true, "bb7bf41d1dc0512ea495631aa3ce4eae8f642dbd4bbcf6b3dc41278b51044380"), looks := true }, kinds := [], alts := [], laidByText := true, laidKinds := [.data, .data, .data, .data, .sentinel, .sentinel, .listed, .data, .pinned], laidTests := true, laidLooks := .later }
def MeanNamesUptoCardSaid : Prop := Claim7.holds Tryz.pinned (.plain (OpenSpec.upto meanNamesSpec)) meanNamesUptoCard

/-- THE SECOND FORM's CARD OF 'windrowlaw09.TypeTypes'. -/
def typeTypesUptoCard : Claim7 := { stood := { row := typeTypesUptoRow, standIns := [], harness := (true, "bb7bf41d1dc0512ea495631aa3ce4eae8f642dbd4bbcf6b3dc41278b51044380"), looks := true }, kinds := [], alts := [], laidByText := true, laidKinds := [.data, .data, .data, .data, .sentinel, .sentinel, .listed, .data, .pinned], laidTests := true, laidLooks := .later }
def TypeTypesUptoCardSaid : Prop := Claim7.holds Tryz.pinned (.plain (OpenSpec.upto typeTypesSpec)) typeTypesUptoCard

/-- THE SECOND FORM's CARD OF 'windrowlaw09.TypeNames'. -/
def typeNamesUptoCard : Claim7 := { stood := { row := typeNamesUptoRow, standIns := [], harness := (true, "bb7bf41d1dc0512ea495631aa3ce4eae8f642dbd4bbcf6b3dc41278b51044380"), looks := true }, kinds := [], alts := [], laidByText := true, laidKinds := [.data, .data, .data, .data, .sentinel, .sentinel, .listed, .data, .pinned], laidTests := true, laidLooks := .later }
def TypeNamesUptoCardSaid : Prop := Claim7.holds Tryz.pinned (.plain (OpenSpec.upto typeNamesSpec)) typeNamesUptoCard

/-- THE SECOND FORM's CARD OF 'windrowlaw09.TypeGrows'. -/
def typeGrowsUptoCard : Claim7 := { stood := { row := typeGrowsUptoRow, standIns := [], harness := (true, "bb7bf41d1dc0512ea495631aa3ce4eae8f642dbd4bbcf6b3dc41278b51044380"), looks := true }, kinds := [], alts := [], laidByText := true, laidKinds := [.data, .data, .data, .data, .sentinel, .sentinel, .listed, .data, .pinned], laidTests := true, laidLooks := .later }
def TypeGrowsUptoCardSaid : Prop := Claim7.holds Tryz.pinned (.plain (OpenSpec.upto typeGrowsSpec)) typeGrowsUptoCard

/-- THE SECOND FORM's CARD OF 'windrowlaw09.TypePlaces'. -/
def typePlacesUptoCard : Claim7 := { stood := { row := typePlacesUptoRow, standIns := [], harness := (true, "bb7bf41d1dc0512ea495631aa3ce4eae8f642dbd4bbcf6b3dc41278b51044380"), looks := true }, kinds := [], alts := [], laidByText := true, laidKinds := [.data, .data, .data, .data, .sentinel, .sentinel, .listed, .data, .pinned], laidTests := true, laidLooks := .later }
def TypePlacesUptoCardSaid : Prop := Claim7.holds Tryz.pinned (.plain (OpenSpec.upto typePlacesSpec)) typePlacesUptoCard

/-- THE SECOND FORM's CARD OF 'windrowlaw09.TypeFits'. -/
def typeFitsUptoCard : Claim7 := { stood := { row := typeFitsUptoRow, standIns := [], harness := (true, "bb7bf41d1dc0512ea495631aa3ce4eae8f642dbd4bbcf6b3dc41278b51044380"), looks := true }, kinds := [], alts := [], laidByText := true, laidKinds := [.data, .data, .data, .data, .sentinel, .sentinel, .listed, .data, .pinned], laidTests := true, laidLooks := .later }
def TypeFitsUptoCardSaid : Prop := Claim7.holds Tryz.pinned (.plain (OpenSpec.upto typeFitsSpec)) typeFitsUptoCard
end Rows
end Go.Proofs.YtbgdphbebhjpiaaGreatDoor
