/-
  DERIVED. GIVEN WITH THE SEED: THE CARDS: each row of YtciimjjleglmaaaGreatDoorRows.lean that lists a variable, with what it lists TIED to the program's text (the seventh form; the later family's looks); each row that meets fmt, with fmt's text TOLD by the authors' own Lean function (tested against real Go, not proved from fmt's source: count such statements apart). THE CARD IS WHAT COUNTS. Prove the row's statement (the work); the ties are given (YtciimjjleglmaaaGreatDoorTie.lean); close each card by the builder's one call (the guide's Derived/Test/ToyasCard.lean, 'card_holds'). Laid BY PROGRAM, IN A SANDBOX (cutbox-door.mjs). By AI agents, Wed Nov 11 2026. No macro, syntax, notation, axiom, sorry.
-/
import Derived.Test.YtciimjjleglmaaaGreatDoorRows
import GoSem.ClaimSeven
namespace Go.Proofs.YtciimjjleglmaaaGreatDoor
namespace Rows

/-- THE TIED CARD OF 'windrowlaw08.MeanVars'. -/
def meanVarsCard : Claim7 := { stood := { row := meanVarsRow, standIns := [], harness := (true, "af1aeb513e9d88ce6ff1199db233e30c7c3cbb9aa29fbc7c735716ddec1a0d86"), looks := true }, kinds := [], alts := [], laidByText := true, laidKinds := [.data, .data, .data, .data, .sentinel, .sentinel, .listed, .data, .pinned], laidTests := true, laidLooks := .later }
def MeanVarsCardSaid : Prop := Claim7.holds Tryz.pinned (.plain (OpenSpec.ofChange meanVarsSpec)) meanVarsCard

/-- THE TIED CARD OF 'windrowlaw08.MeanMeans'. -/
def meanMeansCard : Claim7 := { stood := { row := meanMeansRow, standIns := [], harness := (true, "af1aeb513e9d88ce6ff1199db233e30c7c3cbb9aa29fbc7c735716ddec1a0d86"), looks := true }, kinds := [], alts := [], laidByText := true, laidKinds := [.data, .data, .data, .data, .sentinel, .sentinel, .listed, .data, .pinned], laidTests := true, laidLooks := .later }
def MeanMeansCardSaid : Prop := Claim7.holds Tryz.pinned (.plain (OpenSpec.ofChange meanMeansSpec)) meanMeansCard

/-- THE TIED CARD OF 'windrowlaw08.MeanArrays'. -/
def meanArraysCard : Claim7 := { stood := { row := meanArraysRow, standIns := [], harness := (true, "af1aeb513e9d88ce6ff1199db233e30c7c3cbb9aa29fbc7c735716ddec1a0d86"), looks := true }, kinds := [], alts := [], laidByText := true, laidKinds := [.data, .data, .data, .data, .sentinel, .sentinel, .listed, .data, .pinned], laidTests := true, laidLooks := .later }
def MeanArraysCardSaid : Prop := Claim7.holds Tryz.pinned (.plain (OpenSpec.ofChange meanArraysSpec)) meanArraysCard

/-- THE TIED CARD OF 'windrowlaw08.MeanLeft'. -/
def meanLeftCard : Claim7 := { stood := { row := meanLeftRow, standIns := [], harness := (true, "af1aeb513e9d88ce6ff1199db233e30c7c3cbb9aa29fbc7c735716ddec1a0d86"), looks := true }, kinds := [], alts := [], laidByText := true, laidKinds := [.data, .data, .data, .data, .sentinel, .sentinel, .listed, .data, .pinned], laidTests := true, laidLooks := .later }
def MeanLeftCardSaid : Prop := Claim7.holds Tryz.pinned (.plain (OpenSpec.ofChange meanLeftSpec)) meanLeftCard

/-- THE TIED CARD OF 'windrowlaw08.MeanNames'. -/
def meanNamesCard : Claim7 := { stood := { row := meanNamesRow, standIns := [], harness := (true, "af1aeb513e9d88ce6ff1199db233e30c7c3cbb9aa29fbc7c735716ddec1a0d86"), looks := true }, kinds := [], alts := [], laidByText := true, laidKinds := [.data, .data, .data, .data, .sentinel, .sentinel, .listed, .data, .pinned], laidTests := true, laidLooks := .later }
def MeanNamesCardSaid : Prop := Claim7.holds Tryz.pinned (.plain (OpenSpec.ofChange meanNamesSpec)) meanNamesCard

/-- THE TIED CARD OF 'windrowlaw08.MeanVerbs'. -/
def meanVerbsCard : Claim7 := { stood := { row := meanVerbsRow, standIns := [], harness := (true, "af1aeb513e9d88ce6ff1199db233e30c7c3cbb9aa29fbc7c735716ddec1a0d86"), looks := true }, kinds := [], alts := [], laidByText := true, laidKinds := [.data, .data, .data, .data, .sentinel, .sentinel, .listed, .data, .pinned], laidTests := true, laidLooks := .later }
def MeanVerbsCardSaid : Prop := Claim7.holds Tryz.pinned (.plain (OpenSpec.ofChange meanVerbsSpec)) meanVerbsCard

/-- THE TIED CARD OF 'windrowlaw08.MeanPlaces'. -/
def meanPlacesCard : Claim7 := { stood := { row := meanPlacesRow, standIns := [], harness := (true, "af1aeb513e9d88ce6ff1199db233e30c7c3cbb9aa29fbc7c735716ddec1a0d86"), looks := true }, kinds := [], alts := [], laidByText := true, laidKinds := [.data, .data, .data, .data, .sentinel, .sentinel, .listed, .data, .pinned], laidTests := true, laidLooks := .later }
def MeanPlacesCardSaid : Prop := Claim7.holds Tryz.pinned (.plain (OpenSpec.ofChange meanPlacesSpec)) meanPlacesCard

/-- THE SECOND FORM's CARD OF 'windrowlaw08.MeanVars'. -/
def meanVarsUptoCard : Claim7 := { stood := { row := meanVarsUptoRow, standIns := [], harness := (true, "af1aeb513e9d88ce6ff1199db233e30c7c3cbb9aa29fbc7c735716ddec1a0d86"), looks := true }, kinds := [], alts := [], laidByText := true, laidKinds := [.data, .data, .data, .data, .sentinel, .sentinel, .listed, .data, .pinned], laidTests := true, laidLooks := .later }
def MeanVarsUptoCardSaid : Prop := Claim7.holds Tryz.pinned (.plain (OpenSpec.upto meanVarsSpec)) meanVarsUptoCard

/-- THE SECOND FORM's CARD OF 'windrowlaw08.MeanMeans'. -/
def meanMeansUptoCard : Claim7 := { stood := { row := meanMeansUptoRow, standIns := [], harness := (true, "af1aeb513e9d88ce6ff1199db233e30c7c3cbb9aa29fbc7c735716ddec1a0d86"), looks := true }, kinds := [], alts := [], laidByText := true, laidKinds := [.data, .data, .data, .data, .sentinel, .sentinel, .listed, .data, .pinned], laidTests := true, laidLooks := .later }
def MeanMeansUptoCardSaid : Prop := Claim7.holds Tryz.pinned (.plain (OpenSpec.upto meanMeansSpec)) meanMeansUptoCard

/-- THE SECOND FORM's CARD OF 'windrowlaw08.MeanArrays'. -/
def meanArraysUptoCard : Claim7 := { stood := { row := meanArraysUptoRow, standIns := [], harness := (true, "af1aeb513e9d88ce6ff1199db233e30c7c3cbb9aa29fbc7c735716ddec1a0d86"), looks := true }, kinds := [], alts := [], laidByText := true, laidKinds := [.data, .data, .data, .data, .sentinel, .sentinel, .listed, .data, .pinned], laidTests := true, laidLooks := .later }
def MeanArraysUptoCardSaid : Prop := Claim7.holds Tryz.pinned (.plain (OpenSpec.upto meanArraysSpec)) meanArraysUptoCard

/-- THE SECOND FORM's CARD OF 'windrowlaw08.MeanLeft'. -/
def meanLeftUptoCard : Claim7 := { stood := { row := meanLeftUptoRow, standIns := [], harness := (true, "af1aeb513e9d88ce6ff1199db233e30c7c3cbb9aa29fbc7c735716ddec1a0d86"), looks := true }, kinds := [], alts := [], laidByText := true, laidKinds := [.data, .data, .data, .data, .sentinel, .sentinel, .listed, .data, .pinned], laidTests := true, laidLooks := .later }
def MeanLeftUptoCardSaid : Prop := Claim7.holds Tryz.pinned (.plain (OpenSpec.upto meanLeftSpec)) meanLeftUptoCard

/-- THE SECOND FORM's CARD OF 'windrowlaw08.MeanNames'. -/
def meanNamesUptoCard : Claim7 := { stood := { row := meanNamesUptoRow, standIns := [], harness := (true, "af1aeb513e9d88ce6ff1199db233e30c7c3cbb9aa29fbc7c735716ddec1a0d86"), looks := true }, kinds := [], alts := [], laidByText := true, laidKinds := [.data, .data, .data, .data, .sentinel, .sentinel, .listed, .data, .pinned], laidTests := true, laidLooks := .later }
def MeanNamesUptoCardSaid : Prop := Claim7.holds Tryz.pinned (.plain (OpenSpec.upto meanNamesSpec)) meanNamesUptoCard

/-- THE SECOND FORM's CARD OF 'windrowlaw08.MeanVerbs'. -/
def meanVerbsUptoCard : Claim7 := { stood := { row := meanVerbsUptoRow, standIns := [], harness := (true, "af1aeb513e9d88ce6ff1199db233e30c7c3cbb9aa29fbc7c735716ddec1a0d86"), looks := true }, kinds := [], alts := [], laidByText := true, laidKinds := [.data, .data, .data, .data, .sentinel, .sentinel, .listed, .data, .pinned], laidTests := true, laidLooks := .later }
def MeanVerbsUptoCardSaid : Prop := Claim7.holds Tryz.pinned (.plain (OpenSpec.upto meanVerbsSpec)) meanVerbsUptoCard

/-- THE SECOND FORM's CARD OF 'windrowlaw08.MeanPlaces'. -/
def meanPlacesUptoCard : Claim7 := { stood := { row := meanPlacesUptoRow, standIns := [], harness := (true, "af1aeb513e9d88ce6ff1199db233e30c7c3cbb9aa29fbc7c735716ddec1a0d86"), looks := true }, kinds := [], alts := [], laidByText := true, laidKinds := [.data, .data, .data, .data, .sentinel, .sentinel, .listed, .data, .pinned], laidTests := true, laidLooks := .later }
def MeanPlacesUptoCardSaid : Prop := Claim7.holds Tryz.pinned (.plain (OpenSpec.upto meanPlacesSpec)) meanPlacesUptoCard
end Rows
end Go.Proofs.YtciimjjleglmaaaGreatDoor
