/-
  DERIVED. GIVEN WITH THE SEED: THE CARDS: each row of YtioekpienlhcgaaGreatDoorRows.lean that lists a variable, with what it lists TIED to the program's text (the seventh form; the later family's looks); each row that meets fmt, with fmt's text TOLD by the authors' own Lean function (tested against real Go, not proved from fmt's source: count such statements apart). THE CARD IS WHAT COUNTS. Prove the row's statement (the work); the ties are given (YtioekpienlhcgaaGreatDoorTie.lean); close each card by the builder's one call (the guide's Derived/Test/ToyasCard.lean, 'card_holds'). Laid BY PROGRAM, IN A SANDBOX (cutbox-door.mjs). By AI agents, Wed Nov 11 2026. No macro, syntax, notation, axiom, sorry.
-/
import Derived.Test.YtioekpienlhcgaaGreatDoorRows
import GoSem.ClaimSeven
namespace Go.Proofs.YtioekpienlhcgaaGreatDoor
namespace Rows

/-- THE TIED CARD OF 'windrowlaw09.TypeTypes'. -/
def typeTypesCard : Claim7 := { stood := { row := typeTypesRow, standIns := [], harness := (true, "6965fbf3e6761521527b1890bbf45ef68a87e9d3e06139bf64067dd3bc9dee39"), looks := true }, kinds := [], alts := [], laidByText := true, laidKinds := [.data, .data, .data, .data, .sentinel, .sentinel, .listed, .data, .pinned], laidTests := true, laidLooks := .later }
def TypeTypesCardSaid : Prop := Claim7.holds Tryz.pinned (.plain (OpenSpec.ofChange typeTypesSpec)) typeTypesCard

/-- THE TIED CARD OF 'windrowlaw09.TypeGrows'. -/
def typeGrowsCard : Claim7 := { stood := { row := typeGrowsRow, standIns := [], harness := (true, "6965fbf3e6761521527b1890bbf45ef68a87e9d3e06139bf64067dd3bc9dee39"), looks := true }, kinds := [], alts := [], laidByText := true, laidKinds := [.data, .data, .data, .data, .sentinel, .sentinel, .listed, .data, .pinned], laidTests := true, laidLooks := .later }
def TypeGrowsCardSaid : Prop := Claim7.holds Tryz.pinned (.plain (OpenSpec.ofChange typeGrowsSpec)) typeGrowsCard

/-- THE SECOND FORM's CARD OF 'windrowlaw09.TypeTypes'. -/
def typeTypesUptoCard : Claim7 := { stood := { row := typeTypesUptoRow, standIns := [], harness := (true, "6965fbf3e6761521527b1890bbf45ef68a87e9d3e06139bf64067dd3bc9dee39"), looks := true }, kinds := [], alts := [], laidByText := true, laidKinds := [.data, .data, .data, .data, .sentinel, .sentinel, .listed, .data, .pinned], laidTests := true, laidLooks := .later }
def TypeTypesUptoCardSaid : Prop := Claim7.holds Tryz.pinned (.plain (OpenSpec.upto typeTypesSpec)) typeTypesUptoCard

/-- THE SECOND FORM's CARD OF 'windrowlaw09.TypeGrows'. -/
def typeGrowsUptoCard : Claim7 := { stood := { row := typeGrowsUptoRow, standIns := [], harness := (true, "6965fbf3e6761521527b1890bbf45ef68a87e9d3e06139bf64067dd3bc9dee39"), looks := true }, kinds := [], alts := [], laidByText := true, laidKinds := [.data, .data, .data, .data, .sentinel, .sentinel, .listed, .data, .pinned], laidTests := true, laidLooks := .later }
def TypeGrowsUptoCardSaid : Prop := Claim7.holds Tryz.pinned (.plain (OpenSpec.upto typeGrowsSpec)) typeGrowsUptoCard
end Rows
end Go.Proofs.YtioekpienlhcgaaGreatDoor
