/-
  DERIVED. GIVEN WITH THE SEED: THE CARDS: each row of YtnfiadlonjediaaGreatDoorRows.lean that lists a variable, with what it lists TIED to the program's text (the seventh form; the later family's looks); each row that meets fmt, with fmt's text TOLD by the authors' own Lean function (tested against real Go, not proved from fmt's source: count such statements apart). THE CARD IS WHAT COUNTS. Prove the row's statement (the work); the ties are given (YtnfiadlonjediaaGreatDoorTie.lean); close each card by the builder's one call (the guide's Derived/Test/ToyasCard.lean, 'card_holds'). Laid BY PROGRAM, IN A SANDBOX (cutbox-door.mjs). By AI agents, Wed Nov 11 2026. No macro, syntax, notation, axiom, sorry.
-/
import Derived.Test.YtnfiadlonjediaaGreatDoorRows
import GoSem.ClaimSeven
namespace Go.Proofs.YtnfiadlonjediaaGreatDoor
namespace Rows

/-- THE TIED CARD OF 'windrowlaw19.GenRefuses'. -/
def genRefusesCard : Claim7 := { stood := { row := genRefusesRow, standIns := [], harness := (true, "0915a443b248060cdf68aea4ccda3794d517322533c8adaa3bed255fa10aa5c9"), looks := true }, kinds := [], alts := [], laidByText := true, laidKinds := [.data, .data, .data, .data, .sentinel, .sentinel, .listed, .data, .data, .pinned], laidTests := true, laidLooks := .later }
def GenRefusesCardSaid : Prop := Claim7.holds Tryz.pinned (.plain (OpenSpec.ofChange genRefusesSpec)) genRefusesCard

/-- THE TIED CARD OF 'windrowlaw19.GenLoads'. -/
def genLoadsCard : Claim7 := { stood := { row := genLoadsRow, standIns := [], harness := (true, "0915a443b248060cdf68aea4ccda3794d517322533c8adaa3bed255fa10aa5c9"), looks := true }, kinds := [], alts := [], laidByText := true, laidKinds := [.data, .data, .data, .data, .sentinel, .sentinel, .listed, .data, .data, .pinned], laidTests := true, laidLooks := .later }
def GenLoadsCardSaid : Prop := Claim7.holds Tryz.pinned (.plain (OpenSpec.ofChange genLoadsSpec)) genLoadsCard

/-- THE TIED CARD OF 'windrowlaw19.GenRight'. -/
def genRightCard : Claim7 := { stood := { row := genRightRow, standIns := [], harness := (true, "0915a443b248060cdf68aea4ccda3794d517322533c8adaa3bed255fa10aa5c9"), looks := true }, kinds := [], alts := [], laidByText := true, laidKinds := [.data, .data, .data, .data, .sentinel, .sentinel, .listed, .data, .data, .pinned], laidTests := true, laidLooks := .later }
def GenRightCardSaid : Prop := Claim7.holds Tryz.pinned (.plain (OpenSpec.ofChange genRightSpec)) genRightCard

/-- THE TIED CARD OF 'windrowlaw19.GenSteps'. -/
def genStepsCard : Claim7 := { stood := { row := genStepsRow, standIns := [], harness := (true, "0915a443b248060cdf68aea4ccda3794d517322533c8adaa3bed255fa10aa5c9"), looks := true }, kinds := [], alts := [], laidByText := true, laidKinds := [.data, .data, .data, .data, .sentinel, .sentinel, .listed, .data, .data, .pinned], laidTests := true, laidLooks := .later }
def GenStepsCardSaid : Prop := Claim7.holds Tryz.pinned (.plain (OpenSpec.ofChange genStepsSpec)) genStepsCard

/-- THE TIED CARD OF 'windrowlaw19.GenNew'. -/
def genNewCard : Claim7 := { stood := { row := genNewRow, standIns := [], harness := (true, "0915a443b248060cdf68aea4ccda3794d517322533c8adaa3bed255fa10aa5c9"), looks := true }, kinds := [], alts := [], laidByText := true, laidKinds := [.data, .data, .data, .data, .sentinel, .sentinel, .listed, .data, .data, .pinned], laidTests := true, laidLooks := .later }
def GenNewCardSaid : Prop := Claim7.holds Tryz.pinned (.plain (OpenSpec.ofChange genNewSpec)) genNewCard

/-- THE SECOND FORM's CARD OF 'windrowlaw19.GenRefuses'. -/
def genRefusesUptoCard : Claim7 := { stood := { row := genRefusesUptoRow, standIns := [], harness := (true, "0915a443b248060cdf68aea4ccda3794d517322533c8adaa3bed255fa10aa5c9"), looks := true }, kinds := [], alts := [], laidByText := true, laidKinds := [.data, .data, .data, .data, .sentinel, .sentinel, .listed, .data, .data, .pinned], laidTests := true, laidLooks := .later }
def GenRefusesUptoCardSaid : Prop := Claim7.holds Tryz.pinned (.plain (OpenSpec.upto genRefusesSpec)) genRefusesUptoCard

/-- THE SECOND FORM's CARD OF 'windrowlaw19.GenLoads'. -/
def genLoadsUptoCard : Claim7 := { stood := { row := genLoadsUptoRow, standIns := [], harness := (true, "0915a443b248060cdf68aea4ccda3794d517322533c8adaa3bed255fa10aa5c9"), looks := true }, kinds := [], alts := [], laidByText := true, laidKinds := [.data, .data, .data, .data, .sentinel, .sentinel, .listed, .data, .data, .pinned], laidTests := true, laidLooks := .later }
def GenLoadsUptoCardSaid : Prop := Claim7.holds Tryz.pinned (.plain (OpenSpec.upto genLoadsSpec)) genLoadsUptoCard

/-- THE SECOND FORM's CARD OF 'windrowlaw19.GenRight'. -/
def genRightUptoCard : Claim7 := { stood := { row := genRightUptoRow, standIns := [], harness := (true, "0915a443b248060cdf68aea4ccda3794d517322533c8adaa3bed255fa10aa5c9"), looks := true }, kinds := [], alts := [], laidByText := true, laidKinds := [.data, .data, .data, .data, .sentinel, .sentinel, .listed, .data, .data, .pinned], laidTests := true, laidLooks := .later }
def GenRightUptoCardSaid : Prop := Claim7.holds Tryz.pinned (.plain (OpenSpec.upto genRightSpec)) genRightUptoCard

/-- THE SECOND FORM's CARD OF 'windrowlaw19.GenSteps'. -/
def genStepsUptoCard : Claim7 := { stood := { row := genStepsUptoRow, standIns := [], harness := (true, "0915a443b248060cdf68aea4ccda3794d517322533c8adaa3bed255fa10aa5c9"), looks := true }, kinds := [], alts := [], laidByText := true, laidKinds := [.data, .data, .data, .data, .sentinel, .sentinel, .listed, .data, .data, .pinned], laidTests := true, laidLooks := .later }
def GenStepsUptoCardSaid : Prop := Claim7.holds Tryz.pinned (.plain (OpenSpec.upto genStepsSpec)) genStepsUptoCard

/-- THE SECOND FORM's CARD OF 'windrowlaw19.GenNew'. -/
def genNewUptoCard : Claim7 := { stood := { row := genNewUptoRow, standIns := [], harness := (true, "0915a443b248060cdf68aea4ccda3794d517322533c8adaa3bed255fa10aa5c9"), looks := true }, kinds := [], alts := [], laidByText := true, laidKinds := [.data, .data, .data, .data, .sentinel, .sentinel, .listed, .data, .data, .pinned], laidTests := true, laidLooks := .later }
def GenNewUptoCardSaid : Prop := Claim7.holds Tryz.pinned (.plain (OpenSpec.upto genNewSpec)) genNewUptoCard
end Rows
end Go.Proofs.YtnfiadlonjediaaGreatDoor
