/-
  DERIVED. GIVEN WITH THE SEED: THE CARDS: each row of YtnmhcaahkaocgaaGreatDoorRows.lean that lists a variable, with what it lists TIED to the program's text (the seventh form; the later family's looks); each row that meets fmt, with fmt's text TOLD by the authors' own Lean function (tested against real Go, not proved from fmt's source: count such statements apart). THE CARD IS WHAT COUNTS. Prove the row's statement (the work); the ties are given (YtnmhcaahkaocgaaGreatDoorTie.lean); close each card by the builder's one call (the guide's Derived/Test/ToyasCard.lean, 'card_holds'). Laid BY PROGRAM, IN A SANDBOX (cutbox-door.mjs). By AI agents, Wed Nov 11 2026. No macro, syntax, notation, axiom, sorry.
-/
import Derived.Test.YtnmhcaahkaocgaaGreatDoorRows
import GoSem.ClaimSeven
namespace Go.Proofs.YtnmhcaahkaocgaaGreatDoor
namespace Rows

/-- THE TIED CARD OF 'windrowlaw11.LowerSides'. -/
def lowerSidesCard : Claim7 := { stood := { row := lowerSidesRow, standIns := [], harness := (true, "3becc72c1c2d35016e6a8e0fffc70fd7027552220e894dc7641970a85c20cd63"), looks := true }, kinds := [], alts := [], laidByText := true, laidKinds := [.data, .data, .data, .data, .sentinel, .sentinel, .listed, .data, .pinned], laidTests := true, laidLooks := .later }
def LowerSidesCardSaid : Prop := Claim7.holds Tryz.pinned (.plain (OpenSpec.ofChange lowerSidesSpec)) lowerSidesCard

/-- THE TIED CARD OF 'windrowlaw11.LowerAhead'. -/
def lowerAheadCard : Claim7 := { stood := { row := lowerAheadRow, standIns := [], harness := (true, "3becc72c1c2d35016e6a8e0fffc70fd7027552220e894dc7641970a85c20cd63"), looks := true }, kinds := [], alts := [], laidByText := true, laidKinds := [.data, .data, .data, .data, .sentinel, .sentinel, .listed, .data, .pinned], laidTests := true, laidLooks := .later }
def LowerAheadCardSaid : Prop := Claim7.holds Tryz.pinned (.plain (OpenSpec.ofChange lowerAheadSpec)) lowerAheadCard

/-- THE TIED CARD OF 'windrowlaw11.LowerRight'. -/
def lowerRightCard : Claim7 := { stood := { row := lowerRightRow, standIns := [], harness := (true, "3becc72c1c2d35016e6a8e0fffc70fd7027552220e894dc7641970a85c20cd63"), looks := true }, kinds := [], alts := [], laidByText := true, laidKinds := [.data, .data, .data, .data, .sentinel, .sentinel, .listed, .data, .pinned], laidTests := true, laidLooks := .later }
def LowerRightCardSaid : Prop := Claim7.holds Tryz.pinned (.plain (OpenSpec.ofChange lowerRightSpec)) lowerRightCard

/-- THE TIED CARD OF 'windrowlaw12.RunRuns'. -/
def runRunsCard : Claim7 := { stood := { row := runRunsRow, standIns := [], harness := (true, "3becc72c1c2d35016e6a8e0fffc70fd7027552220e894dc7641970a85c20cd63"), looks := true }, kinds := [], alts := [], laidByText := true, laidKinds := [.data, .data, .data, .data, .sentinel, .sentinel, .listed, .data, .pinned], laidTests := true, laidLooks := .later }
def RunRunsCardSaid : Prop := Claim7.holds Tryz.pinned (.plain (OpenSpec.ofChange runRunsSpec)) runRunsCard

/-- THE TIED CARD OF 'windrowlaw12.RunMore'. -/
def runMoreCard : Claim7 := { stood := { row := runMoreRow, standIns := [], harness := (true, "3becc72c1c2d35016e6a8e0fffc70fd7027552220e894dc7641970a85c20cd63"), looks := true }, kinds := [], alts := [], laidByText := true, laidKinds := [.data, .data, .data, .data, .sentinel, .sentinel, .listed, .data, .pinned], laidTests := true, laidLooks := .later }
def RunMoreCardSaid : Prop := Claim7.holds Tryz.pinned (.plain (OpenSpec.ofChange runMoreSpec)) runMoreCard

/-- THE TIED CARD OF 'windrowlaw12.RunFolds'. -/
def runFoldsCard : Claim7 := { stood := { row := runFoldsRow, standIns := [], harness := (true, "3becc72c1c2d35016e6a8e0fffc70fd7027552220e894dc7641970a85c20cd63"), looks := true }, kinds := [], alts := [], laidByText := true, laidKinds := [.data, .data, .data, .data, .sentinel, .sentinel, .listed, .data, .pinned], laidTests := true, laidLooks := .later }
def RunFoldsCardSaid : Prop := Claim7.holds Tryz.pinned (.plain (OpenSpec.ofChange runFoldsSpec)) runFoldsCard

/-- THE TIED CARD OF 'windrowlaw12.RunKept'. -/
def runKeptCard : Claim7 := { stood := { row := runKeptRow, standIns := [], harness := (true, "3becc72c1c2d35016e6a8e0fffc70fd7027552220e894dc7641970a85c20cd63"), looks := true }, kinds := [], alts := [], laidByText := true, laidKinds := [.data, .data, .data, .data, .sentinel, .sentinel, .listed, .data, .pinned], laidTests := true, laidLooks := .later }
def RunKeptCardSaid : Prop := Claim7.holds Tryz.pinned (.plain (OpenSpec.ofChange runKeptSpec)) runKeptCard

/-- THE SECOND FORM's CARD OF 'windrowlaw11.LowerSides'. -/
def lowerSidesUptoCard : Claim7 := { stood := { row := lowerSidesUptoRow, standIns := [], harness := (true, "3becc72c1c2d35016e6a8e0fffc70fd7027552220e894dc7641970a85c20cd63"), looks := true }, kinds := [], alts := [], laidByText := true, laidKinds := [.data, .data, .data, .data, .sentinel, .sentinel, .listed, .data, .pinned], laidTests := true, laidLooks := .later }
def LowerSidesUptoCardSaid : Prop := Claim7.holds Tryz.pinned (.plain (OpenSpec.upto lowerSidesSpec)) lowerSidesUptoCard

/-- THE SECOND FORM's CARD OF 'windrowlaw11.LowerAhead'. -/
def lowerAheadUptoCard : Claim7 := { stood := { row := lowerAheadUptoRow, standIns := [], harness := (true, "3becc72c1c2d35016e6a8e0fffc70fd7027552220e894dc7641970a85c20cd63"), looks := true }, kinds := [], alts := [], laidByText := true, laidKinds := [.data, .data, .data, .data, .sentinel, .sentinel, .listed, .data, .pinned], laidTests := true, laidLooks := .later }
def LowerAheadUptoCardSaid : Prop := Claim7.holds Tryz.pinned (.plain (OpenSpec.upto lowerAheadSpec)) lowerAheadUptoCard

/-- THE SECOND FORM's CARD OF 'windrowlaw11.LowerRight'. -/
def lowerRightUptoCard : Claim7 := { stood := { row := lowerRightUptoRow, standIns := [], harness := (true, "3becc72c1c2d35016e6a8e0fffc70fd7027552220e894dc7641970a85c20cd63"), looks := true }, kinds := [], alts := [], laidByText := true, laidKinds := [.data, .data, .data, .data, .sentinel, .sentinel, .listed, .data, .pinned], laidTests := true, laidLooks := .later }
def LowerRightUptoCardSaid : Prop := Claim7.holds Tryz.pinned (.plain (OpenSpec.upto lowerRightSpec)) lowerRightUptoCard

/-- THE SECOND FORM's CARD OF 'windrowlaw12.RunRuns'. -/
def runRunsUptoCard : Claim7 := { stood := { row := runRunsUptoRow, standIns := [], harness := (true, "3becc72c1c2d35016e6a8e0fffc70fd7027552220e894dc7641970a85c20cd63"), looks := true }, kinds := [], alts := [], laidByText := true, laidKinds := [.data, .data, .data, .data, .sentinel, .sentinel, .listed, .data, .pinned], laidTests := true, laidLooks := .later }
def RunRunsUptoCardSaid : Prop := Claim7.holds Tryz.pinned (.plain (OpenSpec.upto runRunsSpec)) runRunsUptoCard

/-- THE SECOND FORM's CARD OF 'windrowlaw12.RunMore'. -/
def runMoreUptoCard : Claim7 := { stood := { row := runMoreUptoRow, standIns := [], harness := (true, "3becc72c1c2d35016e6a8e0fffc70fd7027552220e894dc7641970a85c20cd63"), looks := true }, kinds := [], alts := [], laidByText := true, laidKinds := [.data, .data, .data, .data, .sentinel, .sentinel, .listed, .data, .pinned], laidTests := true, laidLooks := .later }
def RunMoreUptoCardSaid : Prop := Claim7.holds Tryz.pinned (.plain (OpenSpec.upto runMoreSpec)) runMoreUptoCard

/-- THE SECOND FORM's CARD OF 'windrowlaw12.RunFolds'. -/
def runFoldsUptoCard : Claim7 := { stood := { row := runFoldsUptoRow, standIns := [], harness := (true, "3becc72c1c2d35016e6a8e0fffc70fd7027552220e894dc7641970a85c20cd63"), looks := true }, kinds := [], alts := [], laidByText := true, laidKinds := [.data, .data, .data, .data, .sentinel, .sentinel, .listed, .data, .pinned], laidTests := true, laidLooks := .later }
def RunFoldsUptoCardSaid : Prop := Claim7.holds Tryz.pinned (.plain (OpenSpec.upto runFoldsSpec)) runFoldsUptoCard

/-- THE SECOND FORM's CARD OF 'windrowlaw12.RunKept'. -/
def runKeptUptoCard : Claim7 := { stood := { row := runKeptUptoRow, standIns := [], harness := (true, "3becc72c1c2d35016e6a8e0fffc70fd7027552220e894dc7641970a85c20cd63"), looks := true }, kinds := [], alts := [], laidByText := true, laidKinds := [.data, .data, .data, .data, .sentinel, .sentinel, .listed, .data, .pinned], laidTests := true, laidLooks := .later }
def RunKeptUptoCardSaid : Prop := Claim7.holds Tryz.pinned (.plain (OpenSpec.upto runKeptSpec)) runKeptUptoCard
end Rows
end Go.Proofs.YtnmhcaahkaocgaaGreatDoor
