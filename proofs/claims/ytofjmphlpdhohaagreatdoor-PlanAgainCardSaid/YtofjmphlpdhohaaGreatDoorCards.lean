/-
  DERIVED. GIVEN WITH THE SEED: THE CARDS: each row of YtofjmphlpdhohaaGreatDoorRows.lean that lists a variable, with what it lists TIED to the program's text (the seventh form; the later family's looks); each row that meets fmt, with fmt's text TOLD by the authors' own Lean function (tested against real Go, not proved from fmt's source: count such statements apart). THE CARD IS WHAT COUNTS. Prove the row's statement (the work); the ties are given (YtofjmphlpdhohaaGreatDoorTie.lean); close each card by the builder's one call (the guide's Derived/Test/ToyasCard.lean, 'card_holds'). Laid BY PROGRAM, IN A SANDBOX (cutbox-door.mjs). By AI agents, Wed Nov 11 2026. No macro, syntax, notation, axiom, sorry.
-/
import Derived.Test.YtofjmphlpdhohaaGreatDoorRows
import GoSem.ClaimSeven
namespace Go.Proofs.YtofjmphlpdhohaaGreatDoor
namespace Rows

/-- THE TIED CARD OF 'windrowlaw14.FuseNext'. -/
def fuseNextCard : Claim7 := { stood := { row := fuseNextRow, standIns := [], harness := (true, "042f27633df2bde68a1d607019696ca9ca85a8536503e7e90de8cc2c238ce9ab"), looks := true }, kinds := [], alts := [], laidByText := true, laidKinds := [.data, .data, .data, .data, .sentinel, .sentinel, .listed, .data, .pinned], laidTests := true, laidLooks := .later }
def FuseNextCardSaid : Prop := Claim7.holds Tryz.pinned (.plain (OpenSpec.ofChange fuseNextSpec)) fuseNextCard

/-- THE TIED CARD OF 'windrowlaw14.FuseFuses'. -/
def fuseFusesCard : Claim7 := { stood := { row := fuseFusesRow, standIns := [], harness := (true, "042f27633df2bde68a1d607019696ca9ca85a8536503e7e90de8cc2c238ce9ab"), looks := true }, kinds := [], alts := [], laidByText := true, laidKinds := [.data, .data, .data, .data, .sentinel, .sentinel, .listed, .data, .pinned], laidTests := true, laidLooks := .later }
def FuseFusesCardSaid : Prop := Claim7.holds Tryz.pinned (.plain (OpenSpec.ofChange fuseFusesSpec)) fuseFusesCard

/-- THE TIED CARD OF 'windrowlaw14.FuseNew'. -/
def fuseNewCard : Claim7 := { stood := { row := fuseNewRow, standIns := [], harness := (true, "042f27633df2bde68a1d607019696ca9ca85a8536503e7e90de8cc2c238ce9ab"), looks := true }, kinds := [], alts := [], laidByText := true, laidKinds := [.data, .data, .data, .data, .sentinel, .sentinel, .listed, .data, .pinned], laidTests := true, laidLooks := .later }
def FuseNewCardSaid : Prop := Claim7.holds Tryz.pinned (.plain (OpenSpec.ofChange fuseNewSpec)) fuseNewCard

/-- THE TIED CARD OF 'windrowlaw15.PlanLives'. -/
def planLivesCard : Claim7 := { stood := { row := planLivesRow, standIns := [], harness := (true, "042f27633df2bde68a1d607019696ca9ca85a8536503e7e90de8cc2c238ce9ab"), looks := true }, kinds := [], alts := [], laidByText := true, laidKinds := [.data, .data, .data, .data, .sentinel, .sentinel, .listed, .data, .data, .pinned], laidTests := true, laidLooks := .later }
def PlanLivesCardSaid : Prop := Claim7.holds Tryz.pinned (.plain (OpenSpec.ofChange planLivesSpec)) planLivesCard

/-- THE TIED CARD OF 'windrowlaw15.PlanPlans'. -/
def planPlansCard : Claim7 := { stood := { row := planPlansRow, standIns := [], harness := (true, "042f27633df2bde68a1d607019696ca9ca85a8536503e7e90de8cc2c238ce9ab"), looks := true }, kinds := [], alts := [], laidByText := true, laidKinds := [.data, .data, .data, .data, .sentinel, .sentinel, .listed, .data, .data, .pinned], laidTests := true, laidLooks := .later }
def PlanPlansCardSaid : Prop := Claim7.holds Tryz.pinned (.plain (OpenSpec.ofChange planPlansSpec)) planPlansCard

/-- THE TIED CARD OF 'windrowlaw15.PlanAlive'. -/
def planAliveCard : Claim7 := { stood := { row := planAliveRow, standIns := [], harness := (true, "042f27633df2bde68a1d607019696ca9ca85a8536503e7e90de8cc2c238ce9ab"), looks := true }, kinds := [], alts := [], laidByText := true, laidKinds := [.data, .data, .data, .data, .sentinel, .sentinel, .listed, .data, .data, .pinned], laidTests := true, laidLooks := .later }
def PlanAliveCardSaid : Prop := Claim7.holds Tryz.pinned (.plain (OpenSpec.ofChange planAliveSpec)) planAliveCard

/-- THE TIED CARD OF 'windrowlaw15.PlanNew'. -/
def planNewCard : Claim7 := { stood := { row := planNewRow, standIns := [], harness := (true, "042f27633df2bde68a1d607019696ca9ca85a8536503e7e90de8cc2c238ce9ab"), looks := true }, kinds := [], alts := [], laidByText := true, laidKinds := [.data, .data, .data, .data, .sentinel, .sentinel, .listed, .data, .data, .pinned], laidTests := true, laidLooks := .later }
def PlanNewCardSaid : Prop := Claim7.holds Tryz.pinned (.plain (OpenSpec.ofChange planNewSpec)) planNewCard

/-- THE TIED CARD OF 'windrowlaw15.PlanAgain'. -/
def planAgainCard : Claim7 := { stood := { row := planAgainRow, standIns := [], harness := (true, "042f27633df2bde68a1d607019696ca9ca85a8536503e7e90de8cc2c238ce9ab"), looks := true }, kinds := [], alts := [], laidByText := true, laidKinds := [.data, .data, .data, .data, .sentinel, .sentinel, .listed, .data, .data, .pinned], laidTests := true, laidLooks := .later }
def PlanAgainCardSaid : Prop := Claim7.holds Tryz.pinned (.plain (OpenSpec.ofChange planAgainSpec)) planAgainCard

/-- THE SECOND FORM's CARD OF 'windrowlaw14.FuseNext'. -/
def fuseNextUptoCard : Claim7 := { stood := { row := fuseNextUptoRow, standIns := [], harness := (true, "042f27633df2bde68a1d607019696ca9ca85a8536503e7e90de8cc2c238ce9ab"), looks := true }, kinds := [], alts := [], laidByText := true, laidKinds := [.data, .data, .data, .data, .sentinel, .sentinel, .listed, .data, .pinned], laidTests := true, laidLooks := .later }
def FuseNextUptoCardSaid : Prop := Claim7.holds Tryz.pinned (.plain (OpenSpec.upto fuseNextSpec)) fuseNextUptoCard

/-- THE SECOND FORM's CARD OF 'windrowlaw14.FuseFuses'. -/
def fuseFusesUptoCard : Claim7 := { stood := { row := fuseFusesUptoRow, standIns := [], harness := (true, "042f27633df2bde68a1d607019696ca9ca85a8536503e7e90de8cc2c238ce9ab"), looks := true }, kinds := [], alts := [], laidByText := true, laidKinds := [.data, .data, .data, .data, .sentinel, .sentinel, .listed, .data, .pinned], laidTests := true, laidLooks := .later }
def FuseFusesUptoCardSaid : Prop := Claim7.holds Tryz.pinned (.plain (OpenSpec.upto fuseFusesSpec)) fuseFusesUptoCard

/-- THE SECOND FORM's CARD OF 'windrowlaw14.FuseNew'. -/
def fuseNewUptoCard : Claim7 := { stood := { row := fuseNewUptoRow, standIns := [], harness := (true, "042f27633df2bde68a1d607019696ca9ca85a8536503e7e90de8cc2c238ce9ab"), looks := true }, kinds := [], alts := [], laidByText := true, laidKinds := [.data, .data, .data, .data, .sentinel, .sentinel, .listed, .data, .pinned], laidTests := true, laidLooks := .later }
def FuseNewUptoCardSaid : Prop := Claim7.holds Tryz.pinned (.plain (OpenSpec.upto fuseNewSpec)) fuseNewUptoCard

/-- THE SECOND FORM's CARD OF 'windrowlaw15.PlanLives'. -/
def planLivesUptoCard : Claim7 := { stood := { row := planLivesUptoRow, standIns := [], harness := (true, "042f27633df2bde68a1d607019696ca9ca85a8536503e7e90de8cc2c238ce9ab"), looks := true }, kinds := [], alts := [], laidByText := true, laidKinds := [.data, .data, .data, .data, .sentinel, .sentinel, .listed, .data, .data, .pinned], laidTests := true, laidLooks := .later }
def PlanLivesUptoCardSaid : Prop := Claim7.holds Tryz.pinned (.plain (OpenSpec.upto planLivesSpec)) planLivesUptoCard

/-- THE SECOND FORM's CARD OF 'windrowlaw15.PlanPlans'. -/
def planPlansUptoCard : Claim7 := { stood := { row := planPlansUptoRow, standIns := [], harness := (true, "042f27633df2bde68a1d607019696ca9ca85a8536503e7e90de8cc2c238ce9ab"), looks := true }, kinds := [], alts := [], laidByText := true, laidKinds := [.data, .data, .data, .data, .sentinel, .sentinel, .listed, .data, .data, .pinned], laidTests := true, laidLooks := .later }
def PlanPlansUptoCardSaid : Prop := Claim7.holds Tryz.pinned (.plain (OpenSpec.upto planPlansSpec)) planPlansUptoCard

/-- THE SECOND FORM's CARD OF 'windrowlaw15.PlanAlive'. -/
def planAliveUptoCard : Claim7 := { stood := { row := planAliveUptoRow, standIns := [], harness := (true, "042f27633df2bde68a1d607019696ca9ca85a8536503e7e90de8cc2c238ce9ab"), looks := true }, kinds := [], alts := [], laidByText := true, laidKinds := [.data, .data, .data, .data, .sentinel, .sentinel, .listed, .data, .data, .pinned], laidTests := true, laidLooks := .later }
def PlanAliveUptoCardSaid : Prop := Claim7.holds Tryz.pinned (.plain (OpenSpec.upto planAliveSpec)) planAliveUptoCard

/-- THE SECOND FORM's CARD OF 'windrowlaw15.PlanNew'. -/
def planNewUptoCard : Claim7 := { stood := { row := planNewUptoRow, standIns := [], harness := (true, "042f27633df2bde68a1d607019696ca9ca85a8536503e7e90de8cc2c238ce9ab"), looks := true }, kinds := [], alts := [], laidByText := true, laidKinds := [.data, .data, .data, .data, .sentinel, .sentinel, .listed, .data, .data, .pinned], laidTests := true, laidLooks := .later }
def PlanNewUptoCardSaid : Prop := Claim7.holds Tryz.pinned (.plain (OpenSpec.upto planNewSpec)) planNewUptoCard

/-- THE SECOND FORM's CARD OF 'windrowlaw15.PlanAgain'. -/
def planAgainUptoCard : Claim7 := { stood := { row := planAgainUptoRow, standIns := [], harness := (true, "042f27633df2bde68a1d607019696ca9ca85a8536503e7e90de8cc2c238ce9ab"), looks := true }, kinds := [], alts := [], laidByText := true, laidKinds := [.data, .data, .data, .data, .sentinel, .sentinel, .listed, .data, .data, .pinned], laidTests := true, laidLooks := .later }
def PlanAgainUptoCardSaid : Prop := Claim7.holds Tryz.pinned (.plain (OpenSpec.upto planAgainSpec)) planAgainUptoCard
end Rows
end Go.Proofs.YtofjmphlpdhohaaGreatDoor
