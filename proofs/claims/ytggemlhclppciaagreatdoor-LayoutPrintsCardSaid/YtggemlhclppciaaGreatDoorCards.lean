/-
  DERIVED. GIVEN WITH THE SEED: THE CARDS: each row of YtggemlhclppciaaGreatDoorRows.lean that lists a variable, with what it lists TIED to the program's text (the seventh form; the later family's looks); each row that meets fmt, with fmt's text TOLD by the authors' own Lean function (tested against real Go, not proved from fmt's source: count such statements apart). THE CARD IS WHAT COUNTS. Prove the row's statement (the work); the ties are given (YtggemlhclppciaaGreatDoorTie.lean); close each card by the builder's one call (the guide's Derived/Test/ToyasCard.lean, 'card_holds'). Laid BY PROGRAM, IN A SANDBOX (cutbox-door.mjs). By AI agents, Wed Nov 11 2026. No macro, syntax, notation, axiom, sorry.
-/
import Derived.Test.YtggemlhclppciaaGreatDoorRows
import GoSem.ClaimSeven
namespace Go.Proofs.YtggemlhclppciaaGreatDoor
namespace Rows

/-- THE TIED CARD OF 'firebelllaw15.LayoutTells'. -/
def layoutTellsCard : Claim7 := { stood := { row := layoutTellsRow, standIns := [], harness := (true, "034c167df386ff010a870d92b02c5bd9c00272d3de83fba85354a774809743b6"), looks := true }, kinds := [], alts := [], laidByText := true, laidKinds := [.data, .data, .data, .data, .sentinel, .sentinel, .pinned], laidTests := true, laidLooks := .later }
def LayoutTellsCardSaid : Prop := Claim7.holds Tryz.pinned (.plain (OpenSpec.ofChange layoutTellsSpec)) layoutTellsCard

/-- THE TIED CARD OF 'firebelllaw15.LayoutPrints'. -/
def layoutPrintsCard : Claim7 := { stood := { row := layoutPrintsRow, standIns := [], harness := (true, "034c167df386ff010a870d92b02c5bd9c00272d3de83fba85354a774809743b6"), looks := true }, kinds := [], alts := [], laidByText := true, laidKinds := [.data, .data, .data, .data, .sentinel, .sentinel, .pinned], laidTests := true, laidLooks := .later }
def LayoutPrintsCardSaid : Prop := Claim7.holds Tryz.pinned (.plain (OpenSpec.ofChange layoutPrintsSpec)) layoutPrintsCard

/-- THE TIED CARD OF 'firebelllaw15.LayoutAgain'. -/
def layoutAgainCard : Claim7 := { stood := { row := layoutAgainRow, standIns := [], harness := (true, "034c167df386ff010a870d92b02c5bd9c00272d3de83fba85354a774809743b6"), looks := true }, kinds := [], alts := [], laidByText := true, laidKinds := [.data, .data, .data, .data, .sentinel, .sentinel, .pinned], laidTests := true, laidLooks := .later }
def LayoutAgainCardSaid : Prop := Claim7.holds Tryz.pinned (.plain (OpenSpec.ofChange layoutAgainSpec)) layoutAgainCard

/-- THE TIED CARD OF 'firebelllaw14.TreeParses'. -/
def treeParsesCard : Claim7 := { stood := { row := treeParsesRow, standIns := [], harness := (true, "034c167df386ff010a870d92b02c5bd9c00272d3de83fba85354a774809743b6"), looks := true }, kinds := [], alts := [], laidByText := true, laidKinds := [.data, .data, .data, .data, .sentinel, .sentinel, .pinned], laidTests := true, laidLooks := .later }
def TreeParsesCardSaid : Prop := Claim7.holds Tryz.pinned (.plain (OpenSpec.ofChange treeParsesSpec)) treeParsesCard

/-- THE TIED CARD OF 'firebelllaw17.ShowGoals'. -/
def showGoalsCard : Claim7 := { stood := { row := showGoalsRow, standIns := [], harness := (true, "034c167df386ff010a870d92b02c5bd9c00272d3de83fba85354a774809743b6"), looks := true }, kinds := [], alts := [], laidByText := true, laidKinds := [.data, .data, .data, .data, .pinned], laidTests := true, laidLooks := .later }
def ShowGoalsCardSaid : Prop := Claim7.holds Tryz.pinned (.plain (OpenSpec.ofChange showGoalsSpec)) showGoalsCard

/-- THE SECOND FORM's CARD OF 'firebelllaw15.LayoutTells'. -/
def layoutTellsUptoCard : Claim7 := { stood := { row := layoutTellsUptoRow, standIns := [], harness := (true, "034c167df386ff010a870d92b02c5bd9c00272d3de83fba85354a774809743b6"), looks := true }, kinds := [], alts := [], laidByText := true, laidKinds := [.data, .data, .data, .data, .sentinel, .sentinel, .pinned], laidTests := true, laidLooks := .later }
def LayoutTellsUptoCardSaid : Prop := Claim7.holds Tryz.pinned (.plain (OpenSpec.upto layoutTellsSpec)) layoutTellsUptoCard

/-- THE SECOND FORM's CARD OF 'firebelllaw15.LayoutPrints'. -/
def layoutPrintsUptoCard : Claim7 := { stood := { row := layoutPrintsUptoRow, standIns := [], harness := (true, "034c167df386ff010a870d92b02c5bd9c00272d3de83fba85354a774809743b6"), looks := true }, kinds := [], alts := [], laidByText := true, laidKinds := [.data, .data, .data, .data, .sentinel, .sentinel, .pinned], laidTests := true, laidLooks := .later }
def LayoutPrintsUptoCardSaid : Prop := Claim7.holds Tryz.pinned (.plain (OpenSpec.upto layoutPrintsSpec)) layoutPrintsUptoCard

/-- THE SECOND FORM's CARD OF 'firebelllaw15.LayoutAgain'. -/
def layoutAgainUptoCard : Claim7 := { stood := { row := layoutAgainUptoRow, standIns := [], harness := (true, "034c167df386ff010a870d92b02c5bd9c00272d3de83fba85354a774809743b6"), looks := true }, kinds := [], alts := [], laidByText := true, laidKinds := [.data, .data, .data, .data, .sentinel, .sentinel, .pinned], laidTests := true, laidLooks := .later }
def LayoutAgainUptoCardSaid : Prop := Claim7.holds Tryz.pinned (.plain (OpenSpec.upto layoutAgainSpec)) layoutAgainUptoCard

/-- THE SECOND FORM's CARD OF 'firebelllaw14.TreeParses'. -/
def treeParsesUptoCard : Claim7 := { stood := { row := treeParsesUptoRow, standIns := [], harness := (true, "034c167df386ff010a870d92b02c5bd9c00272d3de83fba85354a774809743b6"), looks := true }, kinds := [], alts := [], laidByText := true, laidKinds := [.data, .data, .data, .data, .sentinel, .sentinel, .pinned], laidTests := true, laidLooks := .later }
def TreeParsesUptoCardSaid : Prop := Claim7.holds Tryz.pinned (.plain (OpenSpec.upto treeParsesSpec)) treeParsesUptoCard

/-- THE SECOND FORM's CARD OF 'firebelllaw17.ShowGoals'. -/
def showGoalsUptoCard : Claim7 := { stood := { row := showGoalsUptoRow, standIns := [], harness := (true, "034c167df386ff010a870d92b02c5bd9c00272d3de83fba85354a774809743b6"), looks := true }, kinds := [], alts := [], laidByText := true, laidKinds := [.data, .data, .data, .data, .pinned], laidTests := true, laidLooks := .later }
def ShowGoalsUptoCardSaid : Prop := Claim7.holds Tryz.pinned (.plain (OpenSpec.upto showGoalsSpec)) showGoalsUptoCard
end Rows
end Go.Proofs.YtggemlhclppciaaGreatDoor
