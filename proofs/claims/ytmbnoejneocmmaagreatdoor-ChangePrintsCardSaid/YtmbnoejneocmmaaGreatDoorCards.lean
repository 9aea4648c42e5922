/-
  DERIVED. GIVEN WITH THE SEED: THE CARDS: each row of YtmbnoejneocmmaaGreatDoorRows.lean that lists a variable, with what it lists TIED to the program's text (the seventh form; the later family's looks); each row that meets fmt, with fmt's text TOLD by the authors' own Lean function (tested against real Go, not proved from fmt's source: count such statements apart). THE CARD IS WHAT COUNTS. Prove the row's statement (the work); the ties are given (YtmbnoejneocmmaaGreatDoorTie.lean); close each card by the builder's one call (the guide's Derived/Test/ToyasCard.lean, 'card_holds'). Laid BY PROGRAM, IN A SANDBOX (cutbox-door.mjs). By AI agents, Wed Nov 11 2026. No macro, syntax, notation, axiom, sorry.
-/
import Derived.Test.YtmbnoejneocmmaaGreatDoorRows
import GoSem.ClaimSeven
namespace Go.Proofs.YtmbnoejneocmmaaGreatDoor
namespace Rows

/-- THE TIED CARD OF 'firebelllaw17.ShowGoals'. -/
def showGoalsCard : Claim7 := { stood := { row := showGoalsRow, standIns := [], harness := (true, "3ef3daab6b2ed701b203e3974e56f58d54588f5dc3208e45fa3b8596f45d25ac"), looks := false }, kinds := [], alts := [], laidByText := true, laidKinds := [.data, .data, .data, .data, .pinned], laidTests := true, laidLooks := .later }
def ShowGoalsCardSaid : Prop := Claim7.holds Tryz.pinned (.plain (OpenSpec.ofChange showGoalsSpec)) showGoalsCard

/-- THE TIED CARD OF 'firebelllaw35.AuditPrints'. -/
def auditPrintsCard : Claim7 := { stood := { row := auditPrintsRow, standIns := [], harness := (true, "3ef3daab6b2ed701b203e3974e56f58d54588f5dc3208e45fa3b8596f45d25ac"), looks := false }, kinds := [], alts := [], laidByText := true, laidKinds := [.data, .data, .data, .data, .pinned], laidTests := true, laidLooks := .later }
def AuditPrintsCardSaid : Prop := Claim7.holds Tryz.pinned (.plain (OpenSpec.ofChange auditPrintsSpec)) auditPrintsCard

/-- THE TIED CARD OF 'firebelllaw35.AuditLooks'. -/
def auditLooksCard : Claim7 := { stood := { row := auditLooksRow, standIns := [], harness := (true, "3ef3daab6b2ed701b203e3974e56f58d54588f5dc3208e45fa3b8596f45d25ac"), looks := false }, kinds := [], alts := [], laidByText := true, laidKinds := [.data, .data, .data, .data, .pinned], laidTests := true, laidLooks := .later }
def AuditLooksCardSaid : Prop := Claim7.holds Tryz.pinned (.plain (OpenSpec.ofChange auditLooksSpec)) auditLooksCard

/-- THE TIED CARD OF 'firebelllaw33.ReportPrints'. -/
def reportPrintsCard : Claim7 := { stood := { row := reportPrintsRow, standIns := [], harness := (true, "3ef3daab6b2ed701b203e3974e56f58d54588f5dc3208e45fa3b8596f45d25ac"), looks := false }, kinds := [], alts := [], laidByText := true, laidKinds := [.data, .data, .data, .data, .pinned], laidTests := true, laidLooks := .later }
def ReportPrintsCardSaid : Prop := Claim7.holds Tryz.pinned (.plain (OpenSpec.ofChange reportPrintsSpec)) reportPrintsCard

/-- THE TIED CARD OF 'firebelllaw33.ReportReads'. -/
def reportReadsCard : Claim7 := { stood := { row := reportReadsRow, standIns := [], harness := (true, "3ef3daab6b2ed701b203e3974e56f58d54588f5dc3208e45fa3b8596f45d25ac"), looks := false }, kinds := [], alts := [], laidByText := true, laidKinds := [.data, .data, .data, .data, .pinned], laidTests := true, laidLooks := .later }
def ReportReadsCardSaid : Prop := Claim7.holds Tryz.pinned (.plain (OpenSpec.ofChange reportReadsSpec)) reportReadsCard

/-- THE TIED CARD OF 'firebelllaw18.ChangePrints'. -/
def changePrintsCard : Claim7 := { stood := { row := changePrintsRow, standIns := [], harness := (true, "3ef3daab6b2ed701b203e3974e56f58d54588f5dc3208e45fa3b8596f45d25ac"), looks := false }, kinds := [], alts := [], laidByText := true, laidKinds := [.data, .listed, .data, .pinned], laidTests := true, laidLooks := .later }
def ChangePrintsCardSaid : Prop := Claim7.holds Tryz.pinned (.plain (OpenSpec.ofChange changePrintsSpec)) changePrintsCard

/-- THE SECOND FORM's CARD OF 'firebelllaw17.ShowGoals'. -/
def showGoalsUptoCard : Claim7 := { stood := { row := showGoalsUptoRow, standIns := [], harness := (true, "3ef3daab6b2ed701b203e3974e56f58d54588f5dc3208e45fa3b8596f45d25ac"), looks := false }, kinds := [], alts := [], laidByText := true, laidKinds := [.data, .data, .data, .data, .pinned], laidTests := true, laidLooks := .later }
def ShowGoalsUptoCardSaid : Prop := Claim7.holds Tryz.pinned (.plain (OpenSpec.upto showGoalsSpec)) showGoalsUptoCard

/-- THE SECOND FORM's CARD OF 'firebelllaw35.AuditPrints'. -/
def auditPrintsUptoCard : Claim7 := { stood := { row := auditPrintsUptoRow, standIns := [], harness := (true, "3ef3daab6b2ed701b203e3974e56f58d54588f5dc3208e45fa3b8596f45d25ac"), looks := false }, kinds := [], alts := [], laidByText := true, laidKinds := [.data, .data, .data, .data, .pinned], laidTests := true, laidLooks := .later }
def AuditPrintsUptoCardSaid : Prop := Claim7.holds Tryz.pinned (.plain (OpenSpec.upto auditPrintsSpec)) auditPrintsUptoCard

/-- THE SECOND FORM's CARD OF 'firebelllaw35.AuditLooks'. -/
def auditLooksUptoCard : Claim7 := { stood := { row := auditLooksUptoRow, standIns := [], harness := (true, "3ef3daab6b2ed701b203e3974e56f58d54588f5dc3208e45fa3b8596f45d25ac"), looks := false }, kinds := [], alts := [], laidByText := true, laidKinds := [.data, .data, .data, .data, .pinned], laidTests := true, laidLooks := .later }
def AuditLooksUptoCardSaid : Prop := Claim7.holds Tryz.pinned (.plain (OpenSpec.upto auditLooksSpec)) auditLooksUptoCard

/-- THE SECOND FORM's CARD OF 'firebelllaw33.ReportPrints'. -/
def reportPrintsUptoCard : Claim7 := { stood := { row := reportPrintsUptoRow, standIns := [], harness := (true, "3ef3daab6b2ed701b203e3974e56f58d54588f5dc3208e45fa3b8596f45d25ac"), looks := false }, kinds := [], alts := [], laidByText := true, laidKinds := [.data, .data, .data, .data, .pinned], laidTests := true, laidLooks := .later }
def ReportPrintsUptoCardSaid : Prop := Claim7.holds Tryz.pinned (.plain (OpenSpec.upto reportPrintsSpec)) reportPrintsUptoCard

/-- THE SECOND FORM's CARD OF 'firebelllaw33.ReportReads'. -/
def reportReadsUptoCard : Claim7 := { stood := { row := reportReadsUptoRow, standIns := [], harness := (true, "3ef3daab6b2ed701b203e3974e56f58d54588f5dc3208e45fa3b8596f45d25ac"), looks := false }, kinds := [], alts := [], laidByText := true, laidKinds := [.data, .data, .data, .data, .pinned], laidTests := true, laidLooks := .later }
def ReportReadsUptoCardSaid : Prop := Claim7.holds Tryz.pinned (.plain (OpenSpec.upto reportReadsSpec)) reportReadsUptoCard

/-- THE SECOND FORM's CARD OF 'firebelllaw18.ChangePrints'. -/
def changePrintsUptoCard : Claim7 := { stood := { row := changePrintsUptoRow, standIns := [], harness := (true, "3ef3daab6b2ed701b203e3974e56f58d54588f5dc3208e45fa3b8596f45d25ac"), looks := false }, kinds := [], alts := [], laidByText := true, laidKinds := [.data, .listed, .data, .pinned], laidTests := true, laidLooks := .later }
def ChangePrintsUptoCardSaid : Prop := Claim7.holds Tryz.pinned (.plain (OpenSpec.upto changePrintsSpec)) changePrintsUptoCard
end Rows
end Go.Proofs.YtmbnoejneocmmaaGreatDoor
