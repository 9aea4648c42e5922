/-
  DERIVED. GIVEN WITH THE SEED: THE CARDS: each row of YthonkjadcpdphaaGreatDoorRows.lean that lists a variable, with what it lists TIED to the program's text (the seventh form; the later family's looks); each row that meets fmt, with fmt's text TOLD by the authors' own Lean function (tested against real Go, not proved from fmt's source: count such statements apart). THE CARD IS WHAT COUNTS. Prove the row's statement (the work); the ties are given (YthonkjadcpdphaaGreatDoorTie.lean); close each card by the builder's one call (the guide's Derived/Test/ToyasCard.lean, 'card_holds'). Laid BY PROGRAM, IN A SANDBOX (cutbox-door.mjs). By AI agents, Wed Nov 11 2026. No macro, syntax, notation, axiom, sorry.
-/
import Derived.Test.YthonkjadcpdphaaGreatDoorRows
import GoSem.ClaimSeven
namespace Go.Proofs.YthonkjadcpdphaaGreatDoor
namespace Rows

/-- THE TIED CARD OF 'firebelllaw35.AuditLooks'. -/
def auditLooksCard : Claim7 := { stood := { row := auditLooksRow, standIns := [], harness := (true, "796412790c93638e35a5b0423ff7a9bfee5303c0baf32097814444fffb6b1097"), looks := true }, kinds := [], alts := [], laidByText := true, laidKinds := [.data, .data, .data, .data, .pinned], laidTests := true, laidLooks := .later }
def AuditLooksCardSaid : Prop := Claim7.holds Tryz.pinned (.plain (OpenSpec.ofChange auditLooksSpec)) auditLooksCard

/-- THE TIED CARD OF 'firebelllaw13.ScanTells'. -/
def scanTellsCard : Claim7 := { stood := { row := scanTellsRow, standIns := [], harness := (true, "796412790c93638e35a5b0423ff7a9bfee5303c0baf32097814444fffb6b1097"), looks := true }, kinds := [], alts := [], laidByText := true, laidKinds := [.data, .data, .data, .data, .sentinel, .sentinel, .pinned], laidTests := true, laidLooks := .later }
def ScanTellsCardSaid : Prop := Claim7.holds Tryz.pinned (.plain (OpenSpec.ofChange scanTellsSpec)) scanTellsCard

/-- THE TIED CARD OF 'firebelllaw13.ScanGaps'. -/
def scanGapsCard : Claim7 := { stood := { row := scanGapsRow, standIns := [], harness := (true, "796412790c93638e35a5b0423ff7a9bfee5303c0baf32097814444fffb6b1097"), looks := true }, kinds := [], alts := [], laidByText := true, laidKinds := [.data, .data, .data, .data, .sentinel, .sentinel, .pinned], laidTests := true, laidLooks := .later }
def ScanGapsCardSaid : Prop := Claim7.holds Tryz.pinned (.plain (OpenSpec.ofChange scanGapsSpec)) scanGapsCard

/-- THE TIED CARD OF 'firebelllaw13.ScanWords'. -/
def scanWordsCard : Claim7 := { stood := { row := scanWordsRow, standIns := [], harness := (true, "796412790c93638e35a5b0423ff7a9bfee5303c0baf32097814444fffb6b1097"), looks := true }, kinds := [], alts := [], laidByText := true, laidKinds := [.data, .data, .data, .data, .sentinel, .sentinel, .pinned], laidTests := true, laidLooks := .later }
def ScanWordsCardSaid : Prop := Claim7.holds Tryz.pinned (.plain (OpenSpec.ofChange scanWordsSpec)) scanWordsCard

/-- THE TIED CARD OF 'firebelllaw13.ScanPrints'. -/
def scanPrintsCard : Claim7 := { stood := { row := scanPrintsRow, standIns := [], harness := (true, "796412790c93638e35a5b0423ff7a9bfee5303c0baf32097814444fffb6b1097"), looks := true }, kinds := [], alts := [], laidByText := true, laidKinds := [.data, .data, .data, .data, .sentinel, .sentinel, .pinned], laidTests := true, laidLooks := .later }
def ScanPrintsCardSaid : Prop := Claim7.holds Tryz.pinned (.plain (OpenSpec.ofChange scanPrintsSpec)) scanPrintsCard

/-- THE SECOND FORM's CARD OF 'firebelllaw35.AuditLooks'. -/
def auditLooksUptoCard : Claim7 := { stood := { row := auditLooksUptoRow, standIns := [], harness := (true, "796412790c93638e35a5b0423ff7a9bfee5303c0baf32097814444fffb6b1097"), looks := true }, kinds := [], alts := [], laidByText := true, laidKinds := [.data, .data, .data, .data, .pinned], laidTests := true, laidLooks := .later }
def AuditLooksUptoCardSaid : Prop := Claim7.holds Tryz.pinned (.plain (OpenSpec.upto auditLooksSpec)) auditLooksUptoCard

/-- THE SECOND FORM's CARD OF 'firebelllaw13.ScanTells'. -/
def scanTellsUptoCard : Claim7 := { stood := { row := scanTellsUptoRow, standIns := [], harness := (true, "796412790c93638e35a5b0423ff7a9bfee5303c0baf32097814444fffb6b1097"), looks := true }, kinds := [], alts := [], laidByText := true, laidKinds := [.data, .data, .data, .data, .sentinel, .sentinel, .pinned], laidTests := true, laidLooks := .later }
def ScanTellsUptoCardSaid : Prop := Claim7.holds Tryz.pinned (.plain (OpenSpec.upto scanTellsSpec)) scanTellsUptoCard

/-- THE SECOND FORM's CARD OF 'firebelllaw13.ScanGaps'. -/
def scanGapsUptoCard : Claim7 := { stood := { row := scanGapsUptoRow, standIns := [], harness := (true, "796412790c93638e35a5b0423ff7a9bfee5303c0baf32097814444fffb6b1097"), looks := true }, kinds := [], alts := [], laidByText := true, laidKinds := [.data, .data, .data, .data, .sentinel, .sentinel, .pinned], laidTests := true, laidLooks := .later }
def ScanGapsUptoCardSaid : Prop := Claim7.holds Tryz.pinned (.plain (OpenSpec.upto scanGapsSpec)) scanGapsUptoCard

/-- THE SECOND FORM's CARD OF 'firebelllaw13.ScanWords'. -/
def scanWordsUptoCard : Claim7 := { stood := { row := scanWordsUptoRow, standIns := [], harness := (true, "796412790c93638e35a5b0423ff7a9bfee5303c0baf32097814444fffb6b1097"), looks := true }, kinds := [], alts := [], laidByText := true, laidKinds := [.data, .data, .data, .data, .sentinel, .sentinel, .pinned], laidTests := true, laidLooks := .later }
def ScanWordsUptoCardSaid : Prop := Claim7.holds Tryz.pinned (.plain (OpenSpec.upto scanWordsSpec)) scanWordsUptoCard

/-- THE SECOND FORM's CARD OF 'firebelllaw13.ScanPrints'. -/
def scanPrintsUptoCard : Claim7 := { stood := { row := scanPrintsUptoRow, standIns := [], harness := (true, "796412790c93638e35a5b0423ff7a9bfee5303c0baf32097814444fffb6b1097"), looks := true }, kinds := [], alts := [], laidByText := true, laidKinds := [.data, .data, .data, .data, .sentinel, .sentinel, .pinned], laidTests := true, laidLooks := .later }
def ScanPrintsUptoCardSaid : Prop := Claim7.holds Tryz.pinned (.plain (OpenSpec.upto scanPrintsSpec)) scanPrintsUptoCard
end Rows
end Go.Proofs.YthonkjadcpdphaaGreatDoor
