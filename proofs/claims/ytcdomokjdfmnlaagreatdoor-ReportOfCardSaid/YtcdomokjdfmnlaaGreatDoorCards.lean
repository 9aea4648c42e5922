/-
  DERIVED. GIVEN WITH THE SEED: THE CARDS: each row of YtcdomokjdfmnlaaGreatDoorRows.lean that lists a variable, with what it lists TIED to the program's text (the seventh form; the later family's looks); each row that meets fmt, with fmt's text TOLD by the authors' own Lean function (tested against real Go, not proved from fmt's source: count such statements apart). THE CARD IS WHAT COUNTS. Prove the row's statement (the work); the ties are given (YtcdomokjdfmnlaaGreatDoorTie.lean); close each card by the builder's one call (the guide's Derived/Test/ToyasCard.lean, 'card_holds'). Laid BY PROGRAM, IN A SANDBOX (cutbox-door.mjs). By AI agents, Wed Nov 11 2026. No macro, syntax, notation, axiom, sorry.
-/
import Derived.Test.YtcdomokjdfmnlaaGreatDoorRows
import GoSem.ClaimSeven
namespace Go.Proofs.YtcdomokjdfmnlaaGreatDoor
namespace Rows

/-- THE TIED CARD OF 'firebelllaw33.ReportOf'. -/
def reportOfCard : Claim7 := { stood := { row := reportOfRow, standIns := [], harness := (true, "aa6c0489f735fa3291540d775b154fe692a848e7a36ed6ea274f17594b7d141c"), looks := false }, kinds := [], alts := [], laidByText := true, laidKinds := [.data, .data, .data], laidTests := true, laidLooks := .later }
def ReportOfCardSaid : Prop := Claim7.holds Tryz.pinned (.plain (OpenSpec.ofChange reportOfSpec)) reportOfCard

/-- THE TIED CARD OF 'firebelllaw20.MeterAsks'. -/
def meterAsksCard : Claim7 := { stood := { row := meterAsksRow, standIns := [], harness := (true, "aa6c0489f735fa3291540d775b154fe692a848e7a36ed6ea274f17594b7d141c"), looks := false }, kinds := [], alts := [], laidByText := true, laidKinds := [.data, .pinned], laidTests := true, laidLooks := .later }
def MeterAsksCardSaid : Prop := Claim7.holds Tryz.pinned (.plain (OpenSpec.ofChange meterAsksSpec)) meterAsksCard

/-- THE TIED CARD OF 'firebelllaw20.MeterPlays'. -/
def meterPlaysCard : Claim7 := { stood := { row := meterPlaysRow, standIns := [], harness := (true, "aa6c0489f735fa3291540d775b154fe692a848e7a36ed6ea274f17594b7d141c"), looks := false }, kinds := [], alts := [], laidByText := true, laidKinds := [.data, .pinned], laidTests := true, laidLooks := .later }
def MeterPlaysCardSaid : Prop := Claim7.holds Tryz.pinned (.plain (OpenSpec.ofChange meterPlaysSpec)) meterPlaysCard

/-- THE TIED CARD OF 'firebelllaw20.MeterAdopts'. -/
def meterAdoptsCard : Claim7 := { stood := { row := meterAdoptsRow, standIns := [], harness := (true, "aa6c0489f735fa3291540d775b154fe692a848e7a36ed6ea274f17594b7d141c"), looks := false }, kinds := [], alts := [], laidByText := true, laidKinds := [.data, .pinned], laidTests := true, laidLooks := .later }
def MeterAdoptsCardSaid : Prop := Claim7.holds Tryz.pinned (.plain (OpenSpec.ofChange meterAdoptsSpec)) meterAdoptsCard

/-- THE TIED CARD OF 'firebelllaw20.MeterReads'. -/
def meterReadsCard : Claim7 := { stood := { row := meterReadsRow, standIns := [], harness := (true, "aa6c0489f735fa3291540d775b154fe692a848e7a36ed6ea274f17594b7d141c"), looks := false }, kinds := [], alts := [], laidByText := true, laidKinds := [.data, .pinned], laidTests := true, laidLooks := .later }
def MeterReadsCardSaid : Prop := Claim7.holds Tryz.pinned (.plain (OpenSpec.ofChange meterReadsSpec)) meterReadsCard

/-- THE TIED CARD OF 'firebelllaw21.BurnRules'. -/
def burnRulesCard : Claim7 := { stood := { row := burnRulesRow, standIns := [], harness := (true, "aa6c0489f735fa3291540d775b154fe692a848e7a36ed6ea274f17594b7d141c"), looks := false }, kinds := [], alts := [], laidByText := true, laidKinds := [.data, .pinned], laidTests := true, laidLooks := .later }
def BurnRulesCardSaid : Prop := Claim7.holds Tryz.pinned (.plain (OpenSpec.ofChange burnRulesSpec)) burnRulesCard

/-- THE TIED CARD OF 'firebelllaw20.MeterBytes'. -/
def meterBytesCard : Claim7 := { stood := { row := meterBytesRow, standIns := [], harness := (true, "aa6c0489f735fa3291540d775b154fe692a848e7a36ed6ea274f17594b7d141c"), looks := false }, kinds := [], alts := [], laidByText := true, laidKinds := [.data, .pinned], laidTests := true, laidLooks := .later }
def MeterBytesCardSaid : Prop := Claim7.holds Tryz.pinned (.plain (OpenSpec.ofChange meterBytesSpec)) meterBytesCard

/-- THE SECOND FORM's CARD OF 'firebelllaw33.ReportOf'. -/
def reportOfUptoCard : Claim7 := { stood := { row := reportOfUptoRow, standIns := [], harness := (true, "aa6c0489f735fa3291540d775b154fe692a848e7a36ed6ea274f17594b7d141c"), looks := false }, kinds := [], alts := [], laidByText := true, laidKinds := [.data, .data, .data], laidTests := true, laidLooks := .later }
def ReportOfUptoCardSaid : Prop := Claim7.holds Tryz.pinned (.plain (OpenSpec.upto reportOfSpec)) reportOfUptoCard

/-- THE SECOND FORM's CARD OF 'firebelllaw20.MeterAsks'. -/
def meterAsksUptoCard : Claim7 := { stood := { row := meterAsksUptoRow, standIns := [], harness := (true, "aa6c0489f735fa3291540d775b154fe692a848e7a36ed6ea274f17594b7d141c"), looks := false }, kinds := [], alts := [], laidByText := true, laidKinds := [.data, .pinned], laidTests := true, laidLooks := .later }
def MeterAsksUptoCardSaid : Prop := Claim7.holds Tryz.pinned (.plain (OpenSpec.upto meterAsksSpec)) meterAsksUptoCard

/-- THE SECOND FORM's CARD OF 'firebelllaw20.MeterPlays'. -/
def meterPlaysUptoCard : Claim7 := { stood := { row := meterPlaysUptoRow, standIns := [], harness := (true, "aa6c0489f735fa3291540d775b154fe692a848e7a36ed6ea274f17594b7d141c"), looks := false }, kinds := [], alts := [], laidByText := true, laidKinds := [.data, .pinned], laidTests := true, laidLooks := .later }
def MeterPlaysUptoCardSaid : Prop := Claim7.holds Tryz.pinned (.plain (OpenSpec.upto meterPlaysSpec)) meterPlaysUptoCard

/-- THE SECOND FORM's CARD OF 'firebelllaw20.MeterAdopts'. -/
def meterAdoptsUptoCard : Claim7 := { stood := { row := meterAdoptsUptoRow, standIns := [], harness := (true, "aa6c0489f735fa3291540d775b154fe692a848e7a36ed6ea274f17594b7d141c"), looks := false }, kinds := [], alts := [], laidByText := true, laidKinds := [.data, .pinned], laidTests := true, laidLooks := .later }
def MeterAdoptsUptoCardSaid : Prop := Claim7.holds Tryz.pinned (.plain (OpenSpec.upto meterAdoptsSpec)) meterAdoptsUptoCard

/-- THE SECOND FORM's CARD OF 'firebelllaw20.MeterReads'. -/
def meterReadsUptoCard : Claim7 := { stood := { row := meterReadsUptoRow, standIns := [], harness := (true, "aa6c0489f735fa3291540d775b154fe692a848e7a36ed6ea274f17594b7d141c"), looks := false }, kinds := [], alts := [], laidByText := true, laidKinds := [.data, .pinned], laidTests := true, laidLooks := .later }
def MeterReadsUptoCardSaid : Prop := Claim7.holds Tryz.pinned (.plain (OpenSpec.upto meterReadsSpec)) meterReadsUptoCard

/-- THE SECOND FORM's CARD OF 'firebelllaw21.BurnRules'. -/
def burnRulesUptoCard : Claim7 := { stood := { row := burnRulesUptoRow, standIns := [], harness := (true, "aa6c0489f735fa3291540d775b154fe692a848e7a36ed6ea274f17594b7d141c"), looks := false }, kinds := [], alts := [], laidByText := true, laidKinds := [.data, .pinned], laidTests := true, laidLooks := .later }
def BurnRulesUptoCardSaid : Prop := Claim7.holds Tryz.pinned (.plain (OpenSpec.upto burnRulesSpec)) burnRulesUptoCard

/-- THE SECOND FORM's CARD OF 'firebelllaw20.MeterBytes'. -/
def meterBytesUptoCard : Claim7 := { stood := { row := meterBytesUptoRow, standIns := [], harness := (true, "aa6c0489f735fa3291540d775b154fe692a848e7a36ed6ea274f17594b7d141c"), looks := false }, kinds := [], alts := [], laidByText := true, laidKinds := [.data, .pinned], laidTests := true, laidLooks := .later }
def MeterBytesUptoCardSaid : Prop := Claim7.holds Tryz.pinned (.plain (OpenSpec.upto meterBytesSpec)) meterBytesUptoCard
end Rows
end Go.Proofs.YtcdomokjdfmnlaaGreatDoor
