/-
  DERIVED. GIVEN WITH THE SEED: THE CARDS: each row of YtidcomakahbepaaGreatDoorRows.lean that lists a variable, with what it lists TIED to the program's text (the seventh form; the later family's looks); each row that meets fmt, with fmt's text TOLD by the authors' own Lean function (tested against real Go, not proved from fmt's source: count such statements apart). THE CARD IS WHAT COUNTS. Prove the row's statement (the work); the ties are given (YtidcomakahbepaaGreatDoorTie.lean); close each card by the builder's one call (the guide's Derived/Test/ToyasCard.lean, 'card_holds'). Laid BY PROGRAM, IN A SANDBOX (cutbox-door.mjs). By AI agents, Wed Nov 11 2026. No macro, syntax, notation, axiom, sorry.
-/
import Derived.Test.YtidcomakahbepaaGreatDoorRows
import GoSem.ClaimSeven
namespace Go.Proofs.YtidcomakahbepaaGreatDoor
namespace Rows

/-- THE TIED CARD OF 'firebelllaw20.MeterAsks'. -/
def meterAsksCard : Claim7 := { stood := { row := meterAsksRow, standIns := [], harness := (true, "055c9aa127578715188c24c1c9a866096700a7b998688bf1eb4ec109f2f34beb"), looks := false }, kinds := [], alts := [], laidByText := true, laidKinds := [.data, .pinned], laidTests := true, laidLooks := .later }
def MeterAsksCardSaid : Prop := Claim7.holds Tryz.pinned (.plain (OpenSpec.ofChange meterAsksSpec)) meterAsksCard

/-- THE TIED CARD OF 'firebelllaw20.MeterPlays'. -/
def meterPlaysCard : Claim7 := { stood := { row := meterPlaysRow, standIns := [], harness := (true, "055c9aa127578715188c24c1c9a866096700a7b998688bf1eb4ec109f2f34beb"), looks := false }, kinds := [], alts := [], laidByText := true, laidKinds := [.data, .pinned], laidTests := true, laidLooks := .later }
def MeterPlaysCardSaid : Prop := Claim7.holds Tryz.pinned (.plain (OpenSpec.ofChange meterPlaysSpec)) meterPlaysCard

/-- THE TIED CARD OF 'firebelllaw20.MeterAdopts'. -/
def meterAdoptsCard : Claim7 := { stood := { row := meterAdoptsRow, standIns := [], harness := (true, "055c9aa127578715188c24c1c9a866096700a7b998688bf1eb4ec109f2f34beb"), looks := false }, kinds := [], alts := [], laidByText := true, laidKinds := [.data, .pinned], laidTests := true, laidLooks := .later }
def MeterAdoptsCardSaid : Prop := Claim7.holds Tryz.pinned (.plain (OpenSpec.ofChange meterAdoptsSpec)) meterAdoptsCard

/-- THE TIED CARD OF 'firebelllaw20.MeterReads'. -/
def meterReadsCard : Claim7 := { stood := { row := meterReadsRow, standIns := [], harness := (true, "055c9aa127578715188c24c1c9a866096700a7b998688bf1eb4ec109f2f34beb"), looks := false }, kinds := [], alts := [], laidByText := true, laidKinds := [.data, .pinned], laidTests := true, laidLooks := .later }
def MeterReadsCardSaid : Prop := Claim7.holds Tryz.pinned (.plain (OpenSpec.ofChange meterReadsSpec)) meterReadsCard

/-- THE TIED CARD OF 'firebelllaw21.BurnRules'. -/
def burnRulesCard : Claim7 := { stood := { row := burnRulesRow, standIns := [], harness := (true, "055c9aa127578715188c24c1c9a866096700a7b998688bf1eb4ec109f2f34beb"), looks := false }, kinds := [], alts := [], laidByText := true, laidKinds := [.data, .pinned], laidTests := true, laidLooks := .later }
def BurnRulesCardSaid : Prop := Claim7.holds Tryz.pinned (.plain (OpenSpec.ofChange burnRulesSpec)) burnRulesCard

/-- THE TIED CARD OF 'firebelllaw20.MeterBytes'. -/
def meterBytesCard : Claim7 := { stood := { row := meterBytesRow, standIns := [], harness := (true, "055c9aa127578715188c24c1c9a866096700a7b998688bf1eb4ec109f2f34beb"), looks := false }, kinds := [], alts := [], laidByText := true, laidKinds := [.data, .pinned], laidTests := true, laidLooks := .later }
def MeterBytesCardSaid : Prop := Claim7.holds Tryz.pinned (.plain (OpenSpec.ofChange meterBytesSpec)) meterBytesCard

/-- THE TIED CARD OF 'firebelllaw20.MeterNil'. -/
def meterNilCard : Claim7 := { stood := { row := meterNilRow, standIns := [], harness := (true, "055c9aa127578715188c24c1c9a866096700a7b998688bf1eb4ec109f2f34beb"), looks := false }, kinds := [], alts := [], laidByText := true, laidKinds := [.data, .pinned], laidTests := true, laidLooks := .later }
def MeterNilCardSaid : Prop := Claim7.holds Tryz.pinned (.plain (OpenSpec.ofChange meterNilSpec)) meterNilCard

/-- THE TIED CARD OF 'firebelllaw23.LedgerMeters'. -/
def ledgerMetersCard : Claim7 := { stood := { row := ledgerMetersRow, standIns := [], harness := (true, "055c9aa127578715188c24c1c9a866096700a7b998688bf1eb4ec109f2f34beb"), looks := false }, kinds := [], alts := [], laidByText := true, laidKinds := [.data, .pinned], laidTests := true, laidLooks := .later }
def LedgerMetersCardSaid : Prop := Claim7.holds Tryz.pinned (.plain (OpenSpec.ofChange ledgerMetersSpec)) ledgerMetersCard

/-- THE TIED CARD OF 'firebelllaw24.OutlookMeters'. -/
def outlookMetersCard : Claim7 := { stood := { row := outlookMetersRow, standIns := [], harness := (true, "055c9aa127578715188c24c1c9a866096700a7b998688bf1eb4ec109f2f34beb"), looks := false }, kinds := [], alts := [], laidByText := true, laidKinds := [.data, .pinned], laidTests := true, laidLooks := .later }
def OutlookMetersCardSaid : Prop := Claim7.holds Tryz.pinned (.plain (OpenSpec.ofChange outlookMetersSpec)) outlookMetersCard

/-- THE SECOND FORM's CARD OF 'firebelllaw20.MeterAsks'. -/
def meterAsksUptoCard : Claim7 := { stood := { row := meterAsksUptoRow, standIns := [], harness := (true, "055c9aa127578715188c24c1c9a866096700a7b998688bf1eb4ec109f2f34beb"), looks := false }, kinds := [], alts := [], laidByText := true, laidKinds := [.data, .pinned], laidTests := true, laidLooks := .later }
def MeterAsksUptoCardSaid : Prop := Claim7.holds Tryz.pinned (.plain (OpenSpec.upto meterAsksSpec)) meterAsksUptoCard

/-- THE SECOND FORM's CARD OF 'firebelllaw20.MeterPlays'. -/
def meterPlaysUptoCard : Claim7 := { stood := { row := meterPlaysUptoRow, standIns := [], harness := (true, "055c9aa127578715188c24c1c9a866096700a7b998688bf1eb4ec109f2f34beb"), looks := false }, kinds := [], alts := [], laidByText := true, laidKinds := [.data, .pinned], laidTests := true, laidLooks := .later }
def MeterPlaysUptoCardSaid : Prop := Claim7.holds Tryz.pinned (.plain (OpenSpec.upto meterPlaysSpec)) meterPlaysUptoCard

/-- THE SECOND FORM's CARD OF 'firebelllaw20.MeterAdopts'. -/
def meterAdoptsUptoCard : Claim7 := { stood := { row := meterAdoptsUptoRow, standIns := [], harness := (true, "055c9aa127578715188c24c1c9a866096700a7b998688bf1eb4ec109f2f34beb"), looks := false }, kinds := [], alts := [], laidByText := true, laidKinds := [.data, .pinned], laidTests := true, laidLooks := .later }
def MeterAdoptsUptoCardSaid : Prop := Claim7.holds Tryz.pinned (.plain (OpenSpec.upto meterAdoptsSpec)) meterAdoptsUptoCard

/-- THE SECOND FORM's CARD OF 'firebelllaw20.MeterReads'. -/
def meterReadsUptoCard : Claim7 := { stood := { row := meterReadsUptoRow, standIns := [], harness := (true, "055c9aa127578715188c24c1c9a866096700a7b998688bf1eb4ec109f2f34beb"), looks := false }, kinds := [], alts := [], laidByText := true, laidKinds := [.data, .pinned], laidTests := true, laidLooks := .later }
def MeterReadsUptoCardSaid : Prop := Claim7.holds Tryz.pinned (.plain (OpenSpec.upto meterReadsSpec)) meterReadsUptoCard

/-- THE SECOND FORM's CARD OF 'firebelllaw21.BurnRules'. -/
def burnRulesUptoCard : Claim7 := { stood := { row := burnRulesUptoRow, standIns := [], harness := (true, "055c9aa127578715188c24c1c9a866096700a7b998688bf1eb4ec109f2f34beb"), looks := false }, kinds := [], alts := [], laidByText := true, laidKinds := [.data, .pinned], laidTests := true, laidLooks := .later }
def BurnRulesUptoCardSaid : Prop := Claim7.holds Tryz.pinned (.plain (OpenSpec.upto burnRulesSpec)) burnRulesUptoCard

/-- THE SECOND FORM's CARD OF 'firebelllaw20.MeterBytes'. -/
def meterBytesUptoCard : Claim7 := { stood := { row := meterBytesUptoRow, standIns := [], harness := (true, "055c9aa127578715188c24c1c9a866096700a7b998688bf1eb4ec109f2f34beb"), looks := false }, kinds := [], alts := [], laidByText := true, laidKinds := [.data, .pinned], laidTests := true, laidLooks := .later }
def MeterBytesUptoCardSaid : Prop := Claim7.holds Tryz.pinned (.plain (OpenSpec.upto meterBytesSpec)) meterBytesUptoCard

/-- THE SECOND FORM's CARD OF 'firebelllaw20.MeterNil'. -/
def meterNilUptoCard : Claim7 := { stood := { row := meterNilUptoRow, standIns := [], harness := (true, "055c9aa127578715188c24c1c9a866096700a7b998688bf1eb4ec109f2f34beb"), looks := false }, kinds := [], alts := [], laidByText := true, laidKinds := [.data, .pinned], laidTests := true, laidLooks := .later }
def MeterNilUptoCardSaid : Prop := Claim7.holds Tryz.pinned (.plain (OpenSpec.upto meterNilSpec)) meterNilUptoCard

/-- THE SECOND FORM's CARD OF 'firebelllaw23.LedgerMeters'. -/
def ledgerMetersUptoCard : Claim7 := { stood := { row := ledgerMetersUptoRow, standIns := [], harness := (true, "055c9aa127578715188c24c1c9a866096700a7b998688bf1eb4ec109f2f34beb"), looks := false }, kinds := [], alts := [], laidByText := true, laidKinds := [.data, .pinned], laidTests := true, laidLooks := .later }
def LedgerMetersUptoCardSaid : Prop := Claim7.holds Tryz.pinned (.plain (OpenSpec.upto ledgerMetersSpec)) ledgerMetersUptoCard

/-- THE SECOND FORM's CARD OF 'firebelllaw24.OutlookMeters'. -/
def outlookMetersUptoCard : Claim7 := { stood := { row := outlookMetersUptoRow, standIns := [], harness := (true, "055c9aa127578715188c24c1c9a866096700a7b998688bf1eb4ec109f2f34beb"), looks := false }, kinds := [], alts := [], laidByText := true, laidKinds := [.data, .pinned], laidTests := true, laidLooks := .later }
def OutlookMetersUptoCardSaid : Prop := Claim7.holds Tryz.pinned (.plain (OpenSpec.upto outlookMetersSpec)) outlookMetersUptoCard
end Rows
end Go.Proofs.YtidcomakahbepaaGreatDoor
