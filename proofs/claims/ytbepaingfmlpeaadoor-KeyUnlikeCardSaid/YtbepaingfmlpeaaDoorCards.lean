/-
  DERIVED. GIVEN WITH THE SEED: THE CARDS: each row of YtbepaingfmlpeaaDoorRows.lean that lists a variable, with what it lists TIED to the program's text (the seventh form; the later family's looks); each row that meets fmt, with fmt's text TOLD by the authors' own Lean function (tested against real Go, not proved from fmt's source: count such statements apart). THE CARD IS WHAT COUNTS. Prove the row's statement (the work); the ties are given (YtbepaingfmlpeaaDoorTie.lean); close each card by the builder's one call (the guide's Derived/Test/ToyasCard.lean, 'card_holds'). Laid BY PROGRAM, IN A SANDBOX (cutbox-door.mjs). By AI agents, Wed Nov 11 2026. No macro, syntax, notation, axiom, sorry.
-/
import Derived.Test.YtbepaingfmlpeaaDoorRows
import GoSem.ClaimSeven
namespace Go.Proofs.YtbepaingfmlpeaaDoor
namespace Rows

/-- THE TIED CARD OF 'firebelllaw25.KeyUnlike'. -/
def keyUnlikeCard : Claim7 := { stood := { row := keyUnlikeRow, standIns := [], harness := (true, "d237c1baaf13a07236fcd1373b632a21520dad81403a476471ea16e73ee54cbe"), looks := false }, kinds := [], alts := [], laidByText := true, laidKinds := [.data, .data, .data], laidTests := true, laidLooks := .later }
def KeyUnlikeCardSaid : Prop := Claim7.holds Tryd.pinned (.plain (OpenSpec.ofChange keyUnlikeSpec)) keyUnlikeCard

/-- THE TIED CARD OF 'firebelllaw25.KeyOrders'. -/
def keyOrdersCard : Claim7 := { stood := { row := keyOrdersRow, standIns := [], harness := (true, "d237c1baaf13a07236fcd1373b632a21520dad81403a476471ea16e73ee54cbe"), looks := false }, kinds := [], alts := [], laidByText := true, laidKinds := [.data, .data, .data], laidTests := true, laidLooks := .later }
def KeyOrdersCardSaid : Prop := Claim7.holds Tryd.pinned (.plain (OpenSpec.ofChange keyOrdersSpec)) keyOrdersCard

/-- THE TIED CARD OF 'firebelllaw25.KeyPrints'. -/
def keyPrintsCard : Claim7 := { stood := { row := keyPrintsRow, standIns := [], harness := (true, "d237c1baaf13a07236fcd1373b632a21520dad81403a476471ea16e73ee54cbe"), looks := false }, kinds := [], alts := [], laidByText := true, laidKinds := [.data, .data, .data], laidTests := true, laidLooks := .later }
def KeyPrintsCardSaid : Prop := Claim7.holds Tryd.pinned (.plain (OpenSpec.ofChange keyPrintsSpec)) keyPrintsCard

/-- THE TIED CARD OF 'firebelllaw25.KeyBytes'. -/
def keyBytesCard : Claim7 := { stood := { row := keyBytesRow, standIns := [], harness := (true, "d237c1baaf13a07236fcd1373b632a21520dad81403a476471ea16e73ee54cbe"), looks := false }, kinds := [], alts := [], laidByText := true, laidKinds := [.data, .data, .data], laidTests := true, laidLooks := .later }
def KeyBytesCardSaid : Prop := Claim7.holds Tryd.pinned (.plain (OpenSpec.ofChange keyBytesSpec)) keyBytesCard

/-- THE SECOND FORM's CARD OF 'firebelllaw25.KeyUnlike'. -/
def keyUnlikeUptoCard : Claim7 := { stood := { row := keyUnlikeUptoRow, standIns := [], harness := (true, "d237c1baaf13a07236fcd1373b632a21520dad81403a476471ea16e73ee54cbe"), looks := false }, kinds := [], alts := [], laidByText := true, laidKinds := [.data, .data, .data], laidTests := true, laidLooks := .later }
def KeyUnlikeUptoCardSaid : Prop := Claim7.holds Tryd.pinned (.plain (OpenSpec.upto keyUnlikeSpec)) keyUnlikeUptoCard

/-- THE SECOND FORM's CARD OF 'firebelllaw25.KeyOrders'. -/
def keyOrdersUptoCard : Claim7 := { stood := { row := keyOrdersUptoRow, standIns := [], harness := (true, "d237c1baaf13a07236fcd1373b632a21520dad81403a476471ea16e73ee54cbe"), looks := false }, kinds := [], alts := [], laidByText := true, laidKinds := [.data, .data, .data], laidTests := true, laidLooks := .later }
def KeyOrdersUptoCardSaid : Prop := Claim7.holds Tryd.pinned (.plain (OpenSpec.upto keyOrdersSpec)) keyOrdersUptoCard

/-- THE SECOND FORM's CARD OF 'firebelllaw25.KeyPrints'. -/
def keyPrintsUptoCard : Claim7 := { stood := { row := keyPrintsUptoRow, standIns := [], harness := (true, "d237c1baaf13a07236fcd1373b632a21520dad81403a476471ea16e73ee54cbe"), looks := false }, kinds := [], alts := [], laidByText := true, laidKinds := [.data, .data, .data], laidTests := true, laidLooks := .later }
def KeyPrintsUptoCardSaid : Prop := Claim7.holds Tryd.pinned (.plain (OpenSpec.upto keyPrintsSpec)) keyPrintsUptoCard

/-- THE SECOND FORM's CARD OF 'firebelllaw25.KeyBytes'. -/
def keyBytesUptoCard : Claim7 := { stood := { row := keyBytesUptoRow, standIns := [], harness := (true, "d237c1baaf13a07236fcd1373b632a21520dad81403a476471ea16e73ee54cbe"), looks := false }, kinds := [], alts := [], laidByText := true, laidKinds := [.data, .data, .data], laidTests := true, laidLooks := .later }
def KeyBytesUptoCardSaid : Prop := Claim7.holds Tryd.pinned (.plain (OpenSpec.upto keyBytesSpec)) keyBytesUptoCard
end Rows
end Go.Proofs.YtbepaingfmlpeaaDoor
