/-
  DERIVED. GIVEN WITH THE SEED: THE CARDS: each row of YtpaipepdakekbaaGreatDoorRows.lean that lists a variable, with what it lists TIED to the program's text (the seventh form; the later family's looks); each row that meets fmt, with fmt's text TOLD by the authors' own Lean function (tested against real Go, not proved from fmt's source: count such statements apart). THE CARD IS WHAT COUNTS. Prove the row's statement (the work); the ties are given (YtpaipepdakekbaaGreatDoorTie.lean); close each card by the builder's one call (the guide's Derived/Test/ToyasCard.lean, 'card_holds'). Laid BY PROGRAM, IN A SANDBOX (cutbox-door.mjs). By AI agents, Wed Nov 11 2026. No macro, syntax, notation, axiom, sorry.
-/
import Derived.Test.YtpaipepdakekbaaGreatDoorRows
import GoSem.ClaimSeven
namespace Go.Proofs.YtpaipepdakekbaaGreatDoor
namespace Rows

/-- THE TIED CARD OF 'firebelllaw14.TreeParses'. -/
def treeParsesCard : Claim7 := { stood := { row := treeParsesRow, standIns := [], harness := (true, "db0c51db0a2e107d3e421d999ea40f7819274d764f8f21994e814afd085eda4c"), looks := true }, kinds := [], alts := [], laidByText := true, laidKinds := [.data, .data, .data, .data, .sentinel, .sentinel, .pinned], laidTests := true, laidLooks := .later }
def TreeParsesCardSaid : Prop := Claim7.holds Tryz.pinned (.plain (OpenSpec.ofChange treeParsesSpec)) treeParsesCard

/-- THE TIED CARD OF 'firebelllaw14.TreeJoins'. -/
def treeJoinsCard : Claim7 := { stood := { row := treeJoinsRow, standIns := [], harness := (true, "db0c51db0a2e107d3e421d999ea40f7819274d764f8f21994e814afd085eda4c"), looks := true }, kinds := [], alts := [], laidByText := true, laidKinds := [.data, .data, .data, .data, .sentinel, .sentinel, .pinned], laidTests := true, laidLooks := .later }
def TreeJoinsCardSaid : Prop := Claim7.holds Tryz.pinned (.plain (OpenSpec.ofChange treeJoinsSpec)) treeJoinsCard

/-- THE TIED CARD OF 'firebelllaw14.TreeNests'. -/
def treeNestsCard : Claim7 := { stood := { row := treeNestsRow, standIns := [], harness := (true, "db0c51db0a2e107d3e421d999ea40f7819274d764f8f21994e814afd085eda4c"), looks := true }, kinds := [], alts := [], laidByText := true, laidKinds := [.data, .data, .data, .data, .sentinel, .sentinel, .pinned], laidTests := true, laidLooks := .later }
def TreeNestsCardSaid : Prop := Claim7.holds Tryz.pinned (.plain (OpenSpec.ofChange treeNestsSpec)) treeNestsCard

/-- THE TIED CARD OF 'firebelllaw14.TreeTokens'. -/
def treeTokensCard : Claim7 := { stood := { row := treeTokensRow, standIns := [], harness := (true, "db0c51db0a2e107d3e421d999ea40f7819274d764f8f21994e814afd085eda4c"), looks := true }, kinds := [], alts := [], laidByText := true, laidKinds := [.data, .data, .data, .data, .sentinel, .sentinel, .pinned], laidTests := true, laidLooks := .later }
def TreeTokensCardSaid : Prop := Claim7.holds Tryz.pinned (.plain (OpenSpec.ofChange treeTokensSpec)) treeTokensCard

/-- THE SECOND FORM's CARD OF 'firebelllaw14.TreeParses'. -/
def treeParsesUptoCard : Claim7 := { stood := { row := treeParsesUptoRow, standIns := [], harness := (true, "db0c51db0a2e107d3e421d999ea40f7819274d764f8f21994e814afd085eda4c"), looks := true }, kinds := [], alts := [], laidByText := true, laidKinds := [.data, .data, .data, .data, .sentinel, .sentinel, .pinned], laidTests := true, laidLooks := .later }
def TreeParsesUptoCardSaid : Prop := Claim7.holds Tryz.pinned (.plain (OpenSpec.upto treeParsesSpec)) treeParsesUptoCard

/-- THE SECOND FORM's CARD OF 'firebelllaw14.TreeJoins'. -/
def treeJoinsUptoCard : Claim7 := { stood := { row := treeJoinsUptoRow, standIns := [], harness := (true, "db0c51db0a2e107d3e421d999ea40f7819274d764f8f21994e814afd085eda4c"), looks := true }, kinds := [], alts := [], laidByText := true, laidKinds := [.data, .data, .data, .data, .sentinel, .sentinel, .pinned], laidTests := true, laidLooks := .later }
def TreeJoinsUptoCardSaid : Prop := Claim7.holds Tryz.pinned (.plain (OpenSpec.upto treeJoinsSpec)) treeJoinsUptoCard

/-- THE SECOND FORM's CARD OF 'firebelllaw14.TreeNests'. -/
def treeNestsUptoCard : Claim7 := { stood := { row := treeNestsUptoRow, standIns := [], harness := (true, "db0c51db0a2e107d3e421d999ea40f7819274d764f8f21994e814afd085eda4c"), looks := true }, kinds := [], alts := [], laidByText := true, laidKinds := [.data, .data, .data, .data, .sentinel, .sentinel, .pinned], laidTests := true, laidLooks := .later }
def TreeNestsUptoCardSaid : Prop := Claim7.holds Tryz.pinned (.plain (OpenSpec.upto treeNestsSpec)) treeNestsUptoCard

/-- THE SECOND FORM's CARD OF 'firebelllaw14.TreeTokens'. -/
def treeTokensUptoCard : Claim7 := { stood := { row := treeTokensUptoRow, standIns := [], harness := (true, "db0c51db0a2e107d3e421d999ea40f7819274d764f8f21994e814afd085eda4c"), looks := true }, kinds := [], alts := [], laidByText := true, laidKinds := [.data, .data, .data, .data, .sentinel, .sentinel, .pinned], laidTests := true, laidLooks := .later }
def TreeTokensUptoCardSaid : Prop := Claim7.holds Tryz.pinned (.plain (OpenSpec.upto treeTokensSpec)) treeTokensUptoCard
end Rows
end Go.Proofs.YtpaipepdakekbaaGreatDoor
