/-
  DERIVED. GIVEN WITH THE SEED: THE CARDS: each row of YtojgeamhdkphaaaGreatDoorRows.lean that lists a variable, with what it lists TIED to the program's text (the seventh form; the later family's looks); each row that meets fmt, with fmt's text TOLD by the authors' own Lean function (tested against real Go, not proved from fmt's source: count such statements apart). THE CARD IS WHAT COUNTS. Prove the row's statement (the work); the ties are given (YtojgeamhdkphaaaGreatDoorTie.lean); close each card by the builder's one call (the guide's Derived/Test/ToyasCard.lean, 'card_holds'). Laid BY PROGRAM, IN A SANDBOX (cutbox-door.mjs). By AI agents, Wed Nov 11 2026. No macro, syntax, notation, axiom, sorry.
-/
import Derived.Test.YtojgeamhdkphaaaGreatDoorRows
import GoSem.ClaimSeven
namespace Go.Proofs.YtojgeamhdkphaaaGreatDoor
namespace Rows

/-- THE TIED CARD OF 'firebelllaw16.CompileReads'. -/
def compileReadsCard : Claim7 := { stood := { row := compileReadsRow, standIns := [], harness := (true, "1db5c1dfeb179031ddc9cc0f4cc9a964dd282ff11ca27a8302056eaeeec512d1"), looks := true }, kinds := [], alts := [], laidByText := true, laidKinds := [.data, .data, .data, .data, .sentinel, .sentinel, .pinned], laidTests := true, laidLooks := .later }
def CompileReadsCardSaid : Prop := Claim7.holds Tryz.pinned (.plain (OpenSpec.ofChange compileReadsSpec)) compileReadsCard

/-- THE TIED CARD OF 'firebelllaw16.CompileTrees'. -/
def compileTreesCard : Claim7 := { stood := { row := compileTreesRow, standIns := [], harness := (true, "1db5c1dfeb179031ddc9cc0f4cc9a964dd282ff11ca27a8302056eaeeec512d1"), looks := true }, kinds := [], alts := [], laidByText := true, laidKinds := [.data, .data, .data, .data, .sentinel, .sentinel, .pinned], laidTests := true, laidLooks := .later }
def CompileTreesCardSaid : Prop := Claim7.holds Tryz.pinned (.plain (OpenSpec.ofChange compileTreesSpec)) compileTreesCard

/-- THE TIED CARD OF 'firebelllaw16.CompileTurns'. -/
def compileTurnsCard : Claim7 := { stood := { row := compileTurnsRow, standIns := [], harness := (true, "1db5c1dfeb179031ddc9cc0f4cc9a964dd282ff11ca27a8302056eaeeec512d1"), looks := true }, kinds := [], alts := [], laidByText := true, laidKinds := [.data, .data, .data, .data, .sentinel, .sentinel, .pinned], laidTests := true, laidLooks := .later }
def CompileTurnsCardSaid : Prop := Claim7.holds Tryz.pinned (.plain (OpenSpec.ofChange compileTurnsSpec)) compileTurnsCard

/-- THE TIED CARD OF 'firebelllaw16.CompileJoins'. -/
def compileJoinsCard : Claim7 := { stood := { row := compileJoinsRow, standIns := [], harness := (true, "1db5c1dfeb179031ddc9cc0f4cc9a964dd282ff11ca27a8302056eaeeec512d1"), looks := true }, kinds := [], alts := [], laidByText := true, laidKinds := [.data, .data, .data, .data, .sentinel, .sentinel, .pinned], laidTests := true, laidLooks := .later }
def CompileJoinsCardSaid : Prop := Claim7.holds Tryz.pinned (.plain (OpenSpec.ofChange compileJoinsSpec)) compileJoinsCard

/-- THE SECOND FORM's CARD OF 'firebelllaw16.CompileReads'. -/
def compileReadsUptoCard : Claim7 := { stood := { row := compileReadsUptoRow, standIns := [], harness := (true, "1db5c1dfeb179031ddc9cc0f4cc9a964dd282ff11ca27a8302056eaeeec512d1"), looks := true }, kinds := [], alts := [], laidByText := true, laidKinds := [.data, .data, .data, .data, .sentinel, .sentinel, .pinned], laidTests := true, laidLooks := .later }
def CompileReadsUptoCardSaid : Prop := Claim7.holds Tryz.pinned (.plain (OpenSpec.upto compileReadsSpec)) compileReadsUptoCard

/-- THE SECOND FORM's CARD OF 'firebelllaw16.CompileTrees'. -/
def compileTreesUptoCard : Claim7 := { stood := { row := compileTreesUptoRow, standIns := [], harness := (true, "1db5c1dfeb179031ddc9cc0f4cc9a964dd282ff11ca27a8302056eaeeec512d1"), looks := true }, kinds := [], alts := [], laidByText := true, laidKinds := [.data, .data, .data, .data, .sentinel, .sentinel, .pinned], laidTests := true, laidLooks := .later }
def CompileTreesUptoCardSaid : Prop := Claim7.holds Tryz.pinned (.plain (OpenSpec.upto compileTreesSpec)) compileTreesUptoCard

/-- THE SECOND FORM's CARD OF 'firebelllaw16.CompileTurns'. -/
def compileTurnsUptoCard : Claim7 := { stood := { row := compileTurnsUptoRow, standIns := [], harness := (true, "1db5c1dfeb179031ddc9cc0f4cc9a964dd282ff11ca27a8302056eaeeec512d1"), looks := true }, kinds := [], alts := [], laidByText := true, laidKinds := [.data, .data, .data, .data, .sentinel, .sentinel, .pinned], laidTests := true, laidLooks := .later }
def CompileTurnsUptoCardSaid : Prop := Claim7.holds Tryz.pinned (.plain (OpenSpec.upto compileTurnsSpec)) compileTurnsUptoCard

/-- THE SECOND FORM's CARD OF 'firebelllaw16.CompileJoins'. -/
def compileJoinsUptoCard : Claim7 := { stood := { row := compileJoinsUptoRow, standIns := [], harness := (true, "1db5c1dfeb179031ddc9cc0f4cc9a964dd282ff11ca27a8302056eaeeec512d1"), looks := true }, kinds := [], alts := [], laidByText := true, laidKinds := [.data, .data, .data, .data, .sentinel, .sentinel, .pinned], laidTests := true, laidLooks := .later }
def CompileJoinsUptoCardSaid : Prop := Claim7.holds Tryz.pinned (.plain (OpenSpec.upto compileJoinsSpec)) compileJoinsUptoCard
end Rows
end Go.Proofs.YtojgeamhdkphaaaGreatDoor
