/-
  No cell of these rows narrows 'for every input' (looked for: loops, veiled, ifaces, maps, wideKeys, modest, calm, conditions, laid).
  DERIVED. THE GIVEN ROWS OF THIS SEAT. 9 by the template 'for every input the law returns true; each argument reads behind the call as it read before'; 0 by the template 'total and deterministic' (their statements: YtbepaingfmlpeaaTotals.lean).
  GIVEN WITH THE SEED: the statements are not yours to turn. If you find one false, say at which input.
  Laid BY PROGRAM, IN A SANDBOX (cutbox-rows.mjs): the forced cells as the released guide's own fill.sh prints them over the translation b7c1df09a3cc3e23… (all of the seat's roots in one cut). By AI agents, Wed Nov 11 2026. No macro, syntax, notation, axiom, sorry.
-/
import Derived.Test.YtbepaingfmlpeaaChecked
import GoSem.Claim
import GoSem.ClaimJoined
import GoSem.ClaimMapViews
import Derived.JoinedTies
import Derived.KernelRfl
namespace Go.Proofs.Ytbepaingfmlpeaa
/- THE CELL 'sum', in the pinned program and in every row, IS THE sha256 OF THE DUMP (.gsa) THAT YtbepaingfmlpeaaProg.lean LOADS. Nothing in Lean hashes anything: it is a label: what it is worth is what the hold of that sum in a sandbox is worth. -/
noncomputable def Try.pinned : Pinned := { name := "ytbepaingfmlpeaa", sum := "b7c1df09a3cc3e236cbd24e84f6dcc1201cfd0b9f58737668916f9cda97084e4", checked := Try.checked }
namespace Rows
def none {H : Type} : Left H := { results := [], args := [] }

/-- 'firebelllaw30.BundleAgain': WHATEVER THE INPUT: true; the input reads as it did. -/
def bundleAgainSpec : ChangeSpec := { name := "bundleAgain", fn := fun _ => fun
  | [d] => { results := [.lit (.bool true)], args := [d] }
  | _ => none }
def bundleAgainRow : OpenClaim := { program := "ytbepaingfmlpeaa", sum := "b7c1df09a3cc3e236cbd24e84f6dcc1201cfd0b9f58737668916f9cda97084e4", func := "firebell/firebelllaw30.BundleAgain", spec := "bundleAgain", unfollowed := true, recurses := true, apart := false }
def BundleAgainSaid : Prop := bundleAgainRow.holds Try.pinned (OpenSpec.ofChange bundleAgainSpec)

/-- ITS FALSE NEIGHBOUR: 'it returns false'. Refute it at one input. -/
def bundleAgainWrong : ChangeSpec := { name := "bundleAgain", fn := fun _ => fun
  | [d] => { results := [.lit (.bool false)], args := [d] }
  | _ => none }
def BundleAgainWrongFalsely : Prop := bundleAgainRow.holds Try.pinned (OpenSpec.ofChange bundleAgainWrong)

/-- 'firebelllaw30.BundleGroups': WHATEVER THE INPUT: true; the input reads as it did. -/
def bundleGroupsSpec : ChangeSpec := { name := "bundleGroups", fn := fun _ => fun
  | [d] => { results := [.lit (.bool true)], args := [d] }
  | _ => none }
def bundleGroupsRow : OpenClaim := { program := "ytbepaingfmlpeaa", sum := "b7c1df09a3cc3e236cbd24e84f6dcc1201cfd0b9f58737668916f9cda97084e4", func := "firebell/firebelllaw30.BundleGroups", spec := "bundleGroups", unfollowed := true, recurses := true, apart := false }
def BundleGroupsSaid : Prop := bundleGroupsRow.holds Try.pinned (OpenSpec.ofChange bundleGroupsSpec)

/-- ITS FALSE NEIGHBOUR: 'it returns false'. Refute it at one input. -/
def bundleGroupsWrong : ChangeSpec := { name := "bundleGroups", fn := fun _ => fun
  | [d] => { results := [.lit (.bool false)], args := [d] }
  | _ => none }
def BundleGroupsWrongFalsely : Prop := bundleGroupsRow.holds Try.pinned (OpenSpec.ofChange bundleGroupsWrong)

/-- 'firebelllaw21.BurnHolds': WHATEVER THE INPUT: true; the input reads as it did. -/
def burnHoldsSpec : ChangeSpec := { name := "burnHolds", fn := fun _ => fun
  | [d1, d2, d3] => { results := [.lit (.bool true)], args := [d1, d2, d3] }
  | _ => none }
def burnHoldsRow : OpenClaim := { program := "ytbepaingfmlpeaa", sum := "b7c1df09a3cc3e236cbd24e84f6dcc1201cfd0b9f58737668916f9cda97084e4", func := "firebell/firebelllaw21.BurnHolds", spec := "burnHolds", named := ["math/bits.divideError", "math/bits.overflowError"], apart := false }
def BurnHoldsSaid : Prop := burnHoldsRow.holds Try.pinned (OpenSpec.ofChange burnHoldsSpec)

/-- ITS FALSE NEIGHBOUR: 'it returns false'. Refute it at one input. -/
def burnHoldsWrong : ChangeSpec := { name := "burnHolds", fn := fun _ => fun
  | [d1, d2, d3] => { results := [.lit (.bool false)], args := [d1, d2, d3] }
  | _ => none }
def BurnHoldsWrongFalsely : Prop := burnHoldsRow.holds Try.pinned (OpenSpec.ofChange burnHoldsWrong)

/-- 'firebelllaw21.BurnRates': WHATEVER THE INPUT: true; the input reads as it did. -/
def burnRatesSpec : ChangeSpec := { name := "burnRates", fn := fun _ => fun
  | [d1, d2, d3] => { results := [.lit (.bool true)], args := [d1, d2, d3] }
  | _ => none }
def burnRatesRow : OpenClaim := { program := "ytbepaingfmlpeaa", sum := "b7c1df09a3cc3e236cbd24e84f6dcc1201cfd0b9f58737668916f9cda97084e4", func := "firebell/firebelllaw21.BurnRates", spec := "burnRates", named := ["math/bits.divideError", "math/bits.overflowError"], apart := false }
def BurnRatesSaid : Prop := burnRatesRow.holds Try.pinned (OpenSpec.ofChange burnRatesSpec)

/-- ITS FALSE NEIGHBOUR: 'it returns false'. Refute it at one input. -/
def burnRatesWrong : ChangeSpec := { name := "burnRates", fn := fun _ => fun
  | [d1, d2, d3] => { results := [.lit (.bool false)], args := [d1, d2, d3] }
  | _ => none }
def BurnRatesWrongFalsely : Prop := burnRatesRow.holds Try.pinned (OpenSpec.ofChange burnRatesWrong)

/-- 'firebelllaw21.BurnScales': WHATEVER THE INPUT: true; the input reads as it did. -/
def burnScalesSpec : ChangeSpec := { name := "burnScales", fn := fun _ => fun
  | [d1, d2, d3, d4, d5] => { results := [.lit (.bool true)], args := [d1, d2, d3, d4, d5] }
  | _ => none }
def burnScalesRow : OpenClaim := { program := "ytbepaingfmlpeaa", sum := "b7c1df09a3cc3e236cbd24e84f6dcc1201cfd0b9f58737668916f9cda97084e4", func := "firebell/firebelllaw21.BurnScales", spec := "burnScales", named := ["math/bits.divideError", "math/bits.overflowError"], apart := false }
def BurnScalesSaid : Prop := burnScalesRow.holds Try.pinned (OpenSpec.ofChange burnScalesSpec)

/-- ITS FALSE NEIGHBOUR: 'it returns false'. Refute it at one input. -/
def burnScalesWrong : ChangeSpec := { name := "burnScales", fn := fun _ => fun
  | [d1, d2, d3, d4, d5] => { results := [.lit (.bool false)], args := [d1, d2, d3, d4, d5] }
  | _ => none }
def BurnScalesWrongFalsely : Prop := burnScalesRow.holds Try.pinned (OpenSpec.ofChange burnScalesWrong)

/-- 'firebelllaw23.LedgerLeft': WHATEVER THE INPUT: true; the input reads as it did. -/
def ledgerLeftSpec : ChangeSpec := { name := "ledgerLeft", fn := fun _ => fun
  | [d1, d2] => { results := [.lit (.bool true)], args := [d1, d2] }
  | _ => none }
def ledgerLeftRow : OpenClaim := { program := "ytbepaingfmlpeaa", sum := "b7c1df09a3cc3e236cbd24e84f6dcc1201cfd0b9f58737668916f9cda97084e4", func := "firebell/firebelllaw23.LedgerLeft", spec := "ledgerLeft", inPlace := ["math/bits.Sub64", "math/bits.Add64"], named := ["math/bits.divideError", "math/bits.overflowError"], apart := false }
def LedgerLeftSaid : Prop := ledgerLeftRow.holds Try.pinned (OpenSpec.ofChange ledgerLeftSpec)

/-- ITS FALSE NEIGHBOUR: 'it returns false'. Refute it at one input. -/
def ledgerLeftWrong : ChangeSpec := { name := "ledgerLeft", fn := fun _ => fun
  | [d1, d2] => { results := [.lit (.bool false)], args := [d1, d2] }
  | _ => none }
def LedgerLeftWrongFalsely : Prop := ledgerLeftRow.holds Try.pinned (OpenSpec.ofChange ledgerLeftWrong)

/-- 'firebelllaw23.LedgerAdds': WHATEVER THE INPUT: true; the input reads as it did. -/
def ledgerAddsSpec : ChangeSpec := { name := "ledgerAdds", fn := fun _ => fun
  | [d1, d2, d3] => { results := [.lit (.bool true)], args := [d1, d2, d3] }
  | _ => none }
def ledgerAddsRow : OpenClaim := { program := "ytbepaingfmlpeaa", sum := "b7c1df09a3cc3e236cbd24e84f6dcc1201cfd0b9f58737668916f9cda97084e4", func := "firebell/firebelllaw23.LedgerAdds", spec := "ledgerAdds", inPlace := ["math/bits.Sub64", "math/bits.Add64"], named := ["math/bits.divideError", "math/bits.overflowError"], apart := false }
def LedgerAddsSaid : Prop := ledgerAddsRow.holds Try.pinned (OpenSpec.ofChange ledgerAddsSpec)

/-- ITS FALSE NEIGHBOUR: 'it returns false'. Refute it at one input. -/
def ledgerAddsWrong : ChangeSpec := { name := "ledgerAdds", fn := fun _ => fun
  | [d1, d2, d3] => { results := [.lit (.bool false)], args := [d1, d2, d3] }
  | _ => none }
def LedgerAddsWrongFalsely : Prop := ledgerAddsRow.holds Try.pinned (OpenSpec.ofChange ledgerAddsWrong)

/-- 'firebelllaw24.OutlookLeast': WHATEVER THE INPUT: true; the input reads as it did. -/
def outlookLeastSpec : ChangeSpec := { name := "outlookLeast", fn := fun _ => fun
  | [d1, d2, d3] => { results := [.lit (.bool true)], args := [d1, d2, d3] }
  | _ => none }
def outlookLeastRow : OpenClaim := { program := "ytbepaingfmlpeaa", sum := "b7c1df09a3cc3e236cbd24e84f6dcc1201cfd0b9f58737668916f9cda97084e4", func := "firebell/firebelllaw24.OutlookLeast", spec := "outlookLeast", inPlace := ["math/bits.Add64"], named := ["math/bits.divideError", "math/bits.overflowError"], apart := false }
def OutlookLeastSaid : Prop := outlookLeastRow.holds Try.pinned (OpenSpec.ofChange outlookLeastSpec)

/-- ITS FALSE NEIGHBOUR: 'it returns false'. Refute it at one input. -/
def outlookLeastWrong : ChangeSpec := { name := "outlookLeast", fn := fun _ => fun
  | [d1, d2, d3] => { results := [.lit (.bool false)], args := [d1, d2, d3] }
  | _ => none }
def OutlookLeastWrongFalsely : Prop := outlookLeastRow.holds Try.pinned (OpenSpec.ofChange outlookLeastWrong)

/-- 'firebelllaw24.OutlookPrints': WHATEVER THE INPUT: true; the input reads as it did. -/
def outlookPrintsSpec : ChangeSpec := { name := "outlookPrints", fn := fun _ => fun
  | [d1, d2] => { results := [.lit (.bool true)], args := [d1, d2] }
  | _ => none }
def outlookPrintsRow : OpenClaim := { program := "ytbepaingfmlpeaa", sum := "b7c1df09a3cc3e236cbd24e84f6dcc1201cfd0b9f58737668916f9cda97084e4", func := "firebell/firebelllaw24.OutlookPrints", spec := "outlookPrints", inPlace := ["math/bits.Add64"], named := ["math/bits.divideError", "math/bits.overflowError"], apart := false }
def OutlookPrintsSaid : Prop := outlookPrintsRow.holds Try.pinned (OpenSpec.ofChange outlookPrintsSpec)

/-- ITS FALSE NEIGHBOUR: 'it returns false'. Refute it at one input. -/
def outlookPrintsWrong : ChangeSpec := { name := "outlookPrints", fn := fun _ => fun
  | [d1, d2] => { results := [.lit (.bool false)], args := [d1, d2] }
  | _ => none }
def OutlookPrintsWrongFalsely : Prop := outlookPrintsRow.holds Try.pinned (OpenSpec.ofChange outlookPrintsWrong)

/- THE SECOND FORM. 'bulk': how many values and letters a reading holds, each counted each time it is reached (what is shared counts as often as it is met; a slice's spare places count too). A statement '..UptoSaid' is the law's where the arguments, and the package variables that the reading takes, are together of bulk at most 1048576: NARROWER than '..Said'. Prove '..Said' where nothing that the law and all that it calls make is longer than what came in: it says more and counts as full. Else prove '..UptoSaid'. A law counts once. -/
mutual
def uptoBulk {H : Type} : DataW H → Nat
  | .lit (.string bytes) => bytes.length + 1
  | .lit _ => 1
  | .nil => 1
  | .ptr d => uptoBulk d + 1
  | .slice elems spare => uptoBulkAll elems + uptoBulkAll spare + 1
  | .agg parts => uptoBulkAll parts + 1
  | .iface _ d => uptoBulk d + 1
  | .map entries => uptoBulkEntries entries + 1
  | .held _ => 1
def uptoBulkAll {H : Type} : List (DataW H) → Nat
  | [] => 0
  | d :: r => uptoBulk d + uptoBulkAll r
def uptoBulkEntries {H : Type} : List (Lit × DataW H) → Nat
  | [] => 0
  | x :: r => uptoBulkEntry x + uptoBulkEntries r
def uptoBulkEntry {H : Type} : Lit × DataW H → Nat
  | (.string bytes, d) => bytes.length + uptoBulk d + 1
  | (_, d) => uptoBulk d + 1
 end
def uptoSmall : (H : Type) → List (DataW H) → Bool := fun _ ds => decide (uptoBulkAll ds ≤ 1048576)
def OpenSpec.upto (s : _root_.Go.ChangeSpec) : _root_.Go.OpenSpec := { _root_.Go.OpenSpec.ofChange s with cond := some uptoSmall }

/-- 'firebelllaw30.BundleAgain', WHERE WHAT IT READS IS OF BULK AT MOST 1048576: true; the input reads as it did. -/
def bundleAgainUptoRow : OpenClaim := { program := "ytbepaingfmlpeaa", sum := "b7c1df09a3cc3e236cbd24e84f6dcc1201cfd0b9f58737668916f9cda97084e4", func := "firebell/firebelllaw30.BundleAgain", spec := "bundleAgain", unfollowed := true, recurses := true, apart := false, narrowed := true }
def BundleAgainUptoSaid : Prop := bundleAgainUptoRow.holds Try.pinned (OpenSpec.upto bundleAgainSpec)

/-- 'firebelllaw30.BundleGroups', WHERE WHAT IT READS IS OF BULK AT MOST 1048576: true; the input reads as it did. -/
def bundleGroupsUptoRow : OpenClaim := { program := "ytbepaingfmlpeaa", sum := "b7c1df09a3cc3e236cbd24e84f6dcc1201cfd0b9f58737668916f9cda97084e4", func := "firebell/firebelllaw30.BundleGroups", spec := "bundleGroups", unfollowed := true, recurses := true, apart := false, narrowed := true }
def BundleGroupsUptoSaid : Prop := bundleGroupsUptoRow.holds Try.pinned (OpenSpec.upto bundleGroupsSpec)

/-- 'firebelllaw21.BurnHolds', WHERE WHAT IT READS IS OF BULK AT MOST 1048576: true; the input reads as it did. -/
def burnHoldsUptoRow : OpenClaim := { program := "ytbepaingfmlpeaa", sum := "b7c1df09a3cc3e236cbd24e84f6dcc1201cfd0b9f58737668916f9cda97084e4", func := "firebell/firebelllaw21.BurnHolds", spec := "burnHolds", named := ["math/bits.divideError", "math/bits.overflowError"], apart := false, narrowed := true }
def BurnHoldsUptoSaid : Prop := burnHoldsUptoRow.holds Try.pinned (OpenSpec.upto burnHoldsSpec)

/-- 'firebelllaw21.BurnRates', WHERE WHAT IT READS IS OF BULK AT MOST 1048576: true; the input reads as it did. -/
def burnRatesUptoRow : OpenClaim := { program := "ytbepaingfmlpeaa", sum := "b7c1df09a3cc3e236cbd24e84f6dcc1201cfd0b9f58737668916f9cda97084e4", func := "firebell/firebelllaw21.BurnRates", spec := "burnRates", named := ["math/bits.divideError", "math/bits.overflowError"], apart := false, narrowed := true }
def BurnRatesUptoSaid : Prop := burnRatesUptoRow.holds Try.pinned (OpenSpec.upto burnRatesSpec)

/-- 'firebelllaw21.BurnScales', WHERE WHAT IT READS IS OF BULK AT MOST 1048576: true; the input reads as it did. -/
def burnScalesUptoRow : OpenClaim := { program := "ytbepaingfmlpeaa", sum := "b7c1df09a3cc3e236cbd24e84f6dcc1201cfd0b9f58737668916f9cda97084e4", func := "firebell/firebelllaw21.BurnScales", spec := "burnScales", named := ["math/bits.divideError", "math/bits.overflowError"], apart := false, narrowed := true }
def BurnScalesUptoSaid : Prop := burnScalesUptoRow.holds Try.pinned (OpenSpec.upto burnScalesSpec)

/-- 'firebelllaw23.LedgerLeft', WHERE WHAT IT READS IS OF BULK AT MOST 1048576: true; the input reads as it did. -/
def ledgerLeftUptoRow : OpenClaim := { program := "ytbepaingfmlpeaa", sum := "b7c1df09a3cc3e236cbd24e84f6dcc1201cfd0b9f58737668916f9cda97084e4", func := "firebell/firebelllaw23.LedgerLeft", spec := "ledgerLeft", inPlace := ["math/bits.Sub64", "math/bits.Add64"], named := ["math/bits.divideError", "math/bits.overflowError"], apart := false, narrowed := true }
def LedgerLeftUptoSaid : Prop := ledgerLeftUptoRow.holds Try.pinned (OpenSpec.upto ledgerLeftSpec)

/-- 'firebelllaw23.LedgerAdds', WHERE WHAT IT READS IS OF BULK AT MOST 1048576: true; the input reads as it did. -/
def ledgerAddsUptoRow : OpenClaim := { program := "ytbepaingfmlpeaa", sum := "b7c1df09a3cc3e236cbd24e84f6dcc1201cfd0b9f58737668916f9cda97084e4", func := "firebell/firebelllaw23.LedgerAdds", spec := "ledgerAdds", inPlace := ["math/bits.Sub64", "math/bits.Add64"], named := ["math/bits.divideError", "math/bits.overflowError"], apart := false, narrowed := true }
def LedgerAddsUptoSaid : Prop := ledgerAddsUptoRow.holds Try.pinned (OpenSpec.upto ledgerAddsSpec)

/-- 'firebelllaw24.OutlookLeast', WHERE WHAT IT READS IS OF BULK AT MOST 1048576: true; the input reads as it did. -/
def outlookLeastUptoRow : OpenClaim := { program := "ytbepaingfmlpeaa", sum := "b7c1df09a3cc3e236cbd24e84f6dcc1201cfd0b9f58737668916f9cda97084e4", func := "firebell/firebelllaw24.OutlookLeast", spec := "outlookLeast", inPlace := ["math/bits.Add64"], named := ["math/bits.divideError", "math/bits.overflowError"], apart := false, narrowed := true }
def OutlookLeastUptoSaid : Prop := outlookLeastUptoRow.holds Try.pinned (OpenSpec.upto outlookLeastSpec)

/-- 'firebelllaw24.OutlookPrints', WHERE WHAT IT READS IS OF BULK AT MOST 1048576: true; the input reads as it did. -/
def outlookPrintsUptoRow : OpenClaim := { program := "ytbepaingfmlpeaa", sum := "b7c1df09a3cc3e236cbd24e84f6dcc1201cfd0b9f58737668916f9cda97084e4", func := "firebell/firebelllaw24.OutlookPrints", spec := "outlookPrints", inPlace := ["math/bits.Add64"], named := ["math/bits.divideError", "math/bits.overflowError"], apart := false, narrowed := true }
def OutlookPrintsUptoSaid : Prop := outlookPrintsUptoRow.holds Try.pinned (OpenSpec.upto outlookPrintsSpec)

end Rows
end Go.Proofs.Ytbepaingfmlpeaa
