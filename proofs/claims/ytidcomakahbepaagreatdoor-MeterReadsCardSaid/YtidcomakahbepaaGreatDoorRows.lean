/-
  NARROWER THAN 'FOR EVERY INPUT', by the rows' own cells (each row's printed sentence says how): MeterAsks: laid · MeterPlays: laid · MeterAdopts: laid · MeterReads: laid · BurnRules: laid · MeterBytes: laid · MeterNil: laid · LedgerMeters: laid · OutlookMeters: laid.
  DERIVED. THE GIVEN ROWS OF THIS SEAT. 9 by the template 'for every input the law returns true; each argument reads behind the call as it read before'; 0 by the template 'total and deterministic' (their statements: YtidcomakahbepaaGreatDoorTotals.lean).
  GIVEN WITH THE SEED: the statements are not yours to turn. If you find one false, say at which input.
  Laid BY PROGRAM, IN A SANDBOX (cutbox-rows.mjs): the forced cells as the released guide's own fill.sh prints them over the translation 5104ecbd2af24605… (all of the seat's roots in one cut). By AI agents, Wed Nov 11 2026. No macro, syntax, notation, axiom, sorry.
-/
import Derived.Test.YtidcomakahbepaaGreatDoorChecked
import GoSem.PinnedTables
import GoSem.Claim
import GoSem.ClaimJoined
import GoSem.ClaimMapViews
import Derived.JoinedTies
import Derived.KernelRfl
namespace Go.Proofs.YtidcomakahbepaaGreatDoor
/- THE CELL 'sum', in the pinned program and in every row, IS THE sha256 OF THE DUMP (.gsa) THAT YtidcomakahbepaaGreatDoorProg.lean LOADS. Nothing in Lean hashes anything: it is a label: what it is worth is what the hold of that sum in a sandbox is worth. -/
noncomputable def Tryz.pinned : Pinned := { name := "ytidcomakahbepaagreatdoor", sum := "5104ecbd2af2460594e7da1fbd6f43ddf8c1eb55369050c7ce15f062ae77c852", checked := Tryz.checked }
namespace Rows
def none {H : Type} : Left H := { results := [], args := [] }

/- WHAT THE LISTED PACKAGE-LEVEL VARIABLES READ AS WHEN THE CALL BEGINS. Each datum BY PROGRAM (the guide's laid-datum.mjs) off the statement by which the dump's own 'gosem.cut.vars' lays the variable. In a bare row this is a premise. The card (YtidcomakahbepaaGreatDoorCards.lean) ties it to the program's text. -/
def laid_unicode_utf8_acceptRanges {H : Type} : DataW H := .agg [.agg [.lit (.int .u8 128), .lit (.int .u8 191)], .agg [.lit (.int .u8 160), .lit (.int .u8 191)], .agg [.lit (.int .u8 128), .lit (.int .u8 159)], .agg [.lit (.int .u8 144), .lit (.int .u8 191)], .agg [.lit (.int .u8 128), .lit (.int .u8 143)], .agg [.lit (.int .u8 0), .lit (.int .u8 0)], .agg [.lit (.int .u8 0), .lit (.int .u8 0)], .agg [.lit (.int .u8 0), .lit (.int .u8 0)], .agg [.lit (.int .u8 0), .lit (.int .u8 0)], .agg [.lit (.int .u8 0), .lit (.int .u8 0)], .agg [.lit (.int .u8 0), .lit (.int .u8 0)], .agg [.lit (.int .u8 0), .lit (.int .u8 0)], .agg [.lit (.int .u8 0), .lit (.int .u8 0)], .agg [.lit (.int .u8 0), .lit (.int .u8 0)], .agg [.lit (.int .u8 0), .lit (.int .u8 0)], .agg [.lit (.int .u8 0), .lit (.int .u8 0)]]
/-- One of Go's own tables, pinned by name: the form's constant. -/
def laid_unicode_utf8_first : DataW Unit := Go.Pinned.utf8First

/-- 'firebelllaw20.MeterAsks': WHATEVER THE INPUT: true; the input reads as it did. -/
def meterAsksSpec : ChangeSpec := { name := "meterAsks", fn := fun _ => fun
  | [d1, d2, d3] => { results := [.lit (.bool true)], args := [d1, d2, d3] }
  | _ => none }
def meterAsksRow : OpenClaim := { program := "ytidcomakahbepaagreatdoor", sum := "5104ecbd2af2460594e7da1fbd6f43ddf8c1eb55369050c7ce15f062ae77c852", func := "firebell/firebelllaw20.MeterAsks", spec := "meterAsks", unfollowed := true, recurses := true, named := ["unicode/utf8.first", "unicode/utf8.acceptRanges"], apart := false, laid := [("unicode/utf8.acceptRanges", laid_unicode_utf8_acceptRanges), ("unicode/utf8.first", laid_unicode_utf8_first)] }
def MeterAsksSaid : Prop := meterAsksRow.holds Tryz.pinned (OpenSpec.ofChange meterAsksSpec)

/-- ITS FALSE NEIGHBOUR: 'it returns false'. Refute it at one input. -/
def meterAsksWrong : ChangeSpec := { name := "meterAsks", fn := fun _ => fun
  | [d1, d2, d3] => { results := [.lit (.bool false)], args := [d1, d2, d3] }
  | _ => none }
def MeterAsksWrongFalsely : Prop := meterAsksRow.holds Tryz.pinned (OpenSpec.ofChange meterAsksWrong)

/-- 'firebelllaw20.MeterPlays': WHATEVER THE INPUT: true; the input reads as it did. -/
def meterPlaysSpec : ChangeSpec := { name := "meterPlays", fn := fun _ => fun
  | [d1, d2] => { results := [.lit (.bool true)], args := [d1, d2] }
  | _ => none }
def meterPlaysRow : OpenClaim := { program := "ytidcomakahbepaagreatdoor", sum := "5104ecbd2af2460594e7da1fbd6f43ddf8c1eb55369050c7ce15f062ae77c852", func := "firebell/firebelllaw20.MeterPlays", spec := "meterPlays", unfollowed := true, recurses := true, named := ["unicode/utf8.first", "unicode/utf8.acceptRanges"], apart := false, laid := [("unicode/utf8.acceptRanges", laid_unicode_utf8_acceptRanges), ("unicode/utf8.first", laid_unicode_utf8_first)] }
def MeterPlaysSaid : Prop := meterPlaysRow.holds Tryz.pinned (OpenSpec.ofChange meterPlaysSpec)

/-- ITS FALSE NEIGHBOUR: 'it returns false'. Refute it at one input. -/
def meterPlaysWrong : ChangeSpec := { name := "meterPlays", fn := fun _ => fun
  | [d1, d2] => { results := [.lit (.bool false)], args := [d1, d2] }
  | _ => none }
def MeterPlaysWrongFalsely : Prop := meterPlaysRow.holds Tryz.pinned (OpenSpec.ofChange meterPlaysWrong)

/-- 'firebelllaw20.MeterAdopts': WHATEVER THE INPUT: true; the input reads as it did. -/
def meterAdoptsSpec : ChangeSpec := { name := "meterAdopts", fn := fun _ => fun
  | [d1, d2, d3, d4] => { results := [.lit (.bool true)], args := [d1, d2, d3, d4] }
  | _ => none }
def meterAdoptsRow : OpenClaim := { program := "ytidcomakahbepaagreatdoor", sum := "5104ecbd2af2460594e7da1fbd6f43ddf8c1eb55369050c7ce15f062ae77c852", func := "firebell/firebelllaw20.MeterAdopts", spec := "meterAdopts", unfollowed := true, recurses := true, named := ["unicode/utf8.first", "unicode/utf8.acceptRanges"], apart := false, laid := [("unicode/utf8.acceptRanges", laid_unicode_utf8_acceptRanges), ("unicode/utf8.first", laid_unicode_utf8_first)] }
def MeterAdoptsSaid : Prop := meterAdoptsRow.holds Tryz.pinned (OpenSpec.ofChange meterAdoptsSpec)

/-- ITS FALSE NEIGHBOUR: 'it returns false'. Refute it at one input. -/
def meterAdoptsWrong : ChangeSpec := { name := "meterAdopts", fn := fun _ => fun
  | [d1, d2, d3, d4] => { results := [.lit (.bool false)], args := [d1, d2, d3, d4] }
  | _ => none }
def MeterAdoptsWrongFalsely : Prop := meterAdoptsRow.holds Tryz.pinned (OpenSpec.ofChange meterAdoptsWrong)

/-- 'firebelllaw20.MeterReads': WHATEVER THE INPUT: true; the input reads as it did. -/
def meterReadsSpec : ChangeSpec := { name := "meterReads", fn := fun _ => fun
  | [d1, d2, d3] => { results := [.lit (.bool true)], args := [d1, d2, d3] }
  | _ => none }
def meterReadsRow : OpenClaim := { program := "ytidcomakahbepaagreatdoor", sum := "5104ecbd2af2460594e7da1fbd6f43ddf8c1eb55369050c7ce15f062ae77c852", func := "firebell/firebelllaw20.MeterReads", spec := "meterReads", unfollowed := true, recurses := true, named := ["unicode/utf8.first", "unicode/utf8.acceptRanges"], apart := false, laid := [("unicode/utf8.acceptRanges", laid_unicode_utf8_acceptRanges), ("unicode/utf8.first", laid_unicode_utf8_first)] }
def MeterReadsSaid : Prop := meterReadsRow.holds Tryz.pinned (OpenSpec.ofChange meterReadsSpec)

/-- ITS FALSE NEIGHBOUR: 'it returns false'. Refute it at one input. -/
def meterReadsWrong : ChangeSpec := { name := "meterReads", fn := fun _ => fun
  | [d1, d2, d3] => { results := [.lit (.bool false)], args := [d1, d2, d3] }
  | _ => none }
def MeterReadsWrongFalsely : Prop := meterReadsRow.holds Tryz.pinned (OpenSpec.ofChange meterReadsWrong)

/-- 'firebelllaw21.BurnRules': WHATEVER THE INPUT: true; the input reads as it did. -/
def burnRulesSpec : ChangeSpec := { name := "burnRules", fn := fun _ => fun
  | [d1, d2, d3, d4] => { results := [.lit (.bool true)], args := [d1, d2, d3, d4] }
  | _ => none }
def burnRulesRow : OpenClaim := { program := "ytidcomakahbepaagreatdoor", sum := "5104ecbd2af2460594e7da1fbd6f43ddf8c1eb55369050c7ce15f062ae77c852", func := "firebell/firebelllaw21.BurnRules", spec := "burnRules", unfollowed := true, recurses := true, named := ["math/bits.divideError", "math/bits.overflowError", "unicode/utf8.first", "unicode/utf8.acceptRanges"], apart := false, laid := [("unicode/utf8.acceptRanges", laid_unicode_utf8_acceptRanges), ("unicode/utf8.first", laid_unicode_utf8_first)] }
def BurnRulesSaid : Prop := burnRulesRow.holds Tryz.pinned (OpenSpec.ofChange burnRulesSpec)

/-- ITS FALSE NEIGHBOUR: 'it returns false'. Refute it at one input. -/
def burnRulesWrong : ChangeSpec := { name := "burnRules", fn := fun _ => fun
  | [d1, d2, d3, d4] => { results := [.lit (.bool false)], args := [d1, d2, d3, d4] }
  | _ => none }
def BurnRulesWrongFalsely : Prop := burnRulesRow.holds Tryz.pinned (OpenSpec.ofChange burnRulesWrong)

/-- 'firebelllaw20.MeterBytes': WHATEVER THE INPUT: true; the input reads as it did. -/
def meterBytesSpec : ChangeSpec := { name := "meterBytes", fn := fun _ => fun
  | [d1, d2, d3] => { results := [.lit (.bool true)], args := [d1, d2, d3] }
  | _ => none }
def meterBytesRow : OpenClaim := { program := "ytidcomakahbepaagreatdoor", sum := "5104ecbd2af2460594e7da1fbd6f43ddf8c1eb55369050c7ce15f062ae77c852", func := "firebell/firebelllaw20.MeterBytes", spec := "meterBytes", unfollowed := true, recurses := true, named := ["unicode/utf8.first", "unicode/utf8.acceptRanges"], apart := false, laid := [("unicode/utf8.acceptRanges", laid_unicode_utf8_acceptRanges), ("unicode/utf8.first", laid_unicode_utf8_first)] }
def MeterBytesSaid : Prop := meterBytesRow.holds Tryz.pinned (OpenSpec.ofChange meterBytesSpec)

/-- ITS FALSE NEIGHBOUR: 'it returns false'. Refute it at one input. -/
def meterBytesWrong : ChangeSpec := { name := "meterBytes", fn := fun _ => fun
  | [d1, d2, d3] => { results := [.lit (.bool false)], args := [d1, d2, d3] }
  | _ => none }
def MeterBytesWrongFalsely : Prop := meterBytesRow.holds Tryz.pinned (OpenSpec.ofChange meterBytesWrong)

/-- 'firebelllaw20.MeterNil': WHATEVER THE INPUT: true; the input reads as it did. -/
def meterNilSpec : ChangeSpec := { name := "meterNil", fn := fun _ => fun
  | [d1, d2, d3] => { results := [.lit (.bool true)], args := [d1, d2, d3] }
  | _ => none }
def meterNilRow : OpenClaim := { program := "ytidcomakahbepaagreatdoor", sum := "5104ecbd2af2460594e7da1fbd6f43ddf8c1eb55369050c7ce15f062ae77c852", func := "firebell/firebelllaw20.MeterNil", spec := "meterNil", unfollowed := true, recurses := true, named := ["unicode/utf8.first", "unicode/utf8.acceptRanges"], apart := false, laid := [("unicode/utf8.acceptRanges", laid_unicode_utf8_acceptRanges), ("unicode/utf8.first", laid_unicode_utf8_first)] }
def MeterNilSaid : Prop := meterNilRow.holds Tryz.pinned (OpenSpec.ofChange meterNilSpec)

/-- ITS FALSE NEIGHBOUR: 'it returns false'. Refute it at one input. -/
def meterNilWrong : ChangeSpec := { name := "meterNil", fn := fun _ => fun
  | [d1, d2, d3] => { results := [.lit (.bool false)], args := [d1, d2, d3] }
  | _ => none }
def MeterNilWrongFalsely : Prop := meterNilRow.holds Tryz.pinned (OpenSpec.ofChange meterNilWrong)

/-- 'firebelllaw23.LedgerMeters': WHATEVER THE INPUT: true; the input reads as it did. -/
def ledgerMetersSpec : ChangeSpec := { name := "ledgerMeters", fn := fun _ => fun
  | [d1, d2, d3] => { results := [.lit (.bool true)], args := [d1, d2, d3] }
  | _ => none }
def ledgerMetersRow : OpenClaim := { program := "ytidcomakahbepaagreatdoor", sum := "5104ecbd2af2460594e7da1fbd6f43ddf8c1eb55369050c7ce15f062ae77c852", func := "firebell/firebelllaw23.LedgerMeters", spec := "ledgerMeters", inPlace := ["math/bits.Sub64", "math/bits.Add64"], unfollowed := true, recurses := true, named := ["math/bits.divideError", "math/bits.overflowError", "unicode/utf8.first", "unicode/utf8.acceptRanges"], apart := false, laid := [("unicode/utf8.acceptRanges", laid_unicode_utf8_acceptRanges), ("unicode/utf8.first", laid_unicode_utf8_first)] }
def LedgerMetersSaid : Prop := ledgerMetersRow.holds Tryz.pinned (OpenSpec.ofChange ledgerMetersSpec)

/-- ITS FALSE NEIGHBOUR: 'it returns false'. Refute it at one input. -/
def ledgerMetersWrong : ChangeSpec := { name := "ledgerMeters", fn := fun _ => fun
  | [d1, d2, d3] => { results := [.lit (.bool false)], args := [d1, d2, d3] }
  | _ => none }
def LedgerMetersWrongFalsely : Prop := ledgerMetersRow.holds Tryz.pinned (OpenSpec.ofChange ledgerMetersWrong)

/-- 'firebelllaw24.OutlookMeters': WHATEVER THE INPUT: true; the input reads as it did. -/
def outlookMetersSpec : ChangeSpec := { name := "outlookMeters", fn := fun _ => fun
  | [d1, d2, d3] => { results := [.lit (.bool true)], args := [d1, d2, d3] }
  | _ => none }
def outlookMetersRow : OpenClaim := { program := "ytidcomakahbepaagreatdoor", sum := "5104ecbd2af2460594e7da1fbd6f43ddf8c1eb55369050c7ce15f062ae77c852", func := "firebell/firebelllaw24.OutlookMeters", spec := "outlookMeters", inPlace := ["math/bits.Add64", "math/bits.Sub64"], unfollowed := true, recurses := true, named := ["math/bits.divideError", "math/bits.overflowError", "unicode/utf8.first", "unicode/utf8.acceptRanges"], apart := false, laid := [("unicode/utf8.acceptRanges", laid_unicode_utf8_acceptRanges), ("unicode/utf8.first", laid_unicode_utf8_first)] }
def OutlookMetersSaid : Prop := outlookMetersRow.holds Tryz.pinned (OpenSpec.ofChange outlookMetersSpec)

/-- ITS FALSE NEIGHBOUR: 'it returns false'. Refute it at one input. -/
def outlookMetersWrong : ChangeSpec := { name := "outlookMeters", fn := fun _ => fun
  | [d1, d2, d3] => { results := [.lit (.bool false)], args := [d1, d2, d3] }
  | _ => none }
def OutlookMetersWrongFalsely : Prop := outlookMetersRow.holds Tryz.pinned (OpenSpec.ofChange outlookMetersWrong)

/- THE SECOND FORM. 'bulk': how many values and letters a reading holds, each counted each time it is reached (what is shared counts as often as it is met; a slice's spare places count too). A statement '..UptoSaid' is the law's where the arguments, and the package variables that the reading takes, are together of bulk at most 1048576: NARROWER than '..Said'. Prove '..Said' where nothing that the law and all that it calls make is longer than what came in: it says more and counts as full. Else prove '..UptoSaid'. A law counts once. -/
mutual
def uptoBulk {H : Type} : DataW H → Nat
  | .lit (.string bytes) => bytes.length + 1
  | .lit _ => 1
  | .nil => 1
  | .ptr d => uptoBulk d + 1
  | .slice elems spare => uptoBulkAll elems + uptoBulkAll spare + 1
  | .agg parts => uptoBulkAll parts + 1
  | .iface _ d => uptoBulk d + 1
  | .map entries => uptoBulkEntries entries + 1
  | .held _ => 1
def uptoBulkAll {H : Type} : List (DataW H) → Nat
  | [] => 0
  | d :: r => uptoBulk d + uptoBulkAll r
def uptoBulkEntries {H : Type} : List (Lit × DataW H) → Nat
  | [] => 0
  | x :: r => uptoBulkEntry x + uptoBulkEntries r
def uptoBulkEntry {H : Type} : Lit × DataW H → Nat
  | (.string bytes, d) => bytes.length + uptoBulk d + 1
  | (_, d) => uptoBulk d + 1
 end
def uptoSmall : (H : Type) → List (DataW H) → Bool := fun _ ds => decide (uptoBulkAll ds ≤ 1048576)
def OpenSpec.upto (s : _root_.Go.ChangeSpec) : _root_.Go.OpenSpec := { _root_.Go.OpenSpec.ofChange s with cond := some uptoSmall }

/-- 'firebelllaw20.MeterAsks', WHERE WHAT IT READS IS OF BULK AT MOST 1048576: true; the input reads as it did. -/
def meterAsksUptoRow : OpenClaim := { program := "ytidcomakahbepaagreatdoor", sum := "5104ecbd2af2460594e7da1fbd6f43ddf8c1eb55369050c7ce15f062ae77c852", func := "firebell/firebelllaw20.MeterAsks", spec := "meterAsks", unfollowed := true, recurses := true, named := ["unicode/utf8.first", "unicode/utf8.acceptRanges"], apart := false, laid := [("unicode/utf8.acceptRanges", laid_unicode_utf8_acceptRanges), ("unicode/utf8.first", laid_unicode_utf8_first)], narrowed := true }
def MeterAsksUptoSaid : Prop := meterAsksUptoRow.holds Tryz.pinned (OpenSpec.upto meterAsksSpec)

/-- 'firebelllaw20.MeterPlays', WHERE WHAT IT READS IS OF BULK AT MOST 1048576: true; the input reads as it did. -/
def meterPlaysUptoRow : OpenClaim := { program := "ytidcomakahbepaagreatdoor", sum := "5104ecbd2af2460594e7da1fbd6f43ddf8c1eb55369050c7ce15f062ae77c852", func := "firebell/firebelllaw20.MeterPlays", spec := "meterPlays", unfollowed := true, recurses := true, named := ["unicode/utf8.first", "unicode/utf8.acceptRanges"], apart := false, laid := [("unicode/utf8.acceptRanges", laid_unicode_utf8_acceptRanges), ("unicode/utf8.first", laid_unicode_utf8_first)], narrowed := true }
def MeterPlaysUptoSaid : Prop := meterPlaysUptoRow.holds Tryz.pinned (OpenSpec.upto meterPlaysSpec)

/-- 'firebelllaw20.MeterAdopts', WHERE WHAT IT READS IS OF BULK AT MOST 1048576: true; the input reads as it did. -/
def meterAdoptsUptoRow : OpenClaim := { program := "ytidcomakahbepaagreatdoor", sum := "5104ecbd2af2460594e7da1fbd6f43ddf8c1eb55369050c7ce15f062ae77c852", func := "firebell/firebelllaw20.MeterAdopts", spec := "meterAdopts", unfollowed := true, recurses := true, named := ["unicode/utf8.first", "unicode/utf8.acceptRanges"], apart := false, laid := [("unicode/utf8.acceptRanges", laid_unicode_utf8_acceptRanges), ("unicode/utf8.first", laid_unicode_utf8_first)], narrowed := true }
def MeterAdoptsUptoSaid : Prop := meterAdoptsUptoRow.holds Tryz.pinned (OpenSpec.upto meterAdoptsSpec)

/-- 'firebelllaw20.MeterReads', WHERE WHAT IT READS IS OF BULK AT MOST 1048576: true; the input reads as it did. -/
def meterReadsUptoRow : OpenClaim := { program := "ytidcomakahbepaagreatdoor", sum := "5104ecbd2af2460594e7da1fbd6f43ddf8c1eb55369050c7ce15f062ae77c852", func := "firebell/firebelllaw20.MeterReads", spec := "meterReads", unfollowed := true, recurses := true, named := ["unicode/utf8.first", "unicode/utf8.acceptRanges"], apart := false, laid := [("unicode/utf8.acceptRanges", laid_unicode_utf8_acceptRanges), ("unicode/utf8.first", laid_unicode_utf8_first)], narrowed := true }
def MeterReadsUptoSaid : Prop := meterReadsUptoRow.holds Tryz.pinned (OpenSpec.upto meterReadsSpec)

/-- 'firebelllaw21.BurnRules', WHERE WHAT IT READS IS OF BULK AT MOST 1048576: true; the input reads as it did. -/
def burnRulesUptoRow : OpenClaim := { program := "ytidcomakahbepaagreatdoor", sum := "5104ecbd2af2460594e7da1fbd6f43ddf8c1eb55369050c7ce15f062ae77c852", func := "firebell/firebelllaw21.BurnRules", spec := "burnRules", unfollowed := true, recurses := true, named := ["math/bits.divideError", "math/bits.overflowError", "unicode/utf8.first", "unicode/utf8.acceptRanges"], apart := false, laid := [("unicode/utf8.acceptRanges", laid_unicode_utf8_acceptRanges), ("unicode/utf8.first", laid_unicode_utf8_first)], narrowed := true }
def BurnRulesUptoSaid : Prop := burnRulesUptoRow.holds Tryz.pinned (OpenSpec.upto burnRulesSpec)

/-- 'firebelllaw20.MeterBytes', WHERE WHAT IT READS IS OF BULK AT MOST 1048576: true; the input reads as it did. -/
def meterBytesUptoRow : OpenClaim := { program := "ytidcomakahbepaagreatdoor", sum := "5104ecbd2af2460594e7da1fbd6f43ddf8c1eb55369050c7ce15f062ae77c852", func := "firebell/firebelllaw20.MeterBytes", spec := "meterBytes", unfollowed := true, recurses := true, named := ["unicode/utf8.first", "unicode/utf8.acceptRanges"], apart := false, laid := [("unicode/utf8.acceptRanges", laid_unicode_utf8_acceptRanges), ("unicode/utf8.first", laid_unicode_utf8_first)], narrowed := true }
def MeterBytesUptoSaid : Prop := meterBytesUptoRow.holds Tryz.pinned (OpenSpec.upto meterBytesSpec)

/-- 'firebelllaw20.MeterNil', WHERE WHAT IT READS IS OF BULK AT MOST 1048576: true; the input reads as it did. -/
def meterNilUptoRow : OpenClaim := { program := "ytidcomakahbepaagreatdoor", sum := "5104ecbd2af2460594e7da1fbd6f43ddf8c1eb55369050c7ce15f062ae77c852", func := "firebell/firebelllaw20.MeterNil", spec := "meterNil", unfollowed := true, recurses := true, named := ["unicode/utf8.first", "unicode/utf8.acceptRanges"], apart := false, laid := [("unicode/utf8.acceptRanges", laid_unicode_utf8_acceptRanges), ("unicode/utf8.first", laid_unicode_utf8_first)], narrowed := true }
def MeterNilUptoSaid : Prop := meterNilUptoRow.holds Tryz.pinned (OpenSpec.upto meterNilSpec)

/-- 'firebelllaw23.LedgerMeters', WHERE WHAT IT READS IS OF BULK AT MOST 1048576: true; the input reads as it did. -/
def ledgerMetersUptoRow : OpenClaim := { program := "ytidcomakahbepaagreatdoor", sum := "5104ecbd2af2460594e7da1fbd6f43ddf8c1eb55369050c7ce15f062ae77c852", func := "firebell/firebelllaw23.LedgerMeters", spec := "ledgerMeters", inPlace := ["math/bits.Sub64", "math/bits.Add64"], unfollowed := true, recurses := true, named := ["math/bits.divideError", "math/bits.overflowError", "unicode/utf8.first", "unicode/utf8.acceptRanges"], apart := false, laid := [("unicode/utf8.acceptRanges", laid_unicode_utf8_acceptRanges), ("unicode/utf8.first", laid_unicode_utf8_first)], narrowed := true }
def LedgerMetersUptoSaid : Prop := ledgerMetersUptoRow.holds Tryz.pinned (OpenSpec.upto ledgerMetersSpec)

/-- 'firebelllaw24.OutlookMeters', WHERE WHAT IT READS IS OF BULK AT MOST 1048576: true; the input reads as it did. -/
def outlookMetersUptoRow : OpenClaim := { program := "ytidcomakahbepaagreatdoor", sum := "5104ecbd2af2460594e7da1fbd6f43ddf8c1eb55369050c7ce15f062ae77c852", func := "firebell/firebelllaw24.OutlookMeters", spec := "outlookMeters", inPlace := ["math/bits.Add64", "math/bits.Sub64"], unfollowed := true, recurses := true, named := ["math/bits.divideError", "math/bits.overflowError", "unicode/utf8.first", "unicode/utf8.acceptRanges"], apart := false, laid := [("unicode/utf8.acceptRanges", laid_unicode_utf8_acceptRanges), ("unicode/utf8.first", laid_unicode_utf8_first)], narrowed := true }
def OutlookMetersUptoSaid : Prop := outlookMetersUptoRow.holds Tryz.pinned (OpenSpec.upto outlookMetersSpec)

end Rows
end Go.Proofs.YtidcomakahbepaaGreatDoor
