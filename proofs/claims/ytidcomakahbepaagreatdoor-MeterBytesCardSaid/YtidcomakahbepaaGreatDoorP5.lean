/- P5: a part of the proof: the rules, or what functions compute. Conditions: as each theorem says. -/
import Derived.Test.YtidcomakahbepaaGreatDoorP4
import Derived.Test.YtidcomakahbepaaGreatDoorAiExt
import Derived.Test.YtidcomakahbepaaGreatDoorP2
import Derived.Laws.Externs
set_option linter.unusedSimpArgs false
set_option linter.unusedVariables false
set_option maxRecDepth 20000
namespace Go.Ai
open Go.Proofs
def qc (j:Nat) (B:List Bool):List AV:=(List.replicate j false++B).map AV.bool
end Go.Ai
set_option linter.unusedSectionVars false
namespace Go.Ai
open Go.Proofs
section
variable {Q:AE→St→Prop} {Y s y1 y0 un v v0:Nat}
end

end Go.Ai
set_option linter.unusedSectionVars false
namespace Go.Ai
open Go.Proofs
section
variable {rq rr:Nat}
end
end Go.Ai
namespace Go.Ai
open Go.Proofs Go.RowKit
open Go.Proofs
abbrev u32 (n:Nat):AV:= .int .u32 n
open Go.Proofs
end Go.Ai
