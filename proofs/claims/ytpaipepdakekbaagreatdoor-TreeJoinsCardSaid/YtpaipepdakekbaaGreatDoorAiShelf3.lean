/- AiShelf3: a part of the proof: the rules, or what functions compute. Conditions: as each theorem says. -/
import Derived.Test.YtpaipepdakekbaaGreatDoorAiShelf2
import Derived.Sort.Row
import Derived.Sort.Grow
set_option linter.unusedSimpArgs false
set_option linter.unusedVariables false
namespace Go.Ai
open Go.RowKit
def intCells (k:IntKind) (zs:List Int):List AV:=zs.map fun z=> .int k z
end Go.Ai
