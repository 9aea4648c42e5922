/- P4: a part of the proof: the rules, or what functions compute. Conditions: as each theorem says. -/
import Derived.Test.YtidcomakahbepaaGreatDoorP3
import Derived.Test.YtidcomakahbepaaGreatDoorAiExt
import Derived.Laws.Externs
set_option linter.unusedSimpArgs false
set_option linter.unusedVariables false
set_option maxRecDepth 20000
namespace Go.Ai
open Go.Proofs Go.RowKit
open Go.Proofs
abbrev u32 (n:Nat):AV:= .int .u32 n
open Go.Proofs
end Go.Ai
namespace Go.Ai
open Go.Proofs
open Go.Proofs
end Go.Ai
namespace Go.Ai
open Go.Proofs
def byteAv (b:UInt8):AV:= .int .u8 b.toNat
theorem bytes_of (s:List UInt8):byteCells (s.map byteAv)=some s:=by
 induction s with
 |nil=>rfl
 |cons x r ih=>simp [byteCells,byteAv,ih]
end Go.Ai
