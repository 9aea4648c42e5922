/- P5: a part of the proof: the rules, or what functions compute. Conditions: as each theorem says. -/
import Derived.Test.YthonkjadcpdphaaGreatDoorP4
import Derived.Test.YthonkjadcpdphaaGreatDoorP1
set_option linter.unusedSimpArgs false
set_option linter.unusedVariables false
set_option maxRecDepth 20000
namespace Go.Ai
open Go.Proofs
theorem al_at (l:List Al) (i:Nat) (h:i<l.length) (h2:i<(l.map Al.row).length):(l.map Al.row)[i]=[i6 l[i].ph,i6 l[i].si,i6 l[i].cl,u l[i].e]:=by simp [Al.row]
theorem GV_row (x:GV):x.row=[.str x.g.n,.int .u32 x.g.t,i6 x.g.g,i6 x.g.a,i6 x.g.o,i6 x.g.c,.sl (x.g.lb.map Lb.row),.sl (x.g.ru.map Ru.row),.bool x.st,.sl (x.ws.map WV.row),i6 x.fr,i6 x.tl,u x.cg,u x.cn,.sl (x.al.map Al.row)]:=rfl
open Go.Proofs
end Go.Ai
namespace Go.Ai
open Go.Proofs
open Go.Proofs
def z12:List AV:=[.str [],.bool false,.bool false,u 0,u 0,.bool false,u 0,u 0,i6 0,u 0,u 0,.nils]
open Go.Proofs
end Go.Ai
namespace Go.Ai
open Go.Proofs
structure Ky where
 g:List UInt8
 r:List UInt8
 p:Bool
 e:Nat
 f:Bool
 deriving DecidableEq
structure Ms where
 g:List UInt8
 p:Bool
 ks:List Ky
 deriving DecidableEq
def Ky.row (k:Ky):List AV:=[.str k.g,.str k.r,.bool k.p,u k.e,.bool k.f]
def Ms.row (m:Ms):List AV:=[.str m.g,.bool m.p,.sl (m.ks.map Ky.row)]
def goes (m:Ms) (k:Ky):Bool:=m.g==k.g&&m.p==k.p&&decide (m.ks.length<8)
end Go.Ai
