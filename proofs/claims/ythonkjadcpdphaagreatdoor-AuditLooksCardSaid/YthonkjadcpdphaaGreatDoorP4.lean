/- P4: a part of the proof: the rules, or what functions compute. Conditions: as each theorem says. -/
import Derived.Test.YthonkjadcpdphaaGreatDoorP3
import Derived.Test.YthonkjadcpdphaaGreatDoorP2
set_option linter.unusedSimpArgs false
set_option linter.unusedVariables false
set_option maxRecDepth 20000
namespace Go.Ai
open Go.Proofs
open Go.Proofs
end Go.Ai
namespace Go.Ai
open Go.Proofs
open Go.Proofs
end Go.Ai
namespace Go.Ai
open Go.Proofs
open Go.Proofs
structure WV where
 w:Int
 g:Nat
 n:Nat
structure Al where
 ph:Int
 si:Int
 cl:Int
 e:Nat
structure GV where
 g:Gl
 st:Bool
 ws:List WV
 fr:Int
 tl:Int
 cg:Nat
 cn:Nat
 al:List Al
structure RRp where
 n:List UInt8
 p:Bool
 ph:Int
 l:Nat
 s:Nat
structure GRp where
 n:List UInt8
 st:Bool
 ro:Int
 ca:Int
 ok:Nat
 ot:Nat
 rs:List RRp
def WV.row (x:WV):List AV:=[i6 x.w,u x.g,u x.n]
def Al.row (x:Al):List AV:=[i6 x.ph,i6 x.si,i6 x.cl,u x.e]
def GV.row (x:GV):List AV:=[.str x.g.n,.int .u32 x.g.t,i6 x.g.g,i6 x.g.a,i6 x.g.o,i6 x.g.c,.sl (x.g.lb.map Lb.row),.sl (x.g.ru.map Ru.row),.bool x.st,.sl (x.ws.map WV.row),i6 x.fr,i6 x.tl,u x.cg,u x.cn,.sl (x.al.map Al.row)]
def RRp.row (x:RRp):List AV:=[.str x.n,.bool x.p,i6 x.ph,u x.l,u x.s]
def GRp.row (x:GRp):List AV:=[.str x.n,.bool x.st,.bool (decide (x.ro<0)),u (x.ro.natAbs / 18446744073709551616),u (x.ro.natAbs%18446744073709551616),.bool (decide (x.ca<0)),u (x.ca.natAbs / 18446744073709551616),u (x.ca.natAbs%18446744073709551616),
 i6 x.ok,u (x.ot / 18446744073709551616),u (x.ot%18446744073709551616),.sl (x.rs.map RRp.row)]
def wvok (ws:List WV):Prop:= ∀x∈ws,x.g<18446744073709551616∧x.n<18446744073709551616
theorem wv_at (ws:List WV) (i:Nat) (h:i<ws.length) (h2:i<(ws.map WV.row).length):(ws.map WV.row)[i]=[i6 ws[i].w,u ws[i].g,u ws[i].n]:=by simp [WV.row]
def ruok (l:List Ru):Prop:= ∀x∈l,-9223372036854775808≤x.s∧x.s≤9223372036854775807
end Go.Ai
