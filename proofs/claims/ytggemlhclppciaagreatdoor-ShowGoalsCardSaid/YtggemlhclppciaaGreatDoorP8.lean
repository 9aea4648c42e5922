/- P8: a part of the proof: the rules, or what functions compute. Conditions: as each theorem says. -/
import Derived.Test.YtggemlhclppciaaGreatDoorCode
import Derived.Test.YtggemlhclppciaaGreatDoorLib11
import Derived.Shelf.Strings.Fields
import Derived.Shelf.Strings.Search2
import Derived.Test.YtggemlhclppciaaGreatDoorLib7
import Derived.Lib.SplitLaws
import Derived.Lib.IndexBytes
import Derived.Test.YtggemlhclppciaaGreatDoorP7
import Derived.Test.YtggemlhclppciaaGreatDoorP1
import Derived.Test.YtggemlhclppciaaGreatDoorP4
import Derived.Test.YtggemlhclppciaaGreatDoorP2
import Derived.Lib.Bytealg
import Derived.Test.YtggemlhclppciaaGreatDoorP6
set_option linter.unusedSimpArgs false
set_option linter.unusedVariables false
set_option maxRecDepth 20000
namespace Go.Ai
open Go.Proofs Go.Shelf
end Go.Ai
namespace Go.Ai
open Go.Proofs
end Go.Ai
namespace Go.Ai
open Go.Proofs Go.Shelf
def notB (c:UInt8) (b:UInt8):Bool:=b !=c
open Go.Proofs
end Go.Ai
namespace Go.Ai
open Go.Proofs
open Go.Proofs
def unIx (r:Int):Nat:=if r=119 then 0 else if r=100 then 1 else if r=104 then 2 else if r=109 then 3 else if r=115 then 4 else 5
def laOf (j:Nat):Nat:=if j=0 then 1000000 else if j=1 then 604800 else if j=2 then 86400 else if j=3 then 3600 else if j=4 then 60 else 1
theorem unIx_of (r:Int):(unIx r=5∧unitZ r=0)∨(unIx r<5∧unitZ r=laOf (unIx r+1)):=by
 unfold unIx unitZ
 repeat' split
 all_goals first|exact .inr ⟨by decide,by decide⟩|exact .inl ⟨rfl,rfl⟩
open Go.Proofs
end Go.Ai
namespace Go.Ai
open Go.Proofs
def wdL:List UInt8:=[119,100,104,109,115]
def spB (sum p:Nat) (dg:Bool) (left:List UInt8) (far:Bool):List AV:=[i6 sum,i6 p,.bool dg,.str left,.bool far]
structure Sx where
 sum:Nat
 p:Nat
 dg:Bool
 j:Nat
 far:Bool
def Sx.box (x:Sx):List AV:=spB x.sum x.p x.dg (wdL.drop x.j) x.far
def Sx.take (x:Sx) (r:Int):Sx×Bool:=
 if digR r=true then ({x with p:=min (x.p*10+(r - 48).toNat) 253402300800,dg:=true,far:=x.far||decide (253402300799<x.p*10+(r - 48).toNat)},true)
 else if unIx r<x.j∨unIx r=5∨x.dg=false then (x,false)
 else (⟨min (x.sum+min (x.p*unitZ r) 253402300800) 253402300800,0,false,unIx r+1,(x.far||decide (253402300799<x.p*unitZ r))||decide (253402300799<x.sum+min (x.p*unitZ r) 253402300800)⟩,true)
structure SxOk (x:Sx):Prop where
 s:x.sum≤253402300800
 p:x.p≤253402300800
 j:x.j≤5
theorem SxOk.step {x:Sx} (h:SxOk x) (r:Int):SxOk (x.take r).1:=by
 have h1:=h.s
 have h2:=h.p
 have h3:=h.j
 have u5:unIx r≤5:=by
  have:=unIx_of r
  omega
 unfold Sx.take
 split
 ·exact ⟨h1,Nat.min_le_right _ _,h3⟩
 ·split
  ·exact h
  ·rename_i c
   exact ⟨Nat.min_le_right _ _,Nat.zero_le _,by simp only;omega⟩
open Go.Proofs
end Go.Ai
namespace Go.Ai
open Go.Proofs
def pprV (b:List UInt8) (d:Nat):Nat:=frU b d*10000+frU (b.drop (d+1)) 4
def pprB (s b:List UInt8) (d:Nat):Nat×Int:=
 if (b.take d).all isDig=false∨(b.drop (d+1)).all isDig=false then (0,5)
 else if (d<b.length∧(b.length - 1 - d<1∨4<b.length - 1 - d∨byt s (b.length - 1)=48))∨d=0∨(byt s 0=48∧1<d) then (0,5)
 else if 3<d then (0,8)
 else if 1000000<pprV b d then (0,8) else (pprV b d,0)
def pprF (s:List UInt8):Nat×Int:=
 if s.length<2∨byt s (s.length - 1)≠37 then (0,5)
 else pprB s (s.take (s.length - 1)) ((s.take (s.length - 1)).takeWhile (notB 46)).length
open Go.Proofs
end Go.Ai
