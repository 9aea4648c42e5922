/- P7: a part of the proof: the rules, or what functions compute. Conditions: as each theorem says. -/
import Derived.Test.YtggemlhclppciaaGreatDoorP6
import Derived.Test.YtggemlhclppciaaGreatDoorP5
import Derived.Test.YtggemlhclppciaaGreatDoorP4
import Derived.Test.YtggemlhclppciaaGreatDoorP3
import Derived.Test.YtggemlhclppciaaGreatDoorCode
import Derived.Test.YtggemlhclppciaaGreatDoorLib11
import Derived.Shelf.Strings.BuilderK
import Derived.Shelf.Strings.SlTrimAscii
import Derived.Test.YtggemlhclppciaaGreatDoorP1
set_option linter.unusedSimpArgs false
set_option linter.unusedVariables false
set_option maxRecDepth 20000
namespace Go.Ai
open Go.Proofs
variable {V:List UInt8→TV} {U:List UInt8→List UInt8×Int} {VR:List Int→TV} {U':List Int→List UInt8×Int} {s:List UInt8} {l:List Int}
open Go.Proofs
variable {V:List UInt8→TV} {U:List UInt8→List UInt8×Int} {VR:List Int→TV} {U':List Int→List UInt8×Int} {s:List UInt8} {l:List Int}
open Go.Proofs
def numF (s:List UInt8):Nat×Int:=if okDec s=true then (if undec s<18446744073709551616 then (undec s,0) else (0,8)) else (0,5)
def toldV (k:Int) (q:Nat×Int):TV:=if q.2=0 then .t k [] q.1 else .e q.2
def dgsF (s:List UInt8):Bool:=s.all isDig&&decide (0<s.length)
open Go.Proofs
def unitZ (r:Int):Nat:=if r=119 then 604800 else if r=100 then 86400 else if r=104 then 3600 else if r=109 then 60 else if r=115 then 1 else 0
theorem sunit_spec (r:Int):Sp Tryz.prog gl 131 [i3 r] (i6 (unitZ r)):=by
 refine s131 rfl rfl ?_
 unfold unitZ
 have ne: ∀z:Int,¬r=z→(r==z)=false:=fun z h=>beq_eq_false_iff_ne.2 h
 by_cases c1:r=119
 ·subst c1
  simp -implicitDefEqProofs [c131]
 rw [if_neg c1]
 by_cases c2:r=100
 ·subst c2
  simp -implicitDefEqProofs [c131]
 rw [if_neg c2]
 by_cases c3:r=104
 ·subst c3
  simp -implicitDefEqProofs [c131]
 rw [if_neg c3]
 by_cases c4:r=109
 ·subst c4
  simp -implicitDefEqProofs [c131]
 rw [if_neg c4]
 by_cases c5:r=115
 ·subst c5
  simp -implicitDefEqProofs [c131]
 rw [if_neg c5]
 simp -implicitDefEqProofs [c131,c1,c2,c3,c4,c5,ne _ c1,ne _ c2,ne _ c3,ne _ c4,ne _ c5]
def spR:List UInt8→Bool→Nat→Nat→Nat→Bool→Nat×Int
 |[],dg,n,la,sm,fr=>if dg=true then (0,5) else if fr=true then (0,8) else (sm,0)
 |c::l,dg,n,la,sm,fr=>
  if isDig c=true then spR l true (if n≤253402300799 then 10*n+(c.toNat - 48) else n) la sm fr
  else if dg=false∨unitZ c.toNat=0∨la≤unitZ c.toNat then (0,5)
  else if 253402300799 / unitZ c.toNat<n then spR l false 0 (unitZ c.toNat) sm true
  else if 253402300799<sm+n*unitZ c.toNat then spR l false 0 (unitZ c.toNat) 0 true
  else spR l false 0 (unitZ c.toNat) (sm+n*unitZ c.toNat) fr
def spanR (s:List UInt8):Nat×Int:=if s=[] then (0,5) else spR s false 0 1000000 0 false
open Go.Proofs
end Go.Ai
namespace Go.Ai
open Go.Proofs
open Go.Proofs
end Go.Ai
namespace Go.Ai
open Go.Proofs
def dgt (l:List UInt8) (i:Nat):Nat:=match l[i]? with |some b=>b.toNat - 48|none=>0
def frU (l:List UInt8):Nat→Nat
 |0=>0
 |i+1=>10*frU l i+dgt l i
def facF (hd tail:List UInt8):Nat×Int:=
 if dgsF tail=false∨3<tail.length then (0,5)
 else if (numF hd).2≠0 then (0,(numF hd).2)
 else if (18446744073709551615 - frU tail 3) / 1000<(numF hd).1 then (0,8)
 else (1000*(numF hd).1+frU tail 3,0)
open Go.Proofs
end Go.Ai
namespace Go.Ai
open Go.Proofs
theorem isDig_iff (b:UInt8):isDig b=true↔48≤b.toNat∧b.toNat≤57:=by
 unfold isDig
 rw [decide_eq_true_iff]
end Go.Ai
namespace Go.Ai
open Go.Proofs Go.Shelf
end Go.Ai
namespace Go.Ai
open Go.Proofs Go.Shelf
end Go.Ai
