/- P17: a part of the proof: the rules, or what functions compute. Conditions: as each theorem says. -/
import Derived.Test.YthonkjadcpdphaaGreatDoorP16
import Derived.Test.YthonkjadcpdphaaGreatDoorP5
import Derived.Test.YthonkjadcpdphaaGreatDoorP1
import Derived.Lib.Join
import Derived.Lib.ItoaNum
set_option linter.unusedSimpArgs false
set_option linter.unusedVariables false
set_option maxRecDepth 20000
namespace Go.Ai
open Go.Proofs
open Go.Proofs
end Go.Ai
namespace Go.Ai
open Go.Proofs
open Go.Proofs
end Go.Ai
namespace Go.Ai
open Go.Proofs
theorem krow (k:Ky):k.row=[.str k.g,.str k.r,.bool k.p,u k.e,.bool k.f]:=rfl
theorem xheavy_spec (k:Ky):Sp Tryz.prog gl 81 [.agg k.row] (.bool (decide (500<k.g.length∨500<k.r.length))):=by
 refine s81 rfl rfl ?_
 obtain ⟨kg,kr,kp,ke,kf⟩:=k
 unfold Ky.row
 simp only
 by_cases h:500<kg.length
 ·have h':(500:Int)<kg.length:=by omega
  simp -implicitDefEqProofs [c81,h,h']
 ·have h': ¬(500:Int)<kg.length:=by omega
  simp -implicitDefEqProofs [c81,h,h']
  omega
def heavyK (k:Ky):Bool:=decide (500<k.g.length∨500<k.r.length)
theorem int_beq_nat (a b:Nat):((a:Int)==(b:Int))=(a==b):=by
 rw [Bool.eq_iff_iff];simp;omega
theorem ky_beq (a b:Ky):(a.g==b.g&&(a.r==b.r&&(a.p==b.p&&(((a.e:Int)==(b.e:Int))&&a.f==b.f))))=decide (a=b):=by
 obtain ⟨g,r,p,e,f⟩:=a
 obtain ⟨g',r',p',e',f'⟩:=b
 rw [Bool.eq_iff_iff,int_beq_nat]
 simp
def rightK (k:Ky):Bool:=nameT k.g&&nameT k.r&&decide (1≤k.e∧k.e≤4611686018427387904)
theorem kright_spec (k:Ky) (hg:k.g.length≤900000) (hr:k.r.length≤900000):Sp Tryz.prog gl 154 [.agg k.row] (.bool (rightK k)):=by
 refine s154 rfl rfl ?_
 obtain ⟨g,r,p,e,f⟩:=k
 have N1:=tname_spec g hg
 have N2:=tname_spec r hr
 unfold rightK Ky.row
 simp only at *
 generalize nameT g=n1 at *
 generalize nameT r=n2 at *
 cases n1
 ·simp [c154]
  refine onC_mk _ N1 ?_
  simp -implicitDefEqProofs
 ·cases n2
  ·simp [c154]
   refine onC_mk _ N1 ?_
   simp -implicitDefEqProofs
   refine onC_mk _ N2 ?_
   simp -implicitDefEqProofs
  ·simp [c154]
   refine onC_mk _ N1 ?_
   simp -implicitDefEqProofs
   refine onC_mk _ N2 ?_
   by_cases h1:1≤e
   ·have h1':(1:Int)≤e:=by omega
    by_cases h2:e≤4611686018427387904
    ·have h2':(e:Int)≤4611686018427387904:=by omega
     simp -implicitDefEqProofs [h1,h1',h2,h2']
    ·have h2': ¬(e:Int)≤4611686018427387904:=by omega
     simp -implicitDefEqProofs [h1,h1',h2,h2']
   ·have h1': ¬(1:Int)≤e:=by omega
    simp -implicitDefEqProofs [h1,h1']
theorem rkright_spec (k:Ky) (hg:k.g.length≤900000) (hr:k.r.length≤900000):Sp Tryz.prog gl 102 [.agg k.row] (.bool (rightK k)):=by
 refine s102 rfl rfl ?_
 obtain ⟨g,r,p,e,f⟩:=k
 have N1:=rname_spec g hg
 have N2:=rname_spec r hr
 unfold rightK Ky.row
 simp only at *
 generalize nameT g=n1 at *
 generalize nameT r=n2 at *
 cases n1
 ·simp [c102]
  refine onC_mk _ N1 ?_
  simp -implicitDefEqProofs
 ·cases n2
  ·simp [c102]
   refine onC_mk _ N1 ?_
   simp -implicitDefEqProofs
   refine onC_mk _ N2 ?_
   simp -implicitDefEqProofs
  ·simp [c102]
   refine onC_mk _ N1 ?_
   simp -implicitDefEqProofs
   refine onC_mk _ N2 ?_
   by_cases h1:0<e
   ·have h1':(0:Int)<e:=by omega
    have h1n:1≤e:=h1
    by_cases h2:e≤4611686018427387904
    ·have h2':(e:Int)≤4611686018427387904:=by omega
     simp -implicitDefEqProofs [h1,h1',h2,h2',h1n]
    ·have h2': ¬(e:Int)≤4611686018427387904:=by omega
     simp -implicitDefEqProofs [h1,h1',h2,h2',h1n]
   ·have h1': ¬(0:Int)<e:=by omega
    have h1n: ¬1≤e:=by omega
    simp -implicitDefEqProofs [h1,h1',h1n]
end Go.Ai
namespace Go.Ai
def jn:List (List UInt8)→List UInt8
 |[]=>[]
 |[x]=>x
 |x::y::r=>x++47::jn (y::r)
theorem jn5 (a b c d e:List UInt8):jn [a,b,c,d,e]=a++47::(b++47::(c++47::(d++47::e))):=rfl
theorem decDigits_eq (n:Nat):Lib.decDigits n=dec n:=by
 induction n using Nat.strongRecOn with
 |_ n ih=>
  by_cases h:n<10
  ·rw [Lib.decDigits,dif_pos h,dec_lt h]
  ·rw [Lib.decDigits,dif_neg h,dec_ge h,ih _ (by omega)]
def pageW (b:Bool):List UInt8:=if b=true then [112,97,103,101] else [116,105,99,107,101,116]
def fireW (b:Bool):List UInt8:=if b=true then [114,101,115,111,108,118,101] else [102,105,114,101]
def printK (k:Ky):List UInt8:=if rightK k=true then jn [k.g,k.r,pageW k.p,dec k.e,fireW k.f] else [63]
theorem right_e {k:Ky} (h:rightK k=true):k.e≤4611686018427387904:=by
 unfold rightK at h
 simp only [Bool.and_eq_true,decide_eq_true_eq] at h
 exact h.2.2
theorem print_len (k:Ky) (hg:k.g.length≤500) (hr:k.r.length≤500):(printK k).length≤1100:=by
 unfold printK
 split
 ·rename_i h
  have he:=right_e h
  have hd:=dec_len 19 k.e (by omega)
  rw [jn5]
  have hp:(pageW k.p).length≤6:=by cases k.p<;>decide
  have hf:(fireW k.f).length≤7:=by cases k.f<;>decide
  simp only [List.length_append,List.length_cons]
  omega
 ·simp
end Go.Ai
