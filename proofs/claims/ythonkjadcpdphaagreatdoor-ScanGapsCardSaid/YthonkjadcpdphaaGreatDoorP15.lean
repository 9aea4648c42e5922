/- P15: a part of the proof: the rules, or what functions compute. Conditions: as each theorem says. -/
import Derived.Test.YthonkjadcpdphaaGreatDoorP14
import Derived.Test.YthonkjadcpdphaaGreatDoorP13
import Derived.Test.YthonkjadcpdphaaGreatDoorP1
import Derived.Test.YthonkjadcpdphaaGreatDoorP3
import Derived.Test.YthonkjadcpdphaaGreatDoorP7
import Derived.Lib.Join
import Derived.Lib.ItoaNum
import Derived.Lib.Bytealg
import Derived.Test.YthonkjadcpdphaaGreatDoorP9
set_option linter.unusedSimpArgs false
set_option linter.unusedVariables false
set_option maxRecDepth 20000
namespace Go.Ai
open Go.Proofs
def tkR (k:Int) (s:List UInt8) (n:Nat):Bool:=
 if k=1 then nameT s&&decide (n=0)
 else if k=2 then goodR (runesL s 0)&&(decide ((runesL s 0).length≤120)&&decide (n=0))
 else if k=3∨k=4 then s==[]
 else if k=5 then (s==[])&&decide (n≤1000000)
 else if k=6 then (s==[])&&decide (n≤253402300799)
 else if k=0∨k=7∨k=8∨k=9 then (s==[])&&decide (n=0)
 else false
def tkA (k:Int) (s:List UInt8) (n:Nat) (l c:Int):AV:= .agg [i6 k,.str s,u n,i6 l,i6 c]
theorem rright_1 (s:List UInt8) (n:Nat) (l c:Int) (hl:s.length≤900000):Sp Tryz.prog gl 18 [tkA 1 s n l c] (.bool (nameT s&&decide (n=0))):=by
 refine s18 rfl rfl ?_
 have NM:=rname_spec s hl
 unfold tkA
 cases hb:nameT s
 ·rw [hb] at NM
  rw [Bool.false_and]
  simp -implicitDefEqProofs [c18]
  refine onC_mk _ (NM) ?_
  simp -implicitDefEqProofs
 ·rw [hb] at NM
  rw [Bool.true_and]
  by_cases n0:n=0
  ·subst n0
   rw [decide_eq_true (rfl:(0:Nat)=0)]
   simp -implicitDefEqProofs [c18]
   refine onC_mk _ (NM) ?_
   simp -implicitDefEqProofs
  ·have n1:((n:Int)==0)=false:=beq_eq_false_iff_ne.2 (by omega)
   have n2: ¬(n:Int)=0:=by omega
   rw [decide_eq_false n0]
   simp -implicitDefEqProofs [c18]
   refine onC_mk _ (NM) ?_
   simp -implicitDefEqProofs [n1,n2]
theorem rright_2 (s:List UInt8) (n:Nat) (l c:Int) (hl:s.length≤900000):Sp Tryz.prog gl 18 [tkA 2 s n l c] (.bool (goodR (runesL s 0)&&(decide ((runesL s 0).length≤120)&&decide (n=0)))):=by
 refine s18 rfl rfl ?_
 have GD:=rgood_spec s hl
 have RS:=runes_spec s hl
 unfold tkA
 have rl:=runeRows_len (runesL s 0)
 generalize runeRows (runesL s 0)=RR at *
 generalize (runesL s 0).length=rn at *
 cases hb:goodR (runesL s 0)
 ·rw [hb] at GD
  rw [Bool.false_and]
  simp -implicitDefEqProofs [c18]
  refine onC_mk _ (GD) ?_
  simp -implicitDefEqProofs
 rw [hb] at GD
 rw [Bool.true_and]
 by_cases hr:rn≤120
 ·have hr':(rn:Int)≤120:=by omega
  rw [decide_eq_true hr,Bool.true_and]
  by_cases n0:n=0
  ·subst n0
   rw [decide_eq_true (rfl:(0:Nat)=0)]
   simp -implicitDefEqProofs [c18]
   refine onC_mk _ (GD) ?_
   simp -implicitDefEqProofs
   refine onC_mk _ (RS) ?_
   simp -implicitDefEqProofs [rl,hr,hr']
  ·have n1:((n:Int)==0)=false:=beq_eq_false_iff_ne.2 (by omega)
   have n2: ¬(n:Int)=0:=by omega
   rw [decide_eq_false n0]
   simp -implicitDefEqProofs [c18]
   refine onC_mk _ (GD) ?_
   simp -implicitDefEqProofs
   refine onC_mk _ (RS) ?_
   simp -implicitDefEqProofs [rl,hr,hr',n1,n2]
 ·have hr': ¬(rn:Int)≤120:=by omega
  rw [decide_eq_false hr,Bool.false_and]
  simp -implicitDefEqProofs [c18]
  refine onC_mk _ (GD) ?_
  simp -implicitDefEqProofs
  refine onC_mk _ (RS) ?_
  simp -implicitDefEqProofs [rl,hr,hr']
theorem rright_3 (k:Int) (hk:k=3) (s:List UInt8) (n:Nat) (l c:Int):Sp Tryz.prog gl 18 [tkA k s n l c] (.bool (s==[])):=by
 refine s18 rfl rfl ?_
 unfold tkA
 have d1:(k==1)=false:=by subst hk;decide
 have d2:(k==2)=false:=by subst hk;decide
 have d3:(k==3)=true:=by subst hk;decide
 clear hk
 by_cases e:s=[]
 ·subst e
  rw [show (([]:List UInt8)==[])=true from rfl]
  simp -implicitDefEqProofs [c18,d1,d2]
  refine onB_mk (fun _=>?_) (fun h=>by rw [d3] at h;cases h)
  simp -implicitDefEqProofs
  refine onB_mk (fun _=>?_) (fun h=>by rw [d3] at h;cases h)
  simp -implicitDefEqProofs
 ·have en:(s==[])=false:=beq_eq_false_iff_ne.2 e
  rw [en]
  simp -implicitDefEqProofs [c18,d1,d2]
  refine onB_mk (fun _=>?_) (fun h=>by rw [d3] at h;cases h)
  simp -implicitDefEqProofs
  refine onB_mk (fun _=>?_) (fun h=>by rw [d3] at h;cases h)
  simp -implicitDefEqProofs [e,en]
theorem rright_4 (k:Int) (hk:k=4) (s:List UInt8) (n:Nat) (l c:Int):Sp Tryz.prog gl 18 [tkA k s n l c] (.bool (s==[])):=by
 refine s18 rfl rfl ?_
 unfold tkA
 have d1:(k==1)=false:=by subst hk;decide
 have d2:(k==2)=false:=by subst hk;decide
 have d3:(k==3)=false:=by subst hk;decide
 have d4:(k==4)=true:=by subst hk;decide
 clear hk
 by_cases e:s=[]
 ·subst e
  rw [show (([]:List UInt8)==[])=true from rfl]
  simp -implicitDefEqProofs [c18,d1,d2,d3,d4]
 ·have en:(s==[])=false:=beq_eq_false_iff_ne.2 e
  rw [en]
  simp -implicitDefEqProofs [c18,d1,d2,d3,d4,e,en]
theorem rright_5 (k:Int) (hk:k=5) (s:List UInt8) (n:Nat) (l c:Int):Sp Tryz.prog gl 18 [tkA k s n l c] (.bool ((s==[])&&decide (n≤1000000))):=by
 refine s18 rfl rfl ?_
 unfold tkA
 have d1:(k==1)=false:=by subst hk;decide
 have d2:(k==2)=false:=by subst hk;decide
 have d3:(k==3)=false:=by subst hk;decide
 have d4:(k==4)=false:=by subst hk;decide
 have d5:(k==5)=true:=by subst hk;decide
 clear hk
 by_cases e:s=[]
 ·subst e
  rw [show (([]:List UInt8)==[])=true from rfl,Bool.true_and]
  by_cases h:n≤1000000
  ·have h':(n:Int)≤1000000:=by omega
   rw [decide_eq_true h]
   simp -implicitDefEqProofs [c18,d1,d2,d3,d4,d5,h,h']
  ·have h': ¬(n:Int)≤1000000:=by omega
   rw [decide_eq_false h]
   simp -implicitDefEqProofs [c18,d1,d2,d3,d4,d5,h,h']
 ·have en:(s==[])=false:=beq_eq_false_iff_ne.2 e
  rw [en,Bool.false_and]
  simp -implicitDefEqProofs [c18,d1,d2,d3,d4,d5,e,en]
theorem rright_6 (k:Int) (hk:k=6) (s:List UInt8) (n:Nat) (l c:Int):Sp Tryz.prog gl 18 [tkA k s n l c] (.bool ((s==[])&&decide (n≤253402300799))):=by
 refine s18 rfl rfl ?_
 unfold tkA
 have d1:(k==1)=false:=by subst hk;decide
 have d2:(k==2)=false:=by subst hk;decide
 have d3:(k==3)=false:=by subst hk;decide
 have d4:(k==4)=false:=by subst hk;decide
 have d5:(k==5)=false:=by subst hk;decide
 have d6:(k==6)=true:=by subst hk;decide
 clear hk
 by_cases e:s=[]
 ·subst e
  rw [show (([]:List UInt8)==[])=true from rfl,Bool.true_and]
  by_cases h:n≤253402300799
  ·have h':(n:Int)≤253402300799:=by omega
   rw [decide_eq_true h]
   simp -implicitDefEqProofs [c18,d1,d2,d3,d4,d5,d6,h,h']
  ·have h': ¬(n:Int)≤253402300799:=by omega
   rw [decide_eq_false h]
   simp -implicitDefEqProofs [c18,d1,d2,d3,d4,d5,d6,h,h']
 ·have en:(s==[])=false:=beq_eq_false_iff_ne.2 e
  rw [en,Bool.false_and]
  simp -implicitDefEqProofs [c18,d1,d2,d3,d4,d5,d6,e,en]
theorem rright_0 (k:Int) (hk:k=0) (s:List UInt8) (n:Nat) (l c:Int):Sp Tryz.prog gl 18 [tkA k s n l c] (.bool ((s==[])&&decide (n=0))):=by
 refine s18 rfl rfl ?_
 unfold tkA
 have d1:(k==1)=false:=by subst hk;decide
 have d2:(k==2)=false:=by subst hk;decide
 have d3:(k==3)=false:=by subst hk;decide
 have d4:(k==4)=false:=by subst hk;decide
 have d5:(k==5)=false:=by subst hk;decide
 have d6:(k==6)=false:=by subst hk;decide
 have d0:(k==0)=true:=by subst hk;decide
 clear hk
 by_cases e:s=[]
 ·subst e
  rw [show (([]:List UInt8)==[])=true from rfl,Bool.true_and]
  by_cases n0:n=0
  ·subst n0
   rw [decide_eq_true (rfl:(0:Nat)=0)]
   simp -implicitDefEqProofs [c18,d1,d2,d3,d4,d5,d6,d0]
  ·have n1:((n:Int)==0)=false:=beq_eq_false_iff_ne.2 (by omega)
   have n2: ¬(n:Int)=0:=by omega
   rw [decide_eq_false n0]
   simp -implicitDefEqProofs [c18,d1,d2,d3,d4,d5,d6,d0,n1,n2]
 ·have en:(s==[])=false:=beq_eq_false_iff_ne.2 e
  rw [en,Bool.false_and]
  simp -implicitDefEqProofs [c18,d1,d2,d3,d4,d5,d6,d0,e,en]
theorem rright_7 (k:Int) (hk:k=7) (s:List UInt8) (n:Nat) (l c:Int):Sp Tryz.prog gl 18 [tkA k s n l c] (.bool ((s==[])&&decide (n=0))):=by
 refine s18 rfl rfl ?_
 unfold tkA
 have d1:(k==1)=false:=by subst hk;decide
 have d2:(k==2)=false:=by subst hk;decide
 have d3:(k==3)=false:=by subst hk;decide
 have d4:(k==4)=false:=by subst hk;decide
 have d5:(k==5)=false:=by subst hk;decide
 have d6:(k==6)=false:=by subst hk;decide
 have d0:(k==0)=false:=by subst hk;decide
 have d7:(k==7)=true:=by subst hk;decide
 clear hk
 by_cases e:s=[]
 ·subst e
  rw [show (([]:List UInt8)==[])=true from rfl,Bool.true_and]
  by_cases n0:n=0
  ·subst n0
   rw [decide_eq_true (rfl:(0:Nat)=0)]
   simp -implicitDefEqProofs [c18,d1,d2,d3,d4,d5,d6,d0,d7]
  ·have n1:((n:Int)==0)=false:=beq_eq_false_iff_ne.2 (by omega)
   have n2: ¬(n:Int)=0:=by omega
   rw [decide_eq_false n0]
   simp -implicitDefEqProofs [c18,d1,d2,d3,d4,d5,d6,d0,d7,n1,n2]
 ·have en:(s==[])=false:=beq_eq_false_iff_ne.2 e
  rw [en,Bool.false_and]
  simp -implicitDefEqProofs [c18,d1,d2,d3,d4,d5,d6,d0,d7,e,en]
theorem rright_8 (k:Int) (hk:k=8) (s:List UInt8) (n:Nat) (l c:Int):Sp Tryz.prog gl 18 [tkA k s n l c] (.bool ((s==[])&&decide (n=0))):=by
 refine s18 rfl rfl ?_
 unfold tkA
 have d1:(k==1)=false:=by subst hk;decide
 have d2:(k==2)=false:=by subst hk;decide
 have d3:(k==3)=false:=by subst hk;decide
 have d4:(k==4)=false:=by subst hk;decide
 have d5:(k==5)=false:=by subst hk;decide
 have d6:(k==6)=false:=by subst hk;decide
 have d0:(k==0)=false:=by subst hk;decide
 have d7:(k==7)=false:=by subst hk;decide
 have d8:(k==8)=true:=by subst hk;decide
 clear hk
 by_cases e:s=[]
 ·subst e
  rw [show (([]:List UInt8)==[])=true from rfl,Bool.true_and]
  by_cases n0:n=0
  ·subst n0
   rw [decide_eq_true (rfl:(0:Nat)=0)]
   simp -implicitDefEqProofs [c18,d1,d2,d3,d4,d5,d6,d0,d7,d8]
  ·have n1:((n:Int)==0)=false:=beq_eq_false_iff_ne.2 (by omega)
   have n2: ¬(n:Int)=0:=by omega
   rw [decide_eq_false n0]
   simp -implicitDefEqProofs [c18,d1,d2,d3,d4,d5,d6,d0,d7,d8,n1,n2]
 ·have en:(s==[])=false:=beq_eq_false_iff_ne.2 e
  rw [en,Bool.false_and]
  simp -implicitDefEqProofs [c18,d1,d2,d3,d4,d5,d6,d0,d7,d8,e,en]
theorem rright_9 (k:Int) (hk:k=9) (s:List UInt8) (n:Nat) (l c:Int):Sp Tryz.prog gl 18 [tkA k s n l c] (.bool ((s==[])&&decide (n=0))):=by
 refine s18 rfl rfl ?_
 unfold tkA
 have d1:(k==1)=false:=by subst hk;decide
 have d2:(k==2)=false:=by subst hk;decide
 have d3:(k==3)=false:=by subst hk;decide
 have d4:(k==4)=false:=by subst hk;decide
 have d5:(k==5)=false:=by subst hk;decide
 have d6:(k==6)=false:=by subst hk;decide
 have d0:(k==0)=false:=by subst hk;decide
 have d7:(k==7)=false:=by subst hk;decide
 have d8:(k==8)=false:=by subst hk;decide
 have d9:(k==9)=true:=by subst hk;decide
 clear hk
 by_cases e:s=[]
 ·subst e
  rw [show (([]:List UInt8)==[])=true from rfl,Bool.true_and]
  by_cases n0:n=0
  ·subst n0
   rw [decide_eq_true (rfl:(0:Nat)=0)]
   simp -implicitDefEqProofs [c18,d1,d2,d3,d4,d5,d6,d0,d7,d8,d9]
  ·have n1:((n:Int)==0)=false:=beq_eq_false_iff_ne.2 (by omega)
   have n2: ¬(n:Int)=0:=by omega
   rw [decide_eq_false n0]
   simp -implicitDefEqProofs [c18,d1,d2,d3,d4,d5,d6,d0,d7,d8,d9,n1,n2]
 ·have en:(s==[])=false:=beq_eq_false_iff_ne.2 e
  rw [en,Bool.false_and]
  simp -implicitDefEqProofs [c18,d1,d2,d3,d4,d5,d6,d0,d7,d8,d9,e,en]
theorem rright_x (k:Int) (s:List UInt8) (n:Nat) (l c:Int) (h: ¬k=0∧ ¬k=1∧ ¬k=2∧ ¬k=3∧ ¬k=4∧ ¬k=5∧ ¬k=6∧ ¬k=7∧ ¬k=8∧ ¬k=9):Sp Tryz.prog gl 18 [tkA k s n l c] (.bool false):=by
 refine s18 rfl rfl ?_
 unfold tkA
 obtain ⟨c0,c1,c2,c3,c4,c5,c6,c7,c8,c9⟩:=h
 have ne: ∀z:Int,¬k=z→(k==z)=false:=fun z h=>beq_eq_false_iff_ne.2 h
 have d0:=ne _ c0
 have d1:=ne _ c1
 have d2:=ne _ c2
 have d3:=ne _ c3
 have d4:=ne _ c4
 have d5:=ne _ c5
 have d6:=ne _ c6
 have d7:=ne _ c7
 have d8:=ne _ c8
 have d9:=ne _ c9
 simp -implicitDefEqProofs [c18,d0,d1,d2,d3,d4,d5,d6,d7,d8,d9]
theorem rright_spec (k:Int) (s:List UInt8) (n:Nat) (l c:Int) (hl:s.length≤900000):Sp Tryz.prog gl 18 [tkA k s n l c] (.bool (tkR k s n)):=by
 unfold tkR
 by_cases c1:k=1
 ·subst c1;rw [if_pos rfl];exact rright_1 s n l c hl
 rw [if_neg c1]
 by_cases c2:k=2
 ·subst c2;rw [if_pos rfl];exact rright_2 s n l c hl
 rw [if_neg c2]
 by_cases c3:k=3
 ·subst c3;rw [if_pos (.inl rfl)];exact rright_3 3 rfl s n l c
 by_cases c4:k=4
 ·subst c4;rw [if_pos (.inr rfl)];exact rright_4 4 rfl s n l c
 rw [if_neg (by rintro (h|h);exact c3 h;exact c4 h)]
 by_cases c5:k=5
 ·subst c5;rw [if_pos rfl];exact rright_5 5 rfl s n l c
 rw [if_neg c5]
 by_cases c6:k=6
 ·subst c6;rw [if_pos rfl];exact rright_6 6 rfl s n l c
 rw [if_neg c6]
 by_cases c0:k=0
 ·subst c0;rw [if_pos (.inl rfl)];exact rright_0 0 rfl s n l c
 by_cases c7:k=7
 ·subst c7;rw [if_pos (.inr (.inl rfl))];exact rright_7 7 rfl s n l c
 by_cases c8:k=8
 ·subst c8;rw [if_pos (.inr (.inr (.inl rfl)))];exact rright_8 8 rfl s n l c
 by_cases c9:k=9
 ·subst c9;rw [if_pos (.inr (.inr (.inr rfl)))];exact rright_9 9 rfl s n l c
 rw [if_neg (by rintro (h|h|h|h);exact c0 h;exact c7 h;exact c8 h;exact c9 h)]
 exact rright_x k s n l c ⟨c0,c1,c2,c3,c4,c5,c6,c7,c8,c9⟩
open Go.Proofs
structure Ky where
 g:List UInt8
 r:List UInt8
 p:Bool
 e:Nat
 f:Bool
 deriving DecidableEq
structure Ms where
 g:List UInt8
 p:Bool
 ks:List Ky
 deriving DecidableEq
def Ky.row (k:Ky):List AV:=[.str k.g,.str k.r,.bool k.p,u k.e,.bool k.f]
def Ms.row (m:Ms):List AV:=[.str m.g,.bool m.p,.sl (m.ks.map Ky.row)]
def goes (m:Ms) (k:Ky):Bool:=m.g==k.g&&m.p==k.p&&decide (m.ks.length<8)
open Go.Proofs
end Go.Ai
namespace Go.Ai
open Go.Proofs
def fl (b:Bool):Int:=if b=true then 1 else 0
end Go.Ai
namespace Go.Ai
open Go.Proofs Go.RowKit
end Go.Ai
