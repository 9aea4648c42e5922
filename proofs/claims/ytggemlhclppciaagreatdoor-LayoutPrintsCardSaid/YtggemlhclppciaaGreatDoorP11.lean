/- P11: a part of the proof. Conditions: as each theorem says. -/
import Derived.Test.YtggemlhclppciaaGreatDoorP10
set_option maxHeartbeats 4000000
set_option linter.unusedSimpArgs false
set_option linter.unusedVariables false
set_option maxRecDepth 20000
namespace Go.Ai
open Go.Proofs
theorem Ht (s:List UInt8) (n:Nat) (l c:Int) (hl:s.length≤900000):Sp Tryz.prog gl 70 [cV 1 s n l c] (.bool (du s&&decide (n=0))):=by
 refine GC rfl rfl ?_;have NM:=tq s hl;unfold cV;cases hb:du s
 ·rw [hb] at NM;rw [iR];simp [mJ];apply ab NM;simp
 ·rw [hb] at NM;rw [ib];by_cases n0:n=0
  ·subst n0;rw [io (rfl:(0:Nat)=0)];simp [mJ];apply ab NM;simp
  ·have n1:((n:Int)==0)=false:=cI.2 (by omega);have n2: ¬(n:Int)=0:=by omega
   rw [jd n0];simp [mJ];apply ab NM;simp [n1,n2]
theorem Hu (s:List UInt8) (n:Nat) (l c:Int) (hl:s.length≤900000):Sp Tryz.prog gl 70 [cV 2 s n l c] (.bool (dJ (ai s 0)&&(decide ((ai s 0).length≤120)&&decide (n=0)))):=by
 refine GC rfl rfl ?_;have GD:=CE s hl;have RS:=kr s hl;unfold cV;have rl:=fY (ai s 0);generalize a7 (ai s 0)=RR at *
 generalize (ai s 0).length=rn at *
 cases hb:dJ (ai s 0)
 ·rw [hb] at GD;rw [iR];simp [mJ];apply ab GD;simp
 rw [hb] at GD;rw [ib];by_cases hr:rn≤120
 ·have hr':(rn:Int)≤120:=by omega
  rw [io hr,ib];by_cases n0:n=0
  ·subst n0;rw [io (rfl:(0:Nat)=0)];simp [mJ];apply ab GD;simp;apply ab RS;simp [rl,hr,hr']
  ·have n1:((n:Int)==0)=false:=cI.2 (by omega);have n2: ¬(n:Int)=0:=by omega
   rw [jd n0];simp [mJ];apply ab GD;simp;apply ab RS;simp [rl,hr,hr',n1,n2]
 ·have hr': ¬(rn:Int)≤120:=by omega
  rw [jd hr,iR];simp [mJ];apply ab GD;simp;apply ab RS;simp [rl,hr,hr']
theorem Hv (k:Int) (hk:k=3) (s:List UInt8) (n:Nat) (l c:Int):Sp Tryz.prog gl 70 [cV k s n l c] (.bool (s==[])):=by
 refine GC rfl rfl ?_;unfold cV;have d1:(k==1)=false:=by subst hk;decide
 have d2:(k==2)=false:=by subst hk;decide
 have d3:(k==3)=true:=by subst hk;decide
 clear hk;by_cases e:s=[]
 ·subst e;rw [show (([]:List UInt8)==[])=true from rfl];simp [mJ,d1,d2];refine gx (fun _=>?_) (fun h=>by rw [d3] at h;cases h);simp;refine gx (fun _=>?_) (fun h=>by rw [d3] at h;cases h);simp
 ·have en:(s==[])=false:=cI.2 e;rw [en];simp [mJ,d1,d2];refine gx (fun _=>?_) (fun h=>by rw [d3] at h;cases h);simp;refine gx (fun _=>?_) (fun h=>by rw [d3] at h;cases h);simp [e,en]
theorem Hw (k:Int) (hk:k=4) (s:List UInt8) (n:Nat) (l c:Int):Sp Tryz.prog gl 70 [cV k s n l c] (.bool (s==[])):=by
 refine GC rfl rfl ?_;unfold cV;have d1:(k==1)=false:=by subst hk;decide
 have d2:(k==2)=false:=by subst hk;decide
 have d3:(k==3)=false:=by subst hk;decide
 have d4:(k==4)=true:=by subst hk;decide
 clear hk;by_cases e:s=[]
 ·subst e;rw [show (([]:List UInt8)==[])=true from rfl];simp [mJ,d1,d2,d3,d4]
 ·have en:(s==[])=false:=cI.2 e;rw [en];simp [mJ,d1,d2,d3,d4,e,en]
theorem Hx (k:Int) (hk:k=5) (s:List UInt8) (n:Nat) (l c:Int):Sp Tryz.prog gl 70 [cV k s n l c] (.bool ((s==[])&&decide (n≤1000000))):=by
 refine GC rfl rfl ?_;unfold cV;have d1:(k==1)=false:=by subst hk;decide
 have d2:(k==2)=false:=by subst hk;decide
 have d3:(k==3)=false:=by subst hk;decide
 have d4:(k==4)=false:=by subst hk;decide
 have d5:(k==5)=true:=by subst hk;decide
 clear hk;by_cases e:s=[]
 ·subst e;rw [show (([]:List UInt8)==[])=true from rfl,ib];by_cases h:n≤1000000
  ·have h':(n:Int)≤1000000:=by omega
   rw [io h];simp [mJ,d1,d2,d3,d4,d5,h,h']
  ·have h': ¬(n:Int)≤1000000:=by omega
   rw [jd h];simp [mJ,d1,d2,d3,d4,d5,h,h']
 ·have en:(s==[])=false:=cI.2 e;rw [en,iR];simp [mJ,d1,d2,d3,d4,d5,e,en]
theorem Hy (k:Int) (hk:k=6) (s:List UInt8) (n:Nat) (l c:Int):Sp Tryz.prog gl 70 [cV k s n l c] (.bool ((s==[])&&decide (n≤253402300799))):=by
 refine GC rfl rfl ?_;unfold cV;have d1:(k==1)=false:=by subst hk;decide
 have d2:(k==2)=false:=by subst hk;decide
 have d3:(k==3)=false:=by subst hk;decide
 have d4:(k==4)=false:=by subst hk;decide
 have d5:(k==5)=false:=by subst hk;decide
 have d6:(k==6)=true:=by subst hk;decide
 clear hk;by_cases e:s=[]
 ·subst e;rw [show (([]:List UInt8)==[])=true from rfl,ib];by_cases h:n≤253402300799
  ·have h':(n:Int)≤253402300799:=by omega
   rw [io h];simp [mJ,d1,d2,d3,d4,d5,d6,h,h']
  ·have h': ¬(n:Int)≤253402300799:=by omega
   rw [jd h];simp [mJ,d1,d2,d3,d4,d5,d6,h,h']
 ·have en:(s==[])=false:=cI.2 e;rw [en,iR];simp [mJ,d1,d2,d3,d4,d5,d6,e,en]
theorem Hz (k:Int) (hk:k=0) (s:List UInt8) (n:Nat) (l c:Int):Sp Tryz.prog gl 70 [cV k s n l c] (.bool ((s==[])&&decide (n=0))):=by
 refine GC rfl rfl ?_;unfold cV;have d1:(k==1)=false:=by subst hk;decide
 have d2:(k==2)=false:=by subst hk;decide
 have d3:(k==3)=false:=by subst hk;decide
 have d4:(k==4)=false:=by subst hk;decide
 have d5:(k==5)=false:=by subst hk;decide
 have d6:(k==6)=false:=by subst hk;decide
 have d0:(k==0)=true:=by subst hk;decide
 clear hk;by_cases e:s=[]
 ·subst e;rw [show (([]:List UInt8)==[])=true from rfl,ib];by_cases n0:n=0
  ·subst n0;rw [io (rfl:(0:Nat)=0)];simp [mJ,d1,d2,d3,d4,d5,d6,d0]
  ·have n1:((n:Int)==0)=false:=cI.2 (by omega);have n2: ¬(n:Int)=0:=by omega
   rw [jd n0];simp [mJ,d1,d2,d3,d4,d5,d6,d0,n1,n2]
 ·have en:(s==[])=false:=cI.2 e;rw [en,iR];simp [mJ,d1,d2,d3,d4,d5,d6,d0,e,en]
theorem HC (k:Int) (hk:k=7) (s:List UInt8) (n:Nat) (l c:Int):Sp Tryz.prog gl 70 [cV k s n l c] (.bool ((s==[])&&decide (n=0))):=by
 refine GC rfl rfl ?_;unfold cV;have d1:(k==1)=false:=by subst hk;decide
 have d2:(k==2)=false:=by subst hk;decide
 have d3:(k==3)=false:=by subst hk;decide
 have d4:(k==4)=false:=by subst hk;decide
 have d5:(k==5)=false:=by subst hk;decide
 have d6:(k==6)=false:=by subst hk;decide
 have d0:(k==0)=false:=by subst hk;decide
 have d7:(k==7)=true:=by subst hk;decide
 clear hk;by_cases e:s=[]
 ·subst e;rw [show (([]:List UInt8)==[])=true from rfl,ib];by_cases n0:n=0
  ·subst n0;rw [io (rfl:(0:Nat)=0)];simp [mJ,d1,d2,d3,d4,d5,d6,d0,d7]
  ·have n1:((n:Int)==0)=false:=cI.2 (by omega);have n2: ¬(n:Int)=0:=by omega
   rw [jd n0];simp [mJ,d1,d2,d3,d4,d5,d6,d0,d7,n1,n2]
 ·have en:(s==[])=false:=cI.2 e;rw [en,iR];simp [mJ,d1,d2,d3,d4,d5,d6,d0,d7,e,en]
theorem HD (k:Int) (hk:k=8) (s:List UInt8) (n:Nat) (l c:Int):Sp Tryz.prog gl 70 [cV k s n l c] (.bool ((s==[])&&decide (n=0))):=by
 refine GC rfl rfl ?_;unfold cV;have d1:(k==1)=false:=by subst hk;decide
 have d2:(k==2)=false:=by subst hk;decide
 have d3:(k==3)=false:=by subst hk;decide
 have d4:(k==4)=false:=by subst hk;decide
 have d5:(k==5)=false:=by subst hk;decide
 have d6:(k==6)=false:=by subst hk;decide
 have d0:(k==0)=false:=by subst hk;decide
 have d7:(k==7)=false:=by subst hk;decide
 have d8:(k==8)=true:=by subst hk;decide
 clear hk;by_cases e:s=[]
 ·subst e;rw [show (([]:List UInt8)==[])=true from rfl,ib];by_cases n0:n=0
  ·subst n0;rw [io (rfl:(0:Nat)=0)];simp [mJ,d1,d2,d3,d4,d5,d6,d0,d7,d8]
  ·have n1:((n:Int)==0)=false:=cI.2 (by omega);have n2: ¬(n:Int)=0:=by omega
   rw [jd n0];simp [mJ,d1,d2,d3,d4,d5,d6,d0,d7,d8,n1,n2]
 ·have en:(s==[])=false:=cI.2 e;rw [en,iR];simp [mJ,d1,d2,d3,d4,d5,d6,d0,d7,d8,e,en]
theorem HG (k:Int) (hk:k=9) (s:List UInt8) (n:Nat) (l c:Int):Sp Tryz.prog gl 70 [cV k s n l c] (.bool ((s==[])&&decide (n=0))):=by
 refine GC rfl rfl ?_;unfold cV;have d1:(k==1)=false:=by subst hk;decide
 have d2:(k==2)=false:=by subst hk;decide
 have d3:(k==3)=false:=by subst hk;decide
 have d4:(k==4)=false:=by subst hk;decide
 have d5:(k==5)=false:=by subst hk;decide
 have d6:(k==6)=false:=by subst hk;decide
 have d0:(k==0)=false:=by subst hk;decide
 have d7:(k==7)=false:=by subst hk;decide
 have d8:(k==8)=false:=by subst hk;decide
 have d9:(k==9)=true:=by subst hk;decide
 clear hk;by_cases e:s=[]
 ·subst e;rw [show (([]:List UInt8)==[])=true from rfl,ib];by_cases n0:n=0
  ·subst n0;rw [io (rfl:(0:Nat)=0)];simp [mJ,d1,d2,d3,d4,d5,d6,d0,d7,d8,d9]
  ·have n1:((n:Int)==0)=false:=cI.2 (by omega);have n2: ¬(n:Int)=0:=by omega
   rw [jd n0];simp [mJ,d1,d2,d3,d4,d5,d6,d0,d7,d8,d9,n1,n2]
 ·have en:(s==[])=false:=cI.2 e;rw [en,iR];simp [mJ,d1,d2,d3,d4,d5,d6,d0,d7,d8,d9,e,en]
theorem HH (k:Int) (s:List UInt8) (n:Nat) (l c:Int) (h: ¬k=0∧ ¬k=1∧ ¬k=2∧ ¬k=3∧ ¬k=4∧ ¬k=5∧ ¬k=6∧ ¬k=7∧ ¬k=8∧ ¬k=9):Sp Tryz.prog gl 70 [cV k s n l c] (.bool false):=by
 refine GC rfl rfl ?_;unfold cV;obtain ⟨c0,c1,c2,c3,c4,c5,c6,c7,c8,c9⟩:=h;have ne: ∀z:Int,¬k=z→(k==z)=false:=fun z h=>cI.2 h
 have d0:=ne _ c0;have d1:=ne _ c1;have d2:=ne _ c2;have d3:=ne _ c3;have d4:=ne _ c4;have d5:=ne _ c5;have d6:=ne _ c6;have d7:=ne _ c7;have d8:=ne _ c8;have d9:=ne _ c9;simp [mJ,d0,d1,d2,d3,d4,d5,d6,d7,d8,d9]
theorem bS (k:Int) (s:List UInt8) (n:Nat) (l c:Int) (hl:s.length≤900000):Sp Tryz.prog gl 70 [cV k s n l c] (.bool (gZ k s n)):=by
 unfold gZ;by_cases c1:k=1
 ·subst c1;rw [if_pos rfl];exact Ht s n l c hl
 rw [if_neg c1];by_cases c2:k=2
 ·subst c2;rw [if_pos rfl];exact Hu s n l c hl
 rw [if_neg c2];by_cases c3:k=3
 ·subst c3;rw [if_pos (.inl rfl)];exact Hv 3 rfl s n l c
 by_cases c4:k=4
 ·subst c4;rw [if_pos (.inr rfl)];exact Hw 4 rfl s n l c
 rw [if_neg (by rintro (h|h);exact c3 h;exact c4 h)];by_cases c5:k=5
 ·subst c5;rw [if_pos rfl];exact Hx 5 rfl s n l c
 rw [if_neg c5];by_cases c6:k=6
 ·subst c6;rw [if_pos rfl];exact Hy 6 rfl s n l c
 rw [if_neg c6];by_cases c0:k=0
 ·subst c0;rw [if_pos (.inl rfl)];exact Hz 0 rfl s n l c
 by_cases c7:k=7
 ·subst c7;rw [if_pos (.inr (.inl rfl))];exact HC 7 rfl s n l c
 by_cases c8:k=8
 ·subst c8;rw [if_pos (.inr (.inr (.inl rfl)))];exact HD 8 rfl s n l c
 by_cases c9:k=9
 ·subst c9;rw [if_pos (.inr (.inr (.inr rfl)))];exact HG 9 rfl s n l c
 rw [if_neg (by rintro (h|h|h|h);exact c0 h;exact c7 h;exact c8 h;exact c9 h)];exact HH k s n l c ⟨c0,c1,c2,c3,c4,c5,c6,c7,c8,c9⟩
def fO (m:Nat):Nat→Nat→List UInt8
 |0,_=>[]
 |f+1,x=>if x=0 then [] else UInt8.ofNat (48+x / m)::fO m f (x%m*10)
def AT (p:Nat):List UInt8:=if 1000000<p then [63] else bg (p / 10000)++((if p%10000=0 then [] else [46])++(fO 1000 4 (p%10000)++[37]))
def U9:Nat→Nat
 |4=>1
 |3=>10
 |2=>100
 |1=>1000
 |_=>10000
theorem zy (p:Nat) (hp:p<4294967296):Sp Tryz.prog gl 73 [.int .u32 p] (.str (AT p)):=by
 refine VG rfl rfl ?_;unfold AT;by_cases c:1000000<p
 ·have c':(1000000:Int)<p:=by omega
  rw [if_pos c];simp [P3,c,c']
 have c': ¬(1000000:Int)<p:=by omega
 rw [if_neg c];have w1:IntKind.u32.wrap ((p:Int) / 10000)=((p / 10000:Nat):Int):=by rw [cJ]<;>omega
 have w2:IntKind.u64.wrap ((p / 10000:Nat):Int)=((p / 10000:Nat):Int):=by rw [a6]<;>omega
 have w3:(p:Int).tmod 10000=((p%10000:Nat):Int):=rfl;have w4:IntKind.u32.wrap ((p%10000:Nat):Int)=((p%10000:Nat):Int):=by rw [cJ]<;>omega
 have BS:=pO (p / 10000) (by omega);have hw:wide (p / 10000)= .agg [u 0,u (p / 10000:Nat)]:=by
  unfold wide;rw [Nat.div_eq_of_lt (by omega),nE (by omega)]
 rw [hw] at BS;have DG:=qx (aO (p / 10000) 128) (by simp [aO]);rw [jm (p / 10000) (by omega)] at DG;unfold bl at BS DG;have bq:p%10000<10000:=Nat.mod_lt _ (by decide);clear c hw;have hdl:(bg (p / 10000)).length≤20:=cP 19 _ (by omega);generalize bg (p / 10000)=hd at *
 generalize List.map (fun b=>[AV.bool b]) (aO (p / 10000) 128)=bs at *
 generalize p / 10000=z at *
 obtain ⟨R,hR⟩: ∃R,R=hd++((if p%10000=0 then [] else [46])++(fO 1000 4 (p%10000)++[37])):=⟨_,rfl⟩;rw [←hR];by_cases c0:p%10000=0
 ·rw [if_pos c0,c0] at hR;rw [c0] at w3 w4;have e0:fO 1000 4 0=[]:=rfl;rw [e0,bR,bR] at hR;simp [P3,c',w1,w2,w3,w4];apply ab BS;simp;apply ab DG;simp [w3,w4];refine aP (α:=List UInt8×Nat×Nat) (fun y=>⟨[(3,.str y.1),(4,.int .u32 y.2.1)],[],[]⟩) (fun y=>y.2.1<10000∧y.2.2≤4∧y.2.1%U9 y.2.2=0∧y.1.length≤100∧y.1++(fO 1000 y.2.2 y.2.1++[37])=R∧y.1.length+y.2.2≤100) (fun y=>y.2.2) ?_ (hd,0,4) ?_ ?_
  ·rintro K ⟨cur,x,f⟩ hK ⟨h1,h2,h3,h4,h5,h6⟩;simp only at h1 h2 h3 h4 h5 h6;by_cases x0:x=0
   ·subst x0;have e0:fO 1000 f 0=[]:=by cases f<;>rfl
    rw [e0,bR] at h5;subst h5;have l1:cur.length+1≤9223372036854775807:=by omega
    have l2:cur.length≤9223372036854775806:=by omega
    clear hK;simp [l1,l2]
   ·obtain ⟨f,rfl⟩: ∃g,f=g+1:=by
     refine ⟨f - 1,?_⟩;rcases Nat.eq_zero_or_pos f with hf|hf
     ·subst hf;have h3:x%10000=0:=h3;omega
     ·omega
    rw [fO,if_neg x0] at h5;have fin:=fun σ' hσ=>hK (cur++[UInt8.ofNat (48+x / 1000)],x%1000*10,f) σ' ⟨by simp only;omega,by simp only;omega,by
     simp only;obtain rfl|rfl|rfl|rfl:f=0∨f=1∨f=2∨f=3:=by omega
     ·have h3:x%1000=0:=h3;show x%1000*10%10000=0;omega
     ·have h3:x%100=0:=h3;show x%1000*10%1000=0;omega
     ·have h3:x%10=0:=h3;show x%1000*10%100=0;omega
     ·show x%1000*10%10=0;omega,by simp only [cG,uc];omega,by rw [jq];exact h5,by simp only [cG,uc];omega⟩ (by simp only;omega) hσ
    have xp:(0:Int)<x:=by omega
    have xp':0<x:=by omega
    have l1:cur.length+1≤9223372036854775807:=by omega
    have l2:cur.length≤9223372036854775806:=by omega
    have v1:IntKind.u32.wrap ((x:Int) / 1000)=((x / 1000:Nat):Int):=by rw [cJ]<;>omega
    have v5:(x:Int).tmod 1000=((x%1000:Nat):Int):=rfl;have v6:IntKind.u32.wrap ((x%1000:Nat):Int)=((x%1000:Nat):Int):=by rw [cJ]<;>omega
    have v7:IntKind.u32.wrap (((x%1000:Nat):Int)*10)=((x%1000*10:Nat):Int):=by rw [cJ]<;>omega
    have q9:x / 1000≤9:=by omega
    generalize x%1000*10=x' at *
    generalize ((x%1000:Nat):Int)=r at *
    generalize x / 1000=q at *
    have v2:IntKind.u8.wrap (q:Int)=q:=by rw [dx]<;>omega
    have v3:IntKind.u8.wrap (48+(q:Int))=48+q:=by rw [dx]<;>omega
    have v4:((48:Int)+(q:Int)).toNat=48+q:=by omega
    clear hK h5 h3;have vD:48+UInt8.ofNat q=UInt8.ofNat (48+q):=by simp
    generalize UInt8.ofNat (48+q)=D at *
    simp [xp,xp',v1,v2,v3,v4,v5,v6,v7,l1,l2];refine fin _ ?_;apply ae<;>simp [v1,v2,v3,v4,v5,v6,v7,vD]
  ·exact ⟨by simp only;omega,eI _,rfl,by simp only;omega,hR.symm,by simp only;omega⟩
  ·apply ae<;>simp
 ·rw [if_neg c0] at hR;have c0':(0:Int)<((p%10000:Nat):Int):=by omega
  have c0'':0<p%10000:=by omega
  generalize p%10000=pr at *
  have ll:hd.length≤9223372036854775806:=by omega
  simp [P3,c',w1,w2,w3,w4];apply ab BS;simp;apply ab DG;simp [w3,w4,c0',c0'',ll];refine aP (α:=List UInt8×Nat×Nat) (fun y=>⟨[(3,.str y.1),(4,.int .u32 y.2.1)],[],[]⟩) (fun y=>y.2.1<10000∧y.2.2≤4∧y.2.1%U9 y.2.2=0∧y.1.length≤100∧y.1++(fO 1000 y.2.2 y.2.1++[37])=R∧y.1.length+y.2.2≤100) (fun y=>y.2.2) ?_ (hd++[46],pr,4) ?_ ?_
  ·rintro K ⟨cur,x,f⟩ hK ⟨h1,h2,h3,h4,h5,h6⟩;simp only at h1 h2 h3 h4 h5 h6;by_cases x0:x=0
   ·subst x0;have e0:fO 1000 f 0=[]:=by cases f<;>rfl
    rw [e0,bR] at h5;subst h5;have l1:cur.length+1≤9223372036854775807:=by omega
    have l2:cur.length≤9223372036854775806:=by omega
    clear hK;simp [l1,l2]
   ·obtain ⟨f,rfl⟩: ∃g,f=g+1:=by
     refine ⟨f - 1,?_⟩;rcases Nat.eq_zero_or_pos f with hf|hf
     ·subst hf;have h3:x%10000=0:=h3;omega
     ·omega
    rw [fO,if_neg x0] at h5;have fin:=fun σ' hσ=>hK (cur++[UInt8.ofNat (48+x / 1000)],x%1000*10,f) σ' ⟨by simp only;omega,by simp only;omega,by
     simp only;obtain rfl|rfl|rfl|rfl:f=0∨f=1∨f=2∨f=3:=by omega
     ·have h3:x%1000=0:=h3;show x%1000*10%10000=0;omega
     ·have h3:x%100=0:=h3;show x%1000*10%1000=0;omega
     ·have h3:x%10=0:=h3;show x%1000*10%100=0;omega
     ·show x%1000*10%10=0;omega,by simp only [cG,uc];omega,by rw [jq];exact h5,by simp only [cG,uc];omega⟩ (by simp only;omega) hσ
    have xp:(0:Int)<x:=by omega
    have xp':0<x:=by omega
    have l1:cur.length+1≤9223372036854775807:=by omega
    have l2:cur.length≤9223372036854775806:=by omega
    have v1:IntKind.u32.wrap ((x:Int) / 1000)=((x / 1000:Nat):Int):=by rw [cJ]<;>omega
    have v5:(x:Int).tmod 1000=((x%1000:Nat):Int):=rfl;have v6:IntKind.u32.wrap ((x%1000:Nat):Int)=((x%1000:Nat):Int):=by rw [cJ]<;>omega
    have v7:IntKind.u32.wrap (((x%1000:Nat):Int)*10)=((x%1000*10:Nat):Int):=by rw [cJ]<;>omega
    have q9:x / 1000≤9:=by omega
    generalize x%1000*10=x' at *
    generalize ((x%1000:Nat):Int)=r at *
    generalize x / 1000=q at *
    have v2:IntKind.u8.wrap (q:Int)=q:=by rw [dx]<;>omega
    have v3:IntKind.u8.wrap (48+(q:Int))=48+q:=by rw [dx]<;>omega
    have v4:((48:Int)+(q:Int)).toNat=48+q:=by omega
    clear hK h5 h3;have vD:48+UInt8.ofNat q=UInt8.ofNat (48+q):=by simp
    generalize UInt8.ofNat (48+q)=D at *
    simp [xp,xp',v1,v2,v3,v4,v5,v6,v7,l1,l2];refine fin _ ?_;apply ae<;>simp [v1,v2,v3,v4,v5,v6,v7,vD]
  ·exact ⟨bq,eI _,Nat.mod_one _,by simp only [cG,uc];omega,by rw [hR];exact jq _ _ _,by simp only [cG,uc];omega⟩
  ·apply ae<;>simp
theorem HI (n:Nat) (s:List UInt8) (h:0<n):bg n++s=if n / 10=0 then UInt8.ofNat (48+n%10)::s else bg (n / 10)++(UInt8.ofNat (48+n%10)::s):=by
 by_cases g:n<10
 ·rw [fZ g,if_pos (by omega),show n%10=n by omega];rfl
 ·rw [eY g,if_neg (by omega),jq];rfl
theorem gL (n:Nat) (hn:n≤253402300799):Sp Tryz.prog gl 106 [i6 n] (.str (bg n)):=by
 refine Rh rfl rfl ?_;obtain ⟨R,hR⟩: ∃R,R=bg n:=⟨_,rfl⟩;rw [←hR];have byte: ∀m:Nat,m≤253402300799→(m:Int).tmod 10=((m%10:Nat):Int)∧IntKind.i64.wrap ((m%10:Nat):Int)=((m%10:Nat):Int)∧IntKind.u8.wrap ((m%10:Nat):Int)=((m%10:Nat):Int)∧IntKind.u8.wrap (48+((m%10:Nat):Int))=48+((m%10:Nat):Int)∧
   ((48:Int)+((m%10:Nat):Int)).toNat=48+m%10∧IntKind.i64.wrap ((m:Int) / 10)=((m / 10:Nat):Int):=fun m hm=>by
  refine ⟨rfl,?_,?_,?_,?_,?_⟩
  ·rw [aj]<;>omega
  ·rw [dx]<;>omega
  ·rw [dx]<;>omega
  ·omega
  ·rw [aj]<;>omega
 have h0:(if n / 10=0 then [UInt8.ofNat (48+n%10)] else bg (n / 10)++[UInt8.ofNat (48+n%10)])=R:=by
  rw [hR];by_cases c:n<10
  ·rw [fZ c,if_pos (by omega),show n%10=n by omega]
  ·rw [eY c,if_neg (by omega)]
 obtain ⟨b1,b2,b3,b4,b5,b6⟩:=byte n hn;have hl:n / 10≤253402300799:=by omega
 have vD:48+UInt8.ofNat (n%10)=UInt8.ofNat (48+n%10):=by simp
 have RL:R.length≤100:=by
  rw [hR]
  have:=cP 19 n (by omega)
  omega
 clear hR;generalize UInt8.ofNat (48+n%10)=D0 at *
 generalize n%10=r0 at *
 generalize n / 10=q0 at *
 simp [OC,b1,b2,b3,b4,b5,b6,vD];refine aP (α:=List UInt8×Nat) (fun y=>⟨[(0,i6 y.2),(3,.str y.1)],[],[]⟩) (fun y=>y.2≤253402300799∧(if y.2=0 then y.1 else bg y.2++y.1)=R) (fun y=>y.2) ?_ ([D0],q0) ?_ ?_
 ·rintro K ⟨cur,m⟩ hK ⟨h1,h2⟩;simp only at h1 h2;by_cases m0:m=0
  ·subst m0;rw [if_pos rfl] at h2;subst h2;clear hK;simp
  ·rw [if_neg m0] at h2;have cl:cur.length≤100:=by
    rw [←h2,cG] at RL;omega
   rw [HI m cur (by omega)] at h2;have fin:=fun σ' hσ=>hK (UInt8.ofNat (48+m%10)::cur,m / 10) σ' ⟨by simp only;omega,h2⟩ (by simp only;omega) hσ
   obtain ⟨b1,b2,b3,b4,b5,b6⟩:=byte m h1;have vD:48+UInt8.ofNat (m%10)=UInt8.ofNat (48+m%10):=by simp
   have mp:(0:Int)<m:=by omega
   have mp':0<m:=by omega
   have l1:cur.length+1≤9223372036854775807:=by omega
   have l2:1+cur.length≤9223372036854775807:=by omega
   clear hK h2 byte;generalize UInt8.ofNat (48+m%10)=D at *
   generalize m%10=r at *
   generalize m / 10=q at *
   simp [mp,mp',b1,b2,b3,b4,b5,b6,vD,l1,l2];refine fin _ ?_;apply ae<;>simp [b1,b2,b3,b4,b5,b6,vD]
 ·exact ⟨hl,h0⟩
 ·apply ae<;>simp [b1,b2,b3,b4,b5,b6,vD]
def kE:List (Nat×UInt8):=[(604800,119),(86400,100),(3600,104),(60,109),(1,115)]
def lu:List (Nat×UInt8)→Nat→List UInt8
 |[],_=>[]
 |(u,c)::l,n=>if u≤n then bg (n / u)++(c::lu l (n%u)) else lu l n
def pz (n:Nat):List UInt8:=if n=0 then [48,115] else lu kE n
theorem oe: ∀(l:List (Nat×UInt8)) (n:Nat),n≤253402300799→(lu l n).length≤21*l.length
 |[],n,h=>by simp [lu]
 |(u,c)::l,n,h=>by
  rw [lu];split
  ·have h1:n / u≤n:=Nat.div_le_self _ _;have h2:n%u≤n:=Nat.mod_le _ _;have a:=oe l (n%u) (by omega);have b:=cP 19 (n / u) (by omega);simp only [cG,em];omega
  ·have a:=oe l n h;simp only [em];omega
theorem qX (n:Nat):lu kE n=[]↔n=0:=by
 constructor
 ·intro h;unfold kE at h;simp only [lu] at h;repeat' (split at h)
  all_goals first|omega|(simp at h)
 ·rintro rfl;rfl
theorem wS (n:Nat) (hn:n≤253402300799):Sp Tryz.prog gl 74 [i6 n] (.str (pz n)):=by
 refine VH rfl rfl ?_;have g1: ¬(n:Int)<0:=by omega
 have g2: ¬(253402300799:Int)<n:=by omega
 have RL:=oe kE n hn;have RN:=qX n;have hl5:kE.length=5:=rfl;unfold pz;obtain ⟨R,hR⟩: ∃R,R=lu kE n:=⟨_,rfl⟩;rw [←hR] at RL RN ⊢;rw [hl5] at RL;simp [UR,g1,g2];refine aP (α:=Nat×List UInt8×Nat) (fun y=>⟨[(0,i6 y.2.2),(3,.str y.2.1),(4,.str [119,100,104,109,115]),(5,i6 y.1)],[],[]⟩) (fun y=>y.1≤5∧y.2.2≤253402300799∧y.2.1++lu (kE.drop y.1) y.2.2=R) (fun y=>5 - y.1) ?_ (0,[],n) ?_ ?_
 ·rintro K ⟨i,s,m⟩ hK ⟨h1,h2,h3⟩;simp only at h1 h2 h3;have sl:s.length≤105:=by
   rw [←h3,cG] at RL;omega
  obtain rfl|rfl|rfl|rfl|rfl|rfl:i=0∨i=1∨i=2∨i=3∨i=4∨i=5:=by omega
  ·have U:=f8 119;rw [show aY 119=604800 from rfl] at U;rw [show kE.drop 0=(604800,119)::kE.drop 1 from rfl,lu] at h3;have fin:=fun s' m' b1 b2 σ' hσ=>hK (1,s',m') σ' ⟨by omega,b1,b2⟩ (by simp only;omega) hσ
   have wi:IntKind.i64.wrap 1=1:=by decide
   clear hK;by_cases gu:604800≤m
   ·have gu':(604800:Int)≤m:=by omega
    rw [if_pos gu] at h3;have DG:=gL (m / 604800) (by omega);have dl:=cP 19 (m / 604800) (by omega);have d0:(m:Int).tdiv 604800=((m / 604800:Nat):Int):=rfl;have d1:IntKind.i64.wrap ((m:Int) / 604800)=((m / 604800:Nat):Int):=by rw [aj]<;>omega
    have d2:(m:Int).tmod 604800=((m%604800:Nat):Int):=rfl;have d3:IntKind.i64.wrap ((m%604800:Nat):Int)=((m%604800:Nat):Int):=by rw [aj]<;>omega
    have d4:IntKind.i64.wrap ((m / 604800:Nat):Int)=((m / 604800:Nat):Int):=by rw [aj]<;>omega
    have d5:IntKind.i64.wrap ((m:Int)%604800)=((m%604800:Nat):Int):=by rw [aj]<;>omega
    have mb:m%604800≤253402300799:=by omega
    have fin:=fin (s++(bg (m / 604800)++[119])) (m%604800) mb (by rw [←h3];simp);generalize bg (m / 604800)=D at *
    generalize m / 604800=q at *
    generalize m%604800=r at *
    have l1:s.length+D.length≤9223372036854775807:=by omega
    have l2:s.length+(D.length+1)≤9223372036854775807:=by omega
    have l3:s.length+D.length+1≤9223372036854775807:=by omega
    have l4:s.length+D.length≤9223372036854775806:=by omega
    simp;apply ab U;simp [gu,gu',d0,d1,d2,d3,d4,d5];apply ab DG;simp [l1,l2,l3,l4,wi];refine fin _ ?_;apply ae<;>simp [wi,d0,d1,d2,d3,d4,d5]
   ·have gu': ¬(604800:Int)≤m:=by omega
    rw [if_neg gu] at h3;have fin:=fin s m h2 h3;simp;apply ab U;simp [gu,gu'];refine fin _ ?_;apply ae<;>simp [wi]
  ·have U:=f8 100;rw [show aY 100=86400 from rfl] at U;rw [show kE.drop 1=(86400,100)::kE.drop 2 from rfl,lu] at h3;have fin:=fun s' m' b1 b2 σ' hσ=>hK (2,s',m') σ' ⟨by omega,b1,b2⟩ (by simp only;omega) hσ
   have wi:IntKind.i64.wrap 2=2:=by decide
   clear hK;by_cases gu:86400≤m
   ·have gu':(86400:Int)≤m:=by omega
    rw [if_pos gu] at h3;have DG:=gL (m / 86400) (by omega);have dl:=cP 19 (m / 86400) (by omega);have d0:(m:Int).tdiv 86400=((m / 86400:Nat):Int):=rfl;have d1:IntKind.i64.wrap ((m:Int) / 86400)=((m / 86400:Nat):Int):=by rw [aj]<;>omega
    have d2:(m:Int).tmod 86400=((m%86400:Nat):Int):=rfl;have d3:IntKind.i64.wrap ((m%86400:Nat):Int)=((m%86400:Nat):Int):=by rw [aj]<;>omega
    have d4:IntKind.i64.wrap ((m / 86400:Nat):Int)=((m / 86400:Nat):Int):=by rw [aj]<;>omega
    have d5:IntKind.i64.wrap ((m:Int)%86400)=((m%86400:Nat):Int):=by rw [aj]<;>omega
    have mb:m%86400≤253402300799:=by omega
    have fin:=fin (s++(bg (m / 86400)++[100])) (m%86400) mb (by rw [←h3];simp);generalize bg (m / 86400)=D at *
    generalize m / 86400=q at *
    generalize m%86400=r at *
    have l1:s.length+D.length≤9223372036854775807:=by omega
    have l2:s.length+(D.length+1)≤9223372036854775807:=by omega
    have l3:s.length+D.length+1≤9223372036854775807:=by omega
    have l4:s.length+D.length≤9223372036854775806:=by omega
    simp;apply ab U;simp [gu,gu',d0,d1,d2,d3,d4,d5];apply ab DG;simp [l1,l2,l3,l4,wi];refine fin _ ?_;apply ae<;>simp [wi,d0,d1,d2,d3,d4,d5]
   ·have gu': ¬(86400:Int)≤m:=by omega
    rw [if_neg gu] at h3;have fin:=fin s m h2 h3;simp;apply ab U;simp [gu,gu'];refine fin _ ?_;apply ae<;>simp [wi]
  ·have U:=f8 104;rw [show aY 104=3600 from rfl] at U;rw [show kE.drop 2=(3600,104)::kE.drop 3 from rfl,lu] at h3;have fin:=fun s' m' b1 b2 σ' hσ=>hK (3,s',m') σ' ⟨by omega,b1,b2⟩ (by simp only;omega) hσ
   have wi:IntKind.i64.wrap 3=3:=by decide
   clear hK;by_cases gu:3600≤m
   ·have gu':(3600:Int)≤m:=by omega
    rw [if_pos gu] at h3;have DG:=gL (m / 3600) (by omega);have dl:=cP 19 (m / 3600) (by omega);have d0:(m:Int).tdiv 3600=((m / 3600:Nat):Int):=rfl;have d1:IntKind.i64.wrap ((m:Int) / 3600)=((m / 3600:Nat):Int):=by rw [aj]<;>omega
    have d2:(m:Int).tmod 3600=((m%3600:Nat):Int):=rfl;have d3:IntKind.i64.wrap ((m%3600:Nat):Int)=((m%3600:Nat):Int):=by rw [aj]<;>omega
    have d4:IntKind.i64.wrap ((m / 3600:Nat):Int)=((m / 3600:Nat):Int):=by rw [aj]<;>omega
    have d5:IntKind.i64.wrap ((m:Int)%3600)=((m%3600:Nat):Int):=by rw [aj]<;>omega
    have mb:m%3600≤253402300799:=by omega
    have fin:=fin (s++(bg (m / 3600)++[104])) (m%3600) mb (by rw [←h3];simp);generalize bg (m / 3600)=D at *
    generalize m / 3600=q at *
    generalize m%3600=r at *
    have l1:s.length+D.length≤9223372036854775807:=by omega
    have l2:s.length+(D.length+1)≤9223372036854775807:=by omega
    have l3:s.length+D.length+1≤9223372036854775807:=by omega
    have l4:s.length+D.length≤9223372036854775806:=by omega
    simp;apply ab U;simp [gu,gu',d0,d1,d2,d3,d4,d5];apply ab DG;simp [l1,l2,l3,l4,wi];refine fin _ ?_;apply ae<;>simp [wi,d0,d1,d2,d3,d4,d5]
   ·have gu': ¬(3600:Int)≤m:=by omega
    rw [if_neg gu] at h3;have fin:=fin s m h2 h3;simp;apply ab U;simp [gu,gu'];refine fin _ ?_;apply ae<;>simp [wi]
  ·have U:=f8 109;rw [show aY 109=60 from rfl] at U;rw [show kE.drop 3=(60,109)::kE.drop 4 from rfl,lu] at h3;have fin:=fun s' m' b1 b2 σ' hσ=>hK (4,s',m') σ' ⟨by omega,b1,b2⟩ (by simp only;omega) hσ
   have wi:IntKind.i64.wrap 4=4:=by decide
   clear hK;by_cases gu:60≤m
   ·have gu':(60:Int)≤m:=by omega
    rw [if_pos gu] at h3;have DG:=gL (m / 60) (by omega);have dl:=cP 19 (m / 60) (by omega);have d0:(m:Int).tdiv 60=((m / 60:Nat):Int):=rfl;have d1:IntKind.i64.wrap ((m:Int) / 60)=((m / 60:Nat):Int):=by rw [aj]<;>omega
    have d2:(m:Int).tmod 60=((m%60:Nat):Int):=rfl;have d3:IntKind.i64.wrap ((m%60:Nat):Int)=((m%60:Nat):Int):=by rw [aj]<;>omega
    have d4:IntKind.i64.wrap ((m / 60:Nat):Int)=((m / 60:Nat):Int):=by rw [aj]<;>omega
    have d5:IntKind.i64.wrap ((m:Int)%60)=((m%60:Nat):Int):=by rw [aj]<;>omega
    have mb:m%60≤253402300799:=by omega
    have fin:=fin (s++(bg (m / 60)++[109])) (m%60) mb (by rw [←h3];simp);generalize bg (m / 60)=D at *
    generalize m / 60=q at *
    generalize m%60=r at *
    have l1:s.length+D.length≤9223372036854775807:=by omega
    have l2:s.length+(D.length+1)≤9223372036854775807:=by omega
    have l3:s.length+D.length+1≤9223372036854775807:=by omega
    have l4:s.length+D.length≤9223372036854775806:=by omega
    simp;apply ab U;simp [gu,gu',d0,d1,d2,d3,d4,d5];apply ab DG;simp [l1,l2,l3,l4,wi];refine fin _ ?_;apply ae<;>simp [wi,d0,d1,d2,d3,d4,d5]
   ·have gu': ¬(60:Int)≤m:=by omega
    rw [if_neg gu] at h3;have fin:=fin s m h2 h3;simp;apply ab U;simp [gu,gu'];refine fin _ ?_;apply ae<;>simp [wi]
  ·have U:=f8 115;rw [show aY 115=1 from rfl] at U;rw [show kE.drop 4=(1,115)::kE.drop 5 from rfl,lu] at h3;have fin:=fun s' m' b1 b2 σ' hσ=>hK (5,s',m') σ' ⟨by omega,b1,b2⟩ (by simp only;omega) hσ
   have wi:IntKind.i64.wrap 5=5:=by decide
   clear hK;by_cases gu:1≤m
   ·have gu':(1:Int)≤m:=by omega
    rw [if_pos gu] at h3;have DG:=gL (m / 1) (by omega);have dl:=cP 19 (m / 1) (by omega);have d0:(m:Int).tdiv 1=((m / 1:Nat):Int):=rfl;have d1:IntKind.i64.wrap ((m:Int) / 1)=((m / 1:Nat):Int):=by rw [aj]<;>omega
    have d2:(m:Int).tmod 1=((m%1:Nat):Int):=rfl;have d3:IntKind.i64.wrap ((m%1:Nat):Int)=((m%1:Nat):Int):=by rw [aj]<;>omega
    have d4:IntKind.i64.wrap ((m / 1:Nat):Int)=((m / 1:Nat):Int):=by rw [aj]<;>omega
    have d5:IntKind.i64.wrap ((m:Int)%1)=((m%1:Nat):Int):=by rw [aj]<;>omega
    have mb:m%1≤253402300799:=by omega
    have fin:=fin (s++(bg (m / 1)++[115])) (m%1) mb (by rw [←h3];simp);have z:m%1=0:=Nat.mod_one _;generalize bg (m / 1)=D at *
    generalize m / 1=q at *
    generalize m%1=r at *
    have l1:s.length+D.length≤9223372036854775807:=by omega
    have l2:s.length+(D.length+1)≤9223372036854775807:=by omega
    have l3:s.length+D.length+1≤9223372036854775807:=by omega
    have l4:s.length+D.length≤9223372036854775806:=by omega
    simp;apply ab U;simp [gu,gu',d0,d1,d2,d3,d4,d5];apply ab DG;simp [l1,l2,l3,l4,wi];refine fin _ ?_;apply ae<;>simp [wi,d0,d1,d2,d3,d4,d5,z]
   ·have gu': ¬(1:Int)≤m:=by omega
    rw [if_neg gu] at h3;have fin:=fin s m h2 h3;simp;apply ab U;simp [gu,gu'];refine fin _ ?_;apply ae<;>simp [wi]
  ·rw [show kE.drop 5=[] from rfl,lu,nA] at h3;subst h3;clear hK;by_cases e:s=[]
   ·have n0:=RN.1 e;rw [if_pos n0];subst e;simp
   ·have en:(s==[])=false:=cI.2 e;rw [if_neg (fun h=>e (RN.2 h))];simp [e,en]
 ·exact ⟨by omega,hn,by rw [hR];rfl⟩
 ·apply ae<;>simp
open Go.Shelf
def Fg:List UInt8:=[119,100,104,109,115]
theorem M5:hZ Tryz.prog 69 69 2:=by unfold hZ;kernel_rfl
theorem uA (n:Int):Sp Tryz.prog gl 130 [i6 n] (.bool (decide (0≤n)&&decide (n≤253402300799))):=by
 refine Rs rfl rfl ?_;by_cases c:0≤n
 ·by_cases c2:n≤253402300799
  ·simp [JP,c,c2]
  ·simp [JP,c,c2]
 ·simp [JP,c]
theorem B3:bU Fg 0=(119,1):=by rw [cS Fg 0 (by decide)];rfl
theorem B4:bU Fg 1=(100,1):=by rw [cS Fg 1 (by decide)];rfl
theorem B5:bU Fg 2=(104,1):=by rw [cS Fg 2 (by decide)];rfl
theorem B6:bU Fg 3=(109,1):=by rw [cS Fg 3 (by decide)];rfl
theorem B7:bU Fg 4=(115,1):=by rw [cS Fg 4 (by decide)];rfl
theorem uB (n:Nat) (hn:n≤253402300799):Sp Tryz.prog gl 96 [i6 n] (.str (pz n)):=by
 refine V0 rfl rfl ?_;have RG:=uA (n:Int);rw [io (show (0:Int)≤n by omega),io (show (n:Int)≤253402300799 by omega)] at RG;unfold pz;by_cases c0:n=0
 ·have c0':(n:Int)=0:=by omega
  rw [if_pos c0];rw [c0'] at RG ⊢;simp [Rb];apply ab RG;simp
 have c0':((n:Int)==0)=false:=by simp;omega
 rw [if_neg c0];have RL:=oe kE n hn;have RN:=qX n;have hl5:kE.length=5:=rfl;obtain ⟨R,hR⟩: ∃R,R=lu kE n:=⟨_,rfl⟩;rw [←hR] at RL RN ⊢;rw [hl5] at RL;have RN':R≠[]:=fun e=>c0 (RN.1 e)
 have WS:=fun (d:Nat) (hb:(Id.n 3).isNw d=false) (c0:AV) hc (l s:List UInt8) hl=>DR (d:=d) (b:= .n 3) rfl hb (c0:=c0) hc l s hl
 have WR:=fun (d:Nat) (hb:(Id.n 3).isNw d=false) (l:List UInt8) (r:Nat) hr h hl=>oT (d:=d) (b:= .n 3) rfl hb M5 (c0:= .ptr (.n 3) 0) (.inr rfl) [] l r hr h hl
 have ST:=fun (d:Nat) (hb:(Id.n 3).isNw d=false) (c0:AV)=>DS (d:=d) (b:= .n 3) rfl hb (c0:=c0) R RN'
 have wdl:Fg.length=5:=rfl;have bn:ag []=[]:=rfl;simp [Rb];apply ab RG;simp [c0'];rw [show ([119,100,104,109,115]:List UInt8)=Fg from rfl];obtain ⟨WD,hWD⟩: ∃WD,WD=Fg:=⟨_,rfl⟩;have wdl':WD.length=5:=by rw [hWD];rfl
 have ra0:bU WD 0=(119,1):=by rw [hWD];exact B3
 have ra1:bU WD 1=(100,1):=by rw [hWD];exact B4
 have ra2:bU WD 2=(104,1):=by rw [hWD];exact B5
 have ra3:bU WD 3=(109,1):=by rw [hWD];exact B6
 have ra4:bU WD 4=(115,1):=by rw [hWD];exact B7
 rw [←hWD];clear hWD;refine aP (α:=Nat×AV×List UInt8×Nat) (fun y=>⟨[(0,i6 y.2.2.2),(3,.ptr (.n 3) 0),(14,.itp 14)],[(.n 3,[y.2.1,.sl (ag y.2.2.1)]),(.it 14,[.itr WD y.1])],[(.b (.n 3) 1,bk 5)]⟩)
  (fun y=>y.1≤5∧(y.2.1= .nilT (.n 3) 69 2∨y.2.1= .ptr (.n 3) 0)∧y.2.2.2≤253402300799∧y.2.2.1++lu (kE.drop y.1) y.2.2.2=R) (fun y=>5 - y.1) ?_ (0,.nilT (.n 3) 69 2,[],n) ?_ ?_
 ·rintro K ⟨i,c1,s,m⟩ hK ⟨h1,hc1,h2,h3⟩;simp only at h1 hc1 h2 h3;have sl:s.length≤105:=by
   rw [←h3,cG] at RL;omega
  obtain rfl|rfl|rfl|rfl|rfl|rfl:i=0∨i=1∨i=2∨i=3∨i=4∨i=5:=by omega
  ·have UN:=gD 119;rw [show aY 119=604800 from rfl] at UN;rw [show kE.drop 0=(604800,119)::kE.drop 1 from rfl,lu] at h3;have fin:=fun c' s' m' b0 b1 b2 σ' hσ=>hK (1,c',s',m') σ' ⟨by omega,b0,b1,b2⟩ (by simp only;omega) hσ
   clear hK ST RL RN;have d0:(m:Int).tdiv 604800=((m / 604800:Nat):Int):=rfl;have d1:IntKind.i64.wrap ((m:Int) / 604800)=((m / 604800:Nat):Int):=by rw [aj]<;>omega
   have d2:(m:Int).tmod 604800=((m%604800:Nat):Int):=rfl;have d3:IntKind.i64.wrap ((m%604800:Nat):Int)=((m%604800:Nat):Int):=by rw [aj]<;>omega
   have d4:IntKind.i64.wrap ((m / 604800:Nat):Int)=((m / 604800:Nat):Int):=by rw [aj]<;>omega
   have d5:IntKind.i64.wrap ((m:Int)%604800)=((m%604800:Nat):Int):=by rw [aj]<;>omega
   have mb:m%604800≤253402300799:=by have:=Nat.mod_le m 604800;omega
   by_cases gu:604800≤m
   ·rw [if_pos gu] at h3;have FI:=jO (m / 604800) (by omega);have dl:=cP 19 (m / 604800) (by omega);have gq:0<m / 604800:=by omega
    have gq':(0:Int)<((m / 604800:Nat):Int):=by omega
    have W1:=fun d hd=>WS d hd c1 hc1 s (bg (m / 604800)) (by omega)
    have W2:=fun d hd=>WR d hd (s++bg (m / 604800)) 119 (by left;decide) (by decide) (by rw [cG];omega)
    rw [show cX 119=[119] from rfl] at W2;have fin:=fin (.ptr (.n 3) 0) (s++bg (m / 604800)++[119]) (m%604800) (.inr rfl) mb (by rw [←h3];simp);clear h3 WS WR hc1;generalize bg (m / 604800)=D at *
    generalize m / 604800=q at *
    generalize m%604800=r at *
    simp [ra0,wdl'];apply ab UN;simp [gq,gq',d0,d1,d2,d3,d4,d5];apply ab FI;simp;refine aB _ _ (W1 _ rfl) ?_;simp;refine aB _ _ (W2 _ rfl) ?_;simp;apply ab UN;simp [d0,d1,d2,d3,d4,d5];refine fin _ ?_;apply ae<;>simp [d0,d1,d2,d3,d4,d5]
   ·rw [if_neg gu] at h3;have gq:m / 604800=0:=by rw [Nat.div_eq_zero_iff];omega
    have gm:m%604800=m:=nE (by omega);rw [gq] at d0 d1 d4;rw [gm] at d2 d3 d5;have fin:=fin c1 s m hc1 h2 h3;clear h3 WS WR;rcases hc1 with rfl|rfl
    ·simp [ra0,wdl'];apply ab UN;simp [d0,d1,d2,d3,d4,d5];apply ab UN;simp [d0,d1,d2,d3,d4,d5];refine fin _ ?_;apply ae<;>simp [d0,d1,d2,d3,d4,d5]
    ·simp [ra0,wdl'];apply ab UN;simp [d0,d1,d2,d3,d4,d5];apply ab UN;simp [d0,d1,d2,d3,d4,d5];refine fin _ ?_;apply ae<;>simp [d0,d1,d2,d3,d4,d5]
  ·have UN:=gD 100;rw [show aY 100=86400 from rfl] at UN;rw [show kE.drop 1=(86400,100)::kE.drop 2 from rfl,lu] at h3;have fin:=fun c' s' m' b0 b1 b2 σ' hσ=>hK (2,c',s',m') σ' ⟨by omega,b0,b1,b2⟩ (by simp only;omega) hσ
   clear hK ST RL RN;have d0:(m:Int).tdiv 86400=((m / 86400:Nat):Int):=rfl;have d1:IntKind.i64.wrap ((m:Int) / 86400)=((m / 86400:Nat):Int):=by rw [aj]<;>omega
   have d2:(m:Int).tmod 86400=((m%86400:Nat):Int):=rfl;have d3:IntKind.i64.wrap ((m%86400:Nat):Int)=((m%86400:Nat):Int):=by rw [aj]<;>omega
   have d4:IntKind.i64.wrap ((m / 86400:Nat):Int)=((m / 86400:Nat):Int):=by rw [aj]<;>omega
   have d5:IntKind.i64.wrap ((m:Int)%86400)=((m%86400:Nat):Int):=by rw [aj]<;>omega
   have mb:m%86400≤253402300799:=by have:=Nat.mod_le m 86400;omega
   by_cases gu:86400≤m
   ·rw [if_pos gu] at h3;have FI:=jO (m / 86400) (by omega);have dl:=cP 19 (m / 86400) (by omega);have gq:0<m / 86400:=by omega
    have gq':(0:Int)<((m / 86400:Nat):Int):=by omega
    have W1:=fun d hd=>WS d hd c1 hc1 s (bg (m / 86400)) (by omega)
    have W2:=fun d hd=>WR d hd (s++bg (m / 86400)) 100 (by left;decide) (by decide) (by rw [cG];omega)
    rw [show cX 100=[100] from rfl] at W2;have fin:=fin (.ptr (.n 3) 0) (s++bg (m / 86400)++[100]) (m%86400) (.inr rfl) mb (by rw [←h3];simp);clear h3 WS WR hc1;generalize bg (m / 86400)=D at *
    generalize m / 86400=q at *
    generalize m%86400=r at *
    simp [ra1,wdl'];apply ab UN;simp [gq,gq',d0,d1,d2,d3,d4,d5];apply ab FI;simp;refine aB _ _ (W1 _ rfl) ?_;simp;refine aB _ _ (W2 _ rfl) ?_;simp;apply ab UN;simp [d0,d1,d2,d3,d4,d5];refine fin _ ?_;apply ae<;>simp [d0,d1,d2,d3,d4,d5]
   ·rw [if_neg gu] at h3;have gq:m / 86400=0:=by rw [Nat.div_eq_zero_iff];omega
    have gm:m%86400=m:=nE (by omega);rw [gq] at d0 d1 d4;rw [gm] at d2 d3 d5;have fin:=fin c1 s m hc1 h2 h3;clear h3 WS WR;rcases hc1 with rfl|rfl
    ·simp [ra1,wdl'];apply ab UN;simp [d0,d1,d2,d3,d4,d5];apply ab UN;simp [d0,d1,d2,d3,d4,d5];refine fin _ ?_;apply ae<;>simp [d0,d1,d2,d3,d4,d5]
    ·simp [ra1,wdl'];apply ab UN;simp [d0,d1,d2,d3,d4,d5];apply ab UN;simp [d0,d1,d2,d3,d4,d5];refine fin _ ?_;apply ae<;>simp [d0,d1,d2,d3,d4,d5]
  ·have UN:=gD 104;rw [show aY 104=3600 from rfl] at UN;rw [show kE.drop 2=(3600,104)::kE.drop 3 from rfl,lu] at h3;have fin:=fun c' s' m' b0 b1 b2 σ' hσ=>hK (3,c',s',m') σ' ⟨by omega,b0,b1,b2⟩ (by simp only;omega) hσ
   clear hK ST RL RN;have d0:(m:Int).tdiv 3600=((m / 3600:Nat):Int):=rfl;have d1:IntKind.i64.wrap ((m:Int) / 3600)=((m / 3600:Nat):Int):=by rw [aj]<;>omega
   have d2:(m:Int).tmod 3600=((m%3600:Nat):Int):=rfl;have d3:IntKind.i64.wrap ((m%3600:Nat):Int)=((m%3600:Nat):Int):=by rw [aj]<;>omega
   have d4:IntKind.i64.wrap ((m / 3600:Nat):Int)=((m / 3600:Nat):Int):=by rw [aj]<;>omega
   have d5:IntKind.i64.wrap ((m:Int)%3600)=((m%3600:Nat):Int):=by rw [aj]<;>omega
   have mb:m%3600≤253402300799:=by have:=Nat.mod_le m 3600;omega
   by_cases gu:3600≤m
   ·rw [if_pos gu] at h3;have FI:=jO (m / 3600) (by omega);have dl:=cP 19 (m / 3600) (by omega);have gq:0<m / 3600:=by omega
    have gq':(0:Int)<((m / 3600:Nat):Int):=by omega
    have W1:=fun d hd=>WS d hd c1 hc1 s (bg (m / 3600)) (by omega)
    have W2:=fun d hd=>WR d hd (s++bg (m / 3600)) 104 (by left;decide) (by decide) (by rw [cG];omega)
    rw [show cX 104=[104] from rfl] at W2;have fin:=fin (.ptr (.n 3) 0) (s++bg (m / 3600)++[104]) (m%3600) (.inr rfl) mb (by rw [←h3];simp);clear h3 WS WR hc1;generalize bg (m / 3600)=D at *
    generalize m / 3600=q at *
    generalize m%3600=r at *
    simp [ra2,wdl'];apply ab UN;simp [gq,gq',d0,d1,d2,d3,d4,d5];apply ab FI;simp;refine aB _ _ (W1 _ rfl) ?_;simp;refine aB _ _ (W2 _ rfl) ?_;simp;apply ab UN;simp [d0,d1,d2,d3,d4,d5];refine fin _ ?_;apply ae<;>simp [d0,d1,d2,d3,d4,d5]
   ·rw [if_neg gu] at h3;have gq:m / 3600=0:=by rw [Nat.div_eq_zero_iff];omega
    have gm:m%3600=m:=nE (by omega);rw [gq] at d0 d1 d4;rw [gm] at d2 d3 d5;have fin:=fin c1 s m hc1 h2 h3;clear h3 WS WR;rcases hc1 with rfl|rfl
    ·simp [ra2,wdl'];apply ab UN;simp [d0,d1,d2,d3,d4,d5];apply ab UN;simp [d0,d1,d2,d3,d4,d5];refine fin _ ?_;apply ae<;>simp [d0,d1,d2,d3,d4,d5]
    ·simp [ra2,wdl'];apply ab UN;simp [d0,d1,d2,d3,d4,d5];apply ab UN;simp [d0,d1,d2,d3,d4,d5];refine fin _ ?_;apply ae<;>simp [d0,d1,d2,d3,d4,d5]
  ·have UN:=gD 109;rw [show aY 109=60 from rfl] at UN;rw [show kE.drop 3=(60,109)::kE.drop 4 from rfl,lu] at h3;have fin:=fun c' s' m' b0 b1 b2 σ' hσ=>hK (4,c',s',m') σ' ⟨by omega,b0,b1,b2⟩ (by simp only;omega) hσ
   clear hK ST RL RN;have d0:(m:Int).tdiv 60=((m / 60:Nat):Int):=rfl;have d1:IntKind.i64.wrap ((m:Int) / 60)=((m / 60:Nat):Int):=by rw [aj]<;>omega
   have d2:(m:Int).tmod 60=((m%60:Nat):Int):=rfl;have d3:IntKind.i64.wrap ((m%60:Nat):Int)=((m%60:Nat):Int):=by rw [aj]<;>omega
   have d4:IntKind.i64.wrap ((m / 60:Nat):Int)=((m / 60:Nat):Int):=by rw [aj]<;>omega
   have d5:IntKind.i64.wrap ((m:Int)%60)=((m%60:Nat):Int):=by rw [aj]<;>omega
   have mb:m%60≤253402300799:=by have:=Nat.mod_le m 60;omega
   by_cases gu:60≤m
   ·rw [if_pos gu] at h3;have FI:=jO (m / 60) (by omega);have dl:=cP 19 (m / 60) (by omega);have gq:0<m / 60:=by omega
    have gq':(0:Int)<((m / 60:Nat):Int):=by omega
    have W1:=fun d hd=>WS d hd c1 hc1 s (bg (m / 60)) (by omega)
    have W2:=fun d hd=>WR d hd (s++bg (m / 60)) 109 (by left;decide) (by decide) (by rw [cG];omega)
    rw [show cX 109=[109] from rfl] at W2;have fin:=fin (.ptr (.n 3) 0) (s++bg (m / 60)++[109]) (m%60) (.inr rfl) mb (by rw [←h3];simp);clear h3 WS WR hc1;generalize bg (m / 60)=D at *
    generalize m / 60=q at *
    generalize m%60=r at *
    simp [ra3,wdl'];apply ab UN;simp [gq,gq',d0,d1,d2,d3,d4,d5];apply ab FI;simp;refine aB _ _ (W1 _ rfl) ?_;simp;refine aB _ _ (W2 _ rfl) ?_;simp;apply ab UN;simp [d0,d1,d2,d3,d4,d5];refine fin _ ?_;apply ae<;>simp [d0,d1,d2,d3,d4,d5]
   ·rw [if_neg gu] at h3;have gq:m / 60=0:=by rw [Nat.div_eq_zero_iff];omega
    have gm:m%60=m:=nE (by omega);rw [gq] at d0 d1 d4;rw [gm] at d2 d3 d5;have fin:=fin c1 s m hc1 h2 h3;clear h3 WS WR;rcases hc1 with rfl|rfl
    ·simp [ra3,wdl'];apply ab UN;simp [d0,d1,d2,d3,d4,d5];apply ab UN;simp [d0,d1,d2,d3,d4,d5];refine fin _ ?_;apply ae<;>simp [d0,d1,d2,d3,d4,d5]
    ·simp [ra3,wdl'];apply ab UN;simp [d0,d1,d2,d3,d4,d5];apply ab UN;simp [d0,d1,d2,d3,d4,d5];refine fin _ ?_;apply ae<;>simp [d0,d1,d2,d3,d4,d5]
  ·have UN:=gD 115;rw [show aY 115=1 from rfl] at UN;rw [show kE.drop 4=(1,115)::kE.drop 5 from rfl,lu] at h3;have fin:=fun c' s' m' b0 b1 b2 σ' hσ=>hK (5,c',s',m') σ' ⟨by omega,b0,b1,b2⟩ (by simp only;omega) hσ
   clear hK ST RL RN;have d0:(m:Int).tdiv 1=((m / 1:Nat):Int):=rfl;have d1:IntKind.i64.wrap ((m:Int) / 1)=((m / 1:Nat):Int):=by rw [aj]<;>omega
   have d2:(m:Int).tmod 1=((m%1:Nat):Int):=rfl;have d3:IntKind.i64.wrap ((m%1:Nat):Int)=((m%1:Nat):Int):=by rw [aj]<;>omega
   have d4:IntKind.i64.wrap ((m / 1:Nat):Int)=((m / 1:Nat):Int):=by rw [aj]<;>omega
   have d5:IntKind.i64.wrap ((m:Int)%1)=((m%1:Nat):Int):=by rw [aj]<;>omega
   have mb:m%1≤253402300799:=by have:=Nat.mod_le m 1;omega
   by_cases gu:1≤m
   ·rw [if_pos gu] at h3;have FI:=jO (m / 1) (by omega);have dl:=cP 19 (m / 1) (by omega);have gq:0<m / 1:=by omega
    have gq':(0:Int)<((m / 1:Nat):Int):=by omega
    have W1:=fun d hd=>WS d hd c1 hc1 s (bg (m / 1)) (by omega)
    have W2:=fun d hd=>WR d hd (s++bg (m / 1)) 115 (by left;decide) (by decide) (by rw [cG];omega)
    rw [show cX 115=[115] from rfl] at W2;have fin:=fin (.ptr (.n 3) 0) (s++bg (m / 1)++[115]) (m%1) (.inr rfl) mb (by rw [←h3];simp);clear h3 WS WR hc1;generalize bg (m / 1)=D at *
    generalize m / 1=q at *
    generalize m%1=r at *
    simp [ra4,wdl'];apply ab UN;simp [gq,gq',d0,d1,d2,d3,d4,d5];apply ab FI;simp;refine aB _ _ (W1 _ rfl) ?_;simp;refine aB _ _ (W2 _ rfl) ?_;simp;apply ab UN;simp [d0,d1,d2,d3,d4,d5];refine fin _ ?_;apply ae<;>simp [d0,d1,d2,d3,d4,d5]
   ·rw [if_neg gu] at h3;have gq:m / 1=0:=by rw [Nat.div_eq_zero_iff];omega
    have gm:m%1=m:=nE (by omega);rw [gq] at d0 d1 d4;rw [gm] at d2 d3 d5;have fin:=fin c1 s m hc1 h2 h3;clear h3 WS WR;rcases hc1 with rfl|rfl
    ·simp [ra4,wdl'];apply ab UN;simp [d0,d1,d2,d3,d4,d5];apply ab UN;simp [d0,d1,d2,d3,d4,d5];refine fin _ ?_;apply ae<;>simp [d0,d1,d2,d3,d4,d5]
    ·simp [ra4,wdl'];apply ab UN;simp [d0,d1,d2,d3,d4,d5];apply ab UN;simp [d0,d1,d2,d3,d4,d5];refine fin _ ?_;apply ae<;>simp [d0,d1,d2,d3,d4,d5]
  ·rw [show kE.drop 5=[] from rfl,lu,nA] at h3;subst h3;have S1:=fun d hd=>ST d hd c1
   clear hK WS WR ST;simp [wdl'];refine aB _ _ (S1 _ rfl) ?_;simp
 ·exact ⟨iA _,.inl rfl,hn,by rw [hR];rfl⟩
 ·apply ae<;>simp [bn]
end Go.Ai
