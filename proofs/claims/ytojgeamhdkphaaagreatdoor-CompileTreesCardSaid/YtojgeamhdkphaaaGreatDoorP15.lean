/- P15: a part of the proof. Conditions: as each theorem says. -/
import Derived.Test.YtojgeamhdkphaaaGreatDoorP14
set_option maxHeartbeats 4000000
set_option linter.unusedSimpArgs false
set_option linter.unusedVariables false
set_option maxRecDepth 20000
namespace Go.Ai
open Go.Proofs
theorem GH (L:List It) (i:Nat) (h:i<L.length) (d:Nat):cL L d=cL (L.take i) d++(uP L[i] d++cL (L.drop (i+1)) d):=by
 conv=>lhs;rw[<-IQ i L,rb h]
 rw[pV,cL]
theorem Bk (L:List It) (i:Nat) (h:i<L.length) (d:Nat):cL (L.take (i+1)) d=cL (L.take i) d++uP L[i] d:=by
 rw[Am h,pV,cL,cL,BV]
theorem C3: ∀ {L:List It} {x:It},x∈L->mR x<=dz L
 |y::L,x,h=>by
  rw[dz];rcases o8.1 h with rfl|h
  ·exact Nat.le_max_left _ _
  ·exact jH (C3 h) (Nat.le_max_right _ _)
theorem Bl: ∀(N:Nat) (L:List It) (d:Nat),bg L<=N->bg L<=100000->d+dz L<=100000->Jr Tryz.prog gl 69 [.sl (ae L),i6 d] (cL L d):=by
 intro N;induction N with
 |zero=>
  intro L d h hc hd;have hL:L=[]:=by
   have:=fm L
   exact IN (by omega)
  subst hL;refine S9 rfl rfl ?_;intro l ts k hseg;simp only[Oa,rX,yV,Bb,ae,cL,vz,Ab,cT,dB];simp;refine CD (α:=Unit) (fun _=>⟨[(0,.sl []),(1,i6 d),(2,.yv l),(9,.sl []),(10,i6 0),(11,i6 0)],[],[]⟩) (fun _=>k) (fun _=>True) (fun _=>0) ?_ () trivial ?_
  ·rintro K x hK _;clear hK;simp only[rX,yV];simp[qu]
  ·apply aj<;>simp
 |succ N ih=>
  intro L d h hc hd;refine S9 rfl rfl ?_;intro l ts k hseg;have rl:=a8 L;have rat:=cp L;have ll:=fm L;obtain ⟨RN,hRN⟩: ∃RN,RN=(cL L d).length:=⟨_,rfl⟩;rw[<-hRN] at hseg ⊢;generalize ae L=RR at*;simp only[Oa,rX,yV,Bb,cT,dB];simp;refine CD (α:=Nat) (fun i=>⟨[(0,.sl RR),(1,i6 d),(2,.yv l),(9,.sl RR),(10,i6 RR.length),(11,i6 i)],[],[]⟩) (fun i=>k+(cL (L.take i) d).length) (fun i=>i<=L.length) (fun i=>L.length - i) ?_ 0 (gN _) ?_
  ·rintro K i hK h1;have t1:IntKind.i64.wrap ((i:Int)+1)=(i+1:Nat):=by rw[ay]<;>omega
   have t2:IntKind.i64.wrap ((d:Int)+1)=(d+1:Nat):=by rw[ay]<;>omega
   by_cases g:i<L.length
   ·have g':(i:Int)<RR.length:=by omega
    have gR:i<RR.length:=by omega
    have rai:=rat i g gR;have hx1:=jO (o9 g);have hx2:=C3 (o9 g);have fin:=fun σ' hσ=>hK (i+1) σ' (by omega) (by omega) hσ
    have hat:=GH L i g d;rw[Bk L i g] at fin;clear hK rat;generalize L[i]=x at*;obtain ⟨xn,ws,xb,ks,xl,xc⟩:=x;rw[iU] at hx1;rw[mR] at hx2;rw[It.row] at rai;rw[uP] at hat fin;have IH:=ih ks (d+1) (by omega) (by omega) (by omega);have hlen:RN=(cL (L.take i) d).length+(1+(cL ks (d+1)).length+(cL (L.drop (i+1)) d).length):=by
     rw[hRN,hat];simp[gJ];omega
    have s0:ts[k+(cL (L.take i) d).length]?=some [i6 d,.agg [.str xn,.sl (ws.map Tk.row),.bool xb,.sl (ae ks),i6 xl,i6 xc]]:=by
     rw[hseg _ (by omega),hat,List.getElem?_append_right (gp _),Nat.sub_self];rfl
    have s1: ∀q,q<(cL ks (d+1)).length->ts[k+(cL (L.take i) d).length+1+q]?=(cL ks (d+1))[q]?:=by
     intro q hq;rw[show k+(cL (L.take i) d).length+1+q=k+((cL (L.take i) d).length+1+q) from by omega,hseg _ (by omega),hat,List.getElem?_append_right (by omega),show (cL (L.take i) d).length+1+q - (cL (L.take i) d).length=q+1 from by omega,cT,List.getElem?_cons_succ,List.getElem?_append_left hq]
    rw[gJ,jG,<-Fb,M6 (cL ks (d+1)).length 1,<-Fb] at fin;clear hat hlen hseg;generalize ae ks=IR,ws.map Tk.row=WR,cL ks (d+1)=TK,(cL (L.take i) d).length=m at*;simp only[rX,yV,Bb];simp[g',gR,rai];simp only[LD,nk];simp;refine Js rfl rfl s0 rfl ?_ ?_
    ·simp only[nk];simp[t2];refine CE rfl IH rfl rfl rfl s1 rfl ?_ ?_
     ·simp only[nk,l9];simp;refine fin _ ?_;apply aj<;>simp[t1]
     ·simp only[nk,l9];simp[qu]
    ·simp only[nk];simp;refine DW rfl ?_;simp only[nk,l9];simp[qu]
   ·obtain rfl:i=L.length:=by omega
    have g': ¬(L.length:Int)<RR.length:=by omega
    clear hK;rw[pr] at*;rw[<-hRN];simp only[rX,yV];simp[g',qu]
  ·apply aj<;>simp
theorem D8 (L:List It) (b:Id) (hb:b.isIt=false) (hc:bg L<=100000) (hd:dz L<=90000):LB Tryz.prog gl 68 [.ptr b 0] [(b,[.sl (ae L)])] (cL L 1):=by
 refine UM hb rfl ?_;intro l;have D:=Bl _ L 1 (gp _) hc (by omega);generalize ae L=RR,cL L 1=TT at*;simp only[Pu,nk];simp;refine CE rfl D rfl rfl rfl (fun i hi=>by rw[mm]) rfl ?_ ?_
 ·simp only[l9];simp
 ·simp only[l9];simp
theorem D9 (L:List It) (d:Nat):bh Tryz.prog gl 39 d ⟨[.sl (ae L)],[],[]⟩ ⟨.fn 68 [.ptr (.nw d (.n 1)) 0],[(.nw d (.n 1),[.sl (ae L)])],[]⟩:=by
 refine Ug rfl ?_;generalize ae L=RR at*;simp only[aw,aW,aO,AV.mp,aX,Pl.mp];simp[Sq];apply am<;>simp
def Af (k:Int) (s:List UInt8) (n:Nat):Bool:=
 if k=1 then dH s&&decide (n=0)
 else if k=2 then gG (aC s 0)&&(decide ((aC s 0).length<=120)&&decide (n=0))
 else if k=3\/k=4 then s==[]
 else if k=5 then (s==[])&&decide (n<=1000000)
 else if k=6 then (s==[])&&decide (n<=253402300799)
 else if k=0\/k=7\/k=8\/k=9 then (s==[])&&decide (n=0)
 else false
def ji (k:Int) (s:List UInt8) (n:Nat) (l c:Int):AV:= .agg [i6 k,.str s,u n,i6 l,i6 c]
theorem GI (s:List UInt8) (n:Nat) (l c:Int) (hl:s.length<=900000):Sp Tryz.prog gl 70 [ji 1 s n l c] (.bool (dH s&&decide (n=0))):=by
 refine E3 rfl rfl ?_;have NM:=nA s hl;unfold ji;cases hb:dH s
 ·rw[hb] at NM;rw[jC];simp[m7];apply ab NM;simp
 ·rw[hb] at NM;rw[iX];by_cases n0:n=0
  ·subst n0;rw[jm (rfl:(0:Nat)=0)];simp[m7];apply ab NM;simp
  ·have n1:((n:Int)==0)=false:=bJ.2 (by omega);have n2: ¬(n:Int)=0:=by omega
   rw[ik n0];simp[m7];apply ab NM;simp[n1,n2]
theorem GJ (s:List UInt8) (n:Nat) (l c:Int) (hl:s.length<=900000):Sp Tryz.prog gl 70 [ji 2 s n l c] (.bool (gG (aC s 0)&&(decide ((aC s 0).length<=120)&&decide (n=0)))):=by
 refine E3 rfl rfl ?_;have GD:=s9 s hl;have RS:=qC s hl;unfold ji;generalize (aC s 0).length=rn at*;cases hb:gG (aC s 0)
 ·rw[hb] at GD;rw[jC];simp[m7];apply ab GD;simp
 rw[hb] at GD;rw[iX];by_cases hr:rn<=120
 ·have hr':(rn:Int)<=120:=by omega
  rw[jm hr,iX];by_cases n0:n=0
  ·subst n0;rw[jm (rfl:(0:Nat)=0)];simp[m7];apply ab GD;simp;apply ab RS;simp[hr,hr']
  ·have n1:((n:Int)==0)=false:=bJ.2 (by omega);have n2: ¬(n:Int)=0:=by omega
   rw[ik n0];simp[m7];apply ab GD;simp;apply ab RS;simp[hr,hr',n1,n2]
 ·have hr': ¬(rn:Int)<=120:=by omega
  rw[ik hr,jC];simp[m7];apply ab GD;simp;apply ab RS;simp[hr,hr']
theorem GK (k:Int) (hk:k=3) (s:List UInt8) (n:Nat) (l c:Int):Sp Tryz.prog gl 70 [ji k s n l c] (.bool (s==[])):=by
 refine E3 rfl rfl ?_;unfold ji;have d1:(k==1)=false:=by subst hk;decide
 have d2:(k==2)=false:=by subst hk;decide
 have d3:(k==3)=true:=by subst hk;decide
 clear hk;by_cases e:s=[]
 ·subst e;rw[show (([]:List UInt8)==[])=true from rfl];simp[m7,d1,d2];refine l5 (fun _=>?_) (fun h=>by rw[d3] at h;cases h);simp;refine l5 (fun _=>?_) (fun h=>by rw[d3] at h;cases h);simp
 ·have en:(s==[])=false:=bJ.2 e;rw[en];simp[m7,d1,d2];refine l5 (fun _=>?_) (fun h=>by rw[d3] at h;cases h);simp;refine l5 (fun _=>?_) (fun h=>by rw[d3] at h;cases h);simp[e,en]
theorem GM (k:Int) (hk:k=4) (s:List UInt8) (n:Nat) (l c:Int):Sp Tryz.prog gl 70 [ji k s n l c] (.bool (s==[])):=by
 refine E3 rfl rfl ?_;unfold ji;have d1:(k==1)=false:=by subst hk;decide
 have d2:(k==2)=false:=by subst hk;decide
 have d3:(k==3)=false:=by subst hk;decide
 have d4:(k==4)=true:=by subst hk;decide
 clear hk;by_cases e:s=[]
 ·subst e;rw[show (([]:List UInt8)==[])=true from rfl];simp[m7,d1,d2,d3,d4]
 ·have en:(s==[])=false:=bJ.2 e;rw[en];simp[m7,d1,d2,d3,d4,e,en]
theorem GN (k:Int) (hk:k=5) (s:List UInt8) (n:Nat) (l c:Int):Sp Tryz.prog gl 70 [ji k s n l c] (.bool ((s==[])&&decide (n<=1000000))):=by
 refine E3 rfl rfl ?_;unfold ji;have d1:(k==1)=false:=by subst hk;decide
 have d2:(k==2)=false:=by subst hk;decide
 have d3:(k==3)=false:=by subst hk;decide
 have d4:(k==4)=false:=by subst hk;decide
 have d5:(k==5)=true:=by subst hk;decide
 clear hk;by_cases e:s=[]
 ·subst e;rw[show (([]:List UInt8)==[])=true from rfl,iX];by_cases h:n<=1000000
  ·have h':(n:Int)<=1000000:=by omega
   rw[jm h];simp[m7,d1,d2,d3,d4,d5,h,h']
  ·have h': ¬(n:Int)<=1000000:=by omega
   rw[ik h];simp[m7,d1,d2,d3,d4,d5,h,h']
 ·have en:(s==[])=false:=bJ.2 e;rw[en,jC];simp[m7,d1,d2,d3,d4,d5,e,en]
theorem GP (k:Int) (hk:k=6) (s:List UInt8) (n:Nat) (l c:Int):Sp Tryz.prog gl 70 [ji k s n l c] (.bool ((s==[])&&decide (n<=253402300799))):=by
 refine E3 rfl rfl ?_;unfold ji;have d1:(k==1)=false:=by subst hk;decide
 have d2:(k==2)=false:=by subst hk;decide
 have d3:(k==3)=false:=by subst hk;decide
 have d4:(k==4)=false:=by subst hk;decide
 have d5:(k==5)=false:=by subst hk;decide
 have d6:(k==6)=true:=by subst hk;decide
 clear hk;by_cases e:s=[]
 ·subst e;rw[show (([]:List UInt8)==[])=true from rfl,iX];by_cases h:n<=253402300799
  ·have h':(n:Int)<=253402300799:=by omega
   rw[jm h];simp[m7,d1,d2,d3,d4,d5,d6,h,h']
  ·have h': ¬(n:Int)<=253402300799:=by omega
   rw[ik h];simp[m7,d1,d2,d3,d4,d5,d6,h,h']
 ·have en:(s==[])=false:=bJ.2 e;rw[en,jC];simp[m7,d1,d2,d3,d4,d5,d6,e,en]
theorem GQ (k:Int) (hk:k=0) (s:List UInt8) (n:Nat) (l c:Int):Sp Tryz.prog gl 70 [ji k s n l c] (.bool ((s==[])&&decide (n=0))):=by
 refine E3 rfl rfl ?_;unfold ji;have d1:(k==1)=false:=by subst hk;decide
 have d2:(k==2)=false:=by subst hk;decide
 have d3:(k==3)=false:=by subst hk;decide
 have d4:(k==4)=false:=by subst hk;decide
 have d5:(k==5)=false:=by subst hk;decide
 have d6:(k==6)=false:=by subst hk;decide
 have d0:(k==0)=true:=by subst hk;decide
 clear hk;by_cases e:s=[]
 ·subst e;rw[show (([]:List UInt8)==[])=true from rfl,iX];by_cases n0:n=0
  ·subst n0;rw[jm (rfl:(0:Nat)=0)];simp[m7,d1,d2,d3,d4,d5,d6,d0]
  ·have n1:((n:Int)==0)=false:=bJ.2 (by omega);have n2: ¬(n:Int)=0:=by omega
   rw[ik n0];simp[m7,d1,d2,d3,d4,d5,d6,d0,n1,n2]
 ·have en:(s==[])=false:=bJ.2 e;rw[en,jC];simp[m7,d1,d2,d3,d4,d5,d6,d0,e,en]
theorem GR (k:Int) (hk:k=7) (s:List UInt8) (n:Nat) (l c:Int):Sp Tryz.prog gl 70 [ji k s n l c] (.bool ((s==[])&&decide (n=0))):=by
 refine E3 rfl rfl ?_;unfold ji;have d1:(k==1)=false:=by subst hk;decide
 have d2:(k==2)=false:=by subst hk;decide
 have d3:(k==3)=false:=by subst hk;decide
 have d4:(k==4)=false:=by subst hk;decide
 have d5:(k==5)=false:=by subst hk;decide
 have d6:(k==6)=false:=by subst hk;decide
 have d0:(k==0)=false:=by subst hk;decide
 have d7:(k==7)=true:=by subst hk;decide
 clear hk;by_cases e:s=[]
 ·subst e;rw[show (([]:List UInt8)==[])=true from rfl,iX];by_cases n0:n=0
  ·subst n0;rw[jm (rfl:(0:Nat)=0)];simp[m7,d1,d2,d3,d4,d5,d6,d0,d7]
  ·have n1:((n:Int)==0)=false:=bJ.2 (by omega);have n2: ¬(n:Int)=0:=by omega
   rw[ik n0];simp[m7,d1,d2,d3,d4,d5,d6,d0,d7,n1,n2]
 ·have en:(s==[])=false:=bJ.2 e;rw[en,jC];simp[m7,d1,d2,d3,d4,d5,d6,d0,d7,e,en]
theorem GS (k:Int) (hk:k=8) (s:List UInt8) (n:Nat) (l c:Int):Sp Tryz.prog gl 70 [ji k s n l c] (.bool ((s==[])&&decide (n=0))):=by
 refine E3 rfl rfl ?_;unfold ji;have d1:(k==1)=false:=by subst hk;decide
 have d2:(k==2)=false:=by subst hk;decide
 have d3:(k==3)=false:=by subst hk;decide
 have d4:(k==4)=false:=by subst hk;decide
 have d5:(k==5)=false:=by subst hk;decide
 have d6:(k==6)=false:=by subst hk;decide
 have d0:(k==0)=false:=by subst hk;decide
 have d7:(k==7)=false:=by subst hk;decide
 have d8:(k==8)=true:=by subst hk;decide
 clear hk;by_cases e:s=[]
 ·subst e;rw[show (([]:List UInt8)==[])=true from rfl,iX];by_cases n0:n=0
  ·subst n0;rw[jm (rfl:(0:Nat)=0)];simp[m7,d1,d2,d3,d4,d5,d6,d0,d7,d8]
  ·have n1:((n:Int)==0)=false:=bJ.2 (by omega);have n2: ¬(n:Int)=0:=by omega
   rw[ik n0];simp[m7,d1,d2,d3,d4,d5,d6,d0,d7,d8,n1,n2]
 ·have en:(s==[])=false:=bJ.2 e;rw[en,jC];simp[m7,d1,d2,d3,d4,d5,d6,d0,d7,d8,e,en]
theorem GT (k:Int) (hk:k=9) (s:List UInt8) (n:Nat) (l c:Int):Sp Tryz.prog gl 70 [ji k s n l c] (.bool ((s==[])&&decide (n=0))):=by
 refine E3 rfl rfl ?_;unfold ji;have d1:(k==1)=false:=by subst hk;decide
 have d2:(k==2)=false:=by subst hk;decide
 have d3:(k==3)=false:=by subst hk;decide
 have d4:(k==4)=false:=by subst hk;decide
 have d5:(k==5)=false:=by subst hk;decide
 have d6:(k==6)=false:=by subst hk;decide
 have d0:(k==0)=false:=by subst hk;decide
 have d7:(k==7)=false:=by subst hk;decide
 have d8:(k==8)=false:=by subst hk;decide
 have d9:(k==9)=true:=by subst hk;decide
 clear hk;by_cases e:s=[]
 ·subst e;rw[show (([]:List UInt8)==[])=true from rfl,iX];by_cases n0:n=0
  ·subst n0;rw[jm (rfl:(0:Nat)=0)];simp[m7,d1,d2,d3,d4,d5,d6,d0,d7,d8,d9]
  ·have n1:((n:Int)==0)=false:=bJ.2 (by omega);have n2: ¬(n:Int)=0:=by omega
   rw[ik n0];simp[m7,d1,d2,d3,d4,d5,d6,d0,d7,d8,d9,n1,n2]
 ·have en:(s==[])=false:=bJ.2 e;rw[en,jC];simp[m7,d1,d2,d3,d4,d5,d6,d0,d7,d8,d9,e,en]
theorem GU (k:Int) (s:List UInt8) (n:Nat) (l c:Int) (h: ¬k=0/\ ¬k=1/\ ¬k=2/\ ¬k=3/\ ¬k=4/\ ¬k=5/\ ¬k=6/\ ¬k=7/\ ¬k=8/\ ¬k=9):Sp Tryz.prog gl 70 [ji k s n l c] (.bool false):=by
 refine E3 rfl rfl ?_;unfold ji;obtain ⟨c0,c1,c2,c3,c4,c5,c6,c7,c8,c9⟩:=h;have ne: ∀z:Int,¬k=z->(k==z)=false:=fun z h=>bJ.2 h
 have d0:=ne _ c0;have d1:=ne _ c1;have d2:=ne _ c2;have d3:=ne _ c3;have d4:=ne _ c4;have d5:=ne _ c5;have d6:=ne _ c6;have d7:=ne _ c7;have d8:=ne _ c8;have d9:=ne _ c9;simp[m7,d0,d1,d2,d3,d4,d5,d6,d7,d8,d9]
theorem zm (k:Int) (s:List UInt8) (n:Nat) (l c:Int) (hl:s.length<=900000):Sp Tryz.prog gl 70 [ji k s n l c] (.bool (Af k s n)):=by
 unfold Af;by_cases c1:k=1
 ·subst c1;rw[if_pos rfl];exact GI s n l c hl
 rw[if_neg c1];by_cases c2:k=2
 ·subst c2;rw[if_pos rfl];exact GJ s n l c hl
 rw[if_neg c2];by_cases c3:k=3
 ·subst c3;rw[if_pos (.inl rfl)];exact GK 3 rfl s n l c
 by_cases c4:k=4
 ·subst c4;rw[if_pos (.inr rfl)];exact GM 4 rfl s n l c
 rw[if_neg (by rintro (h|h);exact c3 h;exact c4 h)];by_cases c5:k=5
 ·subst c5;rw[if_pos rfl];exact GN 5 rfl s n l c
 rw[if_neg c5];by_cases c6:k=6
 ·subst c6;rw[if_pos rfl];exact GP 6 rfl s n l c
 rw[if_neg c6];by_cases c0:k=0
 ·subst c0;rw[if_pos (.inl rfl)];exact GQ 0 rfl s n l c
 by_cases c7:k=7
 ·subst c7;rw[if_pos (.inr (.inl rfl))];exact GR 7 rfl s n l c
 by_cases c8:k=8
 ·subst c8;rw[if_pos (.inr (.inr (.inl rfl)))];exact GS 8 rfl s n l c
 by_cases c9:k=9
 ·subst c9;rw[if_pos (.inr (.inr (.inr rfl)))];exact GT 9 rfl s n l c
 rw[if_neg (by rintro (h|h|h|h);exact c0 h;exact c7 h;exact c8 h;exact c9 h)];exact GU k s n l c ⟨c0,c1,c2,c3,c4,c5,c6,c7,c8,c9⟩
def cw (t:Tk):Bool:=decide (1<=t.k)&&(decide (t.k<=6)&&Af t.k t.t t.n)
theorem Bm (t:Tk) (hl:t.t.length<=900000):Sp Tryz.prog gl 41 [.agg t.row] (.bool (cw t)):=by
 refine Ui rfl rfl ?_;have R:=zm t.k t.t t.n t.ln t.co hl;unfold cw;obtain ⟨k,s,n,l,c⟩:=t;simp only at R ⊢;unfold ji at R;unfold Tk.row;simp only;by_cases c1:(1:Int)<=k
 ·by_cases c2:k<=(6:Int)
  ·simp[N7,c1,c2];apply ab R;simp[c1,c2]
  ·simp[N7,c1,c2]
 ·simp[N7,c1]
theorem Ea (t:Tk) (hl:t.t.length<=900000):Sp Tryz.prog gl 40 [.agg t.row] (.bool (!cw t)):=by
 refine Uh rfl rfl ?_;have R:=Bm t hl;generalize cw t=b at*;unfold Tk.row at*;simp[Sr];apply ab R;simp
def GV:List Tk->Nat->Int
 |[],_=> -1
 |a::r,i=>if (!cw a)=true then (i:Int) else GV r (i+1)
theorem GW: ∀(l:List Tk) (i:Nat),decide (0<=GV l i)=!l.all cw
 |[],i=>rfl
 |a::r,i=>by
  rw[List.all_cons];by_cases h:cw a=true
  ·have e:GV (a::r) i=GV r (i+1):=if_neg (by simp[h]);rw[e,GW r (i+1),h,iX]
  ·have e:GV (a::r) i=i:=if_pos (by simpa using h);have h0:cw a=false:=by simpa using h
   rw[e,h0,jC,jm (by omega)];rfl
theorem GX (l:List Tk) (hl:l.length<=1000000) (ht: ∀t∈l,t.t.length<=900000) (d:Nat):
  bh Tryz.prog gl 73 d ⟨[.sl (l.map Tk.row),.fn 40 []],[],[]⟩ ⟨i6 (GV l 0),[],[]⟩:=by
 refine UQ rfl ?_;have rl:(l.map Tk.row).length=l.length:=by simp
 have rat: ∀i (h:i<l.length),∀h2,(l.map Tk.row)[i]'h2=[i6 l[i].k,.str l[i].t,u l[i].n,i6 l[i].ln,i6 l[i].co]:=fun i h h2=>by simp[Tk.row]
 obtain ⟨R,hR⟩: ∃R,R=GV l 0:=⟨_,rfl⟩;rw[<-hR];generalize l.map Tk.row=RR at*;simp only[aw,aW,aO,AV.mp,aX,Pl.mp];simp[Ta,rl];refine aY (α:=Nat) (fun i=>⟨[(0,.sl RR),(1,.fn 40 []),(7,i6 l.length),(8,i6 i)],[],[]⟩) (fun i=>i<=l.length/\R=GV (l.drop i) i) (fun i=>l.length - i) ?_ 0 ?_ ?_
 ·rintro K i hK ⟨h1,h2⟩;by_cases g:i<l.length
  ·have t1:IntKind.i64.wrap ((i:Int)+1)=(i+1:Nat):=by rw[ay]<;>omega
   have gR:i<RR.length:=by omega
   have ra:=rat i g gR;rw[rb g] at h2;simp only[GV] at h2;have C:=Ea l[i] (ht _ (o9 g));unfold Tk.row at C;have fin:(!cw l[i])=false-> ∀σ',fx σ' ⟨[(0,.sl RR),(1,.fn 40 []),(7,i6 l.length),(8,i6 (i+1:Nat))],[],[]⟩->K σ':=
    fun hg σ' hσ=>hK (i+1) σ' ⟨by omega,by rw[hg] at h2;simpa using h2⟩ (by omega) hσ
   have hpos:(!cw l[i])=true->R=i:=fun hg=>by rw[if_pos hg] at h2;exact h2.symm▸rfl
   clear hK hR rat h2;generalize (!cw l[i])=q at*;generalize l[i]=x at*;have C:=fun d=>Sp.h (d:=d) C
   simp[g,gR,ra,rl];refine bB _ _ (C _) ?_;cases q
   ·have fin:=fin rfl;simp[t1];refine fin _ ?_;apply aj<;>simp[t1]
   ·have h2:=hpos rfl;subst h2;simp;apply am<;>simp
  ·obtain rfl:i=l.length:=by omega
   rw[xA] at h2;simp only[GV] at h2;subst h2;clear hK;simp;apply am<;>simp
 ·exact ⟨gN _,hR⟩
 ·apply aj<;>simp
theorem Eb (l:List Tk) (hl:l.length<=1000000) (ht: ∀t∈l,t.t.length<=900000) (d:Nat):
  bh Tryz.prog gl 43 d ⟨[.sl (l.map Tk.row),.fn 40 []],[],[]⟩ ⟨.bool (!l.all cw),[],[]⟩:=by
 refine Uk rfl ?_;have Q:=GX l hl ht 7;rw[<-GW l 0];generalize l.map Tk.row=RR,GV l 0=R at*;simp only[aw,aW,aO,AV.mp,aX,Pl.mp];simp[Su];refine bB _ _ (Q) ?_;simp;apply am<;>simp
mutual
def oI:It->Nat->List (Nat×It)
 | .mk n ws b ks ln co,d=>(d,.mk n ws b ks ln co)::dI ks (d+1)
def dI:List It->Nat->List (Nat×It)
 |[],_=>[]
 |x::r,d=>oI x d++dI r d
end
def Ec (p:Nat×It):List AV:=[i6 p.1,.agg p.2.row]
mutual
theorem Bn: ∀(x:It) (d:Nat),uP x d=(oI x d).map Ec
 | .mk n ws b ks ln co,d=>by
  rw[uP,oI,gL,nC ks (d+1)];rfl
theorem nC: ∀(L:List It) (d:Nat),cL L d=(dI L d).map Ec
 |[],d=>rfl
 |x::r,d=>by rw[cL,dI,List.map_append,Bn x d,nC r d]
end
mutual
theorem Ed: ∀(x:It) (d:Nat),(oI x d).length=iU x
 | .mk n ws b ks ln co,d=>by rw[oI,iU,jG,pW ks (d+1)];omega
theorem pW: ∀(L:List It) (d:Nat),(dI L d).length=bg L
 |[],d=>rfl
 |x::r,d=>by rw[dI,bg,gJ,Ed x d,pW r d]
end
def Ee (k:Nat) (p:Nat×It):Bool:=match p with
 |(d,.mk n ws b ks _ _)=>decide (k<=300)&&decide (d<=4)&&dH n&&decide (ws.length<=6)&&ws.all cw&&(b||ks.length==0)
def eh:Nat->List (Nat×It)->Bool
 |_,[]=>true
 |k,p::r=>Ee (k+1) p&&eh (k+1) r
def JM (x:It):Prop:=match x with
 | .mk n ws _ ks _ _=>n.length<=900000/\ws.length<=1000000/\(∀t∈ws,t.t.length<=900000)/\ks.length<=1000000
def KU:AC:=match Kw with
 | .sq _ (.sq _ (.sq (.sq _ (.bl _ (.rf _ _ _ _ a _))) _))=>a
 |_=> .no
def ND:AC:=match Kw with
 | .sq _ (.sq _ (.sq (.sq _ (.bl _ (.rf _ _ _ _ _ b))) _))=>b
 |_=> .no
def tU (RR:List (List AV)) (k:Nat):St:=⟨[(9,.undef),(8,.fn 68 [.ptr (.nw 8 (.n 1)) 0]),(7,.sl RR),(3,.ptr (.n 3) 0),(2,.ptr (.n 2) 0),(0,.sl RR)],[(.nw 8 (.n 1),[.sl RR]),(.n 3,[i6 k]),(.n 2,[.bool false])],[]⟩
theorem wE (RR:List (List AV)) (j:Nat) (hj:j<=100000) (dd:Nat) (hdd:dd<=100000) (x:It) (hx:JM x) (K:AE->St->Prop) (h1:Ee (j+1) (dd,x)=true->K .n (tU RR (j+1))) (h2:Ee (j+1) (dd,x)=false->K .r (tU RR (j+1))):
  DS (bh Tryz.prog gl) 9 [9,10] [2,3] KU ND (Ec (dd,x)) K (tU RR j):=by
 have t1:IntKind.i64.wrap ((j:Int)+1)=(j+1:Nat):=by rw[ay]<;>omega
 refine ⟨⟨[.ptr (.n 2) 0,.ptr (.n 3) 0],[(.nw 8 (.n 1),[.sl RR]),(.n 3,[i6 j]),(.n 2,[.bool false])],[]⟩,⟨⟨?_,?_,?_,?_,?_,?_,?_⟩,?_,?_⟩,?_⟩;iterate 8 (· simp[tU])
 ·refine oy ?_;simp
 obtain ⟨nm,ws,b,ks,ln,co⟩:=x;obtain ⟨x1,x2,x3,x4⟩:=hx;have NM:=nA nm x1;have HW:=Eb ws x2 x3;unfold Ee at h1 h2;simp only[Ec,It.row,Ly,mQ,aO,aW,AV.mp,aX,cT,dB,KU,Kw];have fin: ∀e:AE,K e (tU RR (j+1))-> ∀σ':St,aE σ'.bx (.up (.nw 8 (.n 1)))=some [.sl RR]->aE σ'.bx (.up (.n 3))=some [i6 (j+1:Nat)]->aE σ'.bx (.up (.n 2))=some [.bool false]->(∀p∈σ'.bx,p.1.isIt=false)->
   vW 9 (tU RR j) [2,3] ⟨[.ptr (.n 2) 0,.ptr (.n 3) 0],[(.nw 8 (.n 1),[.sl RR]),(.n 3,[i6 j]),(.n 2,[.bool false])],[]⟩ K e σ':=by
  intro e hk σ' b1 b2 b3 hi;refine ⟨⟨.tup [],[(.nw 8 (.n 1),[.sl RR]),(.n 3,[i6 (j+1:Nat)]),(.n 2,[.bool false])],[]⟩,⟨_,.z _,?_,?_,?_,?_,?_,?_⟩,⟨?_,?_,?_,?_,?_,?_,?_⟩,hi,hk⟩
  ·simp
  ·simp
  ·simp[Mw,b1,b2,b3]
  ·simp
  ·simp
  ·simp
  iterate 7 (· simp[tU])
 simp[Kw];simp only[ND,Kw];refine ⟨by rintro a c (⟨rfl,_⟩|⟨rfl,_⟩|⟨rfl,_⟩|⟨rfl,_⟩)<;>rfl,?_⟩;have wl:(ws.map Tk.row).length=ws.length:=kp _;have kl:=a8 ks;generalize List.map Tk.row ws=WR,ae ks=KR at*;by_cases c1:j+1<=300
 ·have c1': ¬(300:Int)<((j+1:Nat):Int):=by omega
  have c1'': ¬(300:Int)<(j:Int)+1:=by omega
  by_cases c2:dd<=4
  ·have c2': ¬(4:Int)<(dd:Int):=by omega
   cases hn:dH nm with
   |false=>
    rw[hn] at NM;simp[t1,c1',c1'',c2'];apply ab NM;simp;refine fin _ (h2 (by simp[c1,c2,hn])) _ rfl rfl rfl ?_;simp
   |true=>
    rw[hn] at NM;by_cases c4:ws.length<=6
    ·have c4': ¬(6:Int)<(ws.length:Int):=by omega
     cases hw:ws.all cw with
     |false=>
      rw[hw] at HW;simp[t1,c1',c1'',c2'];apply ab NM;simp[wl,c4,c4'];refine bB _ _ (HW _) ?_;simp;refine fin _ (h2 (by simp only[c1,c2,hn,c4,hw];simp)) _ rfl rfl rfl ?_;simp
     |true=>
      rw[hw] at HW;cases b with
      |true=>
       simp[t1,c1',c1'',c2'];apply ab NM;simp[wl,c4,c4'];refine bB _ _ (HW _) ?_;simp;refine fin _ (h1 (by simp only[c1,c2,hn,c4,hw];simp)) _ rfl rfl rfl ?_;simp
      |false=>
       by_cases c6:0<ks.length
       ·have c6':(0:Int)<(ks.length:Int):=by omega
        have c6'':(ks.length==0)=false:=bJ.2 (by omega);simp[t1,c1',c1'',c2'];apply ab NM;simp[wl,c4,c4'];refine bB _ _ (HW _) ?_;simp[kl,c6,c6'];refine fin _ (h2 (by simp only[c1,c2,hn,c4,hw,c6''];simp)) _ rfl rfl rfl ?_;simp
       ·have c6': ¬(0:Int)<(ks.length:Int):=by omega
        have c6'':(ks.length==0)=true:=cY.2 (by omega);simp[t1,c1',c1'',c2'];apply ab NM;simp[wl,c4,c4'];refine bB _ _ (HW _) ?_;simp[kl,c6,c6'];refine fin _ (h1 (by simp only[c1,c2,hn,c4,hw,c6''];simp)) _ rfl rfl rfl ?_;simp
    ·have c4':(6:Int)<(ws.length:Int):=by omega
     simp[t1,c1',c1'',c2'];apply ab NM;simp[wl,c4,c4'];refine fin _ (h2 (by simp[c1,c2,hn,c4])) _ rfl rfl rfl ?_;simp
  ·have c2':(4:Int)<(dd:Int):=by omega
   simp[t1,c1',c1'',c2'];refine fin _ (h2 (by simp[c1,c2])) _ rfl rfl rfl ?_;simp
 ·have c1':(300:Int)<((j+1:Nat):Int):=by omega
  have c1'':(300:Int)<(j:Int)+1:=by omega
  simp[t1,c1',c1''];refine fin _ (h2 (by simp[c1])) _ rfl rfl rfl ?_;simp
structure NE (t:Tk):Prop where
 k:1<=t.k/\t.k<=9
 nm:t.k=1->t.n=0
 br:7<=t.k->t.t=[]/\t.n=0
def KV (t:Tk):Prop:=t.k=0/\t.t=[]/\t.n=0
structure NF (l:List Tk):Prop where
 h: ∃o z,l=o++[z]/\(∀t∈o,NE t)/\KV z
theorem NF.ne {l:List Tk} (h:NF l):l≠[]:=by
 obtain ⟨o,z,rfl,_⟩:=h;simp
theorem NF.cons {t:Tk} {r:List Tk} (h:NF (t::r)):(r=[]/\KV t/\uL (t::r)=[t])\/(NE t/\NF r/\uL (t::r)=r):=by
 obtain ⟨o,z,e,ho,hz⟩:=h;cases o with
 |nil=>
  rw[dB] at e;injection e with e1 e2;subst e1;subst e2;exact .inl ⟨rfl,hz,rfl⟩
 |cons a o=>
  rw[cT] at e;injection e with e1 e2;subst e1;subst e2;refine .inr ⟨ho _ (by simp),⟨o,z,rfl,fun t ht=>ho t (by simp[ht]),hz⟩,?_⟩;cases o with
  |nil=>rfl
  |cons b o=>rfl
structure O5 (A l:List Int) (m:Nat):Prop where
 h: ∀q,q<A.length->l[m+q]?=A[q]?
 n:l[m+A.length]?=some 10\/l[m+A.length]?=none
theorem O5.at {A l:List Int} {m:Nat} (h:O5 A l m) {i:Nat} (hi:i<A.length): ∃g:m+i<l.length,l[m+i]=A[i]:=by
 have:=h.h i hi
 rw[vy hi] at this;exact tI.1 this
theorem O5.fin {A l:List Int} {m:Nat} (h:O5 A l m):(∃g:m+A.length<l.length,l[m+A.length]=10)\/ ¬m+A.length<l.length:=h.n.imp (fun h=>tI.1 h) (fun h=>by have:=List.getElem?_eq_none_iff.1 h;omega)
def MB (l:List Int) (P:List (Int×Int)) (j e:Nat) (out out':List Tk):Prop:= ∀f,l.length - j<f-> ∃f',l.length - e<f'/\sN rV sU l P f j out=sN rV sU l P f' e out'
theorem MB.trans {l:List Int} {P:List (Int×Int)} {j e g:Nat} {o1 o2 o3:List Tk} (h1:MB l P j e o1 o2) (h2:MB l P e g o2 o3):MB l P j g o1 o3:=fun f h=>by
 obtain ⟨f1,a1,b1⟩:=h1 f h;obtain ⟨f2,a2,b2⟩:=h2 f1 a1;exact ⟨f2,a2,b1.trans b2⟩
theorem MB.one {l:List Int} {P:List (Int×Int)} {j e:Nat} {o1 o2:List Tk} (hj:j<l.length) (he:j<e) (h: ∀f,sN rV sU l P (f+1) j o1=sN rV sU l P f e o2):MB l P j e o1 o2:=fun f hf=>by
 cases f with
 |zero=>omega
 |succ f=>exact ⟨f,by omega,h f⟩
theorem GZ (x:It):1<=mR x:=by cases x;rw[mR];omega
def RB (c:Int) (dp cn:Nat):Prop:=c=19/\5<dp\/c=9/\300<cn
theorem RB.mono {c:Int} {d n d' n':Nat} (h:RB c d n) (h1:d<=d') (h2:n<=n'):RB c d' n':=by
 rcases h with ⟨h,g⟩|⟨h,g⟩
 ·exact .inl ⟨h,by omega⟩
 ·exact .inr ⟨h,by omega⟩
end Go.Ai
