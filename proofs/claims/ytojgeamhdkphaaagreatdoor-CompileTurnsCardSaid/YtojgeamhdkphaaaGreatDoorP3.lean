/- P3: a part of the proof. Conditions: as each theorem says. -/
import Derived.Test.YtojgeamhdkphaaaGreatDoorP2
set_option maxHeartbeats 4000000
set_option linter.unusedSimpArgs false
set_option linter.unusedVariables false
set_option maxRecDepth 20000
namespace Go.Ai
open Go.Proofs
theorem Ic:List.lookup 0 gl=some ((List.range 256).map fun c=>Value.int .u8 (Lib.firstT c)):=by kernel_rfl
theorem vy:List.lookup 1 gl=some ((List.range 32).map fun c=>Value.int .u8 (if c%2=0 then Lib.accLo (c / 2) else Lib.accHi (c / 2))):=by kernel_rfl
theorem E8 {w:World} (h: ∀i us,List.lookup i gl=some us-> ∀(o:Nat) (u:Value),us[o]?=some u->w.cell? ⟨i,o,none⟩=some u):Lib.Utf8Tabs 0 1 w:=by
 refine ⟨fun c hc=>?_,fun i hi=>⟨?_,?_⟩⟩
 ·exact h _ _ Ic c _ (by simp[hc])
 ·refine h _ _ vy (2*i) _ ?_;have h1:2*i<32:=by omega
  have h2:2*i%2=0:=by omega
  have h3:2*i / 2=i:=by omega
  simp[h1,h2,h3]
 ·refine h _ _ vy (2*i+1) _ ?_;have h1:2*i+1<32:=by omega
  have h2: ¬(2*i+1)%2=0:=by omega
  have h3:(2*i+1) / 2=i:=by omega
  simp only[xK,List.getElem?_range h1,Option.map_some,if_neg h2,h3]
theorem BV (s:List UInt8) (hl:s.length<=900000):Sp Tryz.prog gl 116 [.str s] (.bool (Lib.validD s)):=by
 refine xO Tryz.func116 (by kernel_rfl) (by kernel_rfl) ?_;intro S gb w vs hvs hag hgl;simp only[aa,PR] at hvs;obtain ⟨_,_,rfl,rfl,rfl⟩:=hvs;have hs:(ByteArray.mk s.toArray).size<=9223372036854775807:=by
  have:(ByteArray.mk s.toArray).size=s.length:=rfl
  omega
 exact (Any.utf8_ValidString E7 ⟨s.toArray⟩ w hs (E8 hgl)).mono fun e w' ⟨he,hw⟩=>⟨_,he,hw,by simp[PR]⟩
theorem sJ (s:List UInt8) (hl:s.length<=900000):Sp Tryz.prog gl 93 [.str s] (.bool (iB (ay s 0))):=by
 refine Vk rfl rfl ?_;have V:=BV s hl;rw[zY] at V;generalize iB (ay s 0)=b at*;simp[TU];apply ag V;simp
open Go.Proofs
def sK (k:Int) (s:List UInt8) (n:Nat):Bool:=
 if k=1 then dx s&&decide (n=0)
 else if k=2 then iB (ay s 0)&&(decide ((ay s 0).length<=120)&&decide (n=0))
 else if k=3\/k=4 then s==[]
 else if k=5 then (s==[])&&decide (n<=1000000)
 else if k=6 then (s==[])&&decide (n<=253402300799)
 else if k=0\/k=7\/k=8\/k=9 then (s==[])&&decide (n=0)
 else false
def qT (k:Int) (s:List UInt8) (n:Nat) (l c:Int):AV:= .agg [i6 k,.str s,u n,i6 l,i6 c]
theorem Ie (s:List UInt8) (n:Nat) (l c:Int) (hl:s.length<=900000):Sp Tryz.prog gl 70 [qT 1 s n l c] (.bool (dx s&&decide (n=0))):=by
 refine FZ rfl rfl ?_;have NM:=nb s hl;unfold qT;cases hb:dx s
 ·rw[hb] at NM;rw[qp];simp[mT];apply ag NM;simp
 ·rw[hb] at NM;rw[nC];by_cases n0:n=0
  ·subst n0;rw[mI (rfl:(0:Nat)=0)];simp[mT];apply ag NM;simp
  ·have n1:((n:Int)==0)=false:=cH.2 (by omega);have n2: ¬(n:Int)=0:=by omega
   rw[lm n0];simp[mT];apply ag NM;simp[n1,n2]
theorem If (s:List UInt8) (n:Nat) (l c:Int) (hl:s.length<=900000):Sp Tryz.prog gl 70 [qT 2 s n l c] (.bool (iB (ay s 0)&&(decide ((ay s 0).length<=120)&&decide (n=0)))):=by
 refine FZ rfl rfl ?_;have GD:=sJ s hl;have RS:=qf s hl;unfold qT;generalize (ay s 0).length=rn at*;cases hb:iB (ay s 0)
 ·rw[hb] at GD;rw[qp];simp[mT];apply ag GD;simp
 rw[hb] at GD;rw[nC];by_cases hr:rn<=120
 ·have hr':(rn:Int)<=120:=by omega
  rw[mI hr,nC];by_cases n0:n=0
  ·subst n0;rw[mI (rfl:(0:Nat)=0)];simp[mT];apply ag GD;simp;apply ag RS;simp[hr,hr']
  ·have n1:((n:Int)==0)=false:=cH.2 (by omega);have n2: ¬(n:Int)=0:=by omega
   rw[lm n0];simp[mT];apply ag GD;simp;apply ag RS;simp[hr,hr',n1,n2]
 ·have hr': ¬(rn:Int)<=120:=by omega
  rw[lm hr,qp];simp[mT];apply ag GD;simp;apply ag RS;simp[hr,hr']
theorem Ig (k:Int) (hk:k=3) (s:List UInt8) (n:Nat) (l c:Int):Sp Tryz.prog gl 70 [qT k s n l c] (.bool (s==[])):=by
 refine FZ rfl rfl ?_;unfold qT;have d1:(k==1)=false:=by subst hk;decide
 have d2:(k==2)=false:=by subst hk;decide
 have d3:(k==3)=true:=by subst hk;decide
 clear hk;by_cases e:s=[]
 ·subst e;rw[show (([]:List UInt8)==[])=true from rfl];simp[mT,d1,d2];refine vX (fun _=>?_) (fun h=>by rw[d3] at h;cases h);simp;refine vX (fun _=>?_) (fun h=>by rw[d3] at h;cases h);simp
 ·have en:(s==[])=false:=cH.2 e;rw[en];simp[mT,d1,d2];refine vX (fun _=>?_) (fun h=>by rw[d3] at h;cases h);simp;refine vX (fun _=>?_) (fun h=>by rw[d3] at h;cases h);simp[e,en]
theorem Ih (k:Int) (hk:k=4) (s:List UInt8) (n:Nat) (l c:Int):Sp Tryz.prog gl 70 [qT k s n l c] (.bool (s==[])):=by
 refine FZ rfl rfl ?_;unfold qT;have d1:(k==1)=false:=by subst hk;decide
 have d2:(k==2)=false:=by subst hk;decide
 have d3:(k==3)=false:=by subst hk;decide
 have d4:(k==4)=true:=by subst hk;decide
 clear hk;by_cases e:s=[]
 ·subst e;rw[show (([]:List UInt8)==[])=true from rfl];simp[mT,d1,d2,d3,d4]
 ·have en:(s==[])=false:=cH.2 e;rw[en];simp[mT,d1,d2,d3,d4,e,en]
theorem Ii (k:Int) (hk:k=5) (s:List UInt8) (n:Nat) (l c:Int):Sp Tryz.prog gl 70 [qT k s n l c] (.bool ((s==[])&&decide (n<=1000000))):=by
 refine FZ rfl rfl ?_;unfold qT;have d1:(k==1)=false:=by subst hk;decide
 have d2:(k==2)=false:=by subst hk;decide
 have d3:(k==3)=false:=by subst hk;decide
 have d4:(k==4)=false:=by subst hk;decide
 have d5:(k==5)=true:=by subst hk;decide
 clear hk;by_cases e:s=[]
 ·subst e;rw[show (([]:List UInt8)==[])=true from rfl,nC];by_cases h:n<=1000000
  ·have h':(n:Int)<=1000000:=by omega
   rw[mI h];simp[mT,d1,d2,d3,d4,d5,h,h']
  ·have h': ¬(n:Int)<=1000000:=by omega
   rw[lm h];simp[mT,d1,d2,d3,d4,d5,h,h']
 ·have en:(s==[])=false:=cH.2 e;rw[en,qp];simp[mT,d1,d2,d3,d4,d5,e,en]
theorem Ij (k:Int) (hk:k=6) (s:List UInt8) (n:Nat) (l c:Int):Sp Tryz.prog gl 70 [qT k s n l c] (.bool ((s==[])&&decide (n<=253402300799))):=by
 refine FZ rfl rfl ?_;unfold qT;have d1:(k==1)=false:=by subst hk;decide
 have d2:(k==2)=false:=by subst hk;decide
 have d3:(k==3)=false:=by subst hk;decide
 have d4:(k==4)=false:=by subst hk;decide
 have d5:(k==5)=false:=by subst hk;decide
 have d6:(k==6)=true:=by subst hk;decide
 clear hk;by_cases e:s=[]
 ·subst e;rw[show (([]:List UInt8)==[])=true from rfl,nC];by_cases h:n<=253402300799
  ·have h':(n:Int)<=253402300799:=by omega
   rw[mI h];simp[mT,d1,d2,d3,d4,d5,d6,h,h']
  ·have h': ¬(n:Int)<=253402300799:=by omega
   rw[lm h];simp[mT,d1,d2,d3,d4,d5,d6,h,h']
 ·have en:(s==[])=false:=cH.2 e;rw[en,qp];simp[mT,d1,d2,d3,d4,d5,d6,e,en]
theorem Ik (k:Int) (hk:k=0) (s:List UInt8) (n:Nat) (l c:Int):Sp Tryz.prog gl 70 [qT k s n l c] (.bool ((s==[])&&decide (n=0))):=by
 refine FZ rfl rfl ?_;unfold qT;have d1:(k==1)=false:=by subst hk;decide
 have d2:(k==2)=false:=by subst hk;decide
 have d3:(k==3)=false:=by subst hk;decide
 have d4:(k==4)=false:=by subst hk;decide
 have d5:(k==5)=false:=by subst hk;decide
 have d6:(k==6)=false:=by subst hk;decide
 have d0:(k==0)=true:=by subst hk;decide
 clear hk;by_cases e:s=[]
 ·subst e;rw[show (([]:List UInt8)==[])=true from rfl,nC];by_cases n0:n=0
  ·subst n0;rw[mI (rfl:(0:Nat)=0)];simp[mT,d1,d2,d3,d4,d5,d6,d0]
  ·have n1:((n:Int)==0)=false:=cH.2 (by omega);have n2: ¬(n:Int)=0:=by omega
   rw[lm n0];simp[mT,d1,d2,d3,d4,d5,d6,d0,n1,n2]
 ·have en:(s==[])=false:=cH.2 e;rw[en,qp];simp[mT,d1,d2,d3,d4,d5,d6,d0,e,en]
theorem Il (k:Int) (hk:k=7) (s:List UInt8) (n:Nat) (l c:Int):Sp Tryz.prog gl 70 [qT k s n l c] (.bool ((s==[])&&decide (n=0))):=by
 refine FZ rfl rfl ?_;unfold qT;have d1:(k==1)=false:=by subst hk;decide
 have d2:(k==2)=false:=by subst hk;decide
 have d3:(k==3)=false:=by subst hk;decide
 have d4:(k==4)=false:=by subst hk;decide
 have d5:(k==5)=false:=by subst hk;decide
 have d6:(k==6)=false:=by subst hk;decide
 have d0:(k==0)=false:=by subst hk;decide
 have d7:(k==7)=true:=by subst hk;decide
 clear hk;by_cases e:s=[]
 ·subst e;rw[show (([]:List UInt8)==[])=true from rfl,nC];by_cases n0:n=0
  ·subst n0;rw[mI (rfl:(0:Nat)=0)];simp[mT,d1,d2,d3,d4,d5,d6,d0,d7]
  ·have n1:((n:Int)==0)=false:=cH.2 (by omega);have n2: ¬(n:Int)=0:=by omega
   rw[lm n0];simp[mT,d1,d2,d3,d4,d5,d6,d0,d7,n1,n2]
 ·have en:(s==[])=false:=cH.2 e;rw[en,qp];simp[mT,d1,d2,d3,d4,d5,d6,d0,d7,e,en]
theorem Im (k:Int) (hk:k=8) (s:List UInt8) (n:Nat) (l c:Int):Sp Tryz.prog gl 70 [qT k s n l c] (.bool ((s==[])&&decide (n=0))):=by
 refine FZ rfl rfl ?_;unfold qT;have d1:(k==1)=false:=by subst hk;decide
 have d2:(k==2)=false:=by subst hk;decide
 have d3:(k==3)=false:=by subst hk;decide
 have d4:(k==4)=false:=by subst hk;decide
 have d5:(k==5)=false:=by subst hk;decide
 have d6:(k==6)=false:=by subst hk;decide
 have d0:(k==0)=false:=by subst hk;decide
 have d7:(k==7)=false:=by subst hk;decide
 have d8:(k==8)=true:=by subst hk;decide
 clear hk;by_cases e:s=[]
 ·subst e;rw[show (([]:List UInt8)==[])=true from rfl,nC];by_cases n0:n=0
  ·subst n0;rw[mI (rfl:(0:Nat)=0)];simp[mT,d1,d2,d3,d4,d5,d6,d0,d7,d8]
  ·have n1:((n:Int)==0)=false:=cH.2 (by omega);have n2: ¬(n:Int)=0:=by omega
   rw[lm n0];simp[mT,d1,d2,d3,d4,d5,d6,d0,d7,d8,n1,n2]
 ·have en:(s==[])=false:=cH.2 e;rw[en,qp];simp[mT,d1,d2,d3,d4,d5,d6,d0,d7,d8,e,en]
theorem Io (k:Int) (hk:k=9) (s:List UInt8) (n:Nat) (l c:Int):Sp Tryz.prog gl 70 [qT k s n l c] (.bool ((s==[])&&decide (n=0))):=by
 refine FZ rfl rfl ?_;unfold qT;have d1:(k==1)=false:=by subst hk;decide
 have d2:(k==2)=false:=by subst hk;decide
 have d3:(k==3)=false:=by subst hk;decide
 have d4:(k==4)=false:=by subst hk;decide
 have d5:(k==5)=false:=by subst hk;decide
 have d6:(k==6)=false:=by subst hk;decide
 have d0:(k==0)=false:=by subst hk;decide
 have d7:(k==7)=false:=by subst hk;decide
 have d8:(k==8)=false:=by subst hk;decide
 have d9:(k==9)=true:=by subst hk;decide
 clear hk;by_cases e:s=[]
 ·subst e;rw[show (([]:List UInt8)==[])=true from rfl,nC];by_cases n0:n=0
  ·subst n0;rw[mI (rfl:(0:Nat)=0)];simp[mT,d1,d2,d3,d4,d5,d6,d0,d7,d8,d9]
  ·have n1:((n:Int)==0)=false:=cH.2 (by omega);have n2: ¬(n:Int)=0:=by omega
   rw[lm n0];simp[mT,d1,d2,d3,d4,d5,d6,d0,d7,d8,d9,n1,n2]
 ·have en:(s==[])=false:=cH.2 e;rw[en,qp];simp[mT,d1,d2,d3,d4,d5,d6,d0,d7,d8,d9,e,en]
theorem Ip (k:Int) (s:List UInt8) (n:Nat) (l c:Int) (h: ¬k=0/\ ¬k=1/\ ¬k=2/\ ¬k=3/\ ¬k=4/\ ¬k=5/\ ¬k=6/\ ¬k=7/\ ¬k=8/\ ¬k=9):Sp Tryz.prog gl 70 [qT k s n l c] (.bool false):=by
 refine FZ rfl rfl ?_;unfold qT;obtain ⟨c0,c1,c2,c3,c4,c5,c6,c7,c8,c9⟩:=h;have ne: ∀z:Int,¬k=z->(k==z)=false:=fun z h=>cH.2 h
 have d0:=ne _ c0;have d1:=ne _ c1;have d2:=ne _ c2;have d3:=ne _ c3;have d4:=ne _ c4;have d5:=ne _ c5;have d6:=ne _ c6;have d7:=ne _ c7;have d8:=ne _ c8;have d9:=ne _ c9;simp[mT,d0,d1,d2,d3,d4,d5,d6,d7,d8,d9]
theorem zZ (k:Int) (s:List UInt8) (n:Nat) (l c:Int) (hl:s.length<=900000):Sp Tryz.prog gl 70 [qT k s n l c] (.bool (sK k s n)):=by
 unfold sK;by_cases c1:k=1
 ·subst c1;rw[if_pos rfl];exact Ie s n l c hl
 rw[if_neg c1];by_cases c2:k=2
 ·subst c2;rw[if_pos rfl];exact If s n l c hl
 rw[if_neg c2];by_cases c3:k=3
 ·subst c3;rw[if_pos (.inl rfl)];exact Ig 3 rfl s n l c
 by_cases c4:k=4
 ·subst c4;rw[if_pos (.inr rfl)];exact Ih 4 rfl s n l c
 rw[if_neg (by rintro (h|h);exact c3 h;exact c4 h)];by_cases c5:k=5
 ·subst c5;rw[if_pos rfl];exact Ii 5 rfl s n l c
 rw[if_neg c5];by_cases c6:k=6
 ·subst c6;rw[if_pos rfl];exact Ij 6 rfl s n l c
 rw[if_neg c6];by_cases c0:k=0
 ·subst c0;rw[if_pos (.inl rfl)];exact Ik 0 rfl s n l c
 by_cases c7:k=7
 ·subst c7;rw[if_pos (.inr (.inl rfl))];exact Il 7 rfl s n l c
 by_cases c8:k=8
 ·subst c8;rw[if_pos (.inr (.inr (.inl rfl)))];exact Im 8 rfl s n l c
 by_cases c9:k=9
 ·subst c9;rw[if_pos (.inr (.inr (.inr rfl)))];exact Io 9 rfl s n l c
 rw[if_neg (by rintro (h|h|h|h);exact c0 h;exact c7 h;exact c8 h;exact c9 h)];exact Ip k s n l c ⟨c0,c1,c2,c3,c4,c5,c6,c7,c8,c9⟩
open Go.Proofs
def cu (t:Tk):Bool:=decide (1<=t.k)&&(decide (t.k<=6)&&sK t.k t.t t.n)
theorem BW (t:Tk) (hl:t.t.length<=900000):Sp Tryz.prog gl 41 [.agg t.row] (.bool (cu t)):=by
 refine UD rfl rfl ?_;have R:=zZ t.k t.t t.n t.ln t.co hl;unfold cu;obtain ⟨k,s,n,l,c⟩:=t;simp only at R ⊢;unfold qT at R;unfold Tk.row;simp only;by_cases c1:(1:Int)<=k
 ·by_cases c2:k<=(6:Int)
  ·simp[O6,c1,c2];apply ag R;simp[c1,c2]
  ·simp[O6,c1,c2]
 ·simp[O6,c1]
theorem E9 (t:Tk) (hl:t.t.length<=900000):Sp Tryz.prog gl 40 [.agg t.row] (.bool (!cu t)):=by
 refine UC rfl rfl ?_;have R:=BW t hl;generalize cu t=b at*;unfold Tk.row at*;simp[Tj];apply ag R;simp
open Go.Proofs
def Iq:List Tk->Nat->Int
 |[],_=> -1
 |a::r,i=>if (!cu a)=true then (i:Int) else Iq r (i+1)
theorem Ir: ∀(l:List Tk) (i:Nat),decide (0<=Iq l i)=!l.all cu
 |[],i=>rfl
 |a::r,i=>by
  rw[List.all_cons];by_cases h:cu a=true
  ·have e:Iq (a::r) i=Iq r (i+1):=if_neg (by simp[h]);rw[e,Ir r (i+1),h,nC]
  ·have e:Iq (a::r) i=i:=if_pos (by simpa using h);have h0:cu a=false:=by simpa using h
   rw[e,h0,qp,mI (by omega)];rfl
theorem Is (l:List Tk) (hl:l.length<=1000000) (ht: ∀t∈l,t.t.length<=900000) (d:Nat):
  ba Tryz.prog gl 73 d ⟨[.sl (l.map Tk.row),.fn 40 []],[],[]⟩ ⟨i6 (Iq l 0),[],[]⟩:=by
 refine U8 rfl ?_;have rl:(l.map Tk.row).length=l.length:=by simp
 have rat: ∀i (h:i<l.length),∀h2,(l.map Tk.row)[i]'h2=[i6 l[i].k,.str l[i].t,u l[i].n,i6 l[i].ln,i6 l[i].co]:=fun i h h2=>by simp[Tk.row]
 obtain ⟨R,hR⟩: ∃R,R=Iq l 0:=⟨_,rfl⟩;rw[<-hR];generalize l.map Tk.row=RR at*;simp only[ar,aW,aP,AV.mp,aY,Pl.mp];simp[TG,rl];refine cP (α:=Nat) (fun i=>⟨[(0,.sl RR),(1,.fn 40 []),(7,i6 l.length),(8,i6 i)],[],[]⟩) (fun i=>i<=l.length/\R=Iq (l.drop i) i) (fun i=>l.length - i) ?_ 0 ?_ ?_
 ·rintro K i hK ⟨h1,h2⟩;by_cases g:i<l.length
  ·have t1:IntKind.i64.wrap ((i:Int)+1)=(i+1:Nat):=by rw[aL]<;>omega
   have gR:i<RR.length:=by omega
   have ra:=rat i g gR;rw[xI g] at h2;simp only[Iq] at h2;have C:=E9 l[i] (ht _ (xz g));unfold Tk.row at C;have fin:(!cu l[i])=false-> ∀σ',il σ' ⟨[(0,.sl RR),(1,.fn 40 []),(7,i6 l.length),(8,i6 (i+1:Nat))],[],[]⟩->K σ':=
    fun hg σ' hσ=>hK (i+1) σ' ⟨by omega,by rw[hg] at h2;simpa using h2⟩ (by omega) hσ
   have hpos:(!cu l[i])=true->R=i:=fun hg=>by rw[if_pos hg] at h2;exact h2.symm▸rfl
   clear hK hR rat h2;generalize (!cu l[i])=q at*;generalize l[i]=x at*;have C:=fun d=>Sp.h (d:=d) C
   simp[g,gR,ra,rl];refine bg _ _ (C _) ?_;cases q
   ·have fin:=fin rfl;simp[t1];refine fin _ ?_;apply aC<;>simp[t1]
   ·have h2:=hpos rfl;subst h2;simp;apply ah<;>simp
  ·obtain rfl:i=l.length:=by omega
   rw[N6] at h2;simp only[Iq] at h2;subst h2;clear hK;simp;apply ah<;>simp
 ·exact ⟨jq _,hR⟩
 ·apply aC<;>simp
theorem Fa (l:List Tk) (hl:l.length<=1000000) (ht: ∀t∈l,t.t.length<=900000) (d:Nat):
  ba Tryz.prog gl 43 d ⟨[.sl (l.map Tk.row),.fn 40 []],[],[]⟩ ⟨.bool (!l.all cu),[],[]⟩:=by
 refine UF rfl ?_;have Q:=Is l hl ht 7;rw[<-Ir l 0];generalize l.map Tk.row=RR,Iq l 0=R at*;simp only[ar,aW,aP,AV.mp,aY,Pl.mp];simp[Tn];refine bg _ _ (Q) ?_;simp;apply ah<;>simp
open Go.Proofs
mutual
def oB:It->Nat->List (Nat×It)
 | .mk n ws b ks ln co,d=>(d,.mk n ws b ks ln co)::cT ks (d+1)
def cT:List It->Nat->List (Nat×It)
 |[],_=>[]
 |x::r,d=>oB x d++cT r d
end
def Fb (p:Nat×It):List AV:=[i6 p.1,.agg p.2.row]
mutual
theorem BX: ∀(x:It) (d:Nat),vx x d=(oB x d).map Fb
 | .mk n ws b ks ln co,d=>by
  rw[vx,oB,fZ,nj ks (d+1)];rfl
theorem nj: ∀(L:List It) (d:Nat),cA L d=(cT L d).map Fb
 |[],d=>rfl
 |x::r,d=>by rw[cA,cT,List.map_append,BX x d,nj r d]
end
mutual
theorem Fc: ∀(x:It) (d:Nat),(oB x d).length=jh x
 | .mk n ws b ks ln co,d=>by rw[oB,jh,e7,pH ks (d+1)];omega
theorem pH: ∀(L:List It) (d:Nat),(cT L d).length=bJ L
 |[],d=>rfl
 |x::r,d=>by rw[cT,bJ,fT,Fc x d,pH r d]
end
def Fd (k:Nat) (p:Nat×It):Bool:=match p with
 |(d,.mk n ws b ks _ _)=>decide (k<=300)&&decide (d<=4)&&dx n&&decide (ws.length<=6)&&ws.all cu&&(b||ks.length==0)
def dz:Nat->List (Nat×It)->Bool
 |_,[]=>true
 |k,p::r=>Fd (k+1) p&&dz (k+1) r
def KZ (x:It):Prop:=match x with
 | .mk n ws _ ks _ _=>n.length<=900000/\ws.length<=1000000/\(∀t∈ws,t.t.length<=900000)/\ks.length<=1000000
def LQ:AC:=match Ls with
 | .sq _ (.sq _ (.sq (.sq _ (.bl _ (.rf _ _ _ _ a _))) _))=>a
 |_=> .no
def OV:AC:=match Ls with
 | .sq _ (.sq _ (.sq (.sq _ (.bl _ (.rf _ _ _ _ _ b))) _))=>b
 |_=> .no
def ua (RR:List (List AV)) (k:Nat):St:=⟨[(9,.undef),(8,.fn 68 [.ptr (.nw 8 (.n 1)) 0]),(7,.sl RR),(3,.ptr (.n 3) 0),(2,.ptr (.n 2) 0),(0,.sl RR)],[(.nw 8 (.n 1),[.sl RR]),(.n 3,[i6 k]),(.n 2,[.bool false])],[]⟩
theorem wT (RR:List (List AV)) (j:Nat) (hj:j<=100000) (dd:Nat) (hdd:dd<=100000) (x:It) (hx:KZ x) (K:AE->St->Prop) (h1:Fd (j+1) (dd,x)=true->K .n (ua RR (j+1))) (h2:Fd (j+1) (dd,x)=false->K .r (ua RR (j+1))):
  Ei (ba Tryz.prog gl) 9 [9,10] [2,3] LQ OV (Fb (dd,x)) K (ua RR j):=by
 have t1:IntKind.i64.wrap ((j:Int)+1)=(j+1:Nat):=by rw[aL]<;>omega
 refine ⟨⟨[.ptr (.n 2) 0,.ptr (.n 3) 0],[(.nw 8 (.n 1),[.sl RR]),(.n 3,[i6 j]),(.n 2,[.bool false])],[]⟩,⟨⟨?_,?_,?_,?_,?_,?_,?_⟩,?_,?_⟩,?_⟩;iterate 8 (· simp[ua])
 ·refine oa ?_;simp
 obtain ⟨nm,ws,b,ks,ln,co⟩:=x;obtain ⟨x1,x2,x3,x4⟩:=hx;have NM:=nb nm x1;have HW:=Fa ws x2 x3;unfold Fd at h1 h2;simp only[Fb,It.row,Mw,my,aP,aW,AV.mp,aY,cB,cL,LQ,Ls];have fin: ∀e:AE,K e (ua RR (j+1))-> ∀σ':St,aD σ'.bx (.up (.nw 8 (.n 1)))=some [.sl RR]->aD σ'.bx (.up (.n 3))=some [i6 (j+1:Nat)]->aD σ'.bx (.up (.n 2))=some [.bool false]->(∀p∈σ'.bx,p.1.isIt=false)->
   wg 9 (ua RR j) [2,3] ⟨[.ptr (.n 2) 0,.ptr (.n 3) 0],[(.nw 8 (.n 1),[.sl RR]),(.n 3,[i6 j]),(.n 2,[.bool false])],[]⟩ K e σ':=by
  intro e hk σ' b1 b2 b3 hi;refine ⟨⟨.tup [],[(.nw 8 (.n 1),[.sl RR]),(.n 3,[i6 (j+1:Nat)]),(.n 2,[.bool false])],[]⟩,⟨_,.z _,?_,?_,?_,?_,?_,?_⟩,⟨?_,?_,?_,?_,?_,?_,?_⟩,hi,hk⟩
  ·simp
  ·simp
  ·simp[Ny,b1,b2,b3]
  ·simp
  ·simp
  ·simp
  iterate 7 (· simp[ua])
 simp[Ls];simp only[OV,Ls];refine ⟨by rintro a c (⟨rfl,_⟩|⟨rfl,_⟩|⟨rfl,_⟩|⟨rfl,_⟩)<;>rfl,?_⟩;have wl:(ws.map Tk.row).length=ws.length:=tN _;have kl:=bQ ks;generalize List.map Tk.row ws=WR,ab ks=KR at*;by_cases c1:j+1<=300
 ·have c1': ¬(300:Int)<((j+1:Nat):Int):=by omega
  have c1'': ¬(300:Int)<(j:Int)+1:=by omega
  by_cases c2:dd<=4
  ·have c2': ¬(4:Int)<(dd:Int):=by omega
   cases hn:dx nm with
   |false=>
    rw[hn] at NM;simp[t1,c1',c1'',c2'];apply ag NM;simp;refine fin _ (h2 (by simp[c1,c2,hn])) _ rfl rfl rfl ?_;simp
   |true=>
    rw[hn] at NM;by_cases c4:ws.length<=6
    ·have c4': ¬(6:Int)<(ws.length:Int):=by omega
     cases hw:ws.all cu with
     |false=>
      rw[hw] at HW;simp[t1,c1',c1'',c2'];apply ag NM;simp[wl,c4,c4'];refine bg _ _ (HW _) ?_;simp;refine fin _ (h2 (by simp only[c1,c2,hn,c4,hw];simp)) _ rfl rfl rfl ?_;simp
     |true=>
      rw[hw] at HW;cases b with
      |true=>
       simp[t1,c1',c1'',c2'];apply ag NM;simp[wl,c4,c4'];refine bg _ _ (HW _) ?_;simp;refine fin _ (h1 (by simp only[c1,c2,hn,c4,hw];simp)) _ rfl rfl rfl ?_;simp
      |false=>
       by_cases c6:0<ks.length
       ·have c6':(0:Int)<(ks.length:Int):=by omega
        have c6'':(ks.length==0)=false:=cH.2 (by omega);simp[t1,c1',c1'',c2'];apply ag NM;simp[wl,c4,c4'];refine bg _ _ (HW _) ?_;simp[kl,c6,c6'];refine fin _ (h2 (by simp only[c1,c2,hn,c4,hw,c6''];simp)) _ rfl rfl rfl ?_;simp
       ·have c6': ¬(0:Int)<(ks.length:Int):=by omega
        have c6'':(ks.length==0)=true:=cI.2 (by omega);simp[t1,c1',c1'',c2'];apply ag NM;simp[wl,c4,c4'];refine bg _ _ (HW _) ?_;simp[kl,c6,c6'];refine fin _ (h1 (by simp only[c1,c2,hn,c4,hw,c6''];simp)) _ rfl rfl rfl ?_;simp
    ·have c4':(6:Int)<(ws.length:Int):=by omega
     simp[t1,c1',c1'',c2'];apply ag NM;simp[wl,c4,c4'];refine fin _ (h2 (by simp[c1,c2,hn,c4])) _ rfl rfl rfl ?_;simp
  ·have c2':(4:Int)<(dd:Int):=by omega
   simp[t1,c1',c1'',c2'];refine fin _ (h2 (by simp[c1,c2])) _ rfl rfl rfl ?_;simp
 ·have c1':(300:Int)<((j+1:Nat):Int):=by omega
  have c1'':(300:Int)<(j:Int)+1:=by omega
  simp[t1,c1',c1''];refine fin _ (h2 (by simp[c1])) _ rfl rfl rfl ?_;simp
open Go.Proofs
structure Sc where
 out:List Tk
 st:Int
 sa:Nat
 fl:Int
 fc:Int
 al:Int
 ac:Int
 cd:Int
 xl:Int
 xc:Int
def fv (s:List UInt8) (x:Sc):List AV:=[.str s,.sl (x.out.map Tk.row),i6 x.st,i6 x.sa,i6 x.fl,i6 x.fc,i6 x.al,i6 x.ac,i6 x.cd,i6 x.xl,i6 x.xc]
def Sc.begin (x:Sc) (i:Nat) (st:Int):Sc:={x with sa:=i,st:=st,fl:=x.al,fc:=x.ac}
def Sc.wrong (x:Sc) (e:Int):Sc:={x with cd:=e,xl:=x.fl,xc:=x.fc}
inductive TV where
 |e (c:Int)
 |t (k:Int) (w:List UInt8) (n:Nat)
def TV.av:TV->AV
 | .e c=> .ifc 37 (i6 c)
 | .t k w n=> .ifc 94 (.agg [i6 k,.str w,u n,i6 0,i6 0])
def TV.ok:TV->Bool
 | .e _=>false
 | .t _ _ _=>true
def Sc.add (x:Sc):TV->Sc
 | .e c=>x.wrong c
 | .t k w n=>{x with out:=x.out++[⟨k,w,n,x.fl,x.fc⟩],st:=0}
theorem wU (l:List Tk): ∀r∈l.map Tk.row,r.length=5:=by
 intro r hr;obtain ⟨_,_,rfl⟩:=oY.1 hr;rfl
theorem ic (s:List UInt8) (x:Sc) (i:Nat) (st:Int) (d:Nat) (b:Id) (hb:b.isIt=false) (hbd:b.isNw d=false):
  ba Tryz.prog gl 58 d ⟨[.ptr b 0,i6 i,i6 st],[(b,fv s x)],[(.b b 1,5)]⟩ ⟨.tup [],[(b,fv s (x.begin i st))],[(.b b 1,5)]⟩:=by
 refine UU rfl ?_;have hib:=ae hbd;unfold fv Sc.begin;generalize x.out.map Tk.row=L at*;simp only[ar,aW,aP,AV.mp,aY,Pl.mp];simp[Tx];apply ah<;>simp[hib,hb]
theorem eF (s:List UInt8) (x:Sc) (e:Int) (d:Nat) (b:Id) (hb:b.isIt=false) (hbd:b.isNw d=false):
  ba Tryz.prog gl 59 d ⟨[.ptr b 0,i6 e],[(b,fv s x)],[(.b b 1,5)]⟩ ⟨.bool false,[(b,fv s (x.wrong e))],[(.b b 1,5)]⟩:=by
 refine UV rfl ?_;have hib:=ae hbd;unfold fv Sc.wrong;generalize x.out.map Tk.row=L at*;simp only[ar,aW,aP,AV.mp,aY,Pl.mp];simp[Ty];apply ah<;>simp[hib,hb]
theorem iS (s:List UInt8) (x:Sc) (hl:x.out.length<=1000000) (v:TV) (d:Nat) (b:Id) (hb:b.isIt=false) (hbd:b.isNw d=false):
  ba Tryz.prog gl 84 d ⟨[.ptr b 0,v.av],[(b,fv s x)],[(.b b 1,5)]⟩ ⟨.bool v.ok,[(b,fv s (x.add v))],[(.b b 1,5)]⟩:=by
 refine Vg rfl ?_;have hib:=ae hbd;have hlim:nD=140737488355328:=rfl;cases v with
 |e c=>
  have W:=fun e=>eF s x c e (.up b) hb
  unfold fv Sc.wrong at W;unfold fv Sc.add Sc.wrong TV.av TV.ok;generalize x.out.map Tk.row=L at*;simp only[ar,aW,aP,AV.mp,aY,Pl.mp];simp[Qt];refine aE _ _ (W _ rfl) (by constructor<;>simp[hb]) ?_
  simp;apply ah<;>simp[hib,hb]
 |t k w n=>
  have h5:=wU x.out;have hll:((x.out.map Tk.row).length+1)*48<=140737488355328:=by simp;omega
  have he:(x.out++[(⟨k,w,n,x.fl,x.fc⟩:Tk)]).map Tk.row=x.out.map Tk.row++[[i6 k,.str w,u n,i6 x.fl,i6 x.fc]]:=by simp[Tk.row]
  unfold fv Sc.add TV.av TV.ok;simp only[he];clear he;generalize x.out.map Tk.row=L at*;simp only[ar,aW,aP,AV.mp,aY,Pl.mp];simp[Qt,hlim];refine ⟨hll,h5,?_⟩;apply ah<;>simp[hib,hb]
open Go.Proofs
def ub:List Tk->List Tk
 |_::y::r=>y::r
 |l=>l
def qg (l:List Tk) (n:Nat):List AV:=[.sl (l.map Tk.row),i6 n]
theorem sL (t:Tk) (r:List Tk) (n:Nat) (d:Nat) (b:Id) (hb:b.isIt=false) (hbd:b.isNw d=false):
  ba Tryz.prog gl 62 d ⟨[.ptr b 0],[(b,qg (t::r) n)],[]⟩ ⟨.agg t.row,[(b,qg (ub (t::r)) n)],[]⟩:=by
 refine UY rfl ?_;have hib:=ae hbd;obtain ⟨k,s,m,ln,co⟩:=t;cases r with
 |nil=>
  simp only[ub,qg,fZ,l6,Tk.row,ar,aW,aP,AV.mp,aY,Pl.mp];simp[Ql];apply ah<;>simp[hib,hb]
 |cons y r=>
  simp only[ub,qg,fZ,l6,Tk.row,ar,aW,aP,AV.mp,aY,Pl.mp];have h1:=wU r;have hl:(1:Int)<((List.map Tk.row r).length:Int)+1+1:=by omega
  generalize List.map Tk.row r=L at*;have hk:((L.length:Int)+1+1).toNat=L.length+1+1:=by omega
  have hg:(1:Int)<=(L.length:Int)+1+1:=by omega
  simp[Ql,hl,hk];refine ⟨hg,h1,?_⟩;apply ah<;>simp[hib,hb]
def wV (c:Int) (t:Tk):AV:= .ifc 41 (.agg [i6 c,i6 t.ln,i6 t.co])
theorem sM (c:Int) (t:Tk) (d:Nat):di Tryz.prog gl 63 d ⟨[i6 c,.agg t.row],[],[]⟩ ⟨wV c t,[],[]⟩:=by
 refine U0 rfl ?_;obtain ⟨k,s,m,ln,co⟩:=t;simp only[Tk.row,wV,ar,aW,aP,AV.mp,aY,Pl.mp];simp[Qm];refine ⟨rfl,by simp,?_⟩;constructor<;>simp
end Go.Ai
namespace Go.Ai
inductive Pr (α:Type) where
 |ok (a:α) (l:List Tk) (n:Nat)
 |th (c:Int) (t:Tk) (l:List Tk) (n:Nat)
 |no
mutual
def pL:Nat->Nat->Int->List It->List Tk->Nat->Pr (List It)
 |0,_,_,_,_,_=> .no
 |_+1,_,_,_,[],_=> .no
 |f+1,d,e,out,t::r,n=>
  if t.k=e then .ok out (ub (t::r)) n
  else if t.k≠1 then .th 6 t (ub (t::r)) n
  else if 4<d then .th 19 t (ub (t::r)) n
  else if n=300 then .th 9 t (ub (t::r)) n
  else match pI f d t.t t.ln t.co [] (ub (t::r)) (n+1) with
   | .ok x l' n'=>pL f d e (out++[x]) l' n'
   | .th c t l' n'=> .th c t l' n'
   | .no=> .no
def pI:Nat->Nat->List UInt8->Int->Int->List Tk->List Tk->Nat->Pr It
 |0,_,_,_,_,_,_,_=> .no
 |_+1,_,_,_,_,_,[],_=> .no
 |f+1,d,nm,ln,co,ws,t::r,n=>
  if t.k=9 then .ok (.mk nm ws false [] ln co) (ub (t::r)) n
  else if t.k=7 then match pL f (d+1) 8 [] (ub (t::r)) n with
   | .ok ks l' n'=> .ok (.mk nm ws true ks ln co) l' n'
   | .th c t l' n'=> .th c t l' n'
   | .no=> .no
  else if t.k<1\/6<t.k then .th 6 t (ub (t::r)) n
  else if ws.length=6 then .th 9 t (ub (t::r)) n
  else pI f d nm ln co (ws++[t]) (ub (t::r)) n
end
theorem Iu: ∀f:Nat,(∀d e out l n o l' n',pL f d e out l n= .ok o l' n'->n<=300->out.length<=n->n<=n'/\n'<=300/\o.length<=n')/\(∀d nm ln co ws l n x l' n',pI f d nm ln co ws l n= .ok x l' n'->n<=300->n<=n'/\n'<=300)
 |0=>⟨fun d e out l n o l' n' h _ _=>by simp[pL] at h,fun d nm ln co ws l n x l' n' h _=>by simp[pI] at h⟩
 |f+1=>by
  obtain ⟨ihL,ihI⟩:=Iu f;refine ⟨fun d e out l n o l' n' h hn ho=>?_,fun d nm ln co ws l n x l' n' h hn=>?_⟩
  ·cases l with
   |nil=>simp[pL] at h
   |cons t r=>
    rw[pL] at h;split at h
    ·cases h;exact ⟨eR _,hn,ho⟩
    split at h
    ·cases h
    split at h
    ·cases h
    split at h
    ·cases h
    rename_i c4;split at h
    ·rename_i x l2 n2 he;have h1:=ihI _ _ _ _ _ _ _ _ _ _ he (by omega);have h2:=ihL _ _ _ _ _ _ _ _ h h1.2 (by rw[fT,Cp];omega);exact ⟨by omega,h2.2⟩
    ·cases h
    ·cases h
  ·cases l with
   |nil=>simp[pI] at h
   |cons t r=>
    rw[pI] at h;split at h
    ·cases h;exact ⟨eR _,hn⟩
    split at h
    ·split at h
     ·rename_i ks l2 n2 he;cases h
      have:=ihL _ _ _ _ _ _ _ _ he hn (jq _)
      exact ⟨this.1,this.2.1⟩
     ·cases h
     ·cases h
    split at h
    ·cases h
    split at h
    ·cases h
    exact ihI _ _ _ _ _ _ _ _ _ _ h hn
open Go.Proofs
def P7 (f:Nat):Prop:= ∀(d:Nat) (e:Int) (l:List Tk) (n:Nat) (D:Nat) (b:Id),b.isIt=false->b.isNw D=false->d<=5->n<=300->
 (∀o l' n',pL f d e [] l n= .ok o l' n'->ba Tryz.prog gl 37 D ⟨[.ptr b 0,i6 d,i6 e],[(b,qg l n)],[]⟩ ⟨.sl (ab o),[(b,qg l' n')],[]⟩)/\
 (∀c t l' n',pL f d e [] l n= .th c t l' n'->di Tryz.prog gl 37 D ⟨[.ptr b 0,i6 d,i6 e],[(b,qg l n)],[]⟩ ⟨wV c t,[(b,qg l' n')],[]⟩)
def LU (f:Nat):Prop:= ∀(d:Nat) (x:Tk) (l:List Tk) (n:Nat) (D:Nat) (b:Id),b.isIt=false->b.isNw D=false->d<=4->n<=300->
 (∀y l' n',pI f d x.t x.ln x.co [] l n= .ok y l' n'->ba Tryz.prog gl 64 D ⟨[.ptr b 0,.agg x.row,i6 d],[(b,qg l n)],[]⟩ ⟨.agg y.row,[(b,qg l' n')],[]⟩)/\
 (∀c t l' n',pI f d x.t x.ln x.co [] l n= .th c t l' n'->di Tryz.prog gl 64 D ⟨[.ptr b 0,.agg x.row,i6 d],[(b,qg l n)],[]⟩ ⟨wV c t,[(b,qg l' n')],[]⟩)
theorem DB (f d:Nat) (e:Int) (l:List Tk) (n:Nat) (D:Nat) (b:Id) (hb:b.isIt=false) (hbd:b.isNw D=false) (hd:d<=5) (hn:n<=300) (hI: ∀g,g<f->LU g) (Q:AE->St->Prop) (Rp:AV->St->Prop) (hno:pL f d e [] l n≠ .no)
  (hQ: ∀o l' n',pL f d e [] l n= .ok o l' n'-> ∀σ,bH D [.t 6] ⟨.sl (ab o),[(b,qg l' n')],[]⟩ .r σ->Q .r σ)
  (hR: ∀c t l' n',pL f d e [] l n= .th c t l' n'-> ∀v σ,dM D ⟨wV c t,[(b,qg l' n')],[]⟩ v σ->Rp v σ):
  bu (ba Tryz.prog gl) (di Tryz.prog gl) Rp NJ Q (ar ⟨[.ptr b 0,i6 d,i6 e],[(b,qg l n)],[]⟩):=by
 have hib:=ae hbd;obtain ⟨R,hRR⟩: ∃R,R=pL f d e [] l n:=⟨_,rfl⟩;rw[<-hRR] at hno hQ hR;have hlim:nD=140737488355328:=rfl;unfold qg at*;simp only[ar,aW,aP,AV.mp,aY,Pl.mp];simp[NJ];refine CW (α:=Nat×List It×List Tk×Nat) (fun y=>⟨[(0,.ptr (.up b) 0),(1,i6 d),(2,i6 e),(7,.sl (ab y.2.1))],[(.up b,[.sl (y.2.2.1.map Tk.row),i6 y.2.2.2])],[(.s 7,6)]⟩) (fun y=>y.1<=f/\y.2.1.length<=y.2.2.2/\y.2.2.2<=300/\pL y.1 d e y.2.1 y.2.2.1 y.2.2.2=R) (fun y=>y.1) ?_ (f,[],l,n) ?_ ?_
 ·rintro K ⟨g,out,l,n⟩ hK ⟨hg,ho,hn,he⟩;simp only at hg ho hn he;cases g with
  |zero=>exact absurd (by rw[<-he];simp[pL]) hno
  |succ g=>
   cases l with
   |nil=>exact absurd (by rw[<-he];simp[pL]) hno
   |cons t r=>
    rw[pL] at he;have NX:=fun D h=>sL t r n D (.up b) hb h
    unfold qg at NX;have hri:=jJ out;have hrl:=bQ out;have hll:((ab out).length+1)*88<=nD:=by rw[hlim,hrl];omega
    have TH:=fun (c:Int) (D:Nat)=>sM c t D
    simp only[Tk.row] at NX TH;rw[fZ,Tk.row] at*;have hi1:=hI g (by omega);obtain ⟨tk,tt,tn,tl,tc⟩:=t;simp only[Tk.row] at NX TH he ⊢;have e2:(tk==e)=decide (tk=e):=rfl;generalize ub (⟨tk,tt,tn,tl,tc⟩::r)=l2,List.map Tk.row r=LR at*;simp;refine bg _ _ (NX _ rfl) ?_;simp;by_cases c1:tk=e
    ·rw[if_pos c1] at he;have c1':(tk==e)=true:=by simpa using c1
     clear hK hR hI hi1;simp[c1,c1'];refine hQ _ _ _ he.symm _ ?_;apply ah<;>simp[hib,hb]
    rw[if_neg c1] at he;have c1':(tk==e)=false:=by simpa using c1
    by_cases c2:tk≠1
    ·rw[if_pos c2] at he;have c2':(tk !=1)=true:=by simpa using c2
     clear hK hQ hI hi1;simp[c1,c1',c2,c2'];refine bj _ _ (TH 6 _) (by constructor<;>simp) rfl ?_
     refine hR _ _ _ _ he.symm _ _ ⟨rfl,by simp,?_⟩;refine ⟨?_,?_,?_,?_,?_,?_⟩<;>simp[hib,hb]
    rw[if_neg c2] at he;have c2:tk=1:=by omega
    by_cases c3:4<d
    ·rw[if_pos c3] at he;have c3':(4:Int)<d:=by omega
     have c2':(tk !=1)=false:=by simpa using c2
     clear hK hQ hI hi1 c2;simp[c1,c1',c2',c3,c3'];refine bj _ _ (TH 19 _) (by constructor<;>simp) rfl ?_
     refine hR _ _ _ _ he.symm _ _ ⟨rfl,by simp,?_⟩;refine ⟨?_,?_,?_,?_,?_,?_⟩<;>simp[hib,hb]
    rw[if_neg c3] at he;have c3': ¬(4:Int)<d:=by omega
    by_cases c4:n=300
    ·rw[if_pos c4] at he;have c4':((n:Int)==300)=true:=by rw[c4];rfl
     have c2':(tk !=1)=false:=by simpa using c2
     clear hK hQ hI hi1 c2;subst c4;simp[c1,c1',c2',c3,c3',c4'];refine bj _ _ (TH 9 _) (by constructor<;>simp) rfl ?_
     refine hR _ _ _ _ he.symm _ _ ⟨rfl,by simp,?_⟩;refine ⟨?_,?_,?_,?_,?_,?_⟩<;>simp[hib,hb]
    rw[if_neg c4] at he;have c4':((n:Int)==300)=false:=cH.2 (by omega);have c2':(tk !=1)=false:=by simpa using c2
    have t1:IntKind.i64.wrap ((n:Int)+1)=(n+1:Nat):=by rw[aL]<;>omega
    have hcn:=(Iu g).2 d tt tl tc [] l2 (n+1);have hiO:=fun D h=>(hi1 d ⟨tk,tt,tn,tl,tc⟩ l2 (n+1) D (.up b) hb h (by omega) (by omega)).1
    have hiT:=fun D h=>(hi1 d ⟨tk,tt,tn,tl,tc⟩ l2 (n+1) D (.up b) hb h (by omega) (by omega)).2
    simp only[Tk.row] at hiO hiT;clear hi1 hI;split at he
    ·rename_i x l3 n3 hx;have LU:=fun D h=>hiO D h _ _ _ hx
     have hc3:=hcn _ _ _ hx (by omega);have fin:=fun σ' hσ=>hK (g,out++[x],l3,n3) σ' ⟨by omega,by simp only[fT,Cp];omega,hc3.2,he⟩ (by simp only;omega) hσ
     simp only[jg,ab] at fin;obtain ⟨xn,ws,xb,ks,xl,xc⟩:=x;simp only[It.row] at LU fin;unfold qg at LU;clear hiO hiT hK hQ hR TH NX hcn hx;generalize ab out=OR,ab ks=KR,List.map Tk.row ws=WR,List.map Tk.row l3=L3,List.map Tk.row l2=L2 at*;simp[c1,c1',c2',c3,c3',c4,c4',t1];refine aZ _ _ (LU _ rfl) (by constructor<;>simp[t1]) ?_
     simp[hlim];refine ⟨by omega,hri,?_⟩;refine fin _ ?_;apply aC<;>simp[t1]
    ·rename_i c' t' l3 n3 hx;have IT:=fun D h=>hiT D h _ _ _ _ hx
     unfold qg at IT;clear hiO hiT hK hQ TH NX hcn hx;simp[c1,c1',c2',c3,c3',c4,c4',t1];refine bj _ _ (IT _ rfl) (by constructor<;>simp[t1]) rfl ?_
     refine hR _ _ _ _ he.symm _ _ ⟨rfl,by simp,?_⟩;refine ⟨?_,?_,?_,?_,?_,?_⟩<;>simp[hib,hb]
    ·exact absurd he.symm hno
 ·exact ⟨eR _,jq _,hn,hRR.symm⟩
 ·apply aC<;>simp[ab]
theorem K0 (f:Nat) (hI: ∀g,g<f->LU g):P7 f:=by
 intro d e l n D b hb hbd hd hn;refine ⟨fun o l' n' h=>?_,fun c t l' n' h=>?_⟩
 ·refine UA rfl ?_;refine DB f d e l n D b hb hbd hd hn hI _ _ (by rw[h];simp) (fun o2 l2 n2 h2 σ hp=>?_) (fun c t l' n' h2=>by rw[h] at h2;cases h2);rw[h] at h2;cases h2;exact hp
 ·refine t37 rfl ?_;refine DB f d e l n D b hb hbd hd hn hI _ _ (by rw[h];simp) (fun o2 l2 n2 h2=>by rw[h] at h2;cases h2) (fun c2 t2 l2 n2 h2 v σ hp=>?_);rw[h] at h2;cases h2;exact hp
open Go.Proofs
theorem DC (f d:Nat) (x:Tk) (l:List Tk) (n:Nat) (D:Nat) (b:Id) (hb:b.isIt=false) (hbd:b.isNw D=false) (hd:d<=4) (hn:n<=300) (hL: ∀g,g<f->P7 g) (Q:AE->St->Prop) (Rp:AV->St->Prop) (hno:pI f d x.t x.ln x.co [] l n≠ .no)
  (hQ: ∀y l' n',pI f d x.t x.ln x.co [] l n= .ok y l' n'-> ∀σ,bH D [.ca 6 6] ⟨.agg y.row,[(b,qg l' n')],[]⟩ .r σ->Q .r σ)
  (hR: ∀c t l' n',pI f d x.t x.ln x.co [] l n= .th c t l' n'-> ∀v σ,dM D ⟨wV c t,[(b,qg l' n')],[]⟩ v σ->Rp v σ):
  bu (ba Tryz.prog gl) (di Tryz.prog gl) Rp NK Q (ar ⟨[.ptr b 0,.agg x.row,i6 d],[(b,qg l n)],[]⟩):=by
 have hib:=ae hbd;obtain ⟨R,hRR⟩: ∃R,R=pI f d x.t x.ln x.co [] l n:=⟨_,rfl⟩;rw[<-hRR] at hno hQ hR;have hlim:nD=140737488355328:=rfl;have w1:IntKind.i64.wrap ((d:Int)+1)=(d+1:Nat):=by rw[aL]<;>omega
 obtain ⟨xk,nm,xn,ln,co⟩:=x;simp only[Tk.row] at*;unfold qg at*;simp only[ar,aW,aP,AV.mp,aY,Pl.mp];simp[NK];refine CW (α:=Nat×List Tk×List Tk×Nat) (fun y=>⟨[(0,.ptr (.up b) 0),(2,i6 d),(6,.ptr (.n 6) 0),(7,.ptr (.n 7) 0)],[(.n 7,[.str nm,.sl (y.2.1.map Tk.row),.bool false,.sl [],i6 ln,i6 co]),(.n 6,[.str [],.nils,.bool false,.nils,i6 0,i6 0]),(.up b,[.sl (y.2.2.1.map Tk.row),i6 y.2.2.2])],[(.b (.n 7) 1,5)]⟩) (fun y=>y.1<=f/\y.2.1.length<=6/\y.2.2.2<=300/\pI y.1 d nm ln co y.2.1 y.2.2.1 y.2.2.2=R) (fun y=>y.1) ?_ (f,[],l,n) ?_ ?_
 ·rintro K ⟨g,ws,l,n⟩ hK ⟨hg,ho,hn,he⟩;simp only at hg ho hn he;cases g with
  |zero=>exact absurd (by rw[<-he];simp[pI]) hno
  |succ g=>
   cases l with
   |nil=>exact absurd (by rw[<-he];simp[pI]) hno
   |cons t r=>
    rw[pI] at he;have NX:=fun D h=>sL t r n D (.up b) hb h
    unfold qg at NX;have hwr:=wU ws;have hwl:(ws.map Tk.row).length=ws.length:=tN _;have TH:=fun (c:Int) (D:Nat)=>sM c t D
    simp only[Tk.row] at NX TH;rw[fZ,Tk.row] at*;have hl1:=hL g (by omega);obtain ⟨tk,tt,tn,tl,tc⟩:=t;simp only[Tk.row] at NX TH he ⊢;have fin0:pI g d nm ln co (ws++[⟨tk,tt,tn,tl,tc⟩]) (ub (⟨tk,tt,tn,tl,tc⟩::r)) n=R->ws.length≠6-> ∀σ',il σ' ⟨[(0,.ptr (.up b) 0),(2,i6 d),(6,.ptr (.n 6) 0),(7,.ptr (.n 7) 0)],[(.n 7,[.str nm,.sl (ws.map Tk.row++[[i6 tk,.str tt,u tn,i6 tl,i6 tc]]),.bool false,.sl [],i6 ln,i6 co]),(.n 6,[.str [],.nils,.bool false,.nils,i6 0,i6 0]),(.up b,[.sl ((ub (⟨tk,tt,tn,tl,tc⟩::r)).map Tk.row),i6 n])],[(.b (.n 7) 1,5)]⟩->K σ':=fun hp h6 σ' hσ=>
     hK (g,ws++[⟨tk,tt,tn,tl,tc⟩],ub (⟨tk,tt,tn,tl,tc⟩::r),n) σ' ⟨by omega,by simp only[fT,Cp];omega,hn,hp⟩ (by simp only;omega) (by
      simp only[List.map_append,fZ,l6,Tk.row];exact hσ)
    generalize ub (⟨tk,tt,tn,tl,tc⟩::r)=l2,List.map Tk.row r=LR at*;clear hK;simp;refine bg _ _ (NX _ rfl) ?_;simp;by_cases c1:tk=9
    ·rw[if_pos c1] at he;have c1':(tk==9)=true:=by simpa using c1
     have hq:=hQ _ _ _ he.symm;simp only[It.row,ab] at hq;clear hQ hR hL hl1 fin0 NX TH;generalize List.map Tk.row ws=WR,List.map Tk.row l2=L2 at*;simp[c1,c1'];refine hq _ ?_;apply ah<;>simp[hib,hb]
    rw[if_neg c1] at he;have c1':(tk==9)=false:=by simpa using c1
    by_cases c7:tk=7
    ·rw[if_pos c7] at he;have c7':(tk==7)=true:=by simpa using c7
     have hlO:=fun D h=>(hl1 (d+1) 8 l2 n D (.up b) hb h (by omega) hn).1
     have hlT:=fun D h=>(hl1 (d+1) 8 l2 n D (.up b) hb h (by omega) hn).2
     unfold qg at hlO hlT;clear hl1 hL fin0 NX TH;split at he
     ·rename_i ks l3 n3 hx;have LO:=fun D h=>hlO D h _ _ _ hx
      have hq:=hQ _ _ _ he.symm;simp only[It.row] at hq;clear hlO hlT hx hQ hR;generalize ab ks=KR,List.map Tk.row ws=WR,List.map Tk.row l3=L3,List.map Tk.row l2=L2 at*;simp[c1,c1',c7,c7',w1];refine aZ _ _ (LO _ rfl) (by constructor<;>simp) ?_
      simp;refine hq _ ?_;apply ah<;>simp[hib,hb]
     ·rename_i c' t' l3 n3 hx;have LT:=fun D h=>hlT D h _ _ _ _ hx
      clear hlO hlT hQ hx;generalize List.map Tk.row ws=WR at*;simp[c1,c1',c7,c7',w1];refine bj _ _ (LT _ rfl) (by constructor<;>simp) rfl ?_
      refine hR _ _ _ _ he.symm _ _ ⟨rfl,by simp,?_⟩;refine ⟨?_,?_,?_,?_,?_,?_⟩<;>simp[hib,hb]
     ·exact absurd he.symm hno
    rw[if_neg c7] at he;have c7':(tk==7)=false:=by simpa using c7
    clear hl1 hL;by_cases c2:tk<1\/6<tk
    ·rw[if_pos c2] at he;by_cases c3:tk<1
     ·clear hQ fin0 NX;generalize List.map Tk.row ws=WR at*;simp[c1,c1',c7,c7',c3];refine bj _ _ (TH 6 _) (by constructor<;>simp) rfl ?_
      refine hR _ _ _ _ he.symm _ _ ⟨rfl,by simp,?_⟩;refine ⟨?_,?_,?_,?_,?_,?_⟩<;>simp[hib,hb]
     ·have c4:6<tk:=by omega
      clear hQ fin0 NX;generalize List.map Tk.row ws=WR at*;simp[c1,c1',c7,c7',c3,c4];refine bj _ _ (TH 6 _) (by constructor<;>simp) rfl ?_
      refine hR _ _ _ _ he.symm _ _ ⟨rfl,by simp,?_⟩;refine ⟨?_,?_,?_,?_,?_,?_⟩<;>simp[hib,hb]
    rw[if_neg c2] at he;have c3: ¬tk<1:=by omega
    have c4: ¬6<tk:=by omega
    by_cases c5:ws.length=6
    ·rw[if_pos c5] at he;have c5':((ws.length:Int)==6)=true:=by rw[c5];rfl
     clear hQ fin0 NX;rw[c5] at hwl;generalize List.map Tk.row ws=WR at*;simp[c1,c1',c7,c7',c3,c4,hwl,c5,c5'];refine bj _ _ (TH 9 _) (by constructor<;>simp) rfl ?_
     refine hR _ _ _ _ he.symm _ _ ⟨rfl,by simp,?_⟩;refine ⟨?_,?_,?_,?_,?_,?_⟩<;>simp[hib,hb]
    rw[if_neg c5] at he;have c5':((ws.length:Int)==6)=false:=cH.2 (by omega);have fin:=fin0 he c5;clear fin0 hQ hR NX TH;generalize List.map Tk.row ws=WR at*;have hll:(WR.length+1)*48<=140737488355328:=by omega
    simp[c1,c1',c7,c7',c3,c4,hwl,c5,c5',hlim];refine ⟨by omega,hwr,?_⟩;refine fin _ ?_;apply aC<;>simp
 ·exact ⟨eR _,jq _,hn,hRR.symm⟩
 ·apply aC<;>simp
open Go.Proofs
section
variable {S SP:Nat->Nat->In->bO->Prop} {SD:Nat->Nat->In->AV->bO->Prop} {N sl dm d:Nat} {rs:List AR} {O:bO} {σ:St}
theorem iL {a:AC} {r:LE}:tV S SP SD N sl dm d rs O (.sq a r) σ=dK S a (fun e σ'=>match e with | .n=>tV S SP SD N sl dm d rs O r σ'| .r=>bH d rs O .r σ'| .x _=>False) σ:=rfl
theorem gS {l:List bv} {x:X} {c2:lM}:tV S SP SD N sl dm d rs O (.df l x c2) σ=lu S l (fun σ'=>match σ'.v x with
 | .fn g caps=>if BM<=g then False else ∃I M,I.vs.length=N/\cO sl σ' ((List.range N).map X.s) I M/\bH d [.t sl] O .r (bB sl σ' ((List.range N).map X.s) I M)/\
  bu S SP (fun v τ=>(∃T y,v= .ifc T y)/\mM SD sl dm rs M g caps v τ) c2 (fun e τ=>match e with | .x _=>False|_=>mM SD sl dm rs M g caps .nili τ) (ar I)
 |_=>False) σ:=rfl
end
open Go.Proofs
def fm (r:Nat):List UInt8:=
 if r<128 then [UInt8.ofNat r]
 else if r<2048 then [UInt8.ofNat (192+r / 64),UInt8.ofNat (128+r%64)]
 else if r<65536 then [UInt8.ofNat (224+r / 4096),UInt8.ofNat (128+r / 64%64),UInt8.ofNat (128+r%64)]
 else [UInt8.ofNat (240+r / 262144),UInt8.ofNat (128+r / 4096%64),UInt8.ofNat (128+r / 64%64),UInt8.ofNat (128+r%64)]
def lW (r:Int):List UInt8:=if r<0 then [255] else fm r.toNat
def aG:List Int->List UInt8
 |[]=>[]
 |r::l=>lW r++aG l
theorem oC: ∀a b:List Int,aG (a++b)=aG a++aG b
 |[],b=>rfl
 |r::l,b=>by rw[cB,aG,aG,oC l b,xv]
theorem z6 (r:Nat):(fm r).length<=4/\1<=(fm r).length:=by
 unfold fm;split
 ·simp
 ·split
  ·simp
  ·split<;>simp
theorem Iv (r:Int):(lW r).length<=4:=by
 unfold lW;split
 ·simp
 ·exact (z6 _).1
theorem gH: ∀l:List Int,(aG l).length<=4*l.length
 |[]=>by simp[aG]
 |r::l=>by
  have h1:=gH l;have h2:=Iv r;rw[aG,fT,e7];omega
end Go.Ai
