/- P17: a part of the proof. Conditions: as each theorem says. -/
import Derived.Test.YtojgeamhdkphaaaGreatDoorP16
set_option maxHeartbeats 4000000
set_option linter.unusedSimpArgs false
set_option linter.unusedVariables false
set_option maxRecDepth 20000
namespace Go.Ai
open Go.Proofs
theorem Hf (s:List UInt8) (n:Nat) (l c:Int) (hl:s.length<=900000):Sp Tryz.prog gl 79 [ji 1 s n l c] (.bool (dH s&&decide (n=0))):=by
 refine E5 rfl rfl ?_;have NM:=sM s hl;unfold ji;cases hb:dH s
 ·rw[hb] at NM;rw[jC];simp[m8];apply ab NM;simp
 ·rw[hb] at NM;rw[iX];by_cases n0:n=0
  ·subst n0;rw[jm (rfl:(0:Nat)=0)];simp[m8];apply ab NM;simp
  ·have n1:((n:Int)==0)=false:=bJ.2 (by omega);have n2: ¬(n:Int)=0:=by omega
   rw[ik n0];simp[m8];apply ab NM;simp[n1,n2]
theorem Hg (s:List UInt8) (n:Nat) (l c:Int) (hl:s.length<=900000):Sp Tryz.prog gl 79 [ji 2 s n l c] (.bool (gG (aC s 0)&&(decide ((aC s 0).length<=120)&&decide (n=0)))):=by
 refine E5 rfl rfl ?_;have GD:=BI s hl;have RS:=ny s hl;unfold ji;have rl:=i9 (aC s 0);generalize bP (aC s 0)=RR,(aC s 0).length=rn at*;cases hb:gG (aC s 0)
 ·rw[hb] at GD;rw[jC];simp[m8];apply ab GD;simp
 rw[hb] at GD;rw[iX];by_cases hr:rn<=120
 ·have hr':(rn:Int)<=120:=by omega
  rw[jm hr,iX];by_cases n0:n=0
  ·subst n0;rw[jm (rfl:(0:Nat)=0)];simp[m8];apply ab GD;simp;apply ab RS;simp[rl,hr,hr']
  ·have n1:((n:Int)==0)=false:=bJ.2 (by omega);have n2: ¬(n:Int)=0:=by omega
   rw[ik n0];simp[m8];apply ab GD;simp;apply ab RS;simp[rl,hr,hr',n1,n2]
 ·have hr': ¬(rn:Int)<=120:=by omega
  rw[ik hr,jC];simp[m8];apply ab GD;simp;apply ab RS;simp[rl,hr,hr']
theorem Hh (k:Int) (hk:k=3) (s:List UInt8) (n:Nat) (l c:Int):Sp Tryz.prog gl 79 [ji k s n l c] (.bool (s==[])):=by
 refine E5 rfl rfl ?_;unfold ji;have d1:(k==1)=false:=by subst hk;decide
 have d2:(k==2)=false:=by subst hk;decide
 have d3:(k==3)=true:=by subst hk;decide
 clear hk;by_cases e:s=[]
 ·subst e;rw[show (([]:List UInt8)==[])=true from rfl];simp[m8,d1,d2];refine l5 (fun _=>?_) (fun h=>by rw[d3] at h;cases h);simp;refine l5 (fun _=>?_) (fun h=>by rw[d3] at h;cases h);simp
 ·have en:(s==[])=false:=bJ.2 e;rw[en];simp[m8,d1,d2];refine l5 (fun _=>?_) (fun h=>by rw[d3] at h;cases h);simp;refine l5 (fun _=>?_) (fun h=>by rw[d3] at h;cases h);simp[e,en]
theorem Hi (k:Int) (hk:k=4) (s:List UInt8) (n:Nat) (l c:Int):Sp Tryz.prog gl 79 [ji k s n l c] (.bool (s==[])):=by
 refine E5 rfl rfl ?_;unfold ji;have d1:(k==1)=false:=by subst hk;decide
 have d2:(k==2)=false:=by subst hk;decide
 have d3:(k==3)=false:=by subst hk;decide
 have d4:(k==4)=true:=by subst hk;decide
 clear hk;by_cases e:s=[]
 ·subst e;rw[show (([]:List UInt8)==[])=true from rfl];simp[m8,d1,d2,d3,d4]
 ·have en:(s==[])=false:=bJ.2 e;rw[en];simp[m8,d1,d2,d3,d4,e,en]
theorem Hj (k:Int) (hk:k=5) (s:List UInt8) (n:Nat) (l c:Int):Sp Tryz.prog gl 79 [ji k s n l c] (.bool ((s==[])&&decide (n<=1000000))):=by
 refine E5 rfl rfl ?_;unfold ji;have d1:(k==1)=false:=by subst hk;decide
 have d2:(k==2)=false:=by subst hk;decide
 have d3:(k==3)=false:=by subst hk;decide
 have d4:(k==4)=false:=by subst hk;decide
 have d5:(k==5)=true:=by subst hk;decide
 clear hk;by_cases e:s=[]
 ·subst e;rw[show (([]:List UInt8)==[])=true from rfl,iX];by_cases h:n<=1000000
  ·have h':(n:Int)<=1000000:=by omega
   rw[jm h];simp[m8,d1,d2,d3,d4,d5,h,h']
  ·have h': ¬(n:Int)<=1000000:=by omega
   rw[ik h];simp[m8,d1,d2,d3,d4,d5,h,h']
 ·have en:(s==[])=false:=bJ.2 e;rw[en,jC];simp[m8,d1,d2,d3,d4,d5,e,en]
theorem Hk (k:Int) (hk:k=6) (s:List UInt8) (n:Nat) (l c:Int):Sp Tryz.prog gl 79 [ji k s n l c] (.bool ((s==[])&&decide (n<=253402300799))):=by
 refine E5 rfl rfl ?_;unfold ji;have d1:(k==1)=false:=by subst hk;decide
 have d2:(k==2)=false:=by subst hk;decide
 have d3:(k==3)=false:=by subst hk;decide
 have d4:(k==4)=false:=by subst hk;decide
 have d5:(k==5)=false:=by subst hk;decide
 have d6:(k==6)=true:=by subst hk;decide
 clear hk;by_cases e:s=[]
 ·subst e;rw[show (([]:List UInt8)==[])=true from rfl,iX];by_cases h:n<=253402300799
  ·have h':(n:Int)<=253402300799:=by omega
   rw[jm h];simp[m8,d1,d2,d3,d4,d5,d6,h,h']
  ·have h': ¬(n:Int)<=253402300799:=by omega
   rw[ik h];simp[m8,d1,d2,d3,d4,d5,d6,h,h']
 ·have en:(s==[])=false:=bJ.2 e;rw[en,jC];simp[m8,d1,d2,d3,d4,d5,d6,e,en]
theorem Hl (k:Int) (hk:k=0) (s:List UInt8) (n:Nat) (l c:Int):Sp Tryz.prog gl 79 [ji k s n l c] (.bool ((s==[])&&decide (n=0))):=by
 refine E5 rfl rfl ?_;unfold ji;have d1:(k==1)=false:=by subst hk;decide
 have d2:(k==2)=false:=by subst hk;decide
 have d3:(k==3)=false:=by subst hk;decide
 have d4:(k==4)=false:=by subst hk;decide
 have d5:(k==5)=false:=by subst hk;decide
 have d6:(k==6)=false:=by subst hk;decide
 have d0:(k==0)=true:=by subst hk;decide
 clear hk;by_cases e:s=[]
 ·subst e;rw[show (([]:List UInt8)==[])=true from rfl,iX];by_cases n0:n=0
  ·subst n0;rw[jm (rfl:(0:Nat)=0)];simp[m8,d1,d2,d3,d4,d5,d6,d0]
  ·have n1:((n:Int)==0)=false:=bJ.2 (by omega);have n2: ¬(n:Int)=0:=by omega
   rw[ik n0];simp[m8,d1,d2,d3,d4,d5,d6,d0,n1,n2]
 ·have en:(s==[])=false:=bJ.2 e;rw[en,jC];simp[m8,d1,d2,d3,d4,d5,d6,d0,e,en]
theorem Hm (k:Int) (hk:k=7) (s:List UInt8) (n:Nat) (l c:Int):Sp Tryz.prog gl 79 [ji k s n l c] (.bool ((s==[])&&decide (n=0))):=by
 refine E5 rfl rfl ?_;unfold ji;have d1:(k==1)=false:=by subst hk;decide
 have d2:(k==2)=false:=by subst hk;decide
 have d3:(k==3)=false:=by subst hk;decide
 have d4:(k==4)=false:=by subst hk;decide
 have d5:(k==5)=false:=by subst hk;decide
 have d6:(k==6)=false:=by subst hk;decide
 have d0:(k==0)=false:=by subst hk;decide
 have d7:(k==7)=true:=by subst hk;decide
 clear hk;by_cases e:s=[]
 ·subst e;rw[show (([]:List UInt8)==[])=true from rfl,iX];by_cases n0:n=0
  ·subst n0;rw[jm (rfl:(0:Nat)=0)];simp[m8,d1,d2,d3,d4,d5,d6,d0,d7]
  ·have n1:((n:Int)==0)=false:=bJ.2 (by omega);have n2: ¬(n:Int)=0:=by omega
   rw[ik n0];simp[m8,d1,d2,d3,d4,d5,d6,d0,d7,n1,n2]
 ·have en:(s==[])=false:=bJ.2 e;rw[en,jC];simp[m8,d1,d2,d3,d4,d5,d6,d0,d7,e,en]
theorem Hn (k:Int) (hk:k=8) (s:List UInt8) (n:Nat) (l c:Int):Sp Tryz.prog gl 79 [ji k s n l c] (.bool ((s==[])&&decide (n=0))):=by
 refine E5 rfl rfl ?_;unfold ji;have d1:(k==1)=false:=by subst hk;decide
 have d2:(k==2)=false:=by subst hk;decide
 have d3:(k==3)=false:=by subst hk;decide
 have d4:(k==4)=false:=by subst hk;decide
 have d5:(k==5)=false:=by subst hk;decide
 have d6:(k==6)=false:=by subst hk;decide
 have d0:(k==0)=false:=by subst hk;decide
 have d7:(k==7)=false:=by subst hk;decide
 have d8:(k==8)=true:=by subst hk;decide
 clear hk;by_cases e:s=[]
 ·subst e;rw[show (([]:List UInt8)==[])=true from rfl,iX];by_cases n0:n=0
  ·subst n0;rw[jm (rfl:(0:Nat)=0)];simp[m8,d1,d2,d3,d4,d5,d6,d0,d7,d8]
  ·have n1:((n:Int)==0)=false:=bJ.2 (by omega);have n2: ¬(n:Int)=0:=by omega
   rw[ik n0];simp[m8,d1,d2,d3,d4,d5,d6,d0,d7,d8,n1,n2]
 ·have en:(s==[])=false:=bJ.2 e;rw[en,jC];simp[m8,d1,d2,d3,d4,d5,d6,d0,d7,d8,e,en]
theorem Ho (k:Int) (hk:k=9) (s:List UInt8) (n:Nat) (l c:Int):Sp Tryz.prog gl 79 [ji k s n l c] (.bool ((s==[])&&decide (n=0))):=by
 refine E5 rfl rfl ?_;unfold ji;have d1:(k==1)=false:=by subst hk;decide
 have d2:(k==2)=false:=by subst hk;decide
 have d3:(k==3)=false:=by subst hk;decide
 have d4:(k==4)=false:=by subst hk;decide
 have d5:(k==5)=false:=by subst hk;decide
 have d6:(k==6)=false:=by subst hk;decide
 have d0:(k==0)=false:=by subst hk;decide
 have d7:(k==7)=false:=by subst hk;decide
 have d8:(k==8)=false:=by subst hk;decide
 have d9:(k==9)=true:=by subst hk;decide
 clear hk;by_cases e:s=[]
 ·subst e;rw[show (([]:List UInt8)==[])=true from rfl,iX];by_cases n0:n=0
  ·subst n0;rw[jm (rfl:(0:Nat)=0)];simp[m8,d1,d2,d3,d4,d5,d6,d0,d7,d8,d9]
  ·have n1:((n:Int)==0)=false:=bJ.2 (by omega);have n2: ¬(n:Int)=0:=by omega
   rw[ik n0];simp[m8,d1,d2,d3,d4,d5,d6,d0,d7,d8,d9,n1,n2]
 ·have en:(s==[])=false:=bJ.2 e;rw[en,jC];simp[m8,d1,d2,d3,d4,d5,d6,d0,d7,d8,d9,e,en]
theorem Hp (k:Int) (s:List UInt8) (n:Nat) (l c:Int) (h: ¬k=0/\ ¬k=1/\ ¬k=2/\ ¬k=3/\ ¬k=4/\ ¬k=5/\ ¬k=6/\ ¬k=7/\ ¬k=8/\ ¬k=9):Sp Tryz.prog gl 79 [ji k s n l c] (.bool false):=by
 refine E5 rfl rfl ?_;unfold ji;obtain ⟨c0,c1,c2,c3,c4,c5,c6,c7,c8,c9⟩:=h;have ne: ∀z:Int,¬k=z->(k==z)=false:=fun z h=>bJ.2 h
 have d0:=ne _ c0;have d1:=ne _ c1;have d2:=ne _ c2;have d3:=ne _ c3;have d4:=ne _ c4;have d5:=ne _ c5;have d6:=ne _ c6;have d7:=ne _ c7;have d8:=ne _ c8;have d9:=ne _ c9;simp[m8,d0,d1,d2,d3,d4,d5,d6,d7,d8,d9]
theorem zx (k:Int) (s:List UInt8) (n:Nat) (l c:Int) (hl:s.length<=900000):Sp Tryz.prog gl 79 [ji k s n l c] (.bool (Af k s n)):=by
 unfold Af;by_cases c1:k=1
 ·subst c1;rw[if_pos rfl];exact Hf s n l c hl
 rw[if_neg c1];by_cases c2:k=2
 ·subst c2;rw[if_pos rfl];exact Hg s n l c hl
 rw[if_neg c2];by_cases c3:k=3
 ·subst c3;rw[if_pos (.inl rfl)];exact Hh 3 rfl s n l c
 by_cases c4:k=4
 ·subst c4;rw[if_pos (.inr rfl)];exact Hi 4 rfl s n l c
 rw[if_neg (by rintro (h|h);exact c3 h;exact c4 h)];by_cases c5:k=5
 ·subst c5;rw[if_pos rfl];exact Hj 5 rfl s n l c
 rw[if_neg c5];by_cases c6:k=6
 ·subst c6;rw[if_pos rfl];exact Hk 6 rfl s n l c
 rw[if_neg c6];by_cases c0:k=0
 ·subst c0;rw[if_pos (.inl rfl)];exact Hl 0 rfl s n l c
 by_cases c7:k=7
 ·subst c7;rw[if_pos (.inr (.inl rfl))];exact Hm 7 rfl s n l c
 by_cases c8:k=8
 ·subst c8;rw[if_pos (.inr (.inr (.inl rfl)))];exact Hn 8 rfl s n l c
 by_cases c9:k=9
 ·subst c9;rw[if_pos (.inr (.inr (.inr rfl)))];exact Ho 9 rfl s n l c
 rw[if_neg (by rintro (h|h|h|h);exact c0 h;exact c7 h;exact c8 h;exact c9 h)];exact Hp k s n l c ⟨c0,c1,c2,c3,c4,c5,c6,c7,c8,c9⟩
theorem wJ: ∀(N:Nat) (L:List It),bg L<N->bg L<=100000->tJ L->Sp Tryz.prog gl 54 [.sl (ae L)] (.bool (xq L)):=by
 intro N;induction N with
 |zero=>intro L h;omega
 |succ N ih=>
  intro L h hc hb;refine Uy rfl rfl ?_;have rl:=a8 L;have rat:=cp L;have hlen:=fm L;obtain ⟨R,hR⟩: ∃R,R=xq L:=⟨_,rfl⟩;rw[<-hR];generalize ae L=RR at*;simp[SQ];refine aY (α:=Nat) (fun i=>⟨[(0,.sl RR),(3,i6 i)],[],[]⟩) (fun i=>i<=L.length/\R=xq (L.drop i)) (fun i=>L.length - i) ?_ 0 ⟨gN _,by rw[xj];exact hR⟩ ?_
  ·rintro K i hK ⟨h1,h2⟩;by_cases g:i<L.length
   ·have t1:IntKind.i64.wrap ((i:Int)+1)=(i+1:Nat):=by rw[ay]<;>omega
    have g':(i:Int)<L.length:=by omega
    have gR:i<RR.length:=by omega
    have rai:=rat i g gR;have cx:=jO (o9 g);have bx:=G6 hb (o9 g);rw[rb g,xq] at h2;have fin:=fun h4 σ' hσ=>hK (i+1) σ' ⟨by omega,h4⟩ (by omega) hσ
    clear hK rat hR;generalize L[i]=x at*;obtain ⟨n,ws,b,ks,l,c⟩:=x;rw[LQ] at h2;rw[It.row] at rai;rw[iU] at cx;rw[IB] at bx;obtain ⟨⟨b1,b2,b3⟩,b4⟩:=bx;have IH:=ih ks (by omega) (by omega) b4;have NM:=sM n (by omega);have kl:=a8 ks;generalize ae ks=KR at*;have wl:(ws.map Tk.row).length=ws.length:=kp _;have wat: ∀k (h:k<ws.length),∀h2,(ws.map Tk.row)[k]'h2=[i6 ws[k].k,.str ws[k].t,u ws[k].n,i6 ws[k].ln,i6 ws[k].co]:=fun k h h2=>by simp[Tk.row]
    generalize ws.map Tk.row=WR at*;cases hn:dH n with
    |false=>
     rw[hn] at NM h2;have h2:R=false:=h2;subst h2;simp[g,g',gR,rai,rl];apply ab NM;simp
    |true=>
    rw[hn] at NM h2;by_cases w6:ws.length<=6
    ·have w6': ¬(6:Int)<ws.length:=by omega
     rw[jm w6] at h2;by_cases kb:b=false/\ks.length≠0
     ·obtain ⟨rfl,kb⟩:=kb;have h2:R=false:=by
       rw[h2,bJ.2 kb];rfl
      subst h2;have k1:0<ks.length:=by omega
      have k2:(0:Int)<ks.length:=by omega
      simp[g,g',gR,rai,rl];apply ab NM;simp[wl,w6,w6',kl,k1,k2]
     ·have bb:(b||ks.length==0)=true:=by
       cases b with
       |true=>rfl
       |false=>
        have:ks.length=0:=by
         by_cases e:ks.length=0
         ·exact e
         ·exact absurd ⟨rfl,e⟩ kb
        rw[this];rfl
      have k0:b=false->ks.length=0:=fun e=>by
       rw[e] at bb;simpa using bb
      rw[bb] at h2;clear bb kb;cases he:xq ks with
      |false=>
       rw[he] at IH h2;have h2:R=false:=h2;subst h2;cases b
       ·have k0:=k0 rfl;simp[g,g',gR,rai,rl];apply ab NM;simp[wl,w6,w6',kl,k0];apply ab IH;simp
       ·simp[g,g',gR,rai,rl];apply ab NM;simp[wl,w6,w6',kl];apply ab IH;simp
      |true=>
       rw[he] at IH h2;have h2:R=(ws.all cw&&xq (L.drop (i+1))):=h2;obtain ⟨bv,hbv⟩: ∃bv,bv=b:=⟨_,rfl⟩;cases b
       all_goals
        first
         |(have k0:=k0 rfl
           simp[g,g',gR,rai,rl];apply ab NM;simp[wl,w6,w6',kl,k0];apply ab IH;simp)
         |(simp[g,g',gR,rai,rl]
           apply ab NM;simp[wl,w6,w6',kl];apply ab IH;simp)
        refine aY (α:=Nat) (fun k=>⟨[(0,.sl RR),(3,i6 i),(4,.ptr (.n 4) 0),(5,i6 k)],[(.n 4,[.str n,.sl WR,.bool bv,.sl KR,i6 l,i6 c])],[]⟩) (fun k=>k<=ws.length/\R=((ws.drop k).all cw&&xq (L.drop (i+1)))) (fun k=>ws.length - k) ?_ 0 ⟨gN _,by rw[xj];exact h2⟩ ?_
        ·rintro K2 k hK2 ⟨hk,hk2⟩;clear h2;by_cases gk:k<ws.length
         ·have t5:IntKind.i64.wrap ((k:Int)+1)=(k+1:Nat):=by rw[ay]<;>omega
          have gk':(k:Int)<ws.length:=by omega
          have gW:k<WR.length:=by omega
          have wak:=wat k gk gW;have tl:=b3 _ (o9 gk);rw[rb gk,List.all_cons] at hk2;have fin2:=fun h4 σ' hσ=>hK2 (k+1) σ' ⟨by omega,h4⟩ (by omega) hσ
          clear hK2 wat fin b3;generalize ws[k]=w at*;obtain ⟨wk,wt,wn,wl1,wc⟩:=w;simp only at tl wak;have RG:=zx wk wt wn wl1 wc (by omega);unfold ji at RG;unfold cw at hk2;dsimp only at hk2;by_cases q1:wk<1
          · rw[ik (by omega: ¬1<=wk)] at hk2;have hk2:R=false:=hk2;subst hk2;simp[gk,gk',gW,wak,wl,q1]
          by_cases q2:6<wk
          · rw[ik (by omega: ¬wk<=6),jC,Qi,jC,jC] at hk2;subst hk2;simp[gk,gk',gW,wak,wl,q1,q2]
          rw[jm (by omega:1<=wk),jm (by omega:wk<=6),iX,iX] at hk2;cases ht:Af wk wt wn with
          |false=>
            rw[ht] at RG hk2;have hk2:R=false:=hk2;subst hk2;simp[gk,gk',gW,wak,wl,q1,q2];apply ab RG;simp
          |true=>
            rw[ht,iX] at hk2;rw[ht] at RG;simp[gk,gk',gW,wak,wl,q1,q2];apply ab RG;simp;refine fin2 hk2 _ ?_;apply aj<;>simp[t5]
         ·obtain rfl:k=ws.length:=by omega
          rw[xA] at hk2;clear hK2 wat;simp[wl];refine fin hk2 _ ?_;apply aj<;>simp[t1]
        ·apply aj<;>simp[hbv]
    ·have w6':(6:Int)<ws.length:=by omega
     rw[ik w6] at h2;have h2:R=false:=h2;subst h2;simp[g,g',gR,rai,rl];apply ab NM;simp[wl,w6,w6']
   ·obtain rfl:i=L.length:=by omega
    rw[xA,xq] at h2;subst h2;clear hK;simp[rl]
  ·apply aj<;>simp
theorem tX (L:List It) (hc:bg L<=1000) (hb:tJ L):Sp Tryz.prog gl 31 [.sl (ae L)] (.bool (eh 0 (dI L 1))):=by
 refine Ua rfl rfl ?_;have RC:=tV _ L (gp _) (by omega);have RD:=tW _ L (gp _) (by omega);have RE:=wJ _ L (Nat.lt_succ_self _) (by omega) hb;rw[qX];generalize ae L=RR,xq L=q at*;by_cases c1:dz L<=4
 ·have c1':(dz L:Int)<=4:=by omega
  rw[jm c1,iX];by_cases c2:bg L<=300
  ·have c2':(bg L:Int)<=300:=by omega
   rw[jm c2,iX];simp[N4];apply ab RD;simp[c1,c1'];apply ab RC;simp[c2,c2'];apply ab RE;simp
  ·have c2': ¬(bg L:Int)<=300:=by omega
   rw[ik c2,jC];simp[N4];apply ab RD;simp[c1,c1'];apply ab RC;simp[c2,c2']
 ·have c1': ¬(dz L:Int)<=4:=by omega
  rw[ik c1,jC];simp[N4];apply ab RD;simp[c1,c1']
theorem mI (lk:Lk): ∀(C n:List It),C.foldl (fun n y=>if y.nm=ly then n else (lk 3 y.kd).1) n=n\/ ∃y∈C,C.foldl (fun n y=>if y.nm=ly then n else (lk 3 y.kd).1) n=(lk 3 y.kd).1
 |[],n=> .inl rfl
 |y::C,n=>by
  rw[List.foldl_cons];rcases mI lk C (if y.nm=ly then n else (lk 3 y.kd).1) with h|⟨z,hz,h⟩
  ·rw[h];by_cases e:y.nm=ly
   ·rw[if_pos e];exact .inl rfl
   ·rw[if_neg e];exact .inr ⟨y,by simp,rfl⟩
  ·exact .inr ⟨z,by simp[hz],h⟩
theorem oL (g:Nat) (C:List It) {n:List UInt8} {p:jV} (hp:bK 3 n=some p) (h1:p.mo=1) (d:Nat) (hd:d<=p.hi):ah (ed (ag (g+1)) C) n d<=p.hi:=by
 rcases mI (ag (g+1)) C [] with h|⟨y,hy,h⟩
 ·unfold ed;rw[h];exact hd
 ·unfold ed;rw[h];exact qf (w:=3) hp h1 (ag g) y.kd d hd
theorem JR (g:Nat) (C:List It) (b:Nat) (h: ∀y∈C,y.kd.length<=b):(ed (ag (g+1)) C).length<=b:=by
 rcases mI (ag (g+1)) C [] with e|⟨y,hy,e⟩
 ·unfold ed;rw[e];exact gN _
 ·unfold ed;rw[e];exact jH (eX _ _ _) (h y hy)
theorem tY (L:List It) (hc:bg L<=1000) (hb:tJ L):Sp Tryz.prog gl 14 [.sl (ae L)] (wH (jB 5 (eh 0 (dI L 1)) L)):=by
 refine TF rfl rfl ?_;have RI:=tX L hc hb;unfold jB wH;cases hr:eh 0 (dI L 1) with
 |false=>
  rw[hr] at RI;rw[if_pos rfl];generalize ae L=RR at*;simp[NZ];apply ab RI;simp[KX,Cf.row,Ft.row]
 |true=>
  have hd:dz L<=5:=by
   rw[qX,aL,nL] at hr;omega
  rw[hr] at RI;rw[if_neg (by decide)];have LK:=lh 5 0 L (by decide) (by decide) hd hc;unfold jR at LK;by_cases hf:(ag 5 0 L).2=[]
  rotate_left
  ·rw[if_pos hf];dsimp only;have hlen:0<((ag 5 0 L).2.map Ft.row).length:=by
    rw[kp];exact Ix.2 hf
   generalize List.map Ft.row (ag 5 0 L).2=FF,ae (ag 5 0 L).1=KK,ae L=RR at*;simp[NZ];apply ab RI;simp;apply ab LK;simp[hlen,KX,Cf.row]
  ·rw[if_neg (fun h=>h hf)];dsimp only;have hinv:kR 0 (ag 5 0 L).1:=mj _ _ _ _ (fun y hy=>by cases hy);have hmem:=oC 5 0 L;have hlen:=eX 5 0 L;have hcl:=fL L;have hkl:(ag 5 0 L).1.length<=1000:=by omega
   have LK3:=fun (y:It) (h:y∈(ag 5 0 L).1)=>lh 5 3 y.kd (by decide) (by decide) (by have:=kJ (hmem y h);have:=pR y;omega) (by have:=qw (hmem y h);omega)
   have GO:=fun (y:It) (h:y∈(ag 5 0 L).1) a hw=>Bo 5 y a hw (by decide) (by decide) (by have:=kJ (hmem y h);have:=pR y;omega) (by have:=qw (hmem y h);omega)
   have hres:(EI (ag 5) (ag 5 0 L).1).row=[.sl ((bU (ag 5) (ag 5 0 L).1).map Gl.row),i6 (ah (ed (ag 5) (ag 5 0 L).1) iZ 16),i6 (ah (ed (ag 5) (ag 5 0 L).1) jD 0),i6 (ah (ed (ag 5) (ag 5 0 L).1) jE 10),i6 (ah (ed (ag 5) (ag 5 0 L).1) jF 300),i6 (ah (ed (ag 5) (ag 5 0 L).1) lJ 0)]:=rfl;unfold jR at LK3;rw[hf] at LK;rw[hres];have nl:(ed (ag 5) (ag 5 0 L).1).length<=1000:=JR 4 (ag 5 0 L).1 1000 (fun y h=>by have:=qw (hmem y h);have:=fL y.kd;omega);have RG:=fun n d=>dA (ed (ag 5) (ag 5 0 L).1) n d (by have:=nl;omega)
   have b1:=dM (jH (oL 4 (ag 5 0 L).1 (n:=iZ) (p:=⟨iZ,[3],false,1,1,64⟩) rfl rfl 16 (by decide)) (by decide));have b2:=dM (jH (oL 4 (ag 5 0 L).1 (n:=jD) (p:=⟨jD,[3],false,1,0,64⟩) rfl rfl 0 (by decide)) (by decide));have b3:=dM (jH (oL 4 (ag 5 0 L).1 (n:=jE) (p:=⟨jE,[6],false,1,1,86400⟩) rfl rfl 10 (by decide)) (by decide));have b4:=dM (jH (oL 4 (ag 5 0 L).1 (n:=jF) (p:=⟨jF,[6],false,1,1,604800⟩) rfl rfl 300 (by decide)) (by decide));have b5:=dM (jH (oL 4 (ag 5 0 L).1 (n:=lJ) (p:=⟨lJ,[6],false,1,0,2592000⟩) rfl rfl 0 (by decide)) (by decide));have R1:=RG iZ 16;have R2:=RG jD 0;have R3:=RG jE 10;have R4:=RG jF 300;have R5:=RG lJ 0;clear RG hres hlen hcl hc hd hb nl hmem;simp only[lS] at LK;generalize (ag 5 0 L).1=k at*;generalize ah (ed (ag 5) k) iZ 16=v1,ah (ed (ag 5) k) jD 0=v2,ah (ed (ag 5) k) jE 10=v3,ah (ed (ag 5) k) jF 300=v4,ah (ed (ag 5) k) lJ 0=v5 at*;unfold iZ at R1;unfold jD at R2;unfold jE at R3;unfold jF at R4;unfold lJ at R5;have rl:=a8 k;have rat:=cp k;generalize ae L=IR,ae k=RR at*;have hlim:iQ=140737488355328:=rfl;simp[NZ];apply ab RI;simp;apply ab LK;simp;refine aY (α:=Nat) (fun i=>⟨[(2,.ptr (.n 2) 0),(4,.sl RR),(6,.ptr (.n 6) 0),(7,.sl (ae (ed (ag 5) (k.take i)))),(8,i6 i)],[(.n 2,[.nils,i6 0,i6 0,i6 0,i6 0,i6 0]),(.n 6,[.sl ((bU (ag 5) (k.take i)).map Gl.row),i6 0,i6 0,i6 0,i6 0,i6 0])],[(.b (.n 6) 0,8)]⟩) (fun i=>i<=k.length) (fun i=>k.length - i) ?_ 0 (gN _) ?_
   ·rintro K i hK h1;by_cases gi:i<k.length
    ·have t1:IntKind.i64.wrap ((i:Int)+1)=(i+1:Nat):=by rw[ay]<;>omega
     have g':(i:Int)<k.length:=by omega
     have gR:i<RR.length:=by omega
     have rai:=rat i gi gR;have fin:=fun σ' hσ=>hK (i+1) σ' (by omega) (by omega) hσ
     have hy:=o9 gi;have LY:=LK3 k[i] hy;have GY:=GO k[i] hy;have hyi:=hinv k[i] hy;have et:k.take (i+1)=k.take i++[k[i]]:=by rw[Am gi]
     have tl:(k.take i).length<=1000:=by rw[An];omega
     rw[et] at fin;have g8: ∀r∈List.map Gl.row (bU (ag 5) (k.take i)),r.length=8:=fun r h=>by
      obtain ⟨z,_,rfl⟩:=nM.1 h;rfl
     have gll:((List.map Gl.row (bU (ag 5) (k.take i))).length+1)*104<=iQ:=by rw[kp,hlim];have:=pU (ag 5) (k.take i);omega
     clear hK rat hinv LK3 GO et R1 R2 R3 R4 R5;generalize k.take i=T,hyy:k[i]=y at*;obtain ⟨p,hp,hfm⟩:=hyi;by_cases e1:y.nm=ly
     ·have hp0:bK 0 y.nm=some Bj:=by rw[e1];rfl
      rw[hp0] at hp;cases hp;obtain ⟨-,w,hw,-⟩:=sD hfm;have GY:=GY w hw;rw[uO _ e1,C0 _ e1,List.map_append,gL,lS] at fin;rw[au,e1] at rai GY;generalize y.pl.1=pl,y.pl.2=pc,y.bk=yb,ae y.kd=YR,List.map Tk.row y.ws=WR,mg (ag 5) y=z at*;have hz:z.row=[.str z.n,.int .u32 z.t,i6 z.g,i6 z.a,i6 z.o,i6 z.c,.sl (z.lb.map Lb.row),.sl (z.ru.map Ru.row)]:=rfl;rw[hz] at GY fin;generalize z.lb.map Lb.row=zl,z.ru.map Ru.row=zr,List.map Gl.row (bU (ag 5) T)=GL,ae (ed (ag 5) T)=NR at*;clear LY hfm hp0 e1 hw;unfold ly at*;simp[gi,g',gR,rl,rai];apply ab GY;simp[gll];refine ⟨g8,?_⟩;refine fin _ ?_;apply aj<;>simp[t1]
     ·have b1:(y.nm==ly)=false:=bJ.2 e1;rw[zk _ e1,GE _ e1] at fin;rw[au] at rai;generalize y.nm=nm,y.pl.1=pl,y.pl.2=pc,y.bk=yb,ae y.kd=YR,List.map Tk.row y.ws=WR,List.map Gl.row (bU (ag 5) T)=GL,ae (ed (ag 5) T)=NR,ae (ag 5 3 y.kd).1=N2,List.map Ft.row (ag 5 3 y.kd).2=N3 at*;clear GY hfm e1;unfold ly at*;simp[gi,g',gR,rl,rai,b1];apply ab LY;simp;refine fin _ ?_;apply aj<;>simp[t1]
    ·obtain rfl:i=k.length:=by omega
     rw[pr];generalize ae (ed (ag 5) k)=NR,List.map Gl.row (bU (ag 5) k)=GL at*;clear hK rat hinv LK3 GO;simp[rl];apply ab R1;simp[b1];apply ab R2;simp[b2];apply ab R3;simp[b3];apply ab R4;simp[b4];apply ab R5;simp[b5]
   ·simp only[M5];apply aj<;>simp[show bU (ag 5) []=[] from rfl,show ed (ag 5) []=[] from rfl,show ae []=[] from rfl]
end Go.Ai
