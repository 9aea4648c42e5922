/- P17: a part of the proof. Conditions: as each theorem says. -/
import Derived.Test.YtggemlhclppciaaGreatDoorP16
set_option maxHeartbeats 4000000
set_option linter.unusedSimpArgs false
set_option linter.unusedVariables false
set_option maxRecDepth 20000
namespace Go.Ai
open Go.Proofs
theorem NK (o:Option Nat):decide (AY o<0)=o.isNone:=by
 cases o with
 |none=>rfl
 |some m=>
  have: ¬((m:Nat):Int)<0:=by omega
  show decide (((m:Nat):Int)<0)=false;exact jd this
def Cq (l:List Tk):Bool:=l.all (fun t=>decide (t.t.length≤2000))
theorem NL (n:List UInt8) (ws:List Tk) (b:Bool) (ks:List It) (l c:Int) (d m:Nat) (hd:1≤d):PI (.mk n ws b ks l c) d m=if m=0∨Cp (.mk n ws b ks l c)=false then none else wg ks (d - 1) (m - 1):=by
 rw [PI];unfold wg;have e:(d - 1=0)↔d=1:=by omega
 simp only [e]
theorem Cr: ∀(N:Nat) (L:List It) (d m:Nat),m+d≤N→d≤100000→m≤100000→Sp Tryz.prog gl 31 [.sl (ar L),i6 d,i6 m] (i6 (AY (wg L d m))):=by
 intro N;induction N with
 |zero=>
  intro L d m h hd hm;obtain rfl:d=0:=by omega
  obtain rfl:m=0:=by omega
  refine Ux rfl rfl ?_;have rl:=bA L;cases L with
  |nil=>
   simp [Mf,ar,wg,AX,AY];refine aP (α:=Unit) (fun _=>⟨[(0,.sl []),(1,i6 0),(2,i6 0),(7,i6 0)],[],[]⟩) (fun _=>True) (fun _=>0) ?_ () trivial ?_
   ·rintro K x hK _;clear hK;simp
   ·apply ae<;>simp
  |cons x r=>
   rw [em] at rl;have e:wg (x::r) 0 0=none:=by unfold wg;rw [if_pos (.inl ⟨rfl,by simp⟩)]
   rw [e];generalize ar (x::r)=RR at *
   have c1:(0:Int)<(r.length:Int)+1:=by omega
   have c2:(0:Int)<((r.length+1:Nat):Int):=by omega
   simp [Mf,rl,c1,c2,AY]
 |succ N ih=>
  intro L d m h hd hm;refine Ux rfl rfl ?_;have rl:=bA L;have rat:=dW L;obtain ⟨R,hR⟩: ∃R,R=wg L d m:=⟨_,rfl⟩;rw [←hR];by_cases bad:(d=0∧L≠[])∨m<L.length
  ·have hn:R=none:=by rw [hR];unfold wg;rw [if_pos bad]
   subst hn;generalize ar L=RR at *
   by_cases hd0:d=0
   ·subst hd0;by_cases hl:0<L.length
    ·have c1:(0:Int)<L.length:=by omega
     simp [Mf,rl,hl,c1,AY]
    ·have:L=[]:=AN (by omega)
     subst this;rcases bad with ⟨_,hb⟩|hb
     ·exact absurd rfl hb
     ·simp at hb
   ·have hb:m<L.length:=by
     rcases bad with ⟨hb,_⟩|hb
     ·exact absurd hb hd0
     ·exact hb
    have c0:((d:Int)==0)=false:=cI.2 (by omega);have c2:(m:Int)<L.length:=by omega
    simp [Mf,rl,hd0,c0,hb,c2,AY]
  ·have hR2:R=AX L d m:=by rw [hR];unfold wg;rw [if_neg bad]
   clear hR;simp only [not_or,not_and,ne_eq,Decidable.not_not,Nat.not_lt] at bad;obtain ⟨bad1,bad2⟩:=bad;have c2: ¬(m:Int)<L.length:=by omega
   have c2': ¬m<L.length:=by omega
   have start: ∀K:St→Prop,K ⟨[],[],[]⟩→True:=fun _ _=>trivial
   have c0:(((d:Int)==0)&&decide ((0:Int)<L.length))=false:=by
    by_cases e:d=0
    ·rw [bad1 e];simp
    ·have:((d:Int)==0)=false:=cI.2 (by omega)
     rw [this];rfl
   generalize ar L=RR at *
   by_cases hd0:d=0
   ·have hL:=bad1 hd0;subst hL;subst hd0;simp at rl;subst rl;rw [AX] at hR2;subst hR2;simp [Mf,AY];refine aP (α:=Unit) (fun _=>⟨[(0,.sl []),(1,i6 0),(2,i6 m),(7,i6 0)],[],[]⟩) (fun _=>True) (fun _=>0) ?_ () trivial ?_
    ·rintro K x hK _;clear hK;simp
    ·apply ae<;>simp
   ·have c0:((d:Int)==0)=false:=cI.2 (by omega);simp [Mf,rl,hd0,c0,c2,c2'];refine aP (α:=Nat×Nat) (fun y=>⟨[(0,.sl RR),(1,i6 d),(2,i6 y.2),(7,i6 y.1)],[],[]⟩) (fun y=>y.1≤L.length∧y.2≤m∧R=AX (L.drop y.1) d y.2) (fun y=>L.length - y.1) ?_ (0,m) ?_ ?_
    ·rintro K ⟨i,q⟩ hK ⟨h1,hq,h2⟩;simp only at h1 hq h2;by_cases g:i<L.length
     ·have t1:IntKind.i64.wrap ((i:Int)+1)=(i+1:Nat):=by rw [aj]<;>omega
      have t2:IntKind.i64.wrap ((d:Int) - 1)=(d - 1:Nat):=by rw [aj]<;>omega
      have t3:IntKind.i64.wrap ((q:Int) - 1)=(q:Int) - 1:=by rw [aj]<;>omega
      have gR:i<RR.length:=by omega
      have rai:=rat i g gR;rw [oU g,AX] at h2;have fin: ∀q',q'≤m→R=AX (L.drop (i+1)) d q'→ ∀σ',dL σ' ⟨[(0,.sl RR),(1,i6 d),(2,i6 q'),(7,i6 (i+1:Nat))],[],[]⟩→K σ':=fun q' h3 h4 σ' hσ=>
       hK (i+1,q') σ' ⟨by simp only;omega,h3,h4⟩ (by simp only;omega) hσ
      clear hK rat;generalize L[i]=x at *
      obtain ⟨n,ws,b,ks,l,c⟩:=x;rw [NL n ws b ks l c d q (by omega)] at h2;rw [It.row] at rai;have IH:=ih ks (d - 1) (q - 1) (by omega) (by omega) (by omega);have kl:=bA ks;generalize ar ks=KR at *
      have wl:(ws.map Tk.row).length=ws.length:=JF _;have wat: ∀k (h:k<ws.length),∀h2,(ws.map Tk.row)[k]'h2=[i6 ws[k].k,.str ws[k].t,u ws[k].n,i6 ws[k].ln,i6 ws[k].co]:=fun k h h2=>by simp [Tk.row]
      generalize ws.map Tk.row=WR at *
      have g2:(i:Int)<L.length:=by omega
      by_cases q0:q=0
      ·rw [if_pos (.inl q0)] at h2;have h2:R=none:=h2;subst h2;subst q0;have z1:IntKind.i64.wrap (-1)= -1:=by rw [aj]<;>omega
       have z2:IntKind.i64.wrap (0 - 1)= -1:=by rw [aj]<;>omega
       simp [g,g2,gR,rai,rl,z1,z2,AY]
      ·have q1: ¬(q:Int) - 1<0:=by omega
       have q2: ¬(q:Int)<1:=by omega
       have t4:(q:Int) - 1=((q - 1:Nat):Int):=by omega
       replace t3:=t3.trans t4
       clear t4;by_cases n1:n.length≤2000
       ·have n1': ¬(2000:Int)<n.length:=by omega
        by_cases w1:ws.length≤20
        ·have w1': ¬(20:Int)<ws.length:=by omega
         have hq': ∀k:Nat,¬((k:Nat):Int)<0:=fun k=>by omega
         simp [g,g2,gR,rai,rl,t3,hq',n1,n1',wl,w1,w1'];refine aP (α:=Nat) (fun k=>⟨[(0,.sl RR),(1,i6 d),(2,i6 (q - 1:Nat)),(7,i6 i),(8,i6 k)],[],[]⟩) (fun k=>k≤ws.length∧Cq ws=Cq (ws.drop k)) (fun k=>ws.length - k) ?_ 0 ?_ ?_
         ·rintro K2 k hK2 ⟨hk,hk2⟩;have t5:IntKind.i64.wrap ((k:Int)+1)=(k+1:Nat):=by rw [aj]<;>omega
          by_cases gk:k<ws.length
          ·have gk':(k:Int)<ws.length:=by omega
           have gW:k<WR.length:=by omega
           have wak:=wat k gk gW;rw [oU gk] at hk2;have hk3:Cq ws=(decide (ws[k].t.length≤2000)&&Cq (ws.drop (k+1))):=hk2;by_cases tl:ws[k].t.length≤2000
           ·have tl': ¬(2000:Int)<ws[k].t.length:=by omega
            have fin2:=fun σ' hσ=>hK2 (k+1) σ' ⟨by omega,by rw [hk3,io tl,ib]⟩ (by omega) hσ
            clear hK2 hk2 hk3 wat fin h2;generalize ws[k]=w at *
            obtain ⟨wk,wt,wn,wl1,wc⟩:=w;simp only at tl tl' wak;simp [g,g2,gR,rai,rl,gk,gk',gW,wak,wl,tl,tl'];refine fin2 _ ?_;apply ae<;>simp [t5]
           ·have tl':(2000:Int)<ws[k].t.length:=by omega
            rw [jd tl,iR] at hk3;rw [if_pos (.inr (by unfold Cp;unfold Cq at hk3;simp only;rw [hk3];simp))] at h2;have h2:R=none:=h2;subst h2;clear hK2 hk2 hk3 wat fin;generalize ws[k]=w at *
            obtain ⟨wk,wt,wn,wl1,wc⟩:=w;simp only at tl tl' wak;simp [g,g2,gR,rai,rl,gk,gk',gW,wak,wl,tl,tl',AY]
          ·obtain rfl:k=ws.length:=by omega
           rw [A6] at hk2;have hk3:Cq ws=true:=hk2;rw [if_neg (by unfold Cp;unfold Cq at hk3;simp only;rw [hk3];simp [q0,n1,w1])] at h2;clear hK2 hk2 hk3 wat;generalize hwg:wg ks (d - 1) (q - 1)=o at *
           cases o with
           |none=>
            have h2:R=none:=h2;subst h2;simp only [AY] at IH;simp [g,g2,gR,rai,rl,wl,t2];apply ab IH;simp [AY]
           |some m'=>
            have h2:R=AX (L.drop (i+1)) d m':=h2;have hm':m'≤m:=by
             unfold wg at hwg;split at hwg
             ·cases hwg
             ·by_cases e:d=1
              ·subst e;rename_i hh;simp only [not_or,not_and,ne_eq,Decidable.not_not] at hh
               have:=hh.1 (by simp)
               subst this;rw [AX] at hwg;cases hwg;omega
              ·have:=(xg ks (d - 1) (q - 1) m' (by omega) hwg).1
               omega
            have fin:=fin m' hm' h2;simp only [AY] at IH;have z: ¬(m':Int)<0:=by omega
            simp [g,g2,gR,rai,rl,wl,t2];apply ab IH;simp [z];refine fin _ ?_;apply ae<;>simp [t1]
         ·exact ⟨iA _,by rw [A7]⟩
         ·apply ae<;>simp
        ·have w1':(20:Int)<ws.length:=by omega
         rw [if_pos (.inr (by unfold Cp;simp [w1]))] at h2;have h2:R=none:=h2;subst h2;have hq': ∀k:Nat,¬((k:Nat):Int)<0:=fun k=>by omega
         simp [g,g2,gR,rai,rl,t3,hq',n1,n1',wl,w1,w1',AY]
       ·have n1':(2000:Int)<n.length:=by omega
        rw [if_pos (.inr (by unfold Cp;simp [n1]))] at h2;have h2:R=none:=h2;subst h2;have hq': ∀k:Nat,¬((k:Nat):Int)<0:=fun k=>by omega
        simp [g,g2,gR,rai,rl,t3,hq',n1,n1',AY]
     ·obtain rfl:i=L.length:=by omega
      rw [A6,AX] at h2;subst h2;clear hK;simp [rl,AY]
    ·exact ⟨iA _,eI _,by rw [A7];exact hR2⟩
    ·apply ae<;>simp
theorem Cs (L:List It):Sp Tryz.prog gl 9 [.sl (ar L)] (.bool (wg L 40 400).isNone):=by
 refine s9 rfl rfl ?_;have W:=Cr 440 L 40 400 (by decide) (by decide) (by decide);have Z:=NK (wg L 40 400);generalize AY (wg L 40 400)=v at *
 generalize (wg L 40 400).isNone=q at *
 subst Z;simp [c9];apply ab W;simp
mutual
def Oo:It→Bool
 | .mk n ws b ks _ _=>du n&&(decide (ws.length≤6)&&((b||ks.length==0)&&(zU ks&&ws.all eS)))
def zU:List It→Bool
 |[]=>true
 |x::r=>Oo x&&zU r
end
mutual
theorem K8: ∀(x:It) (d k:Nat) (r:List (Nat×It)),fm k (mB x d++r)=true↔(Oo x=true∧d+lm x≤5∧k+fC x≤300)∧fm (k+fC x) r=true
 | .mk n ws b ks ln co,d,k,r=>by
  have ih:=xh ks (d+1) (k+1) r;rw [mB,bH,fm,CI,lm,fC,Oo];simp only [aE,kO,ih];rw [show k+1+aT ks=k+(1+aT ks) by omega];constructor
  ·rintro ⟨⟨⟨⟨⟨⟨h1,h2⟩,h3⟩,h4⟩,h5⟩,h6⟩,⟨h7,h8⟩,h9⟩;refine ⟨⟨⟨h3,h4,h6,h7,h5⟩,?_⟩,h9⟩;rcases h8 with rfl|h8
   ·rw [bN,aT];omega
   ·omega
  ·rintro ⟨⟨⟨h3,h4,h6,h7,h5⟩,h1,h2⟩,h9⟩;exact ⟨⟨⟨⟨⟨⟨by omega,by omega⟩,h3⟩,h4⟩,h5⟩,h6⟩,⟨h7,.inr (by omega)⟩,h9⟩
theorem xh: ∀(L:List It) (d k:Nat) (r:List (Nat×It)),fm k (dV L d++r)=true↔(zU L=true∧(L=[]∨d+bN L≤5∧k+aT L≤300))∧fm (k+aT L) r=true
 |[],d,k,r=>by rw [dV,zU,aT];simp
 |x::L,d,k,r=>by
  have a:=K8 x d k (dV L d++r);have c:=xh L d (k+fC x) r;have hx:=H8 x;rw [dV,jq,a,c,zU,bN,aT,←EH,aE];constructor
  ·rintro ⟨⟨h1,h2,h3⟩,⟨h4,h5⟩,h6⟩;refine ⟨⟨⟨h1,h4⟩,.inr ?_⟩,h6⟩;rcases h5 with rfl|h5
   ·rw [bN,aT];omega
   ·omega
  ·rintro ⟨⟨⟨h1,h4⟩,h5⟩,h6⟩;rcases h5 with h5|h5
   ·cases h5
   ·exact ⟨⟨h1,by omega,by omega⟩,⟨h4,.inr (by omega)⟩,h6⟩
end
theorem Ec (L:List It):fm 0 (dV L 1)=(decide (bN L≤4)&&(decide (aT L≤300)&&zU L)):=by
 have h:=xh L 1 0 [];rw [nA] at h;rw [Bool.eq_iff_iff,h];simp only [aE,kO];constructor
 ·rintro ⟨⟨h1,h2⟩,_⟩;rcases h2 with rfl|h2
  ·rw [bN,aT];exact ⟨by omega,by omega,h1⟩
  ·exact ⟨by omega,by omega,h1⟩
 ·rintro ⟨h1,h2,h3⟩;exact ⟨⟨h3,.inr (by omega)⟩,rfl⟩
mutual
theorem NN: ∀x:It,Oo x=true→Fy x→ND x∧Pw x
 | .mk n ws b ks ln co,h,hn=>by
  rw [Oo] at h;rw [Fy] at hn;simp only [aE,kO,EE,bP] at h;obtain ⟨h1,h2,h3,h4,h5⟩:=h;obtain ⟨k1,k2⟩:=Ct ks h4 hn.2;have hw: ∀w∈ws,1≤w.k∧w.k≤6∧gZ w.k w.t w.n=true:=fun w m=>by
   have:=gE.1 h5 w m
   unfold eS at this;simp only [aE,kO] at this;exact this
  rw [ND,Pw];refine ⟨⟨h1,fun w m=>⟨⟨(hw w m).1,by have:=(hw w m).2.1;omega⟩,hn.1 w m,(hw w m).2.2⟩,k1⟩,h2,fun w m=>⟨(hw w m).1,(hw w m).2.1⟩,fun hb=>?_,k2⟩;rcases h3 with h3|h3
  ·rw [hb] at h3;cases h3
  ·exact AN h3
theorem Ct: ∀L:List It,zU L=true→xS L→sT L∧JJ L
 |[],_,_=>by rw [sT,JJ];exact ⟨trivial,trivial⟩
 |x::r,h,hn=>by
  rw [zU,aE] at h;rw [xS] at hn;obtain ⟨a1,a2⟩:=NN x h.1 hn.1;obtain ⟨b1,b2⟩:=Ct r h.2 hn.2;rw [sT,JJ];exact ⟨⟨a1,b1⟩,a2,b2⟩
end
theorem Cu {s:List UInt8} (h:40000<s.length): ∃a b,ke s=([],9,a,b):=by
 have e:(fk s).c=9:=by
  unfold fk C4;rw [if_pos h]
 unfold ke;rw [if_pos (by rw [e];decide),e];exact ⟨_,_,rfl⟩
theorem zV (L:List It) (hn:xS L) (hr:fm 0 (dV L 1)=true) (hl:(eZ 0 L).length≤40000): ∃m,ke (eZ 0 L)=(m,0,0,0)∧kp L m=true:=by
 rw [Ec] at hr;simp only [aE,kO] at hr;obtain ⟨h1,h2,h3⟩:=hr;obtain ⟨k1,k2⟩:=Ct L h3 hn;obtain ⟨p1,p2⟩:=zT L k1 k2 (.inr h1) h2 hl;exact ⟨(ke (eZ 0 L)).1,by rw [←p1],(sX _ _).2 p2.symm⟩
theorem xi: ∀(N:Nat) (L:List It),aT L<N→aT L≤100000→uF L→Sp Tryz.prog gl 45 [.sl (ar L)] (.bool (zU L)):=by
 intro N;induction N with
 |zero=>intro L h;omega
 |succ N ih=>
  intro L h hc hb;refine Vq rfl rfl ?_;have rl:=bA L;have rat:=dW L;have hlen:=eh L;obtain ⟨R,hR⟩: ∃R,R=zU L:=⟨_,rfl⟩;rw [←hR];generalize ar L=RR at *
  simp [UE];refine aP (α:=Nat) (fun i=>⟨[(0,.sl RR),(3,i6 i)],[],[]⟩) (fun i=>i≤L.length∧R=zU (L.drop i)) (fun i=>L.length - i) ?_ 0 ⟨iA _,by rw [A7];exact hR⟩ ?_
  ·rintro K i hK ⟨h1,h2⟩;by_cases g:i<L.length
   ·have t1:IntKind.i64.wrap ((i:Int)+1)=(i+1:Nat):=by rw [aj]<;>omega
    have g':(i:Int)<L.length:=by omega
    have gR:i<RR.length:=by omega
    have rai:=rat i g gR;have cx:=iZ (ml g);have bx:=pH hb (ml g);rw [oU g,zU] at h2;have fin:=fun h4 σ' hσ=>hK (i+1) σ' ⟨by omega,h4⟩ (by omega) hσ
    clear hK rat hR;generalize L[i]=x at *
    obtain ⟨n,ws,b,ks,l,c⟩:=x;rw [Oo] at h2;rw [It.row] at rai;rw [fC] at cx;rw [Cm] at bx;obtain ⟨⟨b1,b2,b3⟩,b4⟩:=bx;have IH:=ih ks (by omega) (by omega) b4;have NM:=tq n (by omega);have kl:=bA ks;generalize ar ks=KR at *
    have wl:(ws.map Tk.row).length=ws.length:=JF _;have wat: ∀k (h:k<ws.length),∀h2,(ws.map Tk.row)[k]'h2=[i6 ws[k].k,.str ws[k].t,u ws[k].n,i6 ws[k].ln,i6 ws[k].co]:=fun k h h2=>by simp [Tk.row]
    generalize ws.map Tk.row=WR at *
    cases hn:du n with
    |false=>
     rw [hn] at NM h2;have h2:R=false:=h2;subst h2;simp [g,g',gR,rai,rl];apply ab NM;simp
    |true=>
    rw [hn] at NM h2;by_cases w6:ws.length≤6
    ·have w6': ¬(6:Int)<ws.length:=by omega
     rw [io w6] at h2;by_cases kb:b=false∧ks.length≠0
     ·obtain ⟨rfl,kb⟩:=kb;have h2:R=false:=by
       rw [h2,cI.2 kb];rfl
      subst h2;have k1:0<ks.length:=by omega
      have k2:(0:Int)<ks.length:=by omega
      simp [g,g',gR,rai,rl];apply ab NM;simp [wl,w6,w6',kl,k1,k2]
     ·have bb:(b||ks.length==0)=true:=by
       cases b with
       |true=>rfl
       |false=>
        have:ks.length=0:=by
         by_cases e:ks.length=0
         ·exact e
         ·exact absurd ⟨rfl,e⟩ kb
        rw [this];rfl
      have k0:b=false→ks.length=0:=fun e=>by
       rw [e] at bb;simpa using bb
      rw [bb] at h2;clear bb kb;cases he:zU ks with
      |false=>
       rw [he] at IH h2;have h2:R=false:=h2;subst h2;cases b
       ·have k0:=k0 rfl;simp [g,g',gR,rai,rl];apply ab NM;simp [wl,w6,w6',kl,k0];apply ab IH;simp
       ·simp [g,g',gR,rai,rl];apply ab NM;simp [wl,w6,w6',kl];apply ab IH;simp
      |true=>
       rw [he] at IH h2;have h2:R=(ws.all eS&&zU (L.drop (i+1))):=h2;obtain ⟨bv,hbv⟩: ∃bv,bv=b:=⟨_,rfl⟩;cases b
       all_goals
        first
         |(have k0:=k0 rfl
           simp [g,g',gR,rai,rl];apply ab NM;simp [wl,w6,w6',kl,k0];apply ab IH;simp)
         |(simp [g,g',gR,rai,rl]
           apply ab NM;simp [wl,w6,w6',kl];apply ab IH;simp)
        refine aP (α:=Nat) (fun k=>⟨[(0,.sl RR),(3,i6 i),(4,.ptr (.n 4) 0),(5,i6 k)],[(.n 4,[.str n,.sl WR,.bool bv,.sl KR,i6 l,i6 c])],[]⟩) (fun k=>k≤ws.length∧R=((ws.drop k).all eS&&zU (L.drop (i+1)))) (fun k=>ws.length - k) ?_ 0 ⟨iA _,by rw [A7];exact h2⟩ ?_
        ·rintro K2 k hK2 ⟨hk,hk2⟩;clear h2;by_cases gk:k<ws.length
         ·have t5:IntKind.i64.wrap ((k:Int)+1)=(k+1:Nat):=by rw [aj]<;>omega
          have gk':(k:Int)<ws.length:=by omega
          have gW:k<WR.length:=by omega
          have wak:=wat k gk gW;have tl:=b3 _ (ml gk);rw [oU gk,List.all_cons] at hk2;have fin2:=fun h4 σ' hσ=>hK2 (k+1) σ' ⟨by omega,h4⟩ (by omega) hσ
          clear hK2 wat fin b3;generalize ws[k]=w at *
          obtain ⟨wk,wt,wn,wl1,wc⟩:=w;simp only at tl wak;have RG:=bS wk wt wn wl1 wc (by omega);unfold cV at RG;unfold eS at hk2;dsimp only at hk2;by_cases q1:wk<1
          · rw [jd (by omega: ¬1≤wk)] at hk2;have hk2:R=false:=hk2;subst hk2;simp [gk,gk',gW,wak,wl,q1]
          by_cases q2:6<wk
          · rw [jd (by omega: ¬wk≤6),iR,Mz,iR,iR] at hk2;subst hk2;simp [gk,gk',gW,wak,wl,q1,q2]
          rw [io (by omega:1≤wk),io (by omega:wk≤6),ib,ib] at hk2;cases ht:gZ wk wt wn with
          |false=>
            rw [ht] at RG hk2;have hk2:R=false:=hk2;subst hk2;simp [gk,gk',gW,wak,wl,q1,q2];apply ab RG;simp
          |true=>
            rw [ht,ib] at hk2;rw [ht] at RG;simp [gk,gk',gW,wak,wl,q1,q2];apply ab RG;simp;refine fin2 hk2 _ ?_;apply ae<;>simp [t5]
         ·obtain rfl:k=ws.length:=by omega
          rw [A6] at hk2;clear hK2 wat;simp [wl];refine fin hk2 _ ?_;apply ae<;>simp [t1]
        ·apply ae<;>simp [hbv]
    ·have w6':(6:Int)<ws.length:=by omega
     rw [jd w6] at h2;have h2:R=false:=h2;subst h2;simp [g,g',gR,rai,rl];apply ab NM;simp [wl,w6,w6']
   ·obtain rfl:i=L.length:=by omega
    rw [A6,zU] at h2;subst h2;clear hK;simp [rl]
  ·apply ae<;>simp
open Go.Shelf
theorem K9 {A:List (List UInt8)} {x:List UInt8} {m:Nat} (h:A.length=m):((A++[x]).map AV.str).take m++ .str (x++[59])::((A++[x]).map AV.str).drop (m+1)=(bt (A++[x++[59]])).flatten:=by
 rw [kq,List.map_append,List.map_append,List.take_left' (by simpa using h),List.drop_of_length_le (by simp;omega)];simp
theorem Cv: ∀(N:Nat) (L:List It) (d:Nat) (b:Id) (c0:AV) (l:List UInt8) (dep:Nat),b.isIt=false→b.isNw d=false→(c0= .nilT b 71 3∨c0= .ptr b 0)→aT L≤N→aT L≤10000→uF L→xS L→dep+aT L≤20000→l.length+(eZ dep L).length≤10000000000000→
  cB Tryz.prog gl 39 d ⟨[.ptr b 0,.sl (ar L)],[(b,[c0,.sl (ag l),i6 dep])],[(.b b 1,bk 5)]⟩ ⟨.tup [],[(b,[cE L c0 b,.sl (ag (l++eZ dep L)),i6 dep])],[(.b b 1,bk 5)]⟩:=by
 intro N;induction N with
 |zero=>
  intro L d b c0 l dep hb hbd hc0 hN hc hbd2 hnu hdep hl;have hL:L=[]:=by
   have:=eh L
   exact AN (by omega)
  subst hL;refine QZ rfl ?_;have hic:=aV hbd;rw [eZ,nA,cE,ar];simp only [aF,bV,bp,AV.mp,b7,Pl.mp];rcases hc0 with rfl|rfl
  ·simp [Ou];refine aP (α:=Unit) (fun _=>⟨[(0,.ptr (.up b) 0),(9,.sl []),(10,i6 0),(11,i6 0)],[(.up b,[.nilT (.up b) 71 3,.sl (ag l),i6 dep])],[(.b (.up b) 1,bk 5)]⟩) (fun _=>True) (fun _=>0) ?_ () trivial ?_
   ·rintro K x hK _;clear hK;simp;refine ij ⟨?_,?_,?_,?_,?_,?_⟩<;>simp [hic,hb]
   ·apply ae<;>simp
  ·simp [Ou];refine aP (α:=Unit) (fun _=>⟨[(0,.ptr (.up b) 0),(9,.sl []),(10,i6 0),(11,i6 0)],[(.up b,[.ptr (.up b) 0,.sl (ag l),i6 dep])],[(.b (.up b) 1,bk 5)]⟩) (fun _=>True) (fun _=>0) ?_ () trivial ?_
   ·rintro K x hK _;clear hK;simp;refine ij ⟨?_,?_,?_,?_,?_,?_⟩<;>simp [hic,hb]
   ·apply ae<;>simp
 |succ N ih=>
  intro L d b c0 l dep hb hbd hc0 hN hc hbd2 hnu hdep hl;refine QZ rfl ?_;have hlim:l8=140737488355328:=rfl;have hic:=aV hbd;have rl:=bA L;have rat:=dW L;have ll:=eh L;obtain ⟨c1,hc1⟩: ∃c1:AV,c1=AV.mp Id.up c0:=⟨_,rfl⟩;have hc1':c1= .nilT (.up b) 71 3∨c1= .ptr (.up b) 0:=by
   rcases hc0 with rfl|rfl
   ·exact .inl hc1
   ·exact .inr hc1
  obtain ⟨cz,hcz⟩: ∃cz:AV,cz=cE L c0 b:=⟨_,rfl⟩;obtain ⟨RT,hRT⟩: ∃RT,RT=l++eZ dep L:=⟨_,rfl⟩;rw [←hcz,←hRT];obtain ⟨RR,hRR⟩: ∃RR,RR=ar L:=⟨_,rfl⟩;rw [←hRR] at rl rat ⊢;simp only [aF,bV,bp,AV.mp,b7,Pl.mp,←hc1];simp [Ou];refine aP (α:=Nat×AV) (fun p=>⟨[(0,.ptr (.up b) 0),(9,.sl RR),(10,i6 L.length),(11,i6 p.1)],[(.up b,[p.2,.sl (ag (l++eZ dep (L.take p.1))),i6 dep])],[(.b (.up b) 1,bk 5)]⟩)
   (fun p=>p.1≤L.length∧(p.2= .nilT (.up b) 71 3∨p.2= .ptr (.up b) 0)∧(p.1=0→p.2=c1)∧(0<p.1→p.2= .ptr (.up b) 0)) (fun p=>L.length - p.1) ?_ (0,c1) ?_ ?_
  ·rintro K ⟨i,ci⟩ hK ⟨h1,h2,h3,h4⟩;simp only at h1 h2 h3 h4 ⊢;have t1:IntKind.i64.wrap ((i:Int)+1)=(i+1:Nat):=by rw [aj]<;>omega
   by_cases g:i<L.length
   ·have g':(i:Int)<RR.length:=by omega
    have g2:(i:Int)<L.length:=by omega
    have gR:i<RR.length:=by omega
    have rai:=rat i g gR;have hx1:=iZ (ml g);have hx2:=pH hbd2 (ml g);have hx3:=Co hnu (ml g);have fin:=fun σ' hσ=>hK (i+1,.ptr (.up b) 0) σ' ⟨by simp only;omega,.inr rfl,fun h=>by simp at h,fun _=>rfl⟩ (by simp only;omega) hσ
    simp only at fin;rw [zS dep L i g,←jq] at fin;have len1:=NH dep L (i+1);rw [zS dep L i g,cG] at len1;clear hK rat h3 h4 hRT hcz;have cin: ∀j,¬Id.n j∈ci.ids:=by
     intro j;rcases h2 with rfl|rfl<;>simp [AV.ids]
    have ciu: ∀d,d∈ci.ids→d.isUp=true:=by
     intro d hd;rcases h2 with rfl|rfl
     ·simp only [AV.ids,oZ] at hd;rw [hd];rfl
     ·simp only [AV.ids,oZ] at hd;rw [hd];rfl
    generalize L[i]=x at *
    generalize hT0:l++eZ dep (L.take i)=T0 at *
    have hT0l:T0.length=l.length+(eZ dep (L.take i)).length:=by rw [←hT0,cG]
    obtain ⟨xn,ws,xb,ks,xl,xc⟩:=x;rw [fC] at hx1;rw [Cm] at hx2;rw [Fy] at hx3;rw [It.row] at rai;have IH:=ih ks;generalize ar ks=KR at *
    have wl:(ws.map Tk.row).length=ws.length:=JF _;have wat: ∀k (h:k<ws.length),∀h2,(ws.map Tk.row)[k]'h2=ws[k].row:=fun k h h2=>by simp
    have wlen:=hx2.1.1;generalize ws.map Tk.row=WR at *
    simp [g,g2,g',gR,rai,rl];refine aP (α:=Nat×Id) (fun p=>⟨[(0,.ptr (.up b) 0),(9,.sl RR),(10,i6 L.length),(11,i6 i),(5,.ptr (.n 5) 0),(6,.ms p.2 0 (p.1+1) 1),(19,.sl WR),(20,i6 ws.length),(21,i6 p.1)],[(.n 5,[.str xn,.sl WR,.bool xb,.sl KR,i6 xl,i6 xc]),(p.2,(xn::(ws.take p.1).map lS).map AV.str),(.up b,[ci,.sl (ag T0),i6 dep])],[(.b (.up b) 1,bk 5)]⟩)
     (fun p=>p.1≤ws.length∧(p.2= .n 17∨p.2= .n 29)) (fun p=>ws.length - p.1) ?_ (0,.n 17) ⟨iA _,.inl rfl⟩ ?_
    ·rintro K ⟨k,q⟩ hK2 ⟨k1,k2⟩;simp only at k1 k2 ⊢;have t2:IntKind.i64.wrap ((k:Int)+1)=(k+1:Nat):=by rw [aj]<;>omega
     have qit:q.isIt=false:=by rcases k2 with rfl|rfl<;>rfl
     have qup:q.isUp=false:=by rcases k2 with rfl|rfl<;>rfl
     by_cases gk:k<ws.length
     ·have gk':(k:Int)<ws.length:=by omega
      have gW:k<WR.length:=by omega
      have wak:=wat k gk gW;have fin2:=fun σ' hσ=>hK2 (k+1,.n 29) σ' ⟨by simp only;omega,.inr rfl⟩ (by simp only;omega) hσ
      simp only at fin2;have Uj:=hx2.1.2.2 _ (ml gk);have Uk:=hx3.1 _ (ml gk);have SP:=Fq ws[k].k ws[k].t ws[k].n ws[k].ln ws[k].co Uj Uk;rw [←NR,show fP ws[k].k ws[k].t ws[k].n=lS ws[k] from rfl] at SP;have hnx:(xn::(ws.take (k+1)).map lS).map AV.str=(xn::(ws.take k).map lS).map AV.str++[.str (lS ws[k])]:=by
       rw [Dg gk,List.map_append,←bH,List.map_append];rfl
      have hcl:((xn::(ws.take k).map lS).map AV.str).length=k+1:=by simp;omega
      have hci:=rx (xn::(ws.take k).map lS);have hci2:=rx (xn::(ws.take (k+1)).map lS);rw [hnx] at fin2 hci2;clear hK2 wat fin IH hnx;generalize (xn::(ws.take k).map lS).map AV.str=CC at *
      generalize lS ws[k]=TS at *
      generalize ws[k]=w at *
      obtain ⟨wk,wt,wn,wl1,wc⟩:=w;simp only [Tk.row] at wak SP;rcases k2 with rfl|rfl
      ·simp [gk,gk',gW,wak,wl,hlim,hcl,hci];apply ab SP;simp [hlim,hcl,hci,ba,AV.ids,ju,nF];refine ⟨cin 17,by omega,fin2 _ ?_⟩;apply ae<;>simp [t2,hci2];intro d hd;exact .inr (ciu d hd)
      ·simp [gk,gk',gW,wak,wl,hlim,hcl,hci];apply ab SP;simp [hlim,hcl,hci,ba,AV.ids,ju,nF];refine ⟨cin 29,by omega,fin2 _ ?_⟩;apply ae<;>simp [t2,hci2];intro d hd;exact .inr (ciu d hd)
     ·obtain rfl:k=ws.length:=by omega
      have gk': ¬(ws.length:Int)<ws.length:=by omega
      clear hK2 wat;rw [qJ];obtain ⟨A,z,hA,hAl⟩:=K7 xn (ws.map lS);rw [JF] at hAl;cases xb with
      |false=>
       rw [zR,hA,cG,cG,cG] at len1;rw [zR,hA,←vG] at fin;have zle:=xf A z;have jse:=congrArg List.length (vG A z);rw [cG] at jse;have w1:IntKind.i64.wrap ((ws.length:Int)+1 - 1)=(ws.length:Nat):=by rw [aj]<;>omega
       have w3:(ws.length:Int)<(ws.length:Int)+1:=by omega
       have w2:IntKind.i64.wrap (ws.length:Int)=(ws.length:Nat):=by rw [aj]<;>omega
       rw [hA];have LS:=fun c h=>mW 44 (.up b) hb rfl c h T0 dep (by omega) (A++[z++[59]]) (by simp;omega) (by simp only [uc] at *;omega)
       have zl:z.length+1≤9223372036854775807:=by simp only [uc] at *;omega
       have fl:=K9 (x:=z) hAl;have cat: ∀h:ws.length<((A++[z]).map AV.str).length,((A++[z]).map AV.str)[ws.length]'h= .str z:=by intro h;simp [hAl]
       have ccl:((A++[z]).map AV.str).length=ws.length+1:=by simp [hAl]
       have rwl:(bt (A++[z++[59]])).length=ws.length+1:=by simp [bt,hAl]
       have rw1:=qp (A++[z++[59]]);have idf:ba (bt (A++[z++[59]])).flatten=[]:=by rw [kq,rx]
       generalize (A++[z]).map AV.str=CC at *
       generalize bt (A++[z++[59]])=SR at *
       rcases k2 with rfl|rfl
       ·simp [gk',w1,w2,w3,cat,ccl,zl,fl];refine wH (.n 17) (ws.length+1) 1 SR [] ⟨by simp,by simp [fl],rfl,rwl,rw1,idf,?_⟩ (by decide) ?_
        ·simp [ju,ba,AV.ids,cin]
        simp [iC,fT,ju,nF,AV.ids,ba,ud];refine aB _ _ (LS ci h2) ?_;simp;refine fin _ ?_;apply ae<;>simp [t1]
       ·simp [gk',w1,w2,w3,cat,ccl,zl,fl];refine wH (.n 29) (ws.length+1) 1 SR [] ⟨by simp,by simp [fl],rfl,rwl,rw1,idf,?_⟩ (by decide) ?_
        ·simp [ju,ba,AV.ids,cin]
        simp [iC,fT,ju,nF,AV.ids,ba,ud];refine aB _ _ (LS ci h2) ?_;simp;refine fin _ ?_;apply ae<;>simp [t1]
      |true=>
       have pb:=Fz dep xn ws ks xl xc T0;rw [pb] at fin;have pl:=congrArg List.length pb;simp only [cG] at pl;have i0:=n9 dep;obtain ⟨d1,hd1⟩: ∃d1,d1=dep+1:=⟨_,rfl⟩;rw [←hd1] at fin pl;have wd1:IntKind.i64.wrap ((dep:Int)+1)=(d1:Nat):=by rw [aj]<;>omega
       have wd2:IntKind.i64.wrap ((d1:Int) - 1)=(dep:Nat):=by rw [aj]<;>omega
       have LS1:=fun c h=>mW 49 (.up b) hb rfl c h T0 dep (by omega) ((xn::ws.map lS)++[[123]]) (by simp;omega) (by omega)
       obtain ⟨T1,hT1⟩: ∃T1,T1=T0++(eX dep++(Lib.join ((xn::ws.map lS)++[[123]]) [32]++[10])):=⟨_,rfl⟩;have T1l:=congrArg List.length hT1;simp only [cG] at T1l;rw [←hT1] at LS1 fin;have IH1:=IH 60 (.up b) (.ptr (.up b) 0) T1 d1 hb rfl (.inr rfl) (by omega) (by omega) hx2.2 hx3.2 (by omega) (by omega);rw [NG] at IH1;obtain ⟨T2,hT2⟩: ∃T2,T2=T1++eZ d1 ks:=⟨_,rfl⟩;have T2l:=congrArg List.length hT2;simp only [cG] at T2l;rw [←hT2] at IH1 fin;have LS3:=mW 70 (.up b) hb rfl (.ptr (.up b) 0) (.inr rfl) T2 dep (by omega) [[125]] (by simp) (by omega);generalize T2++(eX dep++(Lib.join [[125]] [32]++[10]))=T3 at *
       rw [zQ,show bt [[123]]=[[AV.str [123]]] from rfl] at LS1;rw [show bt [[125]]=[[AV.str [125]]] from rfl] at LS3;have rwl:(bt (xn::ws.map lS)).length=ws.length+1:=by simp [bt]
       have rw1:=qp (xn::ws.map lS);have rwf:=kq (xn::ws.map lS);have idf:ba (bt (xn::ws.map lS)).flatten=[]:=by rw [kq,rx]
       clear pb pl T1l T2l hT1 hT2 IH;generalize bt (xn::ws.map lS)=SR at *
       rw [←rwf];clear rwf;obtain ⟨CC,SRf⟩: ∃CC,SR.flatten=CC:=⟨_,rfl⟩;rw [SRf] at idf ⊢;rcases k2 with rfl|rfl
       ·simp [gk'];refine wH (.n 17) (ws.length+1) 1 SR [] ⟨by simp,by simp [SRf],rfl,rwl,rw1,by rw [SRf];exact idf,?_⟩ (by decide) ?_
        ·simp [ju,ba,AV.ids,cin]
        simp [iC,fT,ju,nF,AV.ids,ba,ud,hlim];refine ⟨by omega,rw1,?_⟩;refine aB _ _ (LS1 ci h2) ?_;simp [wd1];refine aB _ _ (IH1) ?_;simp [wd2];refine aB _ _ (LS3) ?_;simp;refine fin _ ?_;apply ae<;>simp [t1]
       ·simp [gk'];refine wH (.n 29) (ws.length+1) 1 SR [] ⟨by simp,by simp [SRf],rfl,rwl,rw1,by rw [SRf];exact idf,?_⟩ (by decide) ?_
        ·simp [ju,ba,AV.ids,cin]
        simp [iC,fT,ju,nF,AV.ids,ba,ud,hlim];refine ⟨by omega,rw1,?_⟩;refine aB _ _ (LS1 ci h2) ?_;simp [wd1];refine aB _ _ (IH1) ?_;simp [wd2];refine aB _ _ (LS3) ?_;simp;refine fin _ ?_;apply ae<;>simp [t1]
    ·rw [JG];apply ae<;>simp [wl];intro d hd;exact .inr (ciu d hd)
   ·obtain rfl:i=L.length:=by omega
    have g': ¬(L.length:Int)<RR.length:=by omega
    rw [qJ,←hRT];have hz:(ci= .ptr (.up b) 0∧cz= .ptr b 0)∨(ci= .nilT (.up b) 71 3∧cz= .nilT b 71 3):=by
     cases L with
     |nil=>
      have e1:=h3 rfl;have e2:cz=c0:=hcz;rcases hc0 with rfl|rfl
      ·exact .inr ⟨e1.trans hc1,e2⟩
      ·exact .inl ⟨e1.trans hc1,e2⟩
     |cons x r=>exact .inl ⟨h4 (by simp),hcz⟩
    clear hK h2 h3 h4 hc0 hc1 hc1' hcz;rcases hz with ⟨rfl,rfl⟩|⟨rfl,rfl⟩
    ·simp [g',rl];refine ij ⟨?_,?_,?_,?_,?_,?_⟩<;>simp [hic,hb]
    ·simp [g',rl];refine ij ⟨?_,?_,?_,?_,?_,?_⟩<;>simp [hic,hb]
  ·refine ⟨iA _,hc1',fun _=>rfl,fun h=>by simp at h⟩
  ·rw [JG];simp only [eZ,nA];apply ae<;>simp [rl];intro d hd;rcases hc1' with rfl|rfl
   ·simp only [AV.ids,oZ] at hd;exact .inl hd.symm
   ·simp only [AV.ids,oZ] at hd;exact .inl hd.symm
theorem zW (k:Int) (s:List UInt8) (n:Nat) (hn:n<18446744073709551616) (hl:s.length≤100000):(fP k s n).length≤103000:=by
 cases hr:gZ k s n with
 |false=>unfold fP;rw [hr,if_pos rfl];decide
 |true=>
  by_cases c1:k=1
  ·unfold fP;rw [hr,if_neg (by decide),if_pos c1];omega
  by_cases c2:k=2
  ·unfold fP;rw [hr,if_neg (by decide),if_neg c1,if_pos c2];subst c2;obtain ⟨_,_,_,h3⟩:=jL s n hr
   have:=lQ (ai s 0)
   unfold AU;rw [em,cG,uc];omega
  have hs:s=[]:=by
   unfold gZ at hr;rw [if_neg c1,if_neg c2] at hr;repeat' split at hr
   all_goals first|(simp at hr;done)|(simp at hr;first|exact hr|exact hr.1)
  have:=H3 k s n hn (by rw [hs];decide)
  omega
theorem xj: ∀ws:List Tk,(∀w∈ws,w.n<18446744073709551616)→(∀t∈ws,t.t.length≤100000)→(qm ws).length≤103001*ws.length
 |[],_,_=>by simp [qm]
 |w::ws,h1,h2=>by
  have:=xj ws (fun x hx=>h1 x (by simp [hx])) (fun x hx=>h2 x (by simp [hx]))
  have:=zW w.k w.t w.n (h1 w (by simp)) (h2 w (by simp))
  rw [qm,em,cG,em];unfold lS;omega
mutual
theorem La: ∀(x:It) (d:Nat),Cm x→Fy x→d+fC x≤20000→(D6 d x).length≤fC x*200000000
 | .mk n ws b ks ln co,d,h1,h2,h3=>by
  rw [Cm] at h1;rw [Fy] at h2;rw [fC] at h3 ⊢;have w:=xj ws h2.1 h1.1.2.2;have k:=oy ks (d+1) h1.2 h2.2 (by omega);have i0:=n9 d;rw [D6];have h5:=h1.1.1;have h6:=h1.1.2.1;cases b with
  |false=>
   rw [if_pos rfl];simp only [cG,em,vZ];omega
  |true=>
   rw [if_neg (by decide)];simp only [cG,em,vZ];omega
theorem oy: ∀(L:List It) (d:Nat),uF L→xS L→d+aT L≤20000→(eZ d L).length≤aT L*200000000
 |[],d,_,_,_=>by simp [eZ]
 |x::r,d,h1,h2,h3=>by
  rw [uF] at h1;rw [xS] at h2;rw [aT] at h3 ⊢;have a:=La x d h1.1 h2.1 (by omega);have c:=oy r d h1.2 h2.2 (by omega);rw [eZ,cG];omega
end
mutual
theorem Ij: ∀(x:It) (d:Nat),Cm x→fC x≤100000→ ∀p∈mB x d,Lg p.2∧p.1<d+fC x
 | .mk n ws b ks ln co,d,h1,h2,p,hp=>by
  rw [mB,jU] at hp;rw [Cm] at h1;rw [fC] at h2 ⊢;rcases hp with rfl|hp
  ·have:=eh ks
   exact ⟨⟨by omega,by omega,fun t ht=>by have:=h1.1.2.2 t ht;omega,by omega⟩,by dsimp only;omega⟩
  ·have:=sY ks (d+1) h1.2 (by omega) p hp
   exact ⟨this.1,by omega⟩
theorem sY: ∀(L:List It) (d:Nat),uF L→aT L≤100000→ ∀p∈dV L d,Lg p.2∧p.1<d+aT L
 |[],d,_,_,p,hp=>by cases hp
 |x::r,d,h1,h2,p,hp=>by
  rw [dV,iB] at hp;rw [uF] at h1;rw [aT] at h2 ⊢;rcases hp with hp|hp
  ·have:=Ij x d h1.1 (by omega) p hp
   exact ⟨this.1,by omega⟩
  ·have:=sY r d h1.2 (by omega) p hp
   exact ⟨this.1,by omega⟩
end
theorem qq (L:List It) (hc:aT L≤10000) (hb:uF L):Sp Tryz.prog gl 19 [.sl (ar L)] (.bool (fm 0 (dV L 1))):=by
 have:=oq L
 exact Sp.of_h fun D=>z8 L (by omega) (by omega) (fun p hp=>by
  have:=sY L 1 hb (by omega) p hp
  exact ⟨this.1,by omega⟩) D
theorem Ik {d:Nat} {b:Id} (hit:b.isIt=false) (hnwb:b.isNw d=false) {c0:AV} (l:List UInt8) (n:Nat) (h0:l≠[]):
  cB Tryz.prog gl 40 d ⟨[.ptr b 0],[(b,[c0,.sl (ag l),i6 n])],[(.b b 1,bk 5)]⟩ ⟨.str l,[(b,[c0,.sl (ag l),i6 n])],[]⟩:=
 rR (L:={ax with}) eC (by kernel_rfl) (by kernel_rfl) hit hnwb (rest:=[i6 n]) l h0
theorem FC {d:Nat} {b:Id} (hit:b.isIt=false) (hnwb:b.isNw d=false) {c0:AV} (n:Nat):
  cB Tryz.prog gl 40 d ⟨[.ptr b 0],[(b,[c0,.nils,i6 n])],[]⟩ ⟨.str [],[(b,[c0,.nils,i6 n])],[]⟩:=
 uT (L:={ax with}) eC (by kernel_rfl) (by kernel_rfl) hit hnwb (rest:=[i6 n])
theorem FD (d:Nat) (b:Id) (hb:b.isIt=false) (hbd:b.isNw d=false):cB Tryz.prog gl 39 d ⟨[.ptr b 0,.sl []],[(b,[.nilT b 71 3,.nils,i6 0])],[]⟩ ⟨.tup [],[(b,[.nilT b 71 3,.nils,i6 0])],[]⟩:=by
 refine QZ rfl ?_;have hic:=aV hbd;simp only [aF,bV,bp,AV.mp,b7,Pl.mp];simp [Ou];refine aP (α:=Unit) (fun _=>⟨[(0,.ptr (.up b) 0),(9,.sl []),(10,i6 0),(11,i6 0)],[(.up b,[.nilT (.up b) 71 3,.nils,i6 0])],[]⟩) (fun _=>True) (fun _=>0) ?_ () trivial ?_
 ·rintro K x hK _;clear hK;simp;refine ij ⟨?_,?_,?_,?_,?_,?_⟩<;>simp [hic,hb]
 ·apply ae<;>simp
theorem NO (d:Nat) (x:It) (r:List It):eZ d (x::r)≠[]:=by
 obtain ⟨n,ws,b,ks,ln,co⟩:=x;rw [eZ,D6];cases b<;>simp
def Lc (L:List It):AV:=if fm 0 (dV L 1)=true then .tup [.str (eZ 0 L),i6 0] else .tup [.str [],i6 6]
theorem qr (L:List It) (hc:aT L≤10000) (hb:uF L) (hn:xS L):Sp Tryz.prog gl 18 [.sl (ar L)] (Lc L):=by
 refine Vb rfl rfl ?_;have RI:=qq L hc hb;unfold Lc;cases hr:fm 0 (dV L 1) with
 |false=>
  rw [hr] at RI;rw [if_neg (by decide)];generalize ar L=RR at *
  simp [PV];apply ab RI;simp
 |true=>
  rw [hr] at RI;rw [if_pos rfl];cases L with
  |nil=>
   have LL:=FD 12 (.n 9) rfl rfl;have SS:=FC (d:=16) (b:= .n 9) rfl rfl (c0:= .nilT (.n 9) 71 3) 0;rw [ar] at RI;simp [PV,ar,eZ];apply ab RI;simp;refine aB _ _ (LL) ?_;simp;refine aB _ _ (SS) ?_;simp
  |cons x r=>
   have pl:=oy (x::r) 0 hb hn (by omega);have LL:=Cv _ (x::r) 12 (.n 9) (.nilT (.n 9) 71 3) [] 0 rfl rfl (.inl rfl) (eI _) (by omega) hb hn (by omega) (by rw [vZ];omega);have SS:=Ik (d:=16) (b:= .n 9) rfl rfl (c0:= .ptr (.n 9) 0) (eZ 0 (x::r)) 0 (NO 0 x r);rw [bR,cE,show ag []=[] from rfl] at LL;generalize ar (x::r)=RR at *
   generalize eZ 0 (x::r)=R at *
   simp [PV];apply ab RI;simp;refine aB _ _ (LL) ?_;simp;refine aB _ _ (SS) ?_;simp
theorem FE (d:Nat):eX d++[32,32]=eX (d+1):=by
 rw [rm,rm,show 2*(d+1)=2*d+2 by omega,←List.replicate_append_replicate];rfl
theorem Il (ws:List Tk) (k:Nat) (h:k<ws.length):qm (ws.take (k+1))=qm (ws.take k)++32::fP ws[k].k ws[k].t ws[k].n:=by
 rw [Dg h,D7];rw [qm,qm,nA];rfl
theorem Im (d:Nat) (L:List It) (i:Nat) (h:i<L.length):eZ d (L.take (i+1))=eZ d (L.take i)++D6 d L[i]:=by
 rw [Dg h,rh];simp [eZ]
theorem qu (d:Nat): ∀(L:List It) (i:Nat),(eZ d (L.take i)).length≤(eZ d L).length
 |[],i=>by rw [List.take_nil];exact eI _
 |x::r,0=>by rw [JG];exact iA _
 |x::r,i+1=>by
  have:=qu d r i
  rw [List.take_succ_cons,eZ,eZ,cG,cG];omega
theorem uG: ∀(N:Nat) (L:List It) (d:Nat),aT L<N→d+aT L≤10000→uF L→xS L→Sp Tryz.prog gl 21 [.sl (ar L),.str (eX d)] (.str (eZ d L)):=by
 intro N;induction N with
 |zero=>intro L d h;omega
 |succ N ih=>
  intro L d h hc hb hn;refine Ve rfl rfl ?_;have rl:=bA L;have rat:=dW L;have hlen:=eh L;have adl:=n9 d;have ad2:=FE d;have pt:=Im d L;have p0:eZ d (L.take 0)=[]:=by rw [JG];rfl
  have p1:eZ d (L.take L.length)=eZ d L:=by rw [qJ]
  have PB: ∀i,(eZ d (L.take i)).length≤2000000000000:=fun i=>by
   have a:=qu d L i
   have:=oy L d hb hn (by omega)
   omega
  rw [←p1];generalize ar L=RR at *
  generalize hP:(fun i=>eZ d (L.take i))=P at *
  have pe: ∀i,eZ d (L.take i)=P i:=fun i=>by rw [←hP]
  simp only [pe] at p0 p1 PB pt ⊢;clear pe hP p1;simp [Uv];refine aP (α:=Nat) (fun i=>⟨[(0,.sl RR),(1,.str (eX d)),(5,.str (P i)),(6,i6 i)],[],[]⟩) (fun i=>i≤L.length) (fun i=>L.length - i) ?_ 0 (iA _) ?_
  ·rintro K i hK h1;by_cases g:i<L.length
   ·have t1:IntKind.i64.wrap ((i:Int)+1)=(i+1:Nat):=by rw [aj]<;>omega
    have g':(i:Int)<L.length:=by omega
    have gR:i<RR.length:=by omega
    have rai:=rat i g gR;have cx:=iZ (ml g);have bx:=pH hb (ml g);have nx:=Co hn (ml g);have pt:=pt i g;have fin:=fun σ' hσ=>hK (i+1) σ' (by omega) (by omega) hσ
    have pb:=PB i;clear hK rat PB;generalize L[i]=x at *
    obtain ⟨n,ws,b,ks,l,c⟩:=x;rw [D6] at pt;rw [It.row] at rai;rw [fC] at cx;rw [Cm] at bx;rw [Fy] at nx;obtain ⟨⟨b1,b2,b3⟩,b4⟩:=bx;have IH:=ih ks (d+1) (by omega) (by omega) b4 nx.2;have kb:=oy ks (d+1) b4 nx.2 (by omega);have kl:=bA ks;generalize ar ks=KR at *
    generalize eZ (d+1) ks=KP at *
    generalize eX (d+1)=ah2 at *
    generalize eX d=ah at *
    have wl:(ws.map Tk.row).length=ws.length:=JF _;have wat: ∀k (h:k<ws.length),∀h2,(ws.map Tk.row)[k]'h2=[i6 ws[k].k,.str ws[k].t,u ws[k].n,i6 ws[k].ln,i6 ws[k].co]:=fun k h h2=>by simp [Tk.row]
    generalize ws.map Tk.row=WR at *
    have wt:=Il ws;have WB: ∀k,(qm (ws.take k)).length≤103001000:=fun k=>by
     have:=xj (ws.take k) (fun w m=>nx.1 w (A5 m)) (fun w m=>b3 w (A5 m))
     have l2:(ws.take k).length≤1000:=by rw [rH];omega
     omega
    have w0:qm (ws.take 0)=[]:=by rw [JG];rfl
    have w1:qm (ws.take ws.length)=qm ws:=by rw [qJ]
    rw [←w1] at pt;generalize hW:(fun k=>qm (ws.take k))=W at *
    have we: ∀i,qm (ws.take i)=W i:=fun i=>by rw [←hW]
    simp only [we] at pt wt WB w0;clear we hW w1;have f1:(P i).length+ah.length≤9223372036854775807:=by omega
    have f2:(P i).length+(ah.length+n.length)≤9223372036854775807:=by omega
    have f2':(P i).length+ah.length+n.length≤9223372036854775807:=by omega
    simp [g,g',gR,rai,rl,f1,f2,f2'];refine aP (α:=Nat) (fun k=>⟨[(0,.sl RR),(1,.str ah),(5,.str (P i++(ah++(n++W k)))),(6,i6 i),(7,i6 k)],[],[]⟩) (fun k=>k≤ws.length) (fun k=>ws.length - k) ?_ 0 (iA _) ?_
    ·rintro K2 k hK2 hk;by_cases gk:k<ws.length
     ·have t5:IntKind.i64.wrap ((k:Int)+1)=(k+1:Nat):=by rw [aj]<;>omega
      have gk':(k:Int)<ws.length:=by omega
      have gW:k<WR.length:=by omega
      have wak:=wat k gk gW;have tl:=b3 _ (ml gk);have wn64:=nx.1 _ (ml gk);have wt:=wt k gk;have fin2:=fun σ' hσ=>hK2 (k+1) σ' (by omega) (by omega) hσ
      have wb:=WB k;clear hK2 wat fin b3 nx WB pt;generalize ws[k]=w at *
      obtain ⟨wk,wt',wn,wl1,wc⟩:=w;simp only at tl wak wn64 wt;have RP:=Fi wk wt' wn wl1 wc tl wn64;have rb:=zW wk wt' wn wn64 tl;unfold cV at RP;generalize fP wk wt' wn=tp at *
      have e1:P i++(ah++(n++(W k++32::tp)))=P i++(ah++(n++W (k+1))):=by rw [wt]
      generalize hO:P i++(ah++(n++W k))=O at *
      have ol:O.length=(P i).length+(ah.length+(n.length+(W k).length)):=by rw [←hO];simp only [cG]
      have e2:O++32::tp=P i++(ah++(n++W (k+1))):=by rw [←e1,←hO];simp only [jq]
      generalize P i++(ah++(n++W (k+1)))=O2 at *
      have f3:O.length+1≤9223372036854775807:=by omega
      have f4:O.length+1+tp.length≤9223372036854775807:=by omega
      clear hO ol e1;simp [g,g',gR,rai,rl,gk,gk',gW,wak,wl,f3];apply ab RP;simp [f4];refine fin2 _ ?_;apply ae<;>simp [t5,e2]
     ·obtain rfl:k=ws.length:=by omega
      have wb:=WB ws.length;clear hK2 wat WB;generalize W ws.length=WW at *
      generalize hO:P i++(ah++(n++WW))=O at *
      have ol:O.length=(P i).length+(ah.length+(n.length+WW.length)):=by rw [←hO];simp only [cG]
      cases b with
      |false=>
       rw [if_pos rfl] at pt;have e2:O++[59,10]=P (i+1):=by rw [pt,←hO];simp only [jq]
       have f3:O.length+2≤9223372036854775807:=by omega
       clear hO ol pt;simp [g,g',gR,rai,rl,wl,f3];refine fin _ ?_;apply ae<;>simp [t1,e2]
      |true=>
       rw [if_neg (by decide)] at pt;have e2:O++32::123::10::(KP++(ah++[125,10]))=P (i+1):=by rw [pt,←hO];simp only [jq]
       have f3:O.length+3≤9223372036854775807:=by omega
       have f4:ah.length+2≤9223372036854775807:=by omega
       have f5:O.length+3+KP.length≤9223372036854775807:=by omega
       have f6:O.length+(KP.length+1+1+1)+ah.length≤9223372036854775807:=by omega
       have f7:O.length+(KP.length+ah.length+1+1+1)+2≤9223372036854775807:=by omega
       clear hO ol pt;simp [g,g',gR,rai,rl,wl,f3,f4,ad2];apply ab IH;simp [f5,f6,f7];refine fin _ ?_;apply ae<;>simp [t1,e2]
    ·apply ae<;>simp [w0]
   ·obtain rfl:i=L.length:=by omega
    clear hK;simp [rl]
  ·apply ae<;>simp [p0]
end Go.Ai
