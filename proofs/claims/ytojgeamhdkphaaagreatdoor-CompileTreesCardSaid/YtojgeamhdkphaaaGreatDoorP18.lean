/- P18: a part of the proof. Conditions: as each theorem says. -/
import Derived.Test.YtojgeamhdkphaaaGreatDoorP17
import Derived.Test.YtojgeamhdkphaaaGreatDoorLib11
import Derived.Lib.LaidU8
import GoSem.PinnedTables
set_option maxHeartbeats 4000000
set_option linter.unusedSimpArgs false
set_option linter.unusedVariables false
set_option maxRecDepth 20000
namespace Go.Ai
open Go.Proofs
def Bp (x:It):Bool:=match x with
 | .mk n ws _ _ _ _=>decide (n.length<=2000)&&(decide (ws.length<=20)&&ws.all (fun t=>decide (t.t.length<=2000)))
mutual
def NL:It->Nat->Nat->Option Nat
 | .mk n ws b ks l c,d,m=>if m=0\/Bp (.mk n ws b ks l c)=false then none else if (d=1/\ks≠[])\/m - 1<ks.length then none else Ag ks (d - 1) (m - 1)
def Ag:List It->Nat->Nat->Option Nat
 |[],_,m=>some m
 |x::r,d,m=>match NL x d m with
  |none=>none
  |some m'=>Ag r d m'
end
def wg (L:List It) (d m:Nat):Option Nat:=if (d=0/\L≠[])\/m<L.length then none else Ag L d m
def Ah (o:Option Nat):Int:=match o with
 |none=> -1
 |some m=>m
mutual
theorem LW: ∀(x:It) (d m q:Nat),1<=d->NL x d m=some q->iU x+q=m/\mR x<=d/\IB x
 | .mk n ws b ks l c,d,m,q,hd,h=>by
  rw[NL] at h;split at h
  ·cases h
  ·rename_i h1;simp only[not_or,Bool.not_eq_false] at h1;split at h
   ·cases h
   ·rename_i h2;simp only[not_or,not_and,ne_eq,Decidable.not_not] at h2;obtain ⟨m0,ok⟩:=h1;unfold Bp at ok;simp only[aL,nL,iW] at ok;obtain ⟨o1,o2,o3⟩:=ok;have hb:(ws.length<=1000/\n.length<=100000/\ ∀t∈ws,t.t.length<=100000):=⟨by omega,by omega,fun t ht=>by have:=o3 t ht;omega⟩;rw[iU,mR,IB];by_cases e:d=1
    ·have hk:=h2.1 e;subst hk;rw[Ag] at h;cases h;refine ⟨by rw[bg];omega,by rw[dz];omega,hb,by rw[tJ];trivial⟩
    ·obtain ⟨q1,q2,q3⟩:=wK ks (d - 1) (m - 1) q (by omega) h;exact ⟨by omega,by omega,hb,q3⟩
theorem wK: ∀(L:List It) (d m q:Nat),1<=d->Ag L d m=some q->bg L+q=m/\dz L<=d/\tJ L
 |[],d,m,q,hd,h=>by
  rw[Ag] at h;cases h;exact ⟨by rw[bg];omega,by rw[dz];omega,by rw[tJ];trivial⟩
 |x::r,d,m,q,hd,h=>by
  rw[Ag] at h;split at h
  ·cases h
  ·rename_i m' hx;obtain ⟨q1,q2,q3⟩:=LW x d m m' hd hx;obtain ⟨p1,p2,p3⟩:=wK r d m' q hd h;exact ⟨by rw[bg];omega,by rw[dz];omega,by rw[tJ];exact ⟨q3,p3⟩⟩
end
theorem NN {L:List It} {q:Nat} (h:wg L 40 400=some q):bg L<=400/\dz L<=40/\tJ L:=by
 unfold wg at h;split at h
 ·cases h
 ·obtain ⟨q1,q2,q3⟩:=wK L 40 400 q (by decide) h;exact ⟨by omega,q2,q3⟩
theorem LX (o:Option Nat):decide (Ah o<0)=o.isNone:=by
 cases o with
 |none=>rfl
 |some m=>
  have: ¬((m:Nat):Int)<0:=by omega
  show decide (((m:Nat):Int)<0)=false;exact ik this
def Bq (l:List Tk):Bool:=l.all (fun t=>decide (t.t.length<=2000))
theorem LZ (n:List UInt8) (ws:List Tk) (b:Bool) (ks:List It) (l c:Int) (d m:Nat) (hd:1<=d):NL (.mk n ws b ks l c) d m=if m=0\/Bp (.mk n ws b ks l c)=false then none else wg ks (d - 1) (m - 1):=by
 rw[NL];unfold wg;have e:(d - 1=0)↔d=1:=by omega
 simp only[e]
theorem Br: ∀(N:Nat) (L:List It) (d m:Nat),m+d<=N->d<=100000->m<=100000->Sp Tryz.prog gl 20 [.sl (ae L),i6 d,i6 m] (i6 (Ah (wg L d m))):=by
 intro N;induction N with
 |zero=>
  intro L d m h hd hm;obtain rfl:d=0:=by omega
  obtain rfl:m=0:=by omega
  refine R7 rfl rfl ?_;have rl:=a8 L;cases L with
  |nil=>
   simp[K3,ae,wg,Ag,Ah];refine aY (α:=Unit) (fun _=>⟨[(0,.sl []),(1,i6 0),(2,i6 0),(7,i6 0)],[],[]⟩) (fun _=>True) (fun _=>0) ?_ () trivial ?_
   ·rintro K x hK _;clear hK;simp
   ·apply aj<;>simp
  |cons x r=>
   rw[jG] at rl;have e:wg (x::r) 0 0=none:=by unfold wg;rw[if_pos (.inl ⟨rfl,by simp⟩)]
   rw[e];generalize ae (x::r)=RR at*;have c1:(0:Int)<(r.length:Int)+1:=by omega
   have c2:(0:Int)<((r.length+1:Nat):Int):=by omega
   simp[K3,rl,c1,c2,Ah]
 |succ N ih=>
  intro L d m h hd hm;refine R7 rfl rfl ?_;have rl:=a8 L;have rat:=cp L;obtain ⟨R,hR⟩: ∃R,R=wg L d m:=⟨_,rfl⟩;rw[<-hR];by_cases bad:(d=0/\L≠[])\/m<L.length
  ·have hn:R=none:=by rw[hR];unfold wg;rw[if_pos bad]
   subst hn;generalize ae L=RR at*;by_cases hd0:d=0
   ·subst hd0;by_cases hl:0<L.length
    ·have c1:(0:Int)<L.length:=by omega
     simp[K3,rl,hl,c1,Ah]
    ·have:L=[]:=IN (by omega)
     subst this;rcases bad with ⟨_,hb⟩|hb
     ·exact absurd rfl hb
     ·simp at hb
   ·have hb:m<L.length:=by
     rcases bad with ⟨hb,_⟩|hb
     ·exact absurd hb hd0
     ·exact hb
    have c0:((d:Int)==0)=false:=bJ.2 (by omega);have c2:(m:Int)<L.length:=by omega
    simp[K3,rl,hd0,c0,hb,c2,Ah]
  ·have hR2:R=Ag L d m:=by rw[hR];unfold wg;rw[if_neg bad]
   clear hR;simp only[not_or,not_and,ne_eq,Decidable.not_not,Nat.not_lt] at bad;obtain ⟨bad1,bad2⟩:=bad;have c2: ¬(m:Int)<L.length:=by omega
   have c2': ¬m<L.length:=by omega
   have start: ∀K:St->Prop,K ⟨[],[],[]⟩->True:=fun _ _=>trivial
   have c0:(((d:Int)==0)&&decide ((0:Int)<L.length))=false:=by
    by_cases e:d=0
    ·rw[bad1 e];simp
    ·have:((d:Int)==0)=false:=bJ.2 (by omega)
     rw[this];rfl
   generalize ae L=RR at*;by_cases hd0:d=0
   ·have hL:=bad1 hd0;subst hL;subst hd0;simp at rl;subst rl;rw[Ag] at hR2;subst hR2;simp[K3,Ah];refine aY (α:=Unit) (fun _=>⟨[(0,.sl []),(1,i6 0),(2,i6 m),(7,i6 0)],[],[]⟩) (fun _=>True) (fun _=>0) ?_ () trivial ?_
    ·rintro K x hK _;clear hK;simp
    ·apply aj<;>simp
   ·have c0:((d:Int)==0)=false:=bJ.2 (by omega);simp[K3,rl,hd0,c0,c2,c2'];refine aY (α:=Nat×Nat) (fun y=>⟨[(0,.sl RR),(1,i6 d),(2,i6 y.2),(7,i6 y.1)],[],[]⟩) (fun y=>y.1<=L.length/\y.2<=m/\R=Ag (L.drop y.1) d y.2) (fun y=>L.length - y.1) ?_ (0,m) ?_ ?_
    ·rintro K ⟨i,q⟩ hK ⟨h1,hq,h2⟩;simp only at h1 hq h2;by_cases g:i<L.length
     ·have t1:IntKind.i64.wrap ((i:Int)+1)=(i+1:Nat):=by rw[ay]<;>omega
      have t2:IntKind.i64.wrap ((d:Int) - 1)=(d - 1:Nat):=by rw[ay]<;>omega
      have t3:IntKind.i64.wrap ((q:Int) - 1)=(q:Int) - 1:=by rw[ay]<;>omega
      have gR:i<RR.length:=by omega
      have rai:=rat i g gR;rw[rb g,Ag] at h2;have fin: ∀q',q'<=m->R=Ag (L.drop (i+1)) d q'-> ∀σ',fx σ' ⟨[(0,.sl RR),(1,i6 d),(2,i6 q'),(7,i6 (i+1:Nat))],[],[]⟩->K σ':=fun q' h3 h4 σ' hσ=>
       hK (i+1,q') σ' ⟨by simp only;omega,h3,h4⟩ (by simp only;omega) hσ
      clear hK rat;generalize L[i]=x at*;obtain ⟨n,ws,b,ks,l,c⟩:=x;rw[LZ n ws b ks l c d q (by omega)] at h2;rw[It.row] at rai;have IH:=ih ks (d - 1) (q - 1) (by omega) (by omega) (by omega);have kl:=a8 ks;generalize ae ks=KR at*;have wl:(ws.map Tk.row).length=ws.length:=kp _;have wat: ∀k (h:k<ws.length),∀h2,(ws.map Tk.row)[k]'h2=[i6 ws[k].k,.str ws[k].t,u ws[k].n,i6 ws[k].ln,i6 ws[k].co]:=fun k h h2=>by simp[Tk.row]
      generalize ws.map Tk.row=WR at*;have g2:(i:Int)<L.length:=by omega
      by_cases q0:q=0
      ·rw[if_pos (.inl q0)] at h2;have h2:R=none:=h2;subst h2;subst q0;have z1:IntKind.i64.wrap (-1)= -1:=by rw[ay]<;>omega
       have z2:IntKind.i64.wrap (0 - 1)= -1:=by rw[ay]<;>omega
       simp[g,g2,gR,rai,rl,z1,z2,Ah]
      ·have q1: ¬(q:Int) - 1<0:=by omega
       have q2: ¬(q:Int)<1:=by omega
       have t4:(q:Int) - 1=((q - 1:Nat):Int):=by omega
       replace t3:=t3.trans t4
       clear t4;by_cases n1:n.length<=2000
       ·have n1': ¬(2000:Int)<n.length:=by omega
        by_cases w1:ws.length<=20
        ·have w1': ¬(20:Int)<ws.length:=by omega
         have hq': ∀k:Nat,¬((k:Nat):Int)<0:=fun k=>by omega
         simp[g,g2,gR,rai,rl,t3,hq',n1,n1',wl,w1,w1'];refine aY (α:=Nat) (fun k=>⟨[(0,.sl RR),(1,i6 d),(2,i6 (q - 1:Nat)),(7,i6 i),(8,i6 k)],[],[]⟩) (fun k=>k<=ws.length/\Bq ws=Bq (ws.drop k)) (fun k=>ws.length - k) ?_ 0 ?_ ?_
         ·rintro K2 k hK2 ⟨hk,hk2⟩;have t5:IntKind.i64.wrap ((k:Int)+1)=(k+1:Nat):=by rw[ay]<;>omega
          by_cases gk:k<ws.length
          ·have gk':(k:Int)<ws.length:=by omega
           have gW:k<WR.length:=by omega
           have wak:=wat k gk gW;rw[rb gk] at hk2;have hk3:Bq ws=(decide (ws[k].t.length<=2000)&&Bq (ws.drop (k+1))):=hk2;by_cases tl:ws[k].t.length<=2000
           ·have tl': ¬(2000:Int)<ws[k].t.length:=by omega
            have fin2:=fun σ' hσ=>hK2 (k+1) σ' ⟨by omega,by rw[hk3,jm tl,iX]⟩ (by omega) hσ
            clear hK2 hk2 hk3 wat fin h2;generalize ws[k]=w at*;obtain ⟨wk,wt,wn,wl1,wc⟩:=w;simp only at tl tl' wak;simp[g,g2,gR,rai,rl,gk,gk',gW,wak,wl,tl,tl'];refine fin2 _ ?_;apply aj<;>simp[t5]
           ·have tl':(2000:Int)<ws[k].t.length:=by omega
            rw[ik tl,jC] at hk3;rw[if_pos (.inr (by unfold Bp;unfold Bq at hk3;simp only;rw[hk3];simp))] at h2;have h2:R=none:=h2;subst h2;clear hK2 hk2 hk3 wat fin;generalize ws[k]=w at*;obtain ⟨wk,wt,wn,wl1,wc⟩:=w;simp only at tl tl' wak;simp[g,g2,gR,rai,rl,gk,gk',gW,wak,wl,tl,tl',Ah]
          ·obtain rfl:k=ws.length:=by omega
           rw[xA] at hk2;have hk3:Bq ws=true:=hk2;rw[if_neg (by unfold Bp;unfold Bq at hk3;simp only;rw[hk3];simp[q0,n1,w1])] at h2;clear hK2 hk2 hk3 wat;generalize hwg:wg ks (d - 1) (q - 1)=o at*;cases o with
           |none=>
            have h2:R=none:=h2;subst h2;simp only[Ah] at IH;simp[g,g2,gR,rai,rl,wl,t2];apply ab IH;simp[Ah]
           |some m'=>
            have h2:R=Ag (L.drop (i+1)) d m':=h2;have hm':m'<=m:=by
             unfold wg at hwg;split at hwg
             ·cases hwg
             ·by_cases e:d=1
              ·subst e;rename_i hh;simp only[not_or,not_and,ne_eq,Decidable.not_not] at hh
               have:=hh.1 (by simp)
               subst this;rw[Ag] at hwg;cases hwg;omega
              ·have:=(wK ks (d - 1) (q - 1) m' (by omega) hwg).1
               omega
            have fin:=fin m' hm' h2;simp only[Ah] at IH;have z: ¬(m':Int)<0:=by omega
            simp[g,g2,gR,rai,rl,wl,t2];apply ab IH;simp[z];refine fin _ ?_;apply aj<;>simp[t1]
         ·exact ⟨gN _,by rw[xj]⟩
         ·apply aj<;>simp
        ·have w1':(20:Int)<ws.length:=by omega
         rw[if_pos (.inr (by unfold Bp;simp[w1]))] at h2;have h2:R=none:=h2;subst h2;have hq': ∀k:Nat,¬((k:Nat):Int)<0:=fun k=>by omega
         simp[g,g2,gR,rai,rl,t3,hq',n1,n1',wl,w1,w1',Ah]
       ·have n1':(2000:Int)<n.length:=by omega
        rw[if_pos (.inr (by unfold Bp;simp[n1]))] at h2;have h2:R=none:=h2;subst h2;have hq': ∀k:Nat,¬((k:Nat):Int)<0:=fun k=>by omega
        simp[g,g2,gR,rai,rl,t3,hq',n1,n1',Ah]
     ·obtain rfl:i=L.length:=by omega
      rw[xA,Ag] at h2;subst h2;clear hK;simp[rl,Ah]
    ·exact ⟨gN _,gp _,by rw[xj];exact hR2⟩
    ·apply aj<;>simp
theorem Bs (L:List It):Sp Tryz.prog gl 12 [.sl (ae L)] (.bool (wg L 40 400).isNone):=by
 refine TD rfl rfl ?_;have W:=Br 440 L 40 400 (by decide) (by decide) (by decide);have Z:=LX (wg L 40 400);generalize Ah (wg L 40 400)=v,(wg L 40 400).isNone=q at*;subst Z;simp[RW];apply ab W;simp
def C4 (x:List It×Int×Int×Int):Cf×List Ft:=if x.2.1≠0 then (KX,[⟨x.2.1,x.2.2.1,x.2.2.2⟩]) else jB 5 (eh 0 (dI x.1 1)) x.1
theorem Hq (s:List UInt8) (x:List It×Int×Int×Int) (TP:Sp Tryz.prog gl 15 [.str s] (tq x)) (hc:bg x.1<=1000) (hb:tJ x.1):Sp Tryz.prog gl 8 [.str s] (wH (C4 x)):=by
 refine s8 rfl rfl ?_;obtain ⟨L,c,a,b⟩:=x;have CO:=oK L 2 (by decide) hc hb;unfold C4;simp only[tq] at TP;dsimp only at*;by_cases h:c=0
 ·subst h;rw[if_neg (by decide)];unfold wH at*;generalize jB (2+3) (eh 0 (dI L 1)) L=y at*;obtain ⟨y,f⟩:=y;have hy:y.row=[.sl (y.gs.map Gl.row),i6 y.r,i6 y.v,i6 y.i,i6 y.x,i6 y.y]:=rfl;dsimp only at*;rw[hy] at CO ⊢;generalize ae L=RR,y.gs.map Gl.row=GL,f.map Ft.row=FL at*;simp[c8];apply ab TP;simp;apply ab CO;simp
 ·rw[if_pos h];have h':(c !=0)=true:=by simpa using h
  generalize ae L=RR at*;unfold wH;simp[c8];apply ab TP;simp[h,h',KX,Cf.row,Ft.row]
theorem wM:Sp Tryz.prog gl 7 [] (.bool true):=by
 refine s7 rfl rfl ?_;have T:=Hq bm (Hc,0,0,0) LU (by decide) LV;have e:C4 (Hc,0,0,0)=(⟨[RH],16,0,10,300,0⟩,[]):=by
  unfold C4;rw[if_neg (by decide),Vk];exact Hd
 rw[e] at T;unfold bm wH at T;simp only[Cf.row,RH,gL,lS,Gl.row,Ru.row] at T;simp[c7];apply ab T;simp
theorem Hr (f:Nat) (r:Bool) (L:List It) (hf:f<=20) (hc:bg L<=1000):(jB (f+1) r L).1.gs.length<=1000000/\(∀g∈(jB (f+1) r L).1.gs,g.lb.length<=1000000/\g.ru.length<=1000000)/\(jB (f+1) r L).2.length<=1000000:=by
 have h0:=fL L;have hC:=eX (f+1) 0 L;have hF:=kK (f+1) 0 L;have hmul:2*(f+1)*bg L<=2*21*1000:=Nat.mul_le_mul (by omega) hc;have hm:=oC (f+1) 0 L;unfold jB;split
 ·exact ⟨gN _,fun g hg=>(by cases hg),by simp⟩
 ·split
  ·exact ⟨Nat.zero_le _,fun g hg=>(by cases hg),by dsimp only;omega⟩
  ·refine ⟨?_,fun g hg=>?_,gN _⟩
   ·show (bU _ _).length<=_;exact jH (pU _ _) (by omega)
   ·have hg:g∈bU (ag (f+1)) (ag (f+1) 0 L).1:=hg;unfold bU at hg;rw[List.mem_flatMap] at hg;obtain ⟨y,hy,hg⟩:=hg;split at hg
    ·rw[KA] at hg;subst hg;have hk:=eX (f+1) 1 y.kd
     have:=fL y.kd
     have:=qw (hm y hy)
     refine ⟨?_,?_⟩
     ·show (dR _).length<=_;exact jH (wz _) (by omega)
     ·show (dj _ _).length<=_;exact jH (wA _ _) (by omega)
    ·cases hg
theorem Ej (L:List It) (r:Bool):(jB 5 r L).2≠[]\/0<(jB 5 r L).1.r:=by
 unfold jB;split
 ·exact .inl (by simp)
 ·split
  ·rename_i h;exact .inl h
  ·refine .inr ?_;show (0:Int)<((ah (ed (ag 5) (ag 5 0 L).1) iZ 16:Nat):Int)
   have:1<=ah (ed (ag 5) (ag 5 0 L).1) iZ 16:=by
    rcases mI (ag 5) (ag 5 0 L).1 [] with h|⟨y,hy,h⟩
    ·unfold ed;rw[h];decide
    ·unfold ed;rw[h];exact Io (w:=3) (n:=iZ) (p:=⟨iZ,[3],false,1,1,64⟩) rfl rfl (ag 4) y.kd 16 (by decide)
   omega
theorem oM (L:List It):Sp Tryz.prog gl 4 [.sl (ae L)] (.bool true):=by
 refine s4 rfl rfl ?_;have AW:=wM;have H:=Bs L;cases e1:wg L 40 400 with
 |none=>
  rw[e1] at H;generalize ae L=RR at*;simp[c4];apply ab AW;simp;apply ab H;simp
 |some q=>
  rw[e1] at H;obtain ⟨a1,a2,a3⟩:=NN e1;have CO:=oK L 2 (by decide) (by omega) a3;have RO:=tY L (by omega) a3;obtain ⟨l1,l2,l3⟩:=Hr 4 (eh 0 (dI L 1)) L (by decide) (by omega);have rm:=Ej L (eh 0 (dI L 1));unfold wH at CO RO;have SM:=wI _ l1 l2;have SF:=zu _ l3;generalize jB 5 (eh 0 (dI L 1)) L=y at*;obtain ⟨y,f⟩:=y;have hy:y.row=[.sl (y.gs.map Gl.row),i6 y.r,i6 y.v,i6 y.i,i6 y.x,i6 y.y]:=rfl;dsimp only at*;rw[hy] at CO RO SM;generalize ae L=RR,y.gs.map Gl.row=GL at*;have fl:(f.map Ft.row).length=f.length:=kp _;generalize f.map Ft.row=FL at*;by_cases hf:f=[]
  ·have rm:=rm.resolve_left (fun h=>h hf);have hl: ¬0<FL.length:=by rw[fl,hf];decide
   simp[c4];apply ab AW;simp;apply ab H;simp;apply ab CO;simp;apply ab RO;simp;apply ab SM;simp;apply ab SF;simp[hl,rm]
  ·have hl:0<FL.length:=by rw[fl];exact Ix.2 hf
   simp[c4];apply ab AW;simp;apply ab H;simp;apply ab CO;simp;apply ab RO;simp;apply ab SM;simp;apply ab SF;simp[hl]
mutual
def NP:It->Prop
 | .mk _ ws _ ks _ _=>(∀w∈ws,w.n<18446744073709551616)/\MC ks
def MC:List It->Prop
 |[]=>True
 |x::r=>NP x/\MC r
end
set_option linter.constructorNameAsVariable false
open Go Go.ChangeShapes Go.WideShapes Go.RowKit
theorem sF: ∀L:List It,ae L=L.map It.row
 |[]=>rfl
 |x::r=>by rw[ae,sF r,gL]
theorem C5: ∀L:List It,(∀x∈L,NP x)->MC L
 |[],_=>by rw[MC];trivial
 |x::r,h=>by rw[MC];exact ⟨h x (by simp),C5 r fun y hy=>h y (by simp[hy])⟩
set_option maxRecDepth 100000 in
theorem JS (n:Nat) (cs:List AV) (h:rD Tryz.prog n 94 cs): ∃x:Tk,x.n<18446744073709551616/\cs=x.row:=by
 rcases n with _|_|_|n
 ·exact h.elim
 ·simp[rD,qG] at h
 ·simp[rD,qG] at h
 ·simp[rD,qG,-Bool.exists_bool] at h;obtain ⟨_,_,rfl,⟨k,rfl,_⟩,_,_,rfl,⟨s,rfl,_⟩,_,_,rfl,⟨n,rfl,hn⟩,_,_,rfl,⟨ln,rfl,_⟩,co,rfl,_⟩:=h;have be:=bounds_u64 hn;obtain ⟨n,rfl⟩:=Int.eq_ofNat_of_zero_le be.1;exact ⟨⟨k,s,n,ln,co⟩,by simp only;omega,rfl⟩
set_option maxRecDepth 100000 in
theorem Hs (n:Nat) (cs:List AV) (h:rD Tryz.prog n 45 cs): ∃L:List Tk,cs=[.sl (L.map Tk.row)]/\(∀x∈L,x.n<18446744073709551616)/\L.length<=9223372036854775807:=by
 cases n with
 |zero=>exact h.elim
 |succ n=>
  simp[rD,-Bool.exists_bool] at h;obtain ⟨rs,rfl,hl,hrs⟩:=h;obtain ⟨L,rfl,hL⟩:=vI (ok:=fun x:Tk=>x.n<18446744073709551616) (f:=Tk.row) (JS n) rs hrs;exact ⟨L,rfl,hL,by simpa[maxLen] using hl⟩
set_option maxRecDepth 100000 in
theorem Ht (n:Nat): ∀(cs:List AV),rD Tryz.prog n 34 cs-> ∃L:List It,cs=[.sl (ae L)]/\MC L/\L.length<=9223372036854775807:=by
 induction n using Nat.strongRecOn with
 |_ n ih=>
  intro cs h;cases n with
  |zero=>exact h.elim
  |succ n=>
   simp[rD,-Bool.exists_bool] at h;obtain ⟨rs,rfl,hl,hrs⟩:=h;have one: ∀r,rD Tryz.prog n 47 r-> ∃x:It,NP x/\r=x.row:=by
    intro r hr;rcases n with _|_|n
    ·exact hr.elim
    ·simp[rD,qG] at hr
    ·have wo:=Hs (n+1);have ki:=ih (n+1) (by omega);rw[rD] at hr;simp only[Tryz.underlying47] at hr;simp only[qG] at hr;obtain ⟨a1,b1,rfl,h1,a2,b2,rfl,h2,a3,b3,rfl,h3,a4,b4,rfl,h4,a5,b5,rfl,h5,rfl⟩:=hr;obtain ⟨ws,rfl,hw,hwl⟩:=wo _ h2;obtain ⟨ks,rfl,hk,hkl⟩:=ki _ h4;simp[rD,-Bool.exists_bool] at h1 h3;obtain ⟨s,rfl,hs⟩:=h1;obtain ⟨q,rfl⟩:=h3;cases n with
     |zero=>simp[rD,qG] at h5
     |succ n=>
      simp[rD,qG,-Bool.exists_bool] at h5;obtain ⟨_,_,rfl,⟨x1,rfl,_⟩,x2,rfl,_⟩:=h5;exact ⟨.mk s ws q ks x1 x2,by rw[NP];exact ⟨hw,hk⟩,by rw[It.row];rfl⟩
   obtain ⟨L,rfl,hL⟩:=vI (ok:=NP) (f:=It.row) one rs hrs;exact ⟨L,by rw[sF],C5 L hL,by simpa[maxLen] using hl⟩
open Go.Lib
set_option maxRecDepth 100000
def oN:List Value:=(List.range 32).map fun o=>Value.int .u8 (if o%2=0 then (accLo (o / 2):Int) else (accHi (o / 2):Int))
def firstCells:List Value:=firstTab.map fun z=>Value.int .u8 z
theorem Bt {W:World} (h:VarReads Tryz.prog W "unicode/utf8.first" firstData) (o:Nat) (u:Value) (hu:firstCells[o]?=some u):W.cell? ⟨0,o,none⟩=some u/\u.oneCell'=true:=by
 have hg0:Tryz.prog.globalNamed "unicode/utf8.first"=some 0:=by kernel_rfl
 have ht0:(Tryz.prog.globals[0]?).map (·.type)=some 204:=by kernel_rfl
 obtain ⟨g,t,cs,fuel,p,hg,hty,hvar,hd⟩:=h;obtain rfl:=Option.some.inj (hg0.symm.trans hg);obtain rfl:=Option.some.inj (ht0.symm.trans hty);have hcs:=cells_of_tab (t:=204) (e:=5) (n:=256) (by kernel_rfl) (by kernel_rfl) (by kernel_rfl) (by kernel_rfl) hd;refine ⟨?_,?_⟩
 ·rw[World.var?_cell hg hvar o,<-Array.getElem?_toList,hcs];exact hu
 ·obtain ⟨z,_,rfl⟩:=nM.1 (List.mem_of_getElem? hu);rfl
theorem Hu {W:World} (h:VarReads Tryz.prog W "unicode/utf8.acceptRanges" acceptData) (o:Nat) (u:Value) (hu:oN[o]?=some u):W.cell? ⟨1,o,none⟩=some u/\u.oneCell'=true:=by
 have hg0:Tryz.prog.globalNamed "unicode/utf8.acceptRanges"=some 1:=by kernel_rfl
 have ht0:(Tryz.prog.globals[1]?).map (·.type)=some 207:=by kernel_rfl
 have hc0:Tryz.prog.cellsOf 206=2:=by kernel_rfl
 obtain ⟨g,t,cs,fuel,p,hg,hty,hvar,hd⟩:=h;obtain rfl:=Option.some.inj (hg0.symm.trans hg);obtain rfl:=Option.some.inj (ht0.symm.trans hty);have ho:o<32:=by have:=(tI.1 hu).1;simpa[oN] using this
 simp only[oN,xz,List.getElem?_range ho,Option.map_some,dw] at hu;subst hu;refine ⟨?_,by split<;>rfl⟩;have hi:o / 2<16:=by omega
 obtain ⟨fuel',d,q,hdi,he⟩:=array_elem (t:=207) (e:=206) (n:=16) (by kernel_rfl) hd (o / 2) hi;simp only[xz,List.getElem?_range hi,Option.map_some,dw] at hdi;subst hdi;rw[hc0] at he;obtain ⟨fs,hfs,hsz,hf⟩: ∃fs:Array Field,Tryz.prog.underlying 206=some (.struct fs)/\fs.size=2/\ ∀(i:Nat) (f:Field),fs[i]?=some f->Tryz.prog.underlying f.type=some (.int .u8)/\f.offset=i/\Tryz.prog.cellsOf f.type=1:=by
  refine ⟨_,(by kernel_rfl:Tryz.prog.underlying 206=some (.struct #[Field.mk "lo" 5 0 false "" "unicode/utf8" 0,Field.mk "hi" 5 1 false "" "unicode/utf8" 1])),rfl,fun j f hj=>?_⟩
  match j,hj with
  |0,hj=>simp at hj;subst hj;exact ⟨by kernel_rfl,rfl,by kernel_rfl⟩
  |1,hj=>simp at hj;subst hj;exact ⟨by kernel_rfl,rfl,by kernel_rfl⟩
  |j+2,hj=>simp at hj
 have hcs:=ints_of_struct hfs hf (by rw[hc0,hsz]) he;have e0:=congrArg (·[0]?) hcs;have e1:=congrArg (·[1]?) hcs;simp only[re,List.getElem?_drop] at e0 e1;rw[World.var?_cell hg hvar o,<-Array.getElem?_toList];by_cases hp:o%2=0
 ·rw[if_pos hp];have eo:o / 2*2+0=o:=by omega
  rw[eo] at e0;simpa using e0
 ·rw[if_neg hp];have eo:o / 2*2+1=o:=by omega
  rw[eo] at e1;simpa using e1
end Go.Ai
