/- P16: a part of the proof. Conditions: as each theorem says. -/
import Derived.Test.YtojgeamhdkphaaaGreatDoorP15
set_option maxHeartbeats 4000000
set_option linter.unusedSimpArgs false
set_option linter.unusedVariables false
set_option maxRecDepth 20000
namespace Go.Ai
open Go.Proofs
mutual
def LQ:It->Bool
 | .mk n ws b ks _ _=>dH n&&(decide (ws.length<=6)&&((b||ks.length==0)&&(xq ks&&ws.all cw)))
def xq:List It->Bool
 |[]=>true
 |x::r=>LQ x&&xq r
end
mutual
theorem JN: ∀(x:It) (d k:Nat) (r:List (Nat×It)),eh k (oI x d++r)=true↔(LQ x=true/\d+mR x<=5/\k+iU x<=300)/\eh (k+iU x) r=true
 | .mk n ws b ks ln co,d,k,r=>by
  have ih:=wF ks (d+1) (k+1) r;rw[oI,cT,eh,Ee,mR,iU,LQ];simp only[aL,IM,ih];rw[show k+1+bg ks=k+(1+bg ks) by omega];constructor
  ·rintro ⟨⟨⟨⟨⟨⟨h1,h2⟩,h3⟩,h4⟩,h5⟩,h6⟩,⟨h7,h8⟩,h9⟩;refine ⟨⟨⟨h3,h4,h6,h7,h5⟩,?_⟩,h9⟩;rcases h8 with rfl|h8
   ·rw[dz,bg];omega
   ·omega
  ·rintro ⟨⟨⟨h3,h4,h6,h7,h5⟩,h1,h2⟩,h9⟩;exact ⟨⟨⟨⟨⟨⟨by omega,by omega⟩,h3⟩,h4⟩,h5⟩,h6⟩,⟨h7,.inr (by omega)⟩,h9⟩
theorem wF: ∀(L:List It) (d k:Nat) (r:List (Nat×It)),eh k (dI L d++r)=true↔(xq L=true/\(L=[]\/d+dz L<=5/\k+bg L<=300))/\eh (k+bg L) r=true
 |[],d,k,r=>by rw[dI,xq,bg];simp
 |x::L,d,k,r=>by
  have a:=JN x d k (dI L d++r);have c:=wF L d (k+iU x) r;have hx:=GZ x;rw[dI,BU,a,c,xq,dz,bg,<-Fb,aL];constructor
  ·rintro ⟨⟨h1,h2,h3⟩,⟨h4,h5⟩,h6⟩;refine ⟨⟨⟨h1,h4⟩,.inr ?_⟩,h6⟩;rcases h5 with rfl|h5
   ·rw[dz,bg];omega
   ·omega
  ·rintro ⟨⟨⟨h1,h4⟩,h5⟩,h6⟩;rcases h5 with h5|h5
   ·cases h5
   ·exact ⟨⟨h1,by omega,by omega⟩,⟨h4,.inr (by omega)⟩,h6⟩
end
theorem qX (L:List It):eh 0 (dI L 1)=(decide (dz L<=4)&&(decide (bg L<=300)&&xq L)):=by
 have h:=wF L 1 0 [];rw[BV] at h;rw[Bool.eq_iff_iff,h];simp only[aL,IM];constructor
 ·rintro ⟨⟨h1,h2⟩,_⟩;rcases h2 with rfl|h2
  ·rw[dz,bg];exact ⟨by omega,by omega,h1⟩
  ·exact ⟨by omega,by omega,h1⟩
 ·rintro ⟨h1,h2,h3⟩;exact ⟨⟨h3,.inr (by omega)⟩,rfl⟩
theorem zn (L:List It) (hc:bg L<=90000) (hd:dz L<=90000) (htx: ∀p∈dI L 1,JM p.2/\p.1<=100000) (D:Nat):bh Tryz.prog gl 21 D ⟨[.sl (ae L)],[],[]⟩ ⟨.bool (eh 0 (dI L 1)),[],[]⟩:=by
 refine TO rfl ?_;have W:=fun d=>D9 L d
 have IT:=D8 L (.nw 8 (.n 1)) rfl (by omega) hd;have fl:=pW L 1;rw[nC] at IT;have hfl:(dI L 1).length<=90000:=by omega
 generalize dI L 1=FL,ae L=RR at*;simp only[aw,aW,aO,AV.mp,aX,Pl.mp,Kw,A5,Cz,A6];simp[A5,Cz,A6];refine bB _ _ (W _) ?_;simp[A5,Cz,A6];refine ⟨by simp,68,[.ptr (.nw 8 (.n 1)) 0],[(.nw 8 (.n 1),[.sl RR])],FL.map Ec,⟨rfl,rfl⟩,?_,IT,?_,?_⟩
 ·intro d cs h;simp only[aE] at h;split at h
  ·rename_i e;subst e;cases h;simp[ES]
  ·cases h
 ·intro x hx;obtain ⟨p,_,rfl⟩:=nM.1 hx;rfl
 ·refine yU (fun k τ=>τ=tU RR k/\eh 0 FL=eh k (FL.drop k)/\k<=FL.length) (FL.map Ec) 0 _ ⟨rfl,by rw[xj],gN _⟩ ?_ ?_
  ·rintro j x τ hx ⟨rfl,h2,h3⟩;rw[mm] at h2 h3 ⊢;rw[xz] at hx;cases hp:FL[j]? with
   |none=>rw[hp] at hx;cases hx
   |some p=>
    rw[hp] at hx;cases hx;obtain ⟨hj,he⟩:=tI.1 hp;obtain ⟨dd,y⟩:=p;have hq:=htx _ (List.mem_of_getElem? hp);have ho:eh 0 FL=(Ee (j+1) (dd,y)&&eh (j+1) (FL.drop (j+1))):=by
     rw[h2,rb hj,he];rfl
    refine wE RR j (by omega) dd hq.2 y hq.1 _ (fun h=>?_) (fun h=>?_)
    ·refine ⟨rfl,?_,by omega⟩;rw[ho,h,iX]
    ·rw[h,jC] at ho;rw[ho];simp only[tU];simp[vX];apply am<;>simp
  ·rintro τ ⟨rfl,h2,h3⟩;rw[mm,kp,xA] at h2;have h2:eh 0 FL=true:=h2;rw[h2];simp only[tU];simp[Cz,vX];apply am<;>simp
theorem Ef (L:List It) (i:Nat) (h:i<L.length):bg (L.take (i+1))=bg (L.take i)+iU L[i]:=by
 rw[Am h,rY,bg,bg,Ab]
theorem Eg (L:List It) (i:Nat) (h:i<L.length):dz (L.take (i+1))=max (dz (L.take i)) (mR L[i]):=by
 rw[Am h,yX,dz,dz,Nat.max_zero]
mutual
theorem G5: ∀x:It,mR x<=iU x
 | .mk n ws b ks ln co=>by
  have:=oJ ks
  rw[mR,iU];omega
theorem oJ: ∀L:List It,dz L<=bg L
 |[]=>gp _
 |x::L=>by
  have h1:=G5 x;have h2:=oJ L;rw[dz,bg];omega
end
theorem tV: ∀(N:Nat) (L:List It),bg L<=N->bg L<=1000->Sp Tryz.prog gl 18 [.sl (ae L)] (i6 (bg L)):=by
 intro N;induction N with
 |zero=>
  intro L h hc;have hL:L=[]:=by
   have:=fm L
   exact IN (by omega)
  subst hL;refine R0 rfl rfl ?_;simp[O8,ae,bg];refine aY (α:=Unit) (fun _=>⟨[(0,.sl []),(3,i6 0),(4,i6 0)],[],[]⟩) (fun _=>True) (fun _=>0) ?_ () trivial ?_
  ·rintro K x hK _;clear hK;simp
  ·apply aj<;>simp
 |succ N ih=>
  intro L h hc;refine R0 rfl rfl ?_;obtain ⟨R,hR⟩: ∃R,R=bg L:=⟨_,rfl⟩;rw[<-hR];have rl:=a8 L;have rat:=cp L;have ll:=fm L;generalize ae L=RR at*;simp[O8];refine aY (α:=Nat) (fun i=>⟨[(0,.sl RR),(3,i6 (bg (L.take i))),(4,i6 i)],[],[]⟩) (fun i=>i<=L.length) (fun i=>L.length - i) ?_ 0 (gN _) ?_
  ·rintro K i hK h1;have t1:IntKind.i64.wrap ((i:Int)+1)=(i+1:Nat):=by rw[ay]<;>omega
   by_cases g:i<L.length
   ·have g':(i:Int)<L.length:=by omega
    have gR:i<RR.length:=by omega
    have rai:=rat i g gR;have hx1:=jO (o9 g);have tc:=pN L i;have tc2:=pN L (i+1);have fin:=fun σ' hσ=>hK (i+1) σ' (by omega) (by omega) hσ
    rw[Ef L i g] at fin tc2;clear hK;generalize L[i]=x at*;obtain ⟨xn,ws,xb,ks,xl,xc⟩:=x;rw[iU] at hx1 fin tc2;have IH:=ih ks (by omega) (by omega);rw[It.row] at rai;generalize ae ks=IR,bg ks=ck,bg (L.take i)=ct at*;have w1:IntKind.i64.wrap ((ct:Int)+1)=(ct+1:Nat):=by rw[ay]<;>omega
    have w2:IntKind.i64.wrap (((ct+1:Nat):Int)+(ck:Int))=(ct+(1+ck):Nat):=by rw[ay]<;>omega
    have w3:IntKind.i64.wrap ((ct:Int)+1+(ck:Int))=(ct+(1+ck):Nat):=by rw[ay]<;>omega
    simp[g,g',gR,rai,rl];apply ab IH;simp[w1,w2,w3];refine fin _ ?_;apply aj<;>simp[t1,w1,w2,w3]
   ·obtain rfl:i=L.length:=by omega
    have g': ¬(L.length:Int)<L.length:=by omega
    rw[pr,<-hR];clear hK;simp[g',rl]
  ·apply aj<;>simp[bg]
theorem tW: ∀(N:Nat) (L:List It),bg L<=N->bg L<=1000->Sp Tryz.prog gl 53 [.sl (ae L)] (i6 (dz L)):=by
 intro N;induction N with
 |zero=>
  intro L h hc;have hL:L=[]:=by
   have:=fm L
   exact IN (by omega)
  subst hL;refine SO rfl rfl ?_;simp[Po,ae,dz];refine aY (α:=Unit) (fun _=>⟨[(0,.sl []),(3,i6 0),(4,i6 0)],[],[]⟩) (fun _=>True) (fun _=>0) ?_ () trivial ?_
  ·rintro K x hK _;clear hK;simp
  ·apply aj<;>simp
 |succ N ih=>
  intro L h hc;refine SO rfl rfl ?_;obtain ⟨R,hR⟩: ∃R,R=dz L:=⟨_,rfl⟩;rw[<-hR];have rl:=a8 L;have rat:=cp L;have ll:=fm L;generalize ae L=RR at*;simp[Po];refine aY (α:=Nat) (fun i=>⟨[(0,.sl RR),(3,i6 (dz (L.take i))),(4,i6 i)],[],[]⟩) (fun i=>i<=L.length) (fun i=>L.length - i) ?_ 0 (gN _) ?_
  ·rintro K i hK h1;have t1:IntKind.i64.wrap ((i:Int)+1)=(i+1:Nat):=by rw[ay]<;>omega
   by_cases g:i<L.length
   ·have g':(i:Int)<L.length:=by omega
    have gR:i<RR.length:=by omega
    have rai:=rat i g gR;have hx1:=jO (o9 g);have fin:=fun σ' hσ=>hK (i+1) σ' (by omega) (by omega) hσ
    rw[Eg L i g] at fin;clear hK;generalize L[i]=x at*;obtain ⟨xn,ws,xb,ks,xl,xc⟩:=x;rw[iU] at hx1;have dk:=oJ ks;rw[mR] at fin;have IH:=ih ks (by omega) (by omega);rw[It.row] at rai;generalize ae ks=IR,dz ks=dd,dz (L.take i)=ct at*;have w1:IntKind.i64.wrap (1+(dd:Int))=(1+dd:Nat):=by rw[ay]<;>omega
    by_cases c:ct<1+dd
    ·have c':(ct:Int)<1+(dd:Int):=by omega
     rw[Nat.max_eq_right (by omega)] at fin;simp[g,g',gR,rai,rl];apply ab IH;simp[w1,c,c'];refine fin _ ?_;apply aj<;>simp[t1,w1]
    ·have c': ¬(ct:Int)<1+(dd:Int):=by omega
     rw[Nat.max_eq_left (by omega)] at fin;simp[g,g',gR,rai,rl];apply ab IH;simp[w1,c,c'];refine fin _ ?_;apply aj<;>simp[t1,w1]
   ·obtain rfl:i=L.length:=by omega
    have g': ¬(L.length:Int)<L.length:=by omega
    rw[pr,<-hR];clear hK;simp[g',rl]
  ·apply aj<;>simp[dz]
mutual
def IB:It->Prop
 | .mk n ws _ ks _ _=>(ws.length<=1000/\n.length<=100000/\ ∀t∈ws,t.t.length<=100000)/\tJ ks
def tJ:List It->Prop
 |[]=>True
 |x::r=>IB x/\tJ r
end
theorem G6: ∀ {L:List It} {x:It},tJ L->x∈L->IB x
 |y::L,x,hw,h=>by
  rw[tJ] at hw;rcases o8.1 h with rfl|h
  ·exact hw.1
  ·exact G6 hw.2 h
mutual
theorem G7: ∀(x:It) (d:Nat),IB x->iU x<=100000-> ∀p∈oI x d,JM p.2/\p.1<d+iU x
 | .mk n ws b ks ln co,d,h1,h2,p,hp=>by
  rw[oI,o8] at hp;rw[IB] at h1;rw[iU] at h2 ⊢;rcases hp with rfl|hp
  ·have:=fm ks
   exact ⟨⟨by omega,by omega,fun t ht=>by have:=h1.1.2.2 t ht;omega,by omega⟩,by dsimp only;omega⟩
  ·have:=sE ks (d+1) h1.2 (by omega) p hp
   exact ⟨this.1,by omega⟩
theorem sE: ∀(L:List It) (d:Nat),tJ L->bg L<=100000-> ∀p∈dI L d,JM p.2/\p.1<d+bg L
 |[],d,_,_,p,hp=>by cases hp
 |x::r,d,h1,h2,p,hp=>by
  rw[dI,lN] at hp;rw[tJ] at h1;rw[bg] at h2 ⊢;rcases hp with hp|hp
  ·have:=G7 x d h1.1 (by omega) p hp
   exact ⟨this.1,by omega⟩
  ·have:=sE r d h1.2 (by omega) p hp
   exact ⟨this.1,by omega⟩
end
theorem zo (L:List It) (hc:bg L<=10000) (hb:tJ L):Sp Tryz.prog gl 21 [.sl (ae L)] (.bool (eh 0 (dI L 1))):=by
 have:=oJ L
 exact Sp.of_h fun D=>zn L (by omega) (by omega) (fun p hp=>by
  have:=sE L 1 hb (by omega) p hp
  exact ⟨this.1,by omega⟩) D
theorem G8 (C A R:Id) (L:List It) (f0:List Ft) (g d:Nat) (hC:C.isIt=false) (hCd:C.isNw d=false) (hA:A.isIt=false) (hAd:A.isNw d=false) (hR:R.isIt=false) (hRd:R.isNw d=false) (nCA:C≠A) (nCR:C≠R) (nAR:A≠R) (hx:sC L) (hl:bg L<=1000) (hg:g<=18) (hf:f0.length<=10000):
  bh Tryz.prog gl 23 d ⟨[.ptr C 0,.sl (ae L),.fn 24 [.ptr A 0,.ptr R 0]],[(C,bY f0),(A,[.ptr C 0]),(R,jc (ag (g+2)) [])],[(.b C 0,3),(.b R 0,8)]⟩
   ⟨.tup [],[(C,bY (f0++(ag (g+3) 0 L).2)),(A,[.ptr C 0]),(R,jc (ag (g+2)) (ag (g+3) 0 L).1)],[(.b C 0,3),(.b R 0,8)]⟩:=by
 have hll:=fL L;have E:=NB C A R L (fun i=>ar (iJ (ag (g+2)) 0 L f0 i).1) (fun i=>(iJ (ag (g+2)) 0 L f0 i).2) (fun i=>jc (ag (g+2)) (iJ (ag (g+2)) 0 L f0 i).1) d hC hCd hA hAd hR hRd nCA nCR nAR (fun i=>fH _ _) rfl (by omega) ?_
 ·have e:=oH (g+2) 0 L f0 L.length;rw[pr] at e;have e1:=congrArg Prod.fst e;have e2:=congrArg Prod.snd e;dsimp only at e1 e2;rw[e1,e2] at E;exact E
 ·intro i h h1 h2 h3;have hs:=oD (ag (g+2)) 0 L f0 i h;have hlen:=zi (g+2) 0 L f0 i;have hcl:=zj (g+2) 0 L f0 i;have hinv:=CQ (ag (g+2)) 0 L f0 i;have hm:=o9 h;have hxi:=mH hx hm;have hkl:=qw hm;have hmul:2*(g+2+1)*bg L<=2*21*1000:=Nat.mul_le_mul (by omega) hl;rw[hs];generalize iJ (ag (g+2)) 0 L f0 i=s at*;have u1: ∀ {a b:Id},a≠b->a.up≠b.up:=fun h e=>h (by injection e)
  by_cases c:aV 0 s.1 L[i]=0
  ·rw[CX c];exact JJ C.up (.it 10) A.up R.up L[i] _ _ _ _ _ _ 21 hC h1 hA h2 hR h3 rfl rfl (u1 nCA) (u1 nCR) (u1 nAR) (fH _ _) (fH _ _) (fun g1 g2 g3 g4=>GF _ _ _ _ _ _ _ g _ hinv (by omega) hxi (by omega) hg (by omega) rfl g2 hC g1 hA g3 hR g4 (u1 (u1 (u1 nCA))) (u1 (u1 (u1 nCR))) (u1 (u1 (u1 nAR))) c)
  ·rw[CY c];exact JK C.up (.it 10) A.up R.up L[i] _ _ _ _ _ _ _ 21 hC h1 hA h2 hR h3 rfl rfl (u1 nCA) (u1 nCR) (u1 nAR) (fH _ _) (fH _ _) (by omega) (fun g1 g2 g3 g4=>GG _ _ _ _ _ _ _ g _ hinv hxi rfl g2 hC g1 hA g3 hR g4 (u1 (u1 (u1 nCA))) (u1 (u1 (u1 nCR))) (u1 (u1 (u1 nAR))) c)
mutual
theorem NG: ∀x:It,LQ x=true->IB x->zg x
 | .mk n ws b ks l c,h,hb=>by
  rw[LQ] at h;rw[IB] at hb;simp only[aL,iW] at h;obtain ⟨h1,h2,h3,h4,h5⟩:=h;rw[zg];refine ⟨⟨fun t ht=>?_,hb.1.1⟩,G9 ks h4 hb.2⟩;have hw:=h5 t ht;unfold cw at hw;simp only[aL,nL] at hw;refine ⟨⟨hw.1,hw.2.1⟩,fun hk=>?_,hb.1.2.2 t ht⟩
  have:=hw.2.2
  unfold Af at this;rw[if_pos hk,aL,nL] at this;exact this.2
theorem G9: ∀L:List It,xq L=true->tJ L->sC L
 |[],_,_=>by rw[sC];trivial
 |x::L,h,hb=>by
  rw[xq,aL] at h;rw[tJ] at hb;rw[sC];exact ⟨NG x h.1 hb.1,G9 L h.2 hb.2⟩
end
theorem Eh {L:List It} (h:eh 0 (dI L 1)=true) (hb:tJ L):sC L:=by
 rw[qX,aL,aL] at h;exact G9 L h.2.2 hb
def wH (x:Cf×List Ft):AV:= .tup [.agg x.1.row,.sl (x.2.map Ft.row)]
theorem JO (g:Nat) (C:List It):(EI (ag (g+3)) C).row=jc (ag (g+2)) C:=by
 rw[LM (lk':=ag (g+2)) (LL (g+1) g) (kU (g+2) (g+1) (gp 2)) (kU (g+2) (g+1) (by decide))];rfl
theorem oK (L:List It) (g:Nat) (hg:g<=18) (hc:bg L<=1000) (hb:tJ L):Sp Tryz.prog gl 13 [.sl (ae L)] (wH (jB (g+3) (eh 0 (dI L 1)) L)):=by
 refine TE rfl rfl ?_;have RI:=zo L (by omega) hb;unfold jB wH;cases hr:eh 0 (dI L 1) with
 |false=>
  rw[hr] at RI;rw[if_pos rfl];have SA:=fun h h2=>ib (.n 7) 6 0 0 [] 13 h h2 (by simp)
  unfold bY at SA;simp only[dB,lS,gL] at SA;generalize ae L=RR at*;simp[NY];apply ab RI;simp;refine bB _ _ (SA rfl rfl) ?_;simp[KX,Cf.row,Ft.row]
 |true=>
  rw[hr] at RI;rw[if_neg (by decide)];have hx:=Eh hr hb;have ET:=fun h1 h2 h3=>G8 (.n 7) (.n 4) (.n 5) L [] g 24 rfl h1 rfl h2 rfl h3 (by simp) (by simp) (by simp) hx hc hg (by simp)
  have e0:jc (ag (g+2)) []=[.sl [],i6 16,i6 0,i6 10,i6 300,i6 0]:=rfl;have e1:bY []=[.sl []]:=rfl;simp only[e0,e1,dB] at ET;by_cases hf:(ag (g+3) 0 L).2=[]
  ·rw[if_neg (fun h=>h hf)];dsimp only;rw[JO];rw[hf,e1] at ET;unfold jc nO at*;generalize (ag (g+3) 0 L).1=k at*;generalize ed (ag (g+2)) k=nv at*;generalize ah nv iZ 16=nm1,ah nv jD 0=nm2,ah nv jE 10=nm3,ah nv jF 300=nm4,ah nv lJ 0=nm5,List.map Gl.row (bU (ag (g+2)) k)=GL,ae L=RR at*;clear e0 e1;simp[NY];apply ab RI;simp;refine bB _ _ (ET rfl rfl rfl) ?_;simp
  ·rw[if_pos hf];dsimp only;unfold jc nO bY at*;have hlen:0<((ag (g+3) 0 L).2.map Ft.row).length:=by
    rw[kp];exact Ix.2 hf
   generalize (ag (g+3) 0 L).1=k,List.map Ft.row (ag (g+3) 0 L).2=FF at*;generalize ed (ag (g+2)) k=nv at*;generalize ah nv iZ 16=nm1,ah nv jD 0=nm2,ah nv jE 10=nm3,ah nv jF 300=nm4,ah nv lJ 0=nm5,List.map Gl.row (bU (ag (g+2)) k)=GL,ae L=RR at*;clear e0 e1;simp[NY];apply ab RI;simp;refine bB _ _ (ET rfl rfl rfl) ?_;simp[hlen,KX,Cf.row]
def bm:List UInt8:=[111,98,106,101,99,116,105,118,101,32,97,32,123,32,116,97,114,103,101,116,32,57,57,46,57,37,59,32,114,117,108,101,32,114,32,112,97,103,101,32,123,32,108,111,110,103,32,49,104,59,32,115,104,111,114,116,32,53,109,59,32,102,97,99,116,111,114,32,49,52,46,52,59,32,125,32,125]
def Ty:List Tk:=[⟨1,[111,98,106,101,99,116,105,118,101],0,1,1⟩,⟨1,[97],0,1,11⟩,⟨7,[],0,1,13⟩,⟨1,[116,97,114,103,101,116],0,1,15⟩,⟨5,[],999000,1,22⟩,⟨9,[],0,1,27⟩,⟨1,[114,117,108,101],0,1,29⟩,⟨1,[114],0,1,34⟩,⟨1,[112,97,103,101],0,1,36⟩,⟨7,[],0,1,41⟩,⟨1,[108,111,110,103],0,1,43⟩,⟨6,[],3600,1,48⟩,⟨9,[],0,1,50⟩,⟨1,[115,104,111,114,116],0,1,52⟩,⟨6,[],300,1,58⟩,⟨9,[],0,1,60⟩,⟨1,[102,97,99,116,111,114],0,1,62⟩,⟨4,[],14400,1,69⟩,⟨9,[],0,1,73⟩,⟨8,[],0,1,75⟩,⟨8,[],0,1,77⟩,⟨0,[],0,1,78⟩]
def bI (k st sa fc ac:Nat):Sc:=⟨Ty.take k,st,sa,1,fc,1,ac,0,0,0⟩

theorem Ha:vR [57,57,46,57,37]=57:=zY _ 57 _ rfl (by decide)
theorem Hb:sV [57,57,46,57,37]= .t 5 [] 999000:=by
 unfold sV;have hs:Ib [57,57,46,57,37]=(999000,0):=by
  unfold Ib;rw[if_neg (by decide),if_pos (by decide)];have e:(dY [57,57,46,57,37] [37]).drop (((dY [57,57,46,57,37] [37]).takeWhile (dP 46)).length+1)=[57]:=by decide
  have e2:(dY [57,57,46,57,37] [37]).takeWhile (dP 46)=[57,57]:=by decide
  have e3:lw [57,57]=(99,true):=by
   unfold lw;rw[me [57,57] _ (by decide) (by decide),if_pos (by decide),if_neg (by decide)];rfl
  rw[e,e2,e3,me [57] _ (by decide) (by decide)];rfl
 rw[Ha,if_neg (by decide),if_neg (by decide),if_pos (by decide),hs];rfl
theorem NH:vR [49,104]=49:=zY _ 49 _ rfl (by decide)
theorem NI:sV [49,104]= .t 6 [] 3600:=by
 unfold sV;have hs:jT [49,104]=(3600,0):=by
  unfold jT;rw[if_neg (by simp),me [49,104] _ (by decide) (by decide)];rfl
 rw[NH,if_neg (by decide),if_neg (by decide),if_neg (by decide),if_neg (by decide),hs];rfl
theorem NJ:vR [53,109]=53:=zY _ 53 _ rfl (by decide)
theorem NK:sV [53,109]= .t 6 [] 300:=by
 unfold sV;have hs:jT [53,109]=(300,0):=by
  unfold jT;rw[if_neg (by simp),me [53,109] _ (by decide) (by decide)];rfl
 rw[NJ,if_neg (by decide),if_neg (by decide),if_neg (by decide),if_neg (by decide),hs];rfl
theorem JP:vR [49,52,46,52]=49:=zY _ 49 _ rfl (by decide)
theorem JQ:sV [49,52,46,52]= .t 4 [] 14400:=by
 unfold sV;rw[JP,if_neg (by decide),if_neg (by decide),if_neg (by decide),if_pos (by decide)];rfl
set_option maxRecDepth 100000 in
theorem zp:uT sV sU bm=⟨Ty,0,0,0⟩:=by
 have v0:=oX [] [111,98,106,101,99,116,105,118,101] 111 _ rfl (by decide) (by decide) (eI [111,98,106,101,99,116,105,118,101] _ (by decide) (by decide) (by decide));have v1:=oX [] [97] 97 _ rfl (by decide) (by decide) (eI [97] _ (by decide) (by decide) (by decide));have v2:=oX [] [116,97,114,103,101,116] 116 _ rfl (by decide) (by decide) (eI [116,97,114,103,101,116] _ (by decide) (by decide) (by decide));have v3:=Hb;have v4:=oX [] [114,117,108,101] 114 _ rfl (by decide) (by decide) (eI [114,117,108,101] _ (by decide) (by decide) (by decide));have v5:=oX [] [114] 114 _ rfl (by decide) (by decide) (eI [114] _ (by decide) (by decide) (by decide));have v6:=oX [] [112,97,103,101] 112 _ rfl (by decide) (by decide) (eI [112,97,103,101] _ (by decide) (by decide) (by decide));have v7:=oX [] [108,111,110,103] 108 _ rfl (by decide) (by decide) (eI [108,111,110,103] _ (by decide) (by decide) (by decide));have v8:=NI;have v9:=oX [] [115,104,111,114,116] 115 _ rfl (by decide) (by decide) (eI [115,104,111,114,116] _ (by decide) (by decide) (by decide));have v10:=NK;have v11:=oX [] [102,97,99,116,111,114] 102 _ rfl (by decide) (by decide) (eI [102,97,99,116,111,114] _ (by decide) (by decide) (by decide));have v12:=JQ;have R:lv sV sU bm C8 0=((bI 21 0 76 77 78),true):=by
  refine (aD sV sU bm (bI 0 0 0 1 1) _ (bI 0 1 0 1 2) 0 111 rfl (by decide) rfl rfl).trans ?_;refine (aD sV sU bm (bI 0 1 0 1 2) _ (bI 0 1 0 1 3) 1 98 rfl (by decide) rfl rfl).trans ?_;refine (aD sV sU bm (bI 0 1 0 1 3) _ (bI 0 1 0 1 4) 2 106 rfl (by decide) rfl rfl).trans ?_;refine (aD sV sU bm (bI 0 1 0 1 4) _ (bI 0 1 0 1 5) 3 101 rfl (by decide) rfl rfl).trans ?_;refine (aD sV sU bm (bI 0 1 0 1 5) _ (bI 0 1 0 1 6) 4 99 rfl (by decide) rfl rfl).trans ?_;refine (aD sV sU bm (bI 0 1 0 1 6) _ (bI 0 1 0 1 7) 5 116 rfl (by decide) rfl rfl).trans ?_;refine (aD sV sU bm (bI 0 1 0 1 7) _ (bI 0 1 0 1 8) 6 105 rfl (by decide) rfl rfl).trans ?_;refine (aD sV sU bm (bI 0 1 0 1 8) _ (bI 0 1 0 1 9) 7 118 rfl (by decide) rfl rfl).trans ?_;refine (aD sV sU bm (bI 0 1 0 1 9) _ (bI 0 1 0 1 10) 8 101 rfl (by decide) rfl rfl).trans ?_;refine (aD sV sU bm (bI 0 1 0 1 10) _ (bI 1 0 9 10 11) 9 32 rfl (by decide) ((ig rfl rfl v0).trans rfl) rfl).trans ?_;refine (aD sV sU bm (bI 1 0 9 10 11) _ (bI 1 1 10 11 12) 10 97 rfl (by decide) rfl rfl).trans ?_;refine (aD sV sU bm (bI 1 1 10 11 12) _ (bI 2 0 11 12 13) 11 32 rfl (by decide) ((ig rfl rfl v1).trans rfl) rfl).trans ?_;refine (aD sV sU bm (bI 2 0 11 12 13) _ (bI 3 0 12 13 14) 12 123 rfl (by decide) rfl rfl).trans ?_;refine (aD sV sU bm (bI 3 0 12 13 14) _ (bI 3 0 13 14 15) 13 32 rfl (by decide) rfl rfl).trans ?_;refine (aD sV sU bm (bI 3 0 13 14 15) _ (bI 3 1 14 15 16) 14 116 rfl (by decide) rfl rfl).trans ?_;refine (aD sV sU bm (bI 3 1 14 15 16) _ (bI 3 1 14 15 17) 15 97 rfl (by decide) rfl rfl).trans ?_;refine (aD sV sU bm (bI 3 1 14 15 17) _ (bI 3 1 14 15 18) 16 114 rfl (by decide) rfl rfl).trans ?_;refine (aD sV sU bm (bI 3 1 14 15 18) _ (bI 3 1 14 15 19) 17 103 rfl (by decide) rfl rfl).trans ?_;refine (aD sV sU bm (bI 3 1 14 15 19) _ (bI 3 1 14 15 20) 18 101 rfl (by decide) rfl rfl).trans ?_;refine (aD sV sU bm (bI 3 1 14 15 20) _ (bI 3 1 14 15 21) 19 116 rfl (by decide) rfl rfl).trans ?_;refine (aD sV sU bm (bI 3 1 14 15 21) _ (bI 4 0 20 21 22) 20 32 rfl (by decide) ((ig rfl rfl v2).trans rfl) rfl).trans ?_;refine (aD sV sU bm (bI 4 0 20 21 22) _ (bI 4 1 21 22 23) 21 57 rfl (by decide) rfl rfl).trans ?_;refine (aD sV sU bm (bI 4 1 21 22 23) _ (bI 4 1 21 22 24) 22 57 rfl (by decide) rfl rfl).trans ?_;refine (aD sV sU bm (bI 4 1 21 22 24) _ (bI 4 1 21 22 25) 23 46 rfl (by decide) rfl rfl).trans ?_;refine (aD sV sU bm (bI 4 1 21 22 25) _ (bI 4 1 21 22 26) 24 57 rfl (by decide) rfl rfl).trans ?_;refine (aD sV sU bm (bI 4 1 21 22 26) _ (bI 4 1 21 22 27) 25 37 rfl (by decide) rfl rfl).trans ?_;refine (aD sV sU bm (bI 4 1 21 22 27) _ (bI 6 0 26 27 28) 26 59 rfl (by decide) ((ig rfl rfl v3).trans rfl) rfl).trans ?_;refine (aD sV sU bm (bI 6 0 26 27 28) _ (bI 6 0 27 28 29) 27 32 rfl (by decide) rfl rfl).trans ?_;refine (aD sV sU bm (bI 6 0 27 28 29) _ (bI 6 1 28 29 30) 28 114 rfl (by decide) rfl rfl).trans ?_;refine (aD sV sU bm (bI 6 1 28 29 30) _ (bI 6 1 28 29 31) 29 117 rfl (by decide) rfl rfl).trans ?_;refine (aD sV sU bm (bI 6 1 28 29 31) _ (bI 6 1 28 29 32) 30 108 rfl (by decide) rfl rfl).trans ?_;refine (aD sV sU bm (bI 6 1 28 29 32) _ (bI 6 1 28 29 33) 31 101 rfl (by decide) rfl rfl).trans ?_;refine (aD sV sU bm (bI 6 1 28 29 33) _ (bI 7 0 32 33 34) 32 32 rfl (by decide) ((ig rfl rfl v4).trans rfl) rfl).trans ?_;refine (aD sV sU bm (bI 7 0 32 33 34) _ (bI 7 1 33 34 35) 33 114 rfl (by decide) rfl rfl).trans ?_;refine (aD sV sU bm (bI 7 1 33 34 35) _ (bI 8 0 34 35 36) 34 32 rfl (by decide) ((ig rfl rfl v5).trans rfl) rfl).trans ?_;refine (aD sV sU bm (bI 8 0 34 35 36) _ (bI 8 1 35 36 37) 35 112 rfl (by decide) rfl rfl).trans ?_;refine (aD sV sU bm (bI 8 1 35 36 37) _ (bI 8 1 35 36 38) 36 97 rfl (by decide) rfl rfl).trans ?_;refine (aD sV sU bm (bI 8 1 35 36 38) _ (bI 8 1 35 36 39) 37 103 rfl (by decide) rfl rfl).trans ?_;refine (aD sV sU bm (bI 8 1 35 36 39) _ (bI 8 1 35 36 40) 38 101 rfl (by decide) rfl rfl).trans ?_;refine (aD sV sU bm (bI 8 1 35 36 40) _ (bI 9 0 39 40 41) 39 32 rfl (by decide) ((ig rfl rfl v6).trans rfl) rfl).trans ?_;refine (aD sV sU bm (bI 9 0 39 40 41) _ (bI 10 0 40 41 42) 40 123 rfl (by decide) rfl rfl).trans ?_;refine (aD sV sU bm (bI 10 0 40 41 42) _ (bI 10 0 41 42 43) 41 32 rfl (by decide) rfl rfl).trans ?_;refine (aD sV sU bm (bI 10 0 41 42 43) _ (bI 10 1 42 43 44) 42 108 rfl (by decide) rfl rfl).trans ?_;refine (aD sV sU bm (bI 10 1 42 43 44) _ (bI 10 1 42 43 45) 43 111 rfl (by decide) rfl rfl).trans ?_;refine (aD sV sU bm (bI 10 1 42 43 45) _ (bI 10 1 42 43 46) 44 110 rfl (by decide) rfl rfl).trans ?_;refine (aD sV sU bm (bI 10 1 42 43 46) _ (bI 10 1 42 43 47) 45 103 rfl (by decide) rfl rfl).trans ?_;refine (aD sV sU bm (bI 10 1 42 43 47) _ (bI 11 0 46 47 48) 46 32 rfl (by decide) ((ig rfl rfl v7).trans rfl) rfl).trans ?_;refine (aD sV sU bm (bI 11 0 46 47 48) _ (bI 11 1 47 48 49) 47 49 rfl (by decide) rfl rfl).trans ?_;refine (aD sV sU bm (bI 11 1 47 48 49) _ (bI 11 1 47 48 50) 48 104 rfl (by decide) rfl rfl).trans ?_;refine (aD sV sU bm (bI 11 1 47 48 50) _ (bI 13 0 49 50 51) 49 59 rfl (by decide) ((ig rfl rfl v8).trans rfl) rfl).trans ?_;refine (aD sV sU bm (bI 13 0 49 50 51) _ (bI 13 0 50 51 52) 50 32 rfl (by decide) rfl rfl).trans ?_;refine (aD sV sU bm (bI 13 0 50 51 52) _ (bI 13 1 51 52 53) 51 115 rfl (by decide) rfl rfl).trans ?_;refine (aD sV sU bm (bI 13 1 51 52 53) _ (bI 13 1 51 52 54) 52 104 rfl (by decide) rfl rfl).trans ?_;refine (aD sV sU bm (bI 13 1 51 52 54) _ (bI 13 1 51 52 55) 53 111 rfl (by decide) rfl rfl).trans ?_;refine (aD sV sU bm (bI 13 1 51 52 55) _ (bI 13 1 51 52 56) 54 114 rfl (by decide) rfl rfl).trans ?_;refine (aD sV sU bm (bI 13 1 51 52 56) _ (bI 13 1 51 52 57) 55 116 rfl (by decide) rfl rfl).trans ?_;refine (aD sV sU bm (bI 13 1 51 52 57) _ (bI 14 0 56 57 58) 56 32 rfl (by decide) ((ig rfl rfl v9).trans rfl) rfl).trans ?_;refine (aD sV sU bm (bI 14 0 56 57 58) _ (bI 14 1 57 58 59) 57 53 rfl (by decide) rfl rfl).trans ?_;refine (aD sV sU bm (bI 14 1 57 58 59) _ (bI 14 1 57 58 60) 58 109 rfl (by decide) rfl rfl).trans ?_;refine (aD sV sU bm (bI 14 1 57 58 60) _ (bI 16 0 59 60 61) 59 59 rfl (by decide) ((ig rfl rfl v10).trans rfl) rfl).trans ?_;refine (aD sV sU bm (bI 16 0 59 60 61) _ (bI 16 0 60 61 62) 60 32 rfl (by decide) rfl rfl).trans ?_;refine (aD sV sU bm (bI 16 0 60 61 62) _ (bI 16 1 61 62 63) 61 102 rfl (by decide) rfl rfl).trans ?_;refine (aD sV sU bm (bI 16 1 61 62 63) _ (bI 16 1 61 62 64) 62 97 rfl (by decide) rfl rfl).trans ?_;refine (aD sV sU bm (bI 16 1 61 62 64) _ (bI 16 1 61 62 65) 63 99 rfl (by decide) rfl rfl).trans ?_;refine (aD sV sU bm (bI 16 1 61 62 65) _ (bI 16 1 61 62 66) 64 116 rfl (by decide) rfl rfl).trans ?_;refine (aD sV sU bm (bI 16 1 61 62 66) _ (bI 16 1 61 62 67) 65 111 rfl (by decide) rfl rfl).trans ?_;refine (aD sV sU bm (bI 16 1 61 62 67) _ (bI 16 1 61 62 68) 66 114 rfl (by decide) rfl rfl).trans ?_;refine (aD sV sU bm (bI 16 1 61 62 68) _ (bI 17 0 67 68 69) 67 32 rfl (by decide) ((ig rfl rfl v11).trans rfl) rfl).trans ?_;refine (aD sV sU bm (bI 17 0 67 68 69) _ (bI 17 1 68 69 70) 68 49 rfl (by decide) rfl rfl).trans ?_;refine (aD sV sU bm (bI 17 1 68 69 70) _ (bI 17 1 68 69 71) 69 52 rfl (by decide) rfl rfl).trans ?_;refine (aD sV sU bm (bI 17 1 68 69 71) _ (bI 17 1 68 69 72) 70 46 rfl (by decide) rfl rfl).trans ?_;refine (aD sV sU bm (bI 17 1 68 69 72) _ (bI 17 1 68 69 73) 71 52 rfl (by decide) rfl rfl).trans ?_;refine (aD sV sU bm (bI 17 1 68 69 73) _ (bI 19 0 72 73 74) 72 59 rfl (by decide) ((ig rfl rfl v12).trans rfl) rfl).trans ?_;refine (aD sV sU bm (bI 19 0 72 73 74) _ (bI 19 0 73 74 75) 73 32 rfl (by decide) rfl rfl).trans ?_;refine (aD sV sU bm (bI 19 0 73 74 75) _ (bI 20 0 74 75 76) 74 125 rfl (by decide) rfl rfl).trans ?_;refine (aD sV sU bm (bI 20 0 74 75 76) _ (bI 20 0 75 76 77) 75 32 rfl (by decide) rfl rfl).trans ?_;refine (aD sV sU bm (bI 20 0 75 76 77) _ (bI 21 0 76 77 78) 76 125 rfl (by decide) rfl rfl).trans ?_;rw[lv,dif_neg (by decide)]
 unfold uT;rw[if_neg (by decide),R];rfl
def Hc:List It:=[.mk [111,98,106,101,99,116,105,118,101] [⟨1,[97],0,1,11⟩] true [.mk [116,97,114,103,101,116] [⟨5,[],999000,1,22⟩] false [] 1 15,.mk [114,117,108,101] [⟨1,[114],0,1,34⟩,⟨1,[112,97,103,101],0,1,36⟩] true [.mk [108,111,110,103] [⟨6,[],3600,1,48⟩] false [] 1 43,.mk [115,104,111,114,116] [⟨6,[],300,1,58⟩] false [] 1 52,.mk [102,97,99,116,111,114] [⟨4,[],14400,1,69⟩] false [] 1 62] 1 29] 1 1]
set_option maxRecDepth 100000 in
theorem Ei:BK (uT sV sU bm)=(Hc,0,0,0):=by
 rw[zp];rfl
theorem LU:Sp Tryz.prog gl 15 [.str bm] (tq (Hc,0,0,0)):=by
 have T:=Ii bm (uT sV sU bm) (wR sV sU bm (fun w hw=>ud w (by have:bm.length=77:=rfl;omega)) (fun w hw=>zT w (by have:bm.length=77:=rfl;omega))) (fun _ h=>by rw[zp] at h;cases h);rwa [Ei] at T
theorem LV:tJ Hc:=by
 simp only[Hc,tJ,IB];simp
set_option maxRecDepth 100000 in
theorem Vk:eh 0 (dI Hc 1)=true:=by
 have n0:dH [111,98,106,101,99,116,105,118,101]=true:=eI [111,98,106,101,99,116,105,118,101] _ (by decide) (by decide) (by decide);have n1:dH [97]=true:=eI [97] _ (by decide) (by decide) (by decide);have n2:dH [116,97,114,103,101,116]=true:=eI [116,97,114,103,101,116] _ (by decide) (by decide) (by decide);have n3:dH [114,117,108,101]=true:=eI [114,117,108,101] _ (by decide) (by decide) (by decide);have n4:dH [114]=true:=eI [114] _ (by decide) (by decide) (by decide);have n5:dH [112,97,103,101]=true:=eI [112,97,103,101] _ (by decide) (by decide) (by decide);have n6:dH [108,111,110,103]=true:=eI [108,111,110,103] _ (by decide) (by decide) (by decide);have n7:dH [115,104,111,114,116]=true:=eI [115,104,111,114,116] _ (by decide) (by decide) (by decide);have n8:dH [102,97,99,116,111,114]=true:=eI [102,97,99,116,111,114] _ (by decide) (by decide) (by decide);have w0:cw ⟨1,[111,98,106,101,99,116,105,118,101],0,1,1⟩=true:=by
  unfold cw Af;rw[if_pos rfl,n0];rfl
 have w1:cw ⟨1,[97],0,1,11⟩=true:=by
  unfold cw Af;rw[if_pos rfl,n1];rfl
 have w3:cw ⟨1,[116,97,114,103,101,116],0,1,15⟩=true:=by
  unfold cw Af;rw[if_pos rfl,n2];rfl
 have w4:cw ⟨5,[],999000,1,22⟩=true:=rfl;have w6:cw ⟨1,[114,117,108,101],0,1,29⟩=true:=by
  unfold cw Af;rw[if_pos rfl,n3];rfl
 have w7:cw ⟨1,[114],0,1,34⟩=true:=by
  unfold cw Af;rw[if_pos rfl,n4];rfl
 have w8:cw ⟨1,[112,97,103,101],0,1,36⟩=true:=by
  unfold cw Af;rw[if_pos rfl,n5];rfl
 have w10:cw ⟨1,[108,111,110,103],0,1,43⟩=true:=by
  unfold cw Af;rw[if_pos rfl,n6];rfl
 have w11:cw ⟨6,[],3600,1,48⟩=true:=rfl;have w13:cw ⟨1,[115,104,111,114,116],0,1,52⟩=true:=by
  unfold cw Af;rw[if_pos rfl,n7];rfl
 have w14:cw ⟨6,[],300,1,58⟩=true:=rfl;have w16:cw ⟨1,[102,97,99,116,111,114],0,1,62⟩=true:=by
  unfold cw Af;rw[if_pos rfl,n8];rfl
 have w17:cw ⟨4,[],14400,1,69⟩=true:=rfl;rw[qX];have h1:decide (dz Hc<=4)=true:=by decide
 have h2:decide (bg Hc<=300)=true:=by decide
 rw[h1,h2,iX,iX];simp only[Hc,xq,LQ,n0,n1,n2,n3,n4,n5,n6,n7,n8,w0,w1,w3,w4,w6,w7,w8,w10,w11,w13,w14,w16,w17,List.all_cons,List.all_nil];rfl
def RH:Gl:=⟨[97],999000,60,0,0,0,[],[⟨[114],true,3600,300,14400,0,0⟩]⟩
set_option maxRecDepth 100000 in
theorem Hd:jB 5 true Hc=(⟨[RH],16,0,10,300,0⟩,[]):=by rfl
theorem zu (F:List Ft) (hl:F.length<=1000000):Sp Tryz.prog gl 11 [.sl (F.map Ft.row),.sl (F.map Ft.row)] (.bool true):=by
 refine TB rfl rfl ?_;have rl:(F.map Ft.row).length=F.length:=kp _;have rat: ∀i (h:i<F.length),∀h2,(F.map Ft.row)[i]'h2=[i6 F[i].e,i6 F[i].l,i6 F[i].c]:=fun i h h2=>by simp[Ft.row]
 generalize F.map Ft.row=RR at*;simp[RV,rl];refine aY (α:=Nat) (fun i=>⟨[(0,.sl RR),(1,.sl RR),(5,i6 i)],[],[]⟩) (fun i=>i<=F.length) (fun i=>F.length - i) ?_ 0 (gN _) ?_
 ·rintro K i hK h1;by_cases g:i<F.length
  ·have t1:IntKind.i64.wrap ((i:Int)+1)=(i+1:Nat):=by rw[ay]<;>omega
   have g':(i:Int)<F.length:=by omega
   have gR:i<RR.length:=by omega
   have rai:=rat i g gR;have fin:=fun σ' hσ=>hK (i+1) σ' (by omega) (by omega) hσ
   clear hK rat;generalize F[i]=x at*;obtain ⟨e,l,c⟩:=x;simp only at rai;simp[g,g',gR,rai,rl];refine fin _ ?_;apply aj<;>simp[t1]
  ·obtain rfl:i=F.length:=by omega
   clear hK rat;simp[rl]
 ·apply aj<;>simp
theorem zw (x:Gl) (h1:x.lb.length<=1000000) (h2:x.ru.length<=1000000):Sp Tryz.prog gl 19 [.agg x.row,.agg x.row] (.bool true):=by
 obtain ⟨n,t,gr,la,ro,ca,lb,ru⟩:=x;simp only at h1 h2;refine TJ rfl rfl ?_;have e:Gl.row ⟨n,t,gr,la,ro,ca,lb,ru⟩=[.str n,.int .u32 t,i6 gr,i6 la,i6 ro,i6 ca,.sl (lb.map Lb.row),.sl (ru.map Ru.row)]:=rfl;rw[e];clear e;have ll:(lb.map Lb.row).length=lb.length:=kp _;have lat: ∀i (h:i<lb.length),∀h2,(lb.map Lb.row)[i]'h2=[.str lb[i].n,.str lb[i].t]:=fun i h h2=>by simp[Lb.row]
 have rl:(ru.map Ru.row).length=ru.length:=kp _;have rat: ∀i (h:i<ru.length),∀h2,(ru.map Ru.row)[i]'h2=[.str ru[i].n,.bool ru[i].p,i6 ru[i].l,i6 ru[i].s,u ru[i].f,i6 ru[i].w,i6 ru[i].k]:=fun i h h2=>by simp[Ru.row]
 generalize lb.map Lb.row=LR,ru.map Ru.row=RR at*;simp[R6,ll,rl];refine aY (α:=Nat) (fun i=>⟨[(2,.ptr (.n 2) 0),(3,.ptr (.n 3) 0),(5,i6 i)],[(.n 2,[.str n,.int .u32 t,i6 gr,i6 la,i6 ro,i6 ca,.sl LR,.sl RR]),(.n 3,[.str n,.int .u32 t,i6 gr,i6 la,i6 ro,i6 ca,.sl LR,.sl RR])],[]⟩) (fun i=>i<=lb.length) (fun i=>lb.length - i) ?_ 0 (gN _) ?_
 ·rintro K i hK h1;by_cases g:i<lb.length
  ·have t1:IntKind.i64.wrap ((i:Int)+1)=(i+1:Nat):=by rw[ay]<;>omega
   have g':(i:Int)<lb.length:=by omega
   have gR:i<LR.length:=by omega
   have rai:=lat i g gR;have fin:=fun σ' hσ=>hK (i+1) σ' (by omega) (by omega) hσ
   clear hK rat lat;generalize lb[i]=x at*;obtain ⟨a,b⟩:=x;simp only at rai;simp[g,g',gR,rai,ll];refine fin _ ?_;apply aj<;>simp[t1]
  ·obtain rfl:i=lb.length:=by omega
   clear hK lat;simp[ll,rl];refine aY (α:=Nat) (fun i=>⟨[(2,.ptr (.n 2) 0),(3,.ptr (.n 3) 0),(6,i6 i)],[(.n 2,[.str n,.int .u32 t,i6 gr,i6 la,i6 ro,i6 ca,.sl LR,.sl RR]),(.n 3,[.str n,.int .u32 t,i6 gr,i6 la,i6 ro,i6 ca,.sl LR,.sl RR])],[]⟩) (fun i=>i<=ru.length) (fun i=>ru.length - i) ?_ 0 (gN _) ?_
   ·rintro K i hK h1;by_cases g:i<ru.length
    ·have t1:IntKind.i64.wrap ((i:Int)+1)=(i+1:Nat):=by rw[ay]<;>omega
     have g':(i:Int)<ru.length:=by omega
     have gR:i<RR.length:=by omega
     have rai:=rat i g gR;have fin:=fun σ' hσ=>hK (i+1) σ' (by omega) (by omega) hσ
     clear hK rat;generalize ru[i]=x at*;obtain ⟨a,b,c,d,e,f,k⟩:=x;simp only at rai;simp[g,g',gR,rai,rl];refine fin _ ?_;apply aj<;>simp[t1]
    ·obtain rfl:i=ru.length:=by omega
     clear hK rat;simp[rl]
   ·apply aj<;>simp
 ·apply aj<;>simp
theorem wI (x:Cf) (h:x.gs.length<=1000000) (hg: ∀g∈x.gs,g.lb.length<=1000000/\g.ru.length<=1000000):Sp Tryz.prog gl 10 [.agg x.row,.agg x.row] (.bool true):=by
 obtain ⟨gs,r,v,i0,xx,y⟩:=x;simp only at h hg;refine TA rfl rfl ?_;have e:Cf.row ⟨gs,r,v,i0,xx,y⟩=[.sl (gs.map Gl.row),i6 r,i6 v,i6 i0,i6 xx,i6 y]:=rfl;rw[e];clear e;have rl:(gs.map Gl.row).length=gs.length:=kp _;have rat: ∀i (h:i<gs.length),∀h2,(gs.map Gl.row)[i]'h2=gs[i].row:=fun i h h2=>by simp
 have r8: ∀g:Gl,g.row.length=8:=fun g=>rfl
 generalize gs.map Gl.row=RR at*;simp[RT,rl];refine aY (α:=Nat) (fun i=>⟨[(2,.ptr (.n 2) 0),(3,.ptr (.n 3) 0),(5,i6 i)],[(.n 2,[.sl RR,i6 r,i6 v,i6 i0,i6 xx,i6 y]),(.n 3,[.sl RR,i6 r,i6 v,i6 i0,i6 xx,i6 y])],[]⟩) (fun i=>i<=gs.length) (fun i=>gs.length - i) ?_ 0 (gN _) ?_
 ·rintro K i hK h1;by_cases g:i<gs.length
  ·have t1:IntKind.i64.wrap ((i:Int)+1)=(i+1:Nat):=by rw[ay]<;>omega
   have g':(i:Int)<gs.length:=by omega
   have gR:i<RR.length:=by omega
   have rai:=rat i g gR;obtain ⟨q1,q2⟩:=hg _ (o9 g);have SG:=zw gs[i] q1 q2;have fin:=fun σ' hσ=>hK (i+1) σ' (by omega) (by omega) hσ
   clear hK rat hg;generalize gs[i]=x at*;have e:x.row=[.str x.n,.int .u32 x.t,i6 x.g,i6 x.a,i6 x.o,i6 x.c,.sl (x.lb.map Lb.row),.sl (x.ru.map Ru.row)]:=rfl;rw[e] at rai SG;clear e r8;generalize x.lb.map Lb.row=LR,x.ru.map Ru.row=QR at*;simp[g,g',gR,rai,rl];apply ab SG;simp;refine fin _ ?_;apply aj<;>simp[t1]
  ·obtain rfl:i=gs.length:=by omega
   clear hK rat;simp[rl]
 ·apply aj<;>simp
theorem He {y:It} (h:cz ⟨jj,[1],false,1,0,0⟩ y=true): ∃t,y.ws=[t]:=by
 unfold cz at h;simp only[aL] at h;have h2:=h.2.1
 match hw:y.ws with
 |[]=>rw[hw] at h2;simp[e7] at h2
 |[t]=>exact ⟨t,rfl⟩
 |_::_::_=>rw[hw] at h2;simp[e7] at h2
theorem dM {n:Nat} (h:n<=1000000000):IntKind.i64.wrap (n:Int)=n:=by rw[ay]<;>omega
theorem Bo (f:Nat) (x:It) (a:Tk) (hws:x.ws=[a]) (hf1:1<=f) (hf:f<=50) (hd:dz x.kd<=f) (hc:bg x.kd<=1000):Sp Tryz.prog gl 33 [.agg x.row] (.agg (mg (ag f) x).row):=by
 refine Ub rfl (by rw[au];rfl) ?_;have LK:=lh f 1 x.kd (by decide) hf hd hc;unfold jR at LK;obtain ⟨g,rfl⟩: ∃g,f=g+1:=⟨f - 1,by omega⟩;have hk1:ag (g+1) 1 x.kd=x.kd.foldl (aG (ag g) 1) ([],[]):=rfl;have hinv:kR 1 (ag (g+1) 1 x.kd).1:=mj _ _ _ _ (fun y hy=>by cases hy);have hmem:=oC (g+1) 1 x.kd;have hlen:=eX (g+1) 1 x.kd;have hcl:=fL x.kd;have hkl:(ag (g+1) 1 x.kd).1.length<=1000:=by omega
 have bT:ah (ag (g+1) 1 x.kd).1 gv 0<=999999:=by rw[hk1];exact qf (w:=1) (p:=⟨gv,[5],false,1,1,999999⟩) rfl rfl _ _ _ (by decide)
 have bG:ah (ag (g+1) 1 x.kd).1 fC 60<=86400:=by rw[hk1];exact qf (w:=1) (p:=⟨fC,[6],false,1,1,86400⟩) rfl rfl _ _ _ (by decide)
 have bL:ah (ag (g+1) 1 x.kd).1 jA 0<=86400:=by rw[hk1];exact qf (w:=1) (p:=⟨jA,[6],false,1,0,86400⟩) rfl rfl _ _ _ (by decide)
 have bO:ah (ag (g+1) 1 x.kd).1 iv 0<=34560000:=by rw[hk1];exact qf (w:=1) (p:=⟨iv,[6],false,1,1,34560000⟩) rfl rfl _ _ _ (by decide)
 have RG:=fun n d=>dA (ag (g+1) 1 x.kd).1 n d (by omega)
 have hres:(mg (ag (g+1)) x).row=[.str a.t,.int .u32 (ah (ag (g+1) 1 x.kd).1 gv 0),i6 (ah (ag (g+1) 1 x.kd).1 fC 60),i6 (ah (ag (g+1) 1 x.kd).1 jA 0),i6 (ah (ag (g+1) 1 x.kd).1 iv 0),i6 (e9 (ag (g+1) 1 x.kd).1),.sl ((dR (ag (g+1) 1 x.kd).1).map Lb.row),.sl ((dj (ag (g+1)) (ag (g+1) 1 x.kd).1).map Ru.row)]:=by
  unfold mg Gl.row;dsimp only;rw[hws];rfl
 have LK2:=fun (y:It) (h:y∈(ag (g+1) 1 x.kd).1)=>lh (g+1) 2 y.kd (by decide) hf (by have:=kJ (hmem y h);have:=pR y;omega) (by have:=qw (hmem y h);omega)
 have RG2:=fun (y:It) (h:y∈(ag (g+1) 1 x.kd).1) n=>dA (ag (g+1) 2 y.kd).1 n 0 (by have:=eX (g+1) 2 y.kd;have:=fL y.kd;have:=qw (hmem y h);omega)
 have B2: ∀(y:It) (n:List UInt8) (p:jV),bK 2 n=some p->p.mo=1->p.hi<=34560000->ah (ag (g+1) 2 y.kd).1 n 0<=34560000:=fun y n p h1 h2 h3=>jH (qf (w:=2) h1 h2 (ag g) y.kd 0 (gN _)) h3
 unfold jR at LK2;rw[hres];clear hres hk1 hd hc;generalize (ag (g+1) 1 x.kd).2=kf,hkk:(ag (g+1) 1 x.kd).1=k at*;have rl:=a8 k;have rat:=cp k;have wT:IntKind.u32.wrap ((ah k gv 0:Nat):Int)=ah k gv 0:=by rw[rN]<;>omega
 have wG:=dM (n:=ah k fC 60) (by omega);have wL:=dM (n:=ah k jA 0) (by omega);have wO:=dM (n:=ah k iv 0) (by omega);have G1:=RG gv 0;have G2:=RG fC 60;have G3:=RG jA 0;have G4:=RG iv 0;clear RG;generalize ah k gv 0=vt,ah k fC 60=vg,ah k jA 0=va,ah k iv 0=vo at*;unfold gv at G1;unfold fC at G2;unfold jA at G3;unfold iv at G4;rw[au,hws];generalize ae x.kd=KR at*;obtain ⟨ak,at',an,al,ac⟩:=a;simp only[gL,lS,Tk.row] at*;generalize ae k=RR at*;have hlim:iQ=140737488355328:=rfl;simp[Sj];apply ab LK;simp;apply ab G1;simp[wT];apply ab G2;simp[wG];apply ab G3;simp[wL];apply ab G4;simp[wO];clear LK G1 G2 G3 G4 wT wG wL wO;refine aY (α:=Nat) (fun i=>⟨[(2,.ptr (.n 2) 0),(3,.sl RR),(5,.ptr (.n 5) 0),(6,i6 i)],[(.n 2,[.str [],.int .u32 0,i6 0,i6 0,i6 0,i6 0,.nils,.nils]),(.n 5,[.str at',.int .u32 vt,i6 vg,i6 va,i6 vo,i6 (e9 (k.take (i))),.sl ((dR (k.take (i))).map Lb.row),.sl ((dj (ag (g+1)) (k.take (i))).map Ru.row)])],[(.b (.n 5) 6,2),(.b (.n 5) 7,7)]⟩) (fun i=>i<=k.length) (fun i=>k.length - i) ?_ 0 (gN _) ?_
 ·rintro K i hK h1;by_cases gi:i<k.length
  ·have t1:IntKind.i64.wrap ((i:Int)+1)=(i+1:Nat):=by rw[ay]<;>omega
   have g':(i:Int)<k.length:=by omega
   have gR:i<RR.length:=by omega
   have rai:=rat i gi gR;have fin:=fun σ' hσ=>hK (i+1) σ' (by omega) (by omega) hσ
   have hy:=o9 gi;have LY:=LK2 k[i] hy;have RY:=RG2 k[i] hy;have hyi:=hinv k[i] hy;have et:k.take (i+1)=k.take i++[k[i]]:=by rw[Am gi]
   have tl:(k.take i).length<=1000:=by rw[An];omega
   rw[et] at fin;have lb2: ∀r∈List.map Lb.row (dR (k.take i)),r.length=2:=fun r h=>by
    obtain ⟨z,_,rfl⟩:=nM.1 h;rfl
   have lbl:((List.map Lb.row (dR (k.take i))).length+1)*32<=iQ:=by rw[kp,hlim];have:=wz (k.take i);omega
   have ru7: ∀r∈List.map Ru.row (dj (ag (g+1)) (k.take i)),r.length=7:=fun r h=>by
    obtain ⟨z,_,rfl⟩:=nM.1 h;rfl
   have rul:((List.map Ru.row (dj (ag (g+1)) (k.take i))).length+1)*64<=iQ:=by rw[kp,hlim];have:=wA (ag (g+1)) (k.take i);omega
   clear hK rat hinv LK2 RG2 hmem et;rw[hkk] at*;generalize k.take i=T,hyy:k[i]=y at*;rw[au] at rai;generalize y.pl.1=pl,y.pl.2=pc,y.bk=yb at*;obtain ⟨p,hp,hfm⟩:=hyi;by_cases e1:y.nm=jj
   ·rw[e1] at hp;cases hp;obtain ⟨w,hw⟩:=He hfm;have ew:w0 y.ws=w.t:=by rw[hw];rfl
    rw[CU e1,lq (show y.nm≠nP by rw[e1];decide),lr _ (show y.nm≠du by rw[e1];decide),ew] at fin;clear LY RY hfm ew;obtain ⟨wk,wt,wn,wl,wc⟩:=w;rw[e1,hw] at rai;generalize ae y.kd=YR,e9 T=ct,List.map Lb.row (dR T)=VL,List.map Ru.row (dj (ag (g+1)) T)=VR at*;simp only[gL,lS,Tk.row] at rai fin;unfold jj at*;by_cases m:wt=qD
    ·rw[if_pos m] at fin;subst m;unfold qD at*;simp[gi,g',gR,rl,rai];refine fin _ ?_;apply aj<;>simp[t1]
    ·rw[if_neg m] at fin;have m':(wt==qD)=false:=bJ.2 m;unfold qD at*;simp[gi,g',gR,rl,rai,m'];refine fin _ ?_;apply aj<;>simp[t1]
   by_cases e2:y.nm=nP
   ·have hp0:bK 1 y.nm=some Bh:=by rw[e2];rfl
    rw[hp0] at hp;cases hp;obtain ⟨-,w,v,hw,-,-⟩:=wB hfm;have ew:w0 y.ws=w.t:=by rw[hw];rfl
    have ev:w1 y.ws=v.t:=by rw[hw];rfl
    rw[lm e1,CV e2,lr _ (show y.nm≠du by rw[e2];decide),ew,ev,List.map_append] at fin;clear LY RY hfm ew ev hp0 e1;obtain ⟨wk,wt,wn,wl,wc⟩:=w;obtain ⟨vk,v2,vn,vl,vc⟩:=v;rw[e2,hw] at rai;generalize ae y.kd=YR,e9 T=ct,List.map Lb.row (dR T)=VL,List.map Ru.row (dj (ag (g+1)) T)=VR at*;simp only[gL,lS,Tk.row,Lb.row] at rai fin;unfold nP at*;simp[gi,g',gR,rl,rai,lbl];refine ⟨lb2,?_⟩;refine fin _ ?_;apply aj<;>simp[t1]
   by_cases e3:y.nm=du
   ·have hp0:bK 1 y.nm=some wx:=by rw[e3];rfl
    rw[hp0] at hp;cases hp;obtain ⟨-,w,v,hw,-,-,-⟩:=wy hfm;have ew:w0 y.ws=w.t:=by rw[hw];rfl
    have ev:w1 y.ws=v.t:=by rw[hw];rfl
    have hrow:(vd (ag (g+1)) y).row=[.str w.t,.bool (v.t==qa),i6 (ah (ag (g+1) 2 y.kd).1 fX 0),i6 (ah (ag (g+1) 2 y.kd).1 fY 0),u (ah (ag (g+1) 2 y.kd).1 eZ 0),i6 (ah (ag (g+1) 2 y.kd).1 lH 0),i6 (ah (ag (g+1) 2 y.kd).1 lI 0)]:=by
     unfold vd Ru.row;rw[ew,ev]
    rw[lm e1,lq e2,CW _ e3,List.map_append,gL,lS,hrow] at fin;have h1:=dM (jH (B2 y fX ⟨fX,[6],false,1,1,34560000⟩ rfl rfl (gp _)) (by decide));have h2:=dM (jH (B2 y fY ⟨fY,[6],false,1,1,34560000⟩ rfl rfl (gp _)) (by decide));have h3:=dM (jH (B2 y lH ⟨lH,[6],false,1,0,604800⟩ rfl rfl (by decide)) (by decide));have h4:=dM (jH (B2 y lI ⟨lI,[6],false,1,0,604800⟩ rfl rfl (by decide)) (by decide));have R1:=RY fX;have R2:=RY fY;have R3:=RY eZ;have R4:=RY lH;have R5:=RY lI;clear RY hfm ew ev hp0 e1 e2 hrow B2;generalize (ag (g+1) 2 y.kd)=q at*;generalize ah q.1 fX 0=v1,ah q.1 fY 0=v2,ah q.1 eZ 0=v3,ah q.1 lH 0=v4,ah q.1 lI 0=v5 at*;obtain ⟨wk,wt,wn,wl,wc⟩:=w;obtain ⟨vk,vt2,vn,vl,vc⟩:=v;rw[e3,hw] at rai;generalize ae y.kd=YR,ae q.1=QR,List.map Ft.row q.2=QF,e9 T=ct,List.map Lb.row (dR T)=VL,List.map Ru.row (dj (ag (g+1)) T)=VR at*;simp only[gL,lS,Tk.row] at rai fin;unfold du qa fX fY eZ lH lI at*;simp[gi,g',gR,rl,rai];apply ab LY;simp[gi,g',gR,rl,rai];apply ab R1;simp[h1];apply ab R2;simp[h2];apply ab R3;simp;apply ab R4;simp[h3];apply ab R5;simp[h4,rul];refine ⟨ru7,?_⟩;refine fin _ ?_;apply aj<;>simp[t1]
   ·rw[lm e1,lq e2,lr _ e3] at fin;have b1:(y.nm==jj)=false:=bJ.2 e1;have b2:(y.nm==nP)=false:=bJ.2 e2;have b3:(y.nm==du)=false:=bJ.2 e3;clear LY RY hfm e1 e2 e3 hp;generalize ae y.kd=YR,y.nm=nm,List.map Tk.row y.ws=WR,e9 T=ct,List.map Lb.row (dR T)=VL,List.map Ru.row (dj (ag (g+1)) T)=VR at*;unfold jj nP du at*;simp[gi,g',gR,rl,rai,b1,b2,b3];refine fin _ ?_;apply aj<;>simp[t1]
  ·obtain rfl:i=k.length:=by omega
   rw[pr];clear hK;simp[rl]
 ·simp only[M5];apply aj<;>simp[show e9 []=0 from rfl,show dR []=[] from rfl,show dj (ag (g+1)) []=[] from rfl]
end Go.Ai
