/- P11: a part of the proof. Conditions: as each theorem says. -/
import Derived.Test.YtojgeamhdkphaaaGreatDoorP10
set_option linter.unusedSimpArgs false
set_option linter.unusedVariables false
set_option maxRecDepth 20000
namespace Go.Ai
theorem Hg (x:It):1<=pp x:=by cases x;rw[pp];omega
def SF (c:Int) (dp cn:Nat):Prop:=c=19/\5<dp\/c=9/\300<cn
theorem SF.mono {c:Int} {d n d' n':Nat} (h:SF c d n) (h1:d<=d') (h2:n<=n'):SF c d' n':=by
 rcases h with ⟨h,g⟩|⟨h,g⟩
 ·exact .inl ⟨h,by omega⟩
 ·exact .inr ⟨h,by omega⟩
open Go.Proofs
mutual
def Kh:It->Bool
 | .mk n ws b ks _ _=>dx n&&(decide (ws.length<=6)&&((b||ks.length==0)&&(BG ks&&ws.all cu)))
def BG:List It->Bool
 |[]=>true
 |x::r=>Kh x&&BG r
end
mutual
theorem Ki: ∀(x:It) (d k:Nat) (r:List (Nat×It)),dz k (oB x d++r)=true↔(Kh x=true/\d+pp x<=5/\k+jh x<=300)/\dz (k+jh x) r=true
 | .mk n ws b ks ln co,d,k,r=>by
  have ih:=wC ks (d+1) (k+1) r;rw[oB,cB,dz,Fd,pp,jh,Kh];simp only[aJ,Cn,ih];rw[show k+1+bJ ks=k+(1+bJ ks) by omega];constructor
  ·rintro ⟨⟨⟨⟨⟨⟨h1,h2⟩,h3⟩,h4⟩,h5⟩,h6⟩,⟨h7,h8⟩,h9⟩;refine ⟨⟨⟨h3,h4,h6,h7,h5⟩,?_⟩,h9⟩;rcases h8 with rfl|h8
   ·rw[f8,bJ];omega
   ·omega
  ·rintro ⟨⟨⟨h3,h4,h6,h7,h5⟩,h1,h2⟩,h9⟩;exact ⟨⟨⟨⟨⟨⟨by omega,by omega⟩,h3⟩,h4⟩,h5⟩,h6⟩,⟨h7,.inr (by omega)⟩,h9⟩
theorem wC: ∀(L:List It) (d k:Nat) (r:List (Nat×It)),dz k (cT L d++r)=true↔(BG L=true/\(L=[]\/d+f8 L<=5/\k+bJ L<=300))/\dz (k+bJ L) r=true
 |[],d,k,r=>by rw[cT,BG,bJ];simp
 |x::L,d,k,r=>by
  have a:=Ki x d k (cT L d++r);have c:=wC L d (k+jh x) r;have hx:=Hg x;rw[cT,xv,a,c,BG,f8,bJ,<-Gd,aJ];constructor
  ·rintro ⟨⟨h1,h2,h3⟩,⟨h4,h5⟩,h6⟩;refine ⟨⟨⟨h1,h4⟩,.inr ?_⟩,h6⟩;rcases h5 with rfl|h5
   ·rw[f8,bJ];omega
   ·omega
  ·rintro ⟨⟨⟨h1,h4⟩,h5⟩,h6⟩;rcases h5 with h5|h5
   ·cases h5
   ·exact ⟨⟨h1,by omega,by omega⟩,⟨h4,.inr (by omega)⟩,h6⟩
end
theorem qJ (L:List It):dz 0 (cT L 1)=(decide (f8 L<=4)&&(decide (bJ L<=300)&&BG L)):=by
 have h:=wC L 1 0 [];rw[xJ] at h;rw[Bool.eq_iff_iff,h];simp only[aJ,Cn];constructor
 ·rintro ⟨⟨h1,h2⟩,_⟩;rcases h2 with rfl|h2
  ·rw[f8,bJ];exact ⟨by omega,by omega,h1⟩
  ·exact ⟨by omega,by omega,h1⟩
 ·rintro ⟨h1,h2,h3⟩;exact ⟨⟨h3,.inr (by omega)⟩,rfl⟩
def bG:List It->Nat->List It
 |x::y::r,0=>if x.nm=y.nm then x::y::r else y::x::r
 |x::r,i+1=>x::bG r i
 |L,_=>L
def It.kids (x:It) (ks:List It):It:=match x with
 | .mk n ws b _ l c=> .mk n ws b ks l c
def kQ (f:List It->List It):List It->Nat->List It
 |x::r,0=>x.kids (f x.kd)::r
 |x::r,i+1=>x::kQ f r i
 |[],_=>[]
theorem zm (n:List UInt8): ∀(L:List It) (i:Nat),Ai.flt n (bG L i)=Ai.flt n L
 |[],i=>by cases i<;>rfl
 |[x],0=>rfl
 |[x],i+1=>by
  have:bG [x] (i+1)=[x]:=by rw[bG];cases i<;>rfl
  rw[this]
 |x::y::r,0=>by
  rw[bG];split
  ·rfl
  ·rename_i h;rw[bI,bI,bI,bI];by_cases e1:y.nm=n
   ·have e2: ¬x.nm=n:=fun q=>h (q.trans e1.symm)
    simp only[if_pos e1,if_neg e2]
   ·simp only[if_neg e1]
 |x::y::r,i+1=>by rw[bG,bI,bI,zm n (y::r) i]
theorem se (L:List It) (i:Nat):dB L (bG L i):= .of fun n=>by
 rw[zm];exact F2.refl ib.refl _
theorem Hh (x:It) (ks:List It):zV x (x.kids ks)/\(x.kids ks).kd=ks:=by
 obtain ⟨n,ws,b,k,l,c⟩:=x;exact ⟨⟨rfl,rfl,rfl⟩,rfl⟩
theorem wD (f:List It->List It) (hf: ∀K,dB K (f K)) (n:List UInt8): ∀(L:List It) (i:Nat),F2 ib (Ai.flt n L) (Ai.flt n (kQ f L i))
 |[],i=>by cases i<;>exact .nil
 |x::r,0=>by
  obtain ⟨h1,h2⟩:=Hh x (f x.kd);rw[kQ,bI,bI,<-h1.1];split
  ·exact .cons ⟨h1,by rw[h2];exact hf _⟩ (F2.refl ib.refl _)
  ·exact F2.refl ib.refl _
 |x::r,i+1=>by
  rw[kQ,bI,bI];split
  ·exact .cons (ib.refl x) (wD f hf n r i)
  ·exact wD f hf n r i
theorem zo (f:List It->List It) (hf: ∀K,dB K (f K)) (L:List It) (i:Nat):dB L (kQ f L i):= .of fun n=>wD f hf n L i
def ka (L:List It) (i j k:Nat):List It:=kQ (fun K=>kQ (fun K2=>bG K2 k) (bG K j) j) (bG L i) i
theorem Hi (L:List It) (i j k:Nat):dB L (ka L i j k):=(se L i).trans (zo _ (fun K=>(se K j).trans (zo _ (fun K2=>se K2 k) _ _)) _ _)
def lT (L M:List It):Prop:=bJ M=bJ L/\f8 M=f8 L/\BG M=BG L/\M.length=L.length
theorem lT.trans {A B C:List It} (h:lT A B) (g:lT B C):lT A C:=⟨g.1.trans h.1,g.2.1.trans h.2.1,g.2.2.1.trans h.2.2.1,g.2.2.2.trans h.2.2.2⟩
theorem lT.cons (x:It) {A B:List It} (h:lT A B):lT (x::A) (x::B):=⟨by rw[bJ,bJ,h.1],by rw[f8,f8,h.2.1],by rw[BG,BG,h.2.2.1],by rw[e7,e7,h.2.2.2]⟩
theorem gB: ∀(L:List It) (i:Nat),lT L (bG L i)
 |[],i=>by cases i<;>exact ⟨rfl,rfl,rfl,rfl⟩
 |[x],0=>⟨rfl,rfl,rfl,rfl⟩
 |[x],i+1=>by
  have:bG [x] (i+1)=[x]:=by rw[bG];cases i<;>rfl
  rw[this];exact ⟨rfl,rfl,rfl,rfl⟩
 |x::y::r,0=>by
  rw[bG];split
  ·exact ⟨rfl,rfl,rfl,rfl⟩
  ·refine ⟨?_,?_,?_,rfl⟩
   ·simp only[bJ];omega
   ·simp only[f8];omega
   ·simp only[BG];cases Kh x<;>cases Kh y<;>rfl
 |x::y::r,i+1=>(gB (y::r) i).cons x
theorem sf (f:List It->List It) (hf: ∀K,lT K (f K)): ∀(L:List It) (i:Nat),lT L (kQ f L i)
 |[],i=>by cases i<;>exact ⟨rfl,rfl,rfl,rfl⟩
 | .mk n ws b ks l c::r,0=>by
  obtain ⟨h1,h2,h3,h4⟩:=hf ks;have e:It.kids (.mk n ws b ks l c) (f (It.kd (.mk n ws b ks l c)))= .mk n ws b (f ks) l c:=rfl;rw[kQ,e];refine ⟨?_,?_,?_,rfl⟩
  ·simp only[bJ,jh,h1]
  ·simp only[f8,pp,h2]
  ·simp only[BG,Kh,h3,h4]
 |x::r,i+1=>(sf f hf r i).cons x
theorem uY (L:List It) (i j k:Nat):lT L (ka L i j k):=(gB L i).trans (sf _ (fun K=>(gB K j).trans (sf _ (fun K2=>gB K2 k) _ _)) _ _)
theorem BH (L:List It) (i j k:Nat):dz 0 (cT (ka L i j k) 1)=dz 0 (cT L 1):=by
 obtain ⟨h1,h2,h3,_⟩:=uY L i j k;rw[qJ,qJ,h1,h2,h3]
mutual
theorem Hj: ∀x:It,pp x<=jh x
 | .mk n ws b ks ln co=>by
  have:=sg ks
  rw[pp,jh];omega
theorem sg: ∀L:List It,f8 L<=bJ L
 |[]=>eR _
 |x::L=>by
  have h1:=Hj x;have h2:=sg L;rw[f8,bJ];omega
end
mutual
def Dd:It->Prop
 | .mk n ws _ ks _ _=>(ws.length<=1000/\n.length<=100000/\ ∀t∈ws,t.t.length<=100000)/\lv ks
def lv:List It->Prop
 |[]=>True
 |x::r=>Dd x/\lv r
end
def zn (i:Int):Nat:=if i<0 then 1000000 else i.toNat
theorem kb: ∀(L:List It) (i:Nat),L.length<=i+1->bG L i=L
 |[],i,_=>by cases i<;>rfl
 |[x],0,_=>rfl
 |[x],i+1,_=>by rw[bG];cases i<;>rfl
 |x::y::r,0,h=>by simp only[e7] at h;omega
 |x::y::r,i+1,h=>by
  rw[bG,kb (y::r) i (by simp only[e7] at h ⊢;omega)]
theorem zp (x y:It) (B:List It): ∀A:List It,bG (A++x::y::B) A.length=A++(if x.nm=y.nm then x::y::B else y::x::B)
 |[]=>rfl
 |a::A=>by
  rw[cB,e7]
  have:bG (a::(A++x::y::B)) (A.length+1)=a::bG (A++x::y::B) A.length:=by cases A<;>rfl
  rw[this,zp x y B A,cB]
theorem wE (f:List It->List It): ∀(L:List It) (i:Nat),L.length<=i->kQ f L i=L
 |[],i,_=>by cases i<;>rfl
 |x::r,0,h=>by simp only[e7] at h;omega
 |x::r,i+1,h=>by rw[kQ,wE f r i (by simp only[e7] at h;omega)]
theorem wF (f:List It->List It) (x:It) (B:List It): ∀A:List It,kQ f (A++x::B) A.length=A++x.kids (f x.kd)::B
 |[]=>rfl
 |a::A=>by rw[cB,e7,kQ,wF f x B A,cB]
theorem ji (L:List It) (i:Nat):(bG L i).length=L.length:=(gB L i).2.2.2
theorem qK: ∀(L:List It) (i:Nat),lv L->lv (bG L i)
 |[],i,h=>by cases i<;>exact h
 |[x],i,h=>by rw[kb [x] i (by simp only[e7,tO];omega)];exact h
 |x::y::r,0,h=>by
  rw[bG];split
  ·exact h
  ·rw[lv,lv] at h ⊢;exact ⟨h.2.1,h.1,h.2.2⟩
 |x::y::r,i+1,h=>by
  rw[bG,lv];rw[lv] at h;exact ⟨h.1,qK (y::r) i h.2⟩
theorem Kj {x:It} {ks:List It} (h:Dd x) (hk:lv ks):Dd (x.kids ks):=by
 obtain ⟨n,ws,b,k,l,c⟩:=x;show Dd (.mk n ws b ks l c);rw[Dd] at h ⊢;exact ⟨h.1,hk⟩
theorem OG {x:It} (h:Dd x):lv x.kd:=by
 obtain ⟨n,ws,b,k,l,c⟩:=x;show lv k;rw[Dd] at h;exact h.2
theorem BI (f:List It->List It) (hf: ∀K,lv K->lv (f K)): ∀(L:List It) (i:Nat),lv L->lv (kQ f L i)
 |[],i,h=>by cases i<;>exact h
 |x::r,0,h=>by
  rw[kQ,lv];rw[lv] at h;exact ⟨Kj h.1 (hf _ (OG h.1)),h.2⟩
 |x::r,i+1,h=>by
  rw[kQ,lv];rw[lv] at h;exact ⟨h.1,BI f hf r i h.2⟩
theorem Kk (L:List It) (i j k:Nat) (h:lv L):lv (ka L i j k):=BI _ (fun K hK=>BI _ (fun K2 h2=>qK K2 k h2) _ _ (qK K j hK)) _ _ (qK L i h)
theorem zr (L:List It) (i:Nat) (h:i<L.length): ∃A x B,L=A++x::B/\A.length=i:=
 ⟨L.take i,L[i],L.drop (i+1),by rw[List.getElem_cons_drop,F9],by rw[tD];omega⟩
theorem Et (L:List It) (i:Nat) (h:i+1<L.length): ∃A x y B,L=A++x::y::B/\A.length=i:=
 ⟨L.take i,L[i],L[i+1],L.drop (i+2),by rw[List.getElem_cons_drop,List.getElem_cons_drop,F9],by rw[tD];omega⟩
theorem fj: ∀L:List It,(ab L).flatten.length=L.length*6
 |[]=>rfl
 | .mk n ws b ks l c::r=>by
  rw[ab,List.flatten_cons,fT,fj r,It.row,e7];simp only[e7,tO];omega
theorem Hk (P:List AV) (a:Nat) (hP:P.length=a*6) (d0 d1 d2 d3 d4 d5:AV) (R:List AV):(P++d0::d1::d2::d3::d4::d5::R).take ((a+1)*6)=P++[d0,d1,d2,d3,d4,d5]:=by
 rw[List.take_append,List.take_of_length_le (by omega),show (a+1)*6 - P.length=6 by omega];rfl
theorem Hl (P:List AV) (a:Nat) (hP:P.length=a*6) (d0 d1 d2 d3 d4 d5 e0 e1 e2 e3 e4 e5:AV) (R:List AV):(P++d0::d1::d2::d3::d4::d5::e0::e1::e2::e3::e4::e5::R).drop ((a+1)*6+6)=R:=by
 rw[List.drop_append,List.drop_of_length_le (by omega),show (a+1)*6+6 - P.length=12 by omega];rfl
theorem qd (L:List It) (i:Int) (hL:L.length<=1000) (Q:AE->St->Prop) (hQ: ∀e pm,lk e 4= .ms (.n 8) 0 L.length 6->Q .r ⟨e,[(.n 8,(ab (bG L (zn i))).flatten)],pm⟩):
  dK (ba Tryz.prog gl) Lr Q ⟨dD 0 [.sl (ab L),i6 i],[],[]⟩:=by
 have hlim:nD=140737488355328:=rfl;have hl:=bQ L;have q1:L.length*88<=140737488355328:=by omega
 have h6:=jJ L;have w1:IntKind.i64.wrap ((L.length:Int) - 1)=(L.length:Int) - 1:=by rw[aL]<;>omega
 by_cases h0:0<=i
 ·by_cases h1:i<(L.length:Int) - 1
  ·obtain ⟨A,x,y,B,e,hA⟩:=Et L i.toNat (by omega);have hi:i=(A.length:Int):=by omega
   subst hi;have hz:zn (A.length:Int)=A.length:=by unfold zn;rw[if_neg (by omega)];omega
   have w2:IntKind.i64.wrap ((A.length:Int)+1)=((A.length+1:Nat):Int):=by rw[aL]<;>omega
   have hs:bG L A.length=A++(if x.nm=y.nm then x::y::B else y::x::B):=by rw[e];exact zp x y B A
   have hR:ab L=ab A++x.row::y.row::ab B:=by rw[e,jg,ab,ab]
   have g1:(ab L)[A.length]?=some x.row:=by rw[hR,List.getElem?_append_right (by rw[bQ];omega),bQ,Nat.sub_self];rfl
   have g2:(ab L)[A.length+1]?=some y.row:=by rw[hR,List.getElem?_append_right (by rw[bQ];omega),bQ,Nat.add_sub_cancel_left];rfl
   have f0:(ab L).flatten=(ab A).flatten++(x.row++(y.row++(ab B).flatten)):=by rw[hR,List.flatten_append,List.flatten_cons,List.flatten_cons]
   have fL:=fj L;have f1:(ab L).flatten.take (A.length*6)=(ab A).flatten:=by rw[f0];exact List.take_left' (fj A)
   have f2:(ab L).flatten.drop (A.length*6+6)=y.row++(ab B).flatten:=by
    rw[f0,List.drop_append,List.drop_of_length_le (by rw[fj];omega),fj,Nat.add_sub_cancel_left];obtain ⟨n,ws,b,k,l,c⟩:=x;rfl
   have hP:=fj A;have T3:=Hk (ab A).flatten A.length hP;have T4:=Hl (ab A).flatten A.length hP;rw[hz,hs] at hQ;obtain ⟨xn,xw,xb,xk,xl,xc⟩:=x;obtain ⟨yn,yw,yb,yk,yl,yc⟩:=y;by_cases hn:xn=yn
   ·have hn':(xn==yn)=true:=by simp[hn]
    have hn2:(It.mk xn xw xb xk xl xc).nm=(It.mk yn yw yb yk yl yc).nm:=hn;rw[if_pos hn2,<-e] at hQ;clear hs hR f0 f1 f2 hP T3 T4 e hz;simp only[It.row] at g1 g2;generalize ab L=RR,A.length=a at*;simp[Lr,hlim,hl,q1,h6,h0,h1,w1];refine ⟨h6,?_⟩;simp[g1];rw[w2];simp[g2,hn',(show (0:Int)<=(a:Int)+1 by omega)];exact hQ _ _ (by simp[lk])
   ·have hn':(xn==yn)=false:=by simp[hn]
    have hn2: ¬(It.mk xn xw xb xk xl xc).nm=(It.mk yn yw yb yk yl yc).nm:=hn;rw[if_neg hn2,jg,ab,ab,List.flatten_append,List.flatten_cons,List.flatten_cons] at hQ;clear hs hR f0 e hz;simp only[It.row] at g1 g2 f2 hQ;generalize ab L=RR,(ab A).flatten=FA,(ab B).flatten=FB,A.length=a at*;simp only[cB,cL] at f2 hQ;have o1:a*6+6<=L.length*6:=by omega
    have o2:(a:Int)<L.length:=by omega
    have o3:(a:Int)+1<L.length:=by omega
    simp[Lr,hlim,hl,q1,h6,h0,h1,w1];refine ⟨h6,?_⟩;simp[g1];rw[w2];have o4:(0:Int)<=(a:Int)+1:=by omega
    simp[g2,hn',o4];rw[w2];simp[g2,f1,f2,o1,o2,o4,fL];rw[w2];simp[g1,T3,T4,o3,o4];exact ⟨by omega,hQ _ _ (by simp[lk])⟩
  ·have hz:bG L (zn i)=L:=kb L _ (by unfold zn;rw[if_neg (by omega)];omega);rw[hz] at hQ;generalize ab L=RR at*;simp[Lr,hlim,hl,q1,h6,h0];refine ⟨h6,?_⟩;rw[w1];simp[h1];exact hQ _ _ (by simp[lk])
 ·have hz:bG L (zn i)=L:=kb L _ (by unfold zn;rw[if_pos (by omega)];omega);rw[hz] at hQ;generalize ab L=RR at*;simp[Lr,hlim,hl,q1,h6,h0];refine ⟨h6,?_⟩;exact hQ _ _ (by simp[lk])
theorem fW: ∀L:List It,bm (ab L).flatten=[]
 |[]=>rfl
 | .mk n ws b ks l c::r=>by
  rw[ab,List.flatten_cons,It.row];simp[bm,AV.ids,fW r]
theorem qe (d:Nat) (L:List It) (i:Int) (hL:L.length<=1000):ba Tryz.prog gl 16 d ⟨[.sl (ab L),i6 i],[],[]⟩ ⟨.ms (.nw d (.n 8)) 0 L.length 6,[(.nw d (.n 8),(ab (bG L (zn i))).flatten)],[]⟩:=by
 refine Uj rfl ?_;refine qd L i hL _ fun e pm h4=>?_
 have h1:=fW (bG L (zn i));have h2:=fun f=>aO (f:=f) h1
 generalize (ab (bG L (zn i))).flatten=F at*;apply ah<;>simp[h1,h2,h4]
theorem wG (L:List It) (i:Int) (hL:L.length<=1000):Sp Tryz.prog gl 16 [.sl (ab L),i6 i] (.sl (ab (bG L (zn i)))):=by
 refine Ui rfl rfl ?_;refine qd L i hL _ fun e pm h4=>?_
 refine .inr (.inl ⟨4,.n 8,L.length,6,ab (bG L (zn i)),⟨h4,?_,rfl,?_,jJ _,fW _,?_⟩,?_⟩)
 ·simp[aD]
 ·rw[bQ];exact ji L (zn i)
 ·simp[kA]
 ·simp[iY]
theorem lU (m:List Int) (s:List UInt8) (h:aG m=s) (hk:m.all (fun r=>decide (0<=r/\r<128))=true):ay s 0=m:=by
 rw[<-h];refine eN m fun r hr=>?_
 have:=FJ (ik.1 hk r hr)
 unfold uc;omega
theorem ed (m:List Int) (s:List UInt8) (h:aG m=s) (hk:m.all (fun r=>decide (0<=r/\r<128))=true) (hn:gu 0 32 m=true):dx s=true:=by
 unfold dx;rw[lU m s h hk,hn]
theorem De (s:List UInt8) (i:Nat) (h:i<s.length) (hc:s[i].toNat<128):aq s i=((s[i].toNat:Int),1):=by
 rcases kv s i h with ⟨_,e⟩|⟨e,_⟩
 ·exact e
 ·omega
theorem gC {V:List UInt8->TV} {U:List UInt8->List UInt8×Int} {s:List UInt8} {x:Sc} {i:Nat} {r:Int} {k:Int} {w:List UInt8} {n:Nat} (h1:x.st=1) (h2:eV r=false) (hv:V (dJ s x.sa i)= .t k w n):cg V U s x i r=dj (x.add (.t k w n)) i r:=by
 unfold cg;rw[if_pos h1,h2,if_neg (by decide),hv];rfl
theorem aF (V:List UInt8->TV) (U:List UInt8->List UInt8×Int) (s:List UInt8) (x y z:Sc) (i:Nat) (c:UInt8) (h:s[i]?=some c) (hc:c.toNat<128) (ht:cg V U s x i (c.toNat:Int)=(y,true)) (hz:y.adv (c.toNat:Int)=z):eO V U s x i=eO V U s z (i+1):=by
 subst hz;obtain ⟨g,rfl⟩:=qZ.1 h;have e:=De s i g hc;have e2:kZ (s[i].toNat:Int)=(s[i].toNat:Int):=by unfold kZ;rw[if_neg (by omega)]
 rw[eO,dif_pos g,e,e2,ht];rfl
theorem zu (w:List UInt8) (c:UInt8) (r:List UInt8) (hw:w=c::r) (hc:c.toNat<128):vR w=(c.toNat:Int):=by
 subst hw;unfold vR;rw[if_neg (by simp),De (c::r) 0 (by simp) hc];unfold kZ;rw[if_neg (by show ¬(c.toNat:Int)= -1;omega)];rfl
theorem oe (m:List Int) (w:List UInt8) (c:UInt8) (r:List UInt8) (hw:w=c::r) (hc:c.toNat<128) (hd:ep (c.toNat:Int)=false) (hn:dx w=true):sV w= .t 1 w 0:=by
 unfold sV;rw[zu w c r hw hc,if_pos hd,if_pos hn]
theorem aw (x:It):x.row=[.str x.nm,.sl (x.ws.map Tk.row),.bool x.bk,.sl (ab x.kd),i6 x.pl.1,i6 x.pl.2]:=by
 obtain ⟨n,ws,b,k,l,c⟩:=x;rw[It.row];rfl
theorem og {w:Nat} {n:List UInt8} {p:pu} (hp:bV w n=some p) (h1:p.mo=1) (hlo:1<=p.lo) (lk:Lk) (L:List It):ai (L.foldl (aB lk w) ([],[])).1 n 0=0↔gx (L.foldl (aB lk w) ([],[])).1 n=false:=by
 have g:=sD lk w n p hp h1 L ([],[]) (fun h=>by cases h);constructor
 ·intro h;cases e:gx (L.foldl (aB lk w) ([],[])).1 n with
  |false=>rfl
  |true=>have:=g e 0;omega
 ·exact qQ
theorem MD {w:Nat} {n:List UInt8} {p:pu} (hp:bV w n=some p) (h1:p.mo=1) (lk:Lk) (L:List It) (d:Nat) (hd:p.lo<=d):p.lo<=ai (L.foldl (aB lk w) ([],[])).1 n d:=by
 have g:=sD lk w n p hp h1 L ([],[]) (fun h=>by cases h);cases e:gx (L.foldl (aB lk w) ([],[])).1 n with
 |false=>rw[qQ e];exact hd
 |true=>exact (g e d).1
theorem ME (lk lk':Lk) (x:It) (L:List It):cV lk' 2 x (L.foldl (aB lk 2) ([],[])).1=if ai (L.foldl (aB lk 2) ([],[])).1 j8 0=0\/ai (L.foldl (aB lk 2) ([],[])).1 j9 0=0\/ai (L.foldl (aB lk 2) ([],[])).1 ij 0=0 then [x.ft 6] else if ai (L.foldl (aB lk 2) ([],[])).1 j8 0<ai (L.foldl (aB lk 2) ([],[])).1 j9 0 then [x.ft 8] else []:=by
 have a:=og (w:=2) (n:=j8) (p:=⟨j8,[6],false,1,1,34560000⟩) rfl rfl (eR _) lk L;have b:=og (w:=2) (n:=j9) (p:=⟨j9,[6],false,1,1,34560000⟩) rfl rfl (eR _) lk L;have c:=og (w:=2) (n:=ij) (p:=⟨ij,[4],false,1,1,1000000⟩) rfl rfl (eR _) lk L;unfold cV;rw[if_neg (by decide),if_pos rfl];simp only[a,b,c]
theorem qL (lk:Lk) (k:List It):dy lk k=(Ai.flt dU k).map (tY lk):=by
 unfold dy;rw[eE dU _ (fun y=>[tY lk y]) (fun y e=>if_pos e) (fun y e=>if_neg e) k];generalize Ai.flt dU k=a;induction a with
 |nil=>rfl
 |cons x a ih=>rw[List.flatMap_cons,ih,fZ];rfl
theorem Kl (lk:Lk) (k:List It):dy lk k=[]↔gx k dU=false:=by
 rw[qL,sF,List.map_eq_nil_iff];cases Ai.flt dU k<;>simp
theorem MF (lk lk':Lk) (x:It) (L:List It):cV lk' 1 x (L.foldl (aB lk 1) ([],[])).1=(if ai (L.foldl (aB lk 1) ([],[])).1 jx 0=0\/dy lk' (L.foldl (aB lk 1) ([],[])).1=[] then [x.ft 6] else [])++(gz lk' (ai (L.foldl (aB lk 1) ([],[])).1 iq 60) (L.foldl (aB lk 1) ([],[])).1++(if ai (L.foldl (aB lk 1) ([],[])).1 jN 0%ai (L.foldl (aB lk 1) ([],[])).1 iq 60≠0 then [x.ft 8] else [])):=by
 have a:=og (w:=1) (n:=jx) (p:=⟨jx,[5],false,1,1,999999⟩) rfl rfl (eR _) lk L;have b:=Kl lk' (L.foldl (aB lk 1) ([],[])).1;unfold cV;rw[if_pos rfl];simp only[a,b]
theorem Km (lk lk':Lk) {w:Nat} (hw:2<=w) (s:List It×List Ft) (x:It):aB lk w s x=aB lk' w s x:=by
 unfold aB;by_cases hc:aX w s.1 x≠0
 ·rw[if_pos hc,if_pos hc]
 ·rw[if_neg hc,if_neg hc];have hc:aX w s.1 x=0:=Decidable.byContradiction fun g=>hc g
  obtain ⟨p,hp,_⟩:=gQ hc;obtain ⟨hm,hn⟩:=iu hp;have h2: ∀p∈gv 2,bR p.nm=0:=by decide
  have h3: ∀p∈gv 3,bR p.nm=0:=by decide
  have e:bR x.nm=0:=by
   rw[<-hn];unfold gv at hm h2 h3;rw[if_neg (by omega),if_neg (by omega)] at hm;by_cases e2:w=2
   ·rw[if_pos e2] at hm;exact h2 p hm
   ·rw[if_neg e2] at hm;exact h3 p hm
  rw[if_pos e,if_pos e]
theorem ke (f g:Nat) {w:Nat} (hw:2<=w) (L:List It):au (f+1) w L=au (g+1) w L:=by
 show L.foldl _ _=L.foldl _ _;congr 1
 funext s x
 exact Km _ _ hw s x
end Go.Ai
