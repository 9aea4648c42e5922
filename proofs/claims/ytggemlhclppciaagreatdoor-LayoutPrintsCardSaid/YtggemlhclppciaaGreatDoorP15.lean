/- P15: a part of the proof. Conditions: as each theorem says. -/
import Derived.Test.YtggemlhclppciaaGreatDoorP14
set_option linter.unusedSimpArgs false
set_option linter.unusedVariables false
set_option maxRecDepth 20000
namespace Go.Ai
structure QP (A l:List Int) (m:Nat):Prop where
 h: ∀q,q<A.length→l[m+q]?=A[q]?
 n:l[m+A.length]?=some 10∨l[m+A.length]?=none
theorem QP.at {A l:List Int} {m:Nat} (h:QP A l m) {i:Nat} (hi:i<A.length): ∃g:m+i<l.length,l[m+i]=A[i]:=by
 have:=h.h i hi
 rw [rG hi] at this;exact qI.1 this
theorem QP.fin {A l:List Int} {m:Nat} (h:QP A l m):(∃g:m+A.length<l.length,l[m+A.length]=10)∨ ¬m+A.length<l.length:=h.n.imp (fun h=>qI.1 h) (fun h=>by have:=List.getElem?_eq_none_iff.1 h;omega)
def fD (x:Tk):Int×List UInt8×Nat:=(x.k,x.t,x.n)
def Gv (l:List Int) (P:List (Int×Int)) (j e:Nat) (out out':List Tk):Prop:= ∀f,l.length - j<f→ ∃f',l.length - e<f'∧bL rV sU l P f j out=bL rV sU l P f' e out'
theorem Gv.refl (l:List Int) (P:List (Int×Int)) (j:Nat) (out:List Tk):Gv l P j j out out:=fun f h=>⟨f,h,rfl⟩
theorem Gv.trans {l:List Int} {P:List (Int×Int)} {j e g:Nat} {o1 o2 o3:List Tk} (h1:Gv l P j e o1 o2) (h2:Gv l P e g o2 o3):Gv l P j g o1 o3:=fun f h=>by
 obtain ⟨f1,a1,b1⟩:=h1 f h;obtain ⟨f2,a2,b2⟩:=h2 f1 a1;exact ⟨f2,a2,b1.trans b2⟩
theorem Gv.one {l:List Int} {P:List (Int×Int)} {j e:Nat} {o1 o2:List Tk} (hj:j<l.length) (he:j<e) (h: ∀f,bL rV sU l P (f+1) j o1=bL rV sU l P f e o2):Gv l P j e o1 o2:=fun f hf=>by
 cases f with
 |zero=>omega
 |succ f=>exact ⟨f,by omega,h f⟩
theorem Gv.blank {l:List Int} {P:List (Int×Int)} {j:Nat} {out:List Tk} {r:Int} (h:l[j]?=some r) (hr:r=32∨r=9∨r=10):Gv l P j (j+1) out out:=by
 obtain ⟨g,_⟩:=qI.1 h;refine .one g (by omega) fun f=>?_
 rw [bL,h];dsimp only;rw [if_pos hr]
theorem Gv.tok {l:List Int} {P:List (Int×Int)} {j:Nat} {out:List Tk} {r:Int} {k:Int} {w:List UInt8} {n e:Nat} (h:l[j]?=some r) (hr: ¬(r=32∨r=9∨r=10)∧r≠35) (ho:dB rV sU l j r=⟨k,w,n,e,0⟩) (he:j<e):
  Gv l P j e out (out++[⟨k,w,n,(P.getD j (0,0)).1,(P.getD j (0,0)).2⟩]):=by
 obtain ⟨g,_⟩:=qI.1 h;refine .one g he fun f=>?_
 rw [bL,h];dsimp only;rw [if_neg hr.1,if_neg hr.2,ho,if_pos rfl]
def kF (t:Tk):Tk:=⟨t.k,t.t,t.n,0,0⟩
mutual
def sQ:It→It
 | .mk n ws b ks _ _=> .mk n (ws.map kF) b (gM ks) 0 0
def gM:List It→List It
 |[]=>[]
 |x::r=>sQ x::gM r
end
theorem Fu {a b:List Tk} (h:a.map fD=b.map fD):a.map kF=b.map kF:=by
 have e: ∀l:List Tk,l.map kF=(l.map fD).map fun q=>(⟨q.1,q.2.1,q.2.2,0,0⟩:Tk):=fun l=>by
  rw [List.map_map];rfl
 rw [e,e,h]
theorem Fv {a b:List Tk} (h:a.map fD=b.map fD):a.length=b.length:=by
 have:=congrArg List.length h
 simpa using this
theorem H8 (x:It):1≤lm x:=by cases x;rw [lm];omega
theorem oi (t:Tk) (T rest:List Tk) (h:rest≠[]):uf (t::(T++rest))=T++rest:=by
 cases T with
 |nil=>
  cases rest with
  |nil=>exact absurd rfl h
  |cons a b=>rfl
 |cons a b=>rfl
def PF (c:Int) (dp cn:Nat):Prop:=c=19∧5<dp∨c=9∧300<cn
theorem PF.mono {c:Int} {d n d' n':Nat} (h:PF c d n) (h1:d≤d') (h2:n≤n'):PF c d' n':=by
 rcases h with ⟨h,g⟩|⟨h,g⟩
 ·exact .inl ⟨h,by omega⟩
 ·exact .inr ⟨h,by omega⟩
theorem vF {a b:List Tk} {T:List Tk} (h:T.map fD=(a++b).map fD): ∃T1 T2,T=T1++T2∧T1.map fD=a.map fD∧T2.map fD=b.map fD:=by
 rw [List.map_append] at h;exact List.map_eq_append_iff.1 h
theorem oo {a:Tk} {b T:List Tk} (h:T.map fD=(a::b).map fD): ∃t T2,T=t::T2∧fD t=fD a∧T2.map fD=b.map fD:=by
 rw [iP] at h;exact List.map_eq_cons_iff.1 h
theorem L7: ∀f:Nat,(∀(its:List It) (T rest:List Tk) (d:Nat) (e:Int) (out:List It) (n:Nat),T.map fD=(lw its).map fD→JJ its→rest≠[]→2*(T++rest).length+1≤f→(e=0∨e=8)→n≤300→
   (∃its' f',gM its'=gM its∧pL f d e out (T++rest) n=pL f' d e (out++its') rest (n+aT its)∧2*rest.length+1≤f'∧(its=[]∨d+bN its≤5)∧n+aT its≤300)∨
   (∃c t l' n',pL f d e out (T++rest) n= .th c t l' n'∧PF c (d+bN its) (n+aT its)))∧
  (∀(ws1 ws2 wsA:List Tk) (b:Bool) (ks:List It) (T rest:List Tk) (d:Nat) (nm:List UInt8) (ln co:Int) (n:Nat),T.map fD=(ws2++(if b=false then ([⟨9,[],0,0,0⟩]:List Tk) else (⟨7,[],0,0,0⟩:Tk)::(lw ks++[(⟨8,[],0,0,0⟩:Tk)]))).map fD→wsA.map fD=ws1.map fD→ws1.length+ws2.length≤6→(∀w∈ws2,1≤w.k∧w.k≤6)→(b=false→ks=[])→JJ ks→rest≠[]→2*(T++rest).length+1≤f→d≤4→n≤300→
   (∃wsB ks',wsB.map fD=(ws1++ws2).map fD∧gM ks'=gM ks∧pI f d nm ln co wsA (T++rest) n= .ok (.mk nm wsB b ks' ln co) rest (n+aT ks)∧d+(1+bN ks)≤5∧n+aT ks≤300)∨
   (∃c t l' n',pI f d nm ln co wsA (T++rest) n= .th c t l' n'∧PF c (d+(1+bN ks)) (n+aT ks)))
 |0=>⟨fun its T rest d e out n _ _ _ hf=>by omega,fun ws1 ws2 wsA b ks T rest d nm ln co n _ _ _ _ _ _ _ hf=>by omega⟩
 |f+1=>by
  obtain ⟨ihL,ihI⟩:=L7 f;refine ⟨fun its T rest d e out n hT hw hr hf he hn=>?_,fun ws1 ws2 wsA b ks T rest d nm ln co n hT hA h6 hk hb hw hr hf hd hn=>?_⟩
  ·cases its with
   |nil=>
    have:T=[]:=by simpa [lw] using hT
    subst this;exact .inl ⟨[],f+1,rfl,by rw [nA,aT];rfl,by simpa using hf,.inl rfl,by rw [aT];omega⟩
   |cons x its=>
    obtain ⟨xn,ws,b,ks,xl,xc⟩:=x;rw [lw,sP] at hT;obtain ⟨t,T0,rfl,ht,hT⟩:=oo hT;obtain ⟨T1,T2,rfl,hT1,hT2⟩:=vF hT;rw [JJ,Pw] at hw;obtain ⟨⟨w1,w2,w3,w4⟩,w5⟩:=hw;have tk:t.k=1:=congrArg Prod.fst ht;have hrest:T2++rest≠[]:=by simp [hr]
    rw [bH,jq,pL,oi t T1 _ hrest];have hc:aT (.mk xn ws b ks xl xc::its)=1+aT ks+aT its:=by rw [aT,fC]
    have hdp:bN (.mk xn ws b ks xl xc::its)=max (1+bN ks) (bN its):=by rw [bN,lm]
    rw [hc,hdp];simp only [cG,em] at hf;rw [if_neg (by omega),if_neg (by simp [tk])];by_cases c3:4<d
    ·rw [if_pos c3];exact .inr ⟨19,_,_,_,rfl,.inl ⟨rfl,by omega⟩⟩
    rw [if_neg c3];by_cases c4:n=300
    ·rw [if_pos c4];exact .inr ⟨9,_,_,_,rfl,.inr ⟨rfl,by omega⟩⟩
    rw [if_neg c4];rcases ihI [] ws [] b ks T1 (T2++rest) d t.t t.ln t.co (n+1) hT1 rfl (by simpa using w1) w2 w3 w4 hrest (by simp only [cG];omega) (by omega) (by omega) with ⟨wsB,ks',b1,b2,b3,b4,b5⟩|⟨c,t',l',n',b1,b2⟩
    ·rw [b3];dsimp only;rcases ihL its T2 rest d e (out++[.mk t.t wsB b ks' t.ln t.co]) (n+1+aT ks) hT2 w5 hr (by simp only [cG];omega) he (by omega) with ⟨its',f',d1,d2,d3,d4,d5⟩|⟨c,t',l',n',d1,d2⟩
     ·refine .inl ⟨.mk t.t wsB b ks' t.ln t.co::its',f',?_,?_,d3,?_,by omega⟩
      ·rw [gM,gM,d1,sQ,sQ,b2,Fu b1];have tt:t.t=xn:=congrArg (fun q=>q.2.1) ht;rw [tt];rfl
      ·rw [d2,jq,show n+1+aT ks+aT its=n+(1+aT ks+aT its) by omega];rfl
      ·rcases d4 with rfl|d4
       ·right;rw [bN];omega
       ·right;omega
     ·exact .inr ⟨c,t',l',n',d1,d2.mono (by omega) (by omega)⟩
    ·rw [b1];exact .inr ⟨c,t',l',n',rfl,b2.mono (by omega) (by omega)⟩
  ·cases ws2 with
   |nil=>
    rw [bR] at hT;rw [nA];cases b with
    |false=>
     rw [if_pos rfl] at hT;obtain ⟨t,T0,rfl,ht,hT⟩:=oo hT
     have:T0=[]:=by simpa using hT
     subst this;have tk:t.k=9:=congrArg Prod.fst ht;have e0:=hb rfl;subst e0;have hx:=oi t [] rest hr;rw [bR] at hx;rw [bH,bR,pI,hx,if_pos tk];exact .inl ⟨wsA,[],hA,rfl,by rw [aT];rfl,by rw [bN];omega,by rw [aT];omega⟩
    |true=>
     rw [if_neg (by decide)] at hT;obtain ⟨t,T0,rfl,ht,hT⟩:=oo hT;obtain ⟨T1,T2,rfl,hT1,hT2⟩:=vF hT;obtain ⟨t8,T3,rfl,ht8,hT3⟩:=oo hT2
     have:T3=[]:=by simpa using hT3
     subst this;have tk:t.k=7:=congrArg Prod.fst ht;have tk8:t8.k=8:=congrArg Prod.fst ht8;simp only [cG,em,vZ] at hf;rw [bH,jq,pI,oi t T1 _ (by simp),if_neg (by omega),if_pos tk];rw [bH,bR];rcases ihL ks T1 (t8::rest) (d+1) 8 [] n hT1 hw (by simp) (by simp only [cG,em];omega) (.inr rfl) hn with ⟨its',f',d1,d2,d3,d4,d5⟩|⟨c,t',l',n',d1,d2⟩
     ·cases f' with
      |zero=>omega
      |succ f'=>
       have hx:=oi t8 [] rest hr;rw [bR] at hx;rw [d2,bR,pL,if_pos tk8,hx];refine .inl ⟨wsA,its',hA,d1,rfl,?_,d5⟩;rcases d4 with rfl|d4
       ·rw [bN];omega
       ·omega
     ·rw [d1];exact .inr ⟨c,t',l',n',rfl,d2.mono (by omega) (by omega)⟩
   |cons w ws2=>
    rw [bH] at hT;obtain ⟨t,T0,rfl,ht,hT⟩:=oo hT;have tk:t.k=w.k:=congrArg Prod.fst ht;have hwk:=hk w (by simp);have hlen:=Fv hA;rw [em] at h6;simp only [cG,em] at hf;rw [bH,pI,oi t T0 rest hr,if_neg (by omega),if_neg (by omega),if_neg (by omega),if_neg (by omega)];have ih:=ihI (ws1++[w]) ws2 (wsA++[t]) b ks T0 rest d nm ln co n hT (by rw [List.map_append,List.map_append,hA,iP,iP,ht]) (by rw [cG,uc];omega) (fun x hx=>hk x (by simp [hx])) hb hw hr (by simp only [cG];omega) hd hn;rw [jq] at ih;exact ih
open Go.Proofs
inductive Pc where
 |b (r:Int)
 |t (x:Tk)
def pG:List Pc→List UInt8
 |[]=>[]
 | .b r::p=>UInt8.ofNat r.toNat::pG p
 | .t x::p=>lS x++pG p
def qo:List Pc→List Int
 |[]=>[]
 | .b r::p=>r::qo p
 | .t x::p=>ai (lS x) 0++qo p
def ri:List Pc→List Tk
 |[]=>[]
 | .b _::p=>ri p
 | .t x::p=>x::ri p
theorem km: ∀p q:List Pc,pG (p++q)=pG p++pG q
 |[],q=>rfl
 | .b r::p,q=>by rw [bH,pG,pG,km p q,bH]
 | .t x::p,q=>by rw [bH,pG,pG,km p q,jq]
theorem kn: ∀p q:List Pc,ri (p++q)=ri p++ri q
 |[],q=>rfl
 | .b r::p,q=>by rw [bH,ri,ri,kn p q]
 | .t x::p,q=>by rw [bH,ri,ri,kn p q,bH]
def Om:List Pc→Prop
 |[]=>True
 | .b _::_=>True
 | .t x::_=>7≤x.k
def fM:List Pc→Prop
 |[]=>True
 | .b r::p=>(r=32∨r=10)∧fM p
 | .t x::p=>Cc x∧Om p∧fM p
theorem sR: ∀p:List Pc,fM p→au (qo p)=pG p
 |[],_=>rfl
 | .b r::p,h=>by
  rw [fM] at h;rw [qo,pG];show au ([r]++qo p)=_;rw [di,sR p h.2];rcases h.1 with rfl|rfl<;>rfl
 | .t x::p,h=>by
  rw [fM] at h;rw [qo,pG,di,sR p h.2.2];unfold lS;rw [lr _ (vC h.1.k h.1.n h.1.r).2]
theorem xe: ∀p:List Pc,fM p→ ∀r∈qo p,ug r
 |[],_,r,hr=>by cases hr
 | .b q::p,h,r,hr=>by
  rw [fM] at h;rw [qo,jU] at hr;rcases hr with rfl|hr
  ·unfold ug;omega
  ·exact xe p h.2 r hr
 | .t x::p,h,r,hr=>by
  rw [fM] at h;rw [qo,iB] at hr;rcases hr with hr|hr
  ·exact fE _ _ 0 (eI _) r hr
  ·exact xe p h.2.2 r hr
theorem KX: ∀p:List Pc,Om p→fM p→ ∀x∈(qo p).head?,wthn x=false
 |[],_,_,x,hx=>by simp [qo] at hx
 | .b r::p,_,h,x,hx=>by
  rw [fM] at h;rw [qo] at hx;simp only [List.head?_cons,Option.mem_def,cC] at hx;subst hx;rcases h.1 with rfl|rfl<;>decide
 | .t y::p,hb,h,x,hx=>by
  rw [fM] at h;have h7:7≤y.k:=hb;have one: ∀c:UInt8,c.toNat<128→wthn (c.toNat:Int)=false→fP y.k y.t y.n=[c]→wthn x=false:=fun c hc hw e=>by
   rw [qo] at hx;unfold lS at hx;rw [e,zG c hc] at hx;simp only [bH,List.head?_cons,Option.mem_def,cC] at hx;rw [←hx];exact hw
  have hk:=h.1.k;have hr:=h.1.r;have kc:y.k=7∨y.k=8∨y.k=9:=by omega
  rcases kc with e|e|e
  ·exact one 123 (by decide) (by decide) (by unfold fP;rw [hr,e];rfl)
  ·exact one 125 (by decide) (by decide) (by unfold fP;rw [hr,e];rfl)
  ·exact one 59 (by decide) (by decide) (by unfold fP;rw [hr,e];rfl)
theorem sS (l:List Int) (P:List (Int×Int)): ∀(p:List Pc) (j:Nat) (out:List Tk),fM p→l.drop j=qo p→ ∃o,o.map fD=(ri p).map fD∧iK l P j (j+(qo p).length) out (out++o)
 |[],j,out,h,hd=>⟨[],rfl,by rw [nA];exact .refl l P j out⟩
 | .b r::p,j,out,h,hd=>by
  rw [fM] at h;rw [qo] at hd;have d2:l.drop (j+1)=qo p:=jK (p:=[r]) hd;obtain ⟨o,ho,hr⟩:=sS l P p (j+1) out h.2 d2;refine ⟨o,by rw [ri];exact ho,?_⟩;have r1:=iK.blank (P:=P) (out:=out) hd (by rcases h.1 with h|h<;>simp [h])
  have:=r1.trans hr
  rw [qo,em,show j+((qo p).length+1)=j+1+(qo p).length by omega];exact this
 | .t x::p,j,out,h,hd=>by
  rw [fM] at h;obtain ⟨hx,hb,hp⟩:=h;rw [qo] at hd;have d2:=jK hd;obtain ⟨o,ho,hr⟩:=sS l P p _ (out++[⟨x.k,x.t,x.n,(P.getD j (0,0)).1,(P.getD j (0,0)).2⟩]) hp d2;have r2:=iK.tok (P:=P) (out:=out) x.k x.t x.n _ hx.k hx.n hx.r hd (KX p hb hp) (vC hx.k hx.n hx.r).1;have r3:=r2.trans hr;refine ⟨⟨x.k,x.t,x.n,(P.getD j (0,0)).1,(P.getD j (0,0)).2⟩::o,?_,?_⟩
  ·rw [ri,iP,iP,ho];rfl
  ·rw [jq] at r3;rw [qo,cG,←EH];exact r3
theorem NB (p:List Pc) (h:fM p) (hl:(pG p).length≤40000): ∃o z,(fk (pG p)).l=o++[z]∧(fk (pG p)).c=0∧o.map fD=(ri p).map fD:=by
 have er:ai (pG p) 0=qo p:=by
  rw [←sR p h];exact dS _ (xe p h)
 unfold fk C4;rw [if_neg (by omega),er];generalize xT 1 1 (qo p)=P;obtain ⟨o,ho,hr⟩:=sS (qo p) P p 0 [] h rfl;obtain ⟨f',hf,e'⟩:=hr ((qo p).length+1) (by omega);rw [e'];cases f' with
 |zero=>omega
 |succ f'=>
  rw [Ff _ _ _ _ _ _ _ (EG (by omega))];exact ⟨o,_,rfl,rfl,ho⟩
def KY (n:Nat):List Pc:=List.replicate n (.b 32)
def H9:List Tk→List Pc
 |[]=>[]
 |w::r=> .b 32:: .t w::H9 r
mutual
def NC:Nat→It→List Pc
 |d,.mk n ws b ks ln co=>KY (2*d)++(.t ⟨1,n,0,ln,co⟩::(H9 ws++(if b=false then [.t ⟨9,[],0,0,0⟩,.b 10] else .b 32:: .t ⟨7,[],0,0,0⟩:: .b 10::(KZ (d+1) ks++(KY (2*d)++[.t ⟨8,[],0,0,0⟩,.b 10])))))
def KZ:Nat→List It→List Pc
 |_,[]=>[]
 |d,x::r=>NC d x++KZ d r
end
theorem Ia (n:Nat):pG (KY n)=List.replicate n 32:=by
 induction n with
 |zero=>rfl
 |succ n ih=>
  unfold KY at ih ⊢;rw [List.replicate_succ,List.replicate_succ,pG,ih];rfl
theorem Ib (n:Nat):ri (KY n)=[]:=by
 induction n with
 |zero=>rfl
 |succ n ih=>
  unfold KY at ih ⊢;rw [List.replicate_succ,ri,ih]
theorem L8: ∀ws:List Tk,pG (H9 ws)=qm ws
 |[]=>rfl
 |w::r=>by rw [H9,pG,pG,L8 r,qm];rfl
theorem L9: ∀ws:List Tk,ri (H9 ws)=ws
 |[]=>rfl
 |w::r=>by rw [H9,ri,ri,L9 r]
theorem rm (d:Nat):eX d=List.replicate (2*d) 32:=by
 induction d with
 |zero=>rfl
 |succ d ih=>
  have e:eX (d+1)=32::32::eX d:=rfl;rw [e,ih,show 2*(d+1)=2*d+1+1 by omega,List.replicate_succ,List.replicate_succ]
mutual
def ND:It→Prop
 | .mk n ws _ ks _ _=>du n=true∧(∀w∈ws,Cc w)∧sT ks
def sT:List It→Prop
 |[]=>True
 |x::r=>ND x∧sT r
end
theorem K0 {n:List UInt8} (h:du n=true) (a b:Int):Cc ⟨1,n,0,a,b⟩:=⟨by simp,by simp,by simp [gZ,h]⟩
theorem Ic {n:List UInt8} (h:du n=true) (a b:Int):lS ⟨1,n,0,a,b⟩=n:=by
 unfold lS fP;rw [show gZ 1 n 0=true by simp [gZ,h]];rfl
mutual
theorem PG: ∀(d:Nat) (x:It),ND x→pG (NC d x)=D6 d x
 |d,.mk n ws b ks ln co,h=>by
  rw [ND] at h;rw [NC,D6,km,Ia,←rm,pG,Ic h.1,km,L8];cases b
  ·rw [if_pos rfl,if_pos rfl];rfl
  ·rw [if_neg (by decide),if_neg (by decide),pG,pG,pG,km,Ie (d+1) ks h.2.2,km,Ia,←rm];rfl
theorem Ie: ∀(d:Nat) (L:List It),sT L→pG (KZ d L)=eZ d L
 |_,[],_=>rfl
 |d,x::r,h=>by
  rw [sT] at h;rw [KZ,eZ,km,PG d x h.1,Ie d r h.2]
end
mutual
theorem PH: ∀(d:Nat) (x:It),ri (NC d x)=sP x
 |d,.mk n ws b ks ln co=>by
  rw [NC,sP,kn,Ib,bR,ri,kn,L9];cases b
  ·rw [if_pos rfl,if_pos rfl];rfl
  ·rw [if_neg (by decide),if_neg (by decide),ri,ri,ri,kn,If (d+1) ks,kn,Ib];rfl
theorem If: ∀(d:Nat) (L:List It),ri (KZ d L)=lw L
 |_,[]=>rfl
 |d,x::r=>by rw [KZ,lw,kn,PH d x,If d r]
end
theorem Ig {p:List Pc} (h:fM p): ∀n,fM (KY n++p)
 |0=>h
 |n+1=>by
  have:=Ig h n
  unfold KY at this ⊢;rw [List.replicate_succ,bH,fM];exact ⟨.inl rfl,this⟩
theorem NE {p:List Pc} (hb:Om p) (h:fM p): ∀ws:List Tk,(∀w∈ws,Cc w)→fM (H9 ws++p)∧Om (H9 ws++p)
 |[],_=>⟨h,hb⟩
 |w::r,hw=>by
  obtain ⟨h1,h2⟩:=NE hb h r fun x hx=>hw x (by simp [hx])
  rw [H9,bH,bH,fM,fM];exact ⟨⟨.inl rfl,hw w (by simp),h2,h1⟩,trivial⟩
theorem Ck (k:Int) (h:k=7∨k=8∨k=9):Cc ⟨k,[],0,0,0⟩:=by
 rcases h with rfl|rfl|rfl<;>exact ⟨by decide,by decide,rfl⟩
mutual
theorem Uo: ∀(d:Nat) (x:It),ND x→ ∀p,fM p→fM (NC d x++p)
 |d,.mk n ws b ks ln co,h,p,hp=>by
  rw [ND] at h;rw [NC,jq];refine Ig ?_ _;rw [bH,fM,jq];have key: ∀q,Om q→fM q→Cc ⟨1,n,0,ln,co⟩∧Om (H9 ws++q)∧fM (H9 ws++q):=fun q hb hq=>⟨K0 h.1 _ _,(NE hb hq ws h.2.1).2,(NE hb hq ws h.2.1).1⟩
  cases b
  ·rw [if_pos rfl];refine key _ ?_ ?_
   ·show (7:Int)≤9;decide
   ·exact ⟨Ck 9 (by simp),trivial,.inr rfl,hp⟩
  ·rw [if_neg (by decide)];refine key _ trivial ?_;have k2:=NF (d+1) ks h.2.2 _ (Ig (p:= .t ⟨8,[],0,0,0⟩:: .b 10::p) ⟨Ck 8 (by simp),trivial,.inr rfl,hp⟩ (2*d));refine ⟨.inl rfl,Ck 7 (by simp),trivial,.inr rfl,?_⟩;show fM ((KZ (d+1) ks++(KY (2*d)++[.t ⟨8,[],0,0,0⟩,.b 10]))++p);rw [jq,jq];exact k2
theorem NF: ∀(d:Nat) (L:List It),sT L→ ∀p,fM p→fM (KZ d L++p)
 |_,[],_,p,hp=>hp
 |d,x::r,h,p,hp=>by
  rw [sT] at h;rw [KZ,jq];exact Uo d x h.1 _ (NF d r h.2 p hp)
end
theorem Cl (L:List It) (h:sT L) (hl:(eZ 0 L).length≤40000): ∃o z,(fk (eZ 0 L)).l=o++[z]∧(fk (eZ 0 L)).c=0∧o.map fD=(lw L).map fD:=by
 have e:=Ie 0 L h;have o:=NF 0 L h [] trivial;rw [nA] at o;rw [←e] at hl ⊢
 have:=NB _ o hl
 rw [If] at this;exact this
theorem Fw (L:List It) (i:Nat) (h:i<L.length):aT (L.take (i+1))=aT (L.take i)+fC L[i]:=by
 rw [Dg h,sC,aT,aT,rI]
theorem Fx (L:List It) (i:Nat) (h:i<L.length):bN (L.take (i+1))=max (bN (L.take i)) (lm L[i]):=by
 rw [Dg h,zt,bN,bN,Nat.max_zero]
mutual
theorem Ih: ∀x:It,lm x≤fC x
 | .mk n ws b ks ln co=>by
  have:=oq ks
  rw [lm,fC];omega
theorem oq: ∀L:List It,bN L≤aT L
 |[]=>eI _
 |x::L=>by
  have h1:=Ih x;have h2:=oq L;rw [bN,aT];omega
end
theorem uD: ∀(N:Nat) (L:List It),aT L≤N→aT L≤1000→Sp Tryz.prog gl 12 [.sl (ar L)] (i6 (aT L)):=by
 intro N;induction N with
 |zero=>
  intro L h hc;have hL:L=[]:=by
   have:=eh L
   exact AN (by omega)
  subst hL;refine Ur rfl rfl ?_;simp [QR,ar,aT];refine aP (α:=Unit) (fun _=>⟨[(0,.sl []),(3,i6 0),(4,i6 0)],[],[]⟩) (fun _=>True) (fun _=>0) ?_ () trivial ?_
  ·rintro K x hK _;clear hK;simp
  ·apply ae<;>simp
 |succ N ih=>
  intro L h hc;refine Ur rfl rfl ?_;obtain ⟨R,hR⟩: ∃R,R=aT L:=⟨_,rfl⟩;rw [←hR];have rl:=bA L;have rat:=dW L;have ll:=eh L;generalize ar L=RR at *
  simp [QR];refine aP (α:=Nat) (fun i=>⟨[(0,.sl RR),(3,i6 (aT (L.take i))),(4,i6 i)],[],[]⟩) (fun i=>i≤L.length) (fun i=>L.length - i) ?_ 0 (iA _) ?_
  ·rintro K i hK h1;have t1:IntKind.i64.wrap ((i:Int)+1)=(i+1:Nat):=by rw [aj]<;>omega
   by_cases g:i<L.length
   ·have g':(i:Int)<L.length:=by omega
    have gR:i<RR.length:=by omega
    have rai:=rat i g gR;have hx1:=iZ (ml g);have tc:=vq L i;have tc2:=vq L (i+1);have fin:=fun σ' hσ=>hK (i+1) σ' (by omega) (by omega) hσ
    rw [Fw L i g] at fin tc2;clear hK;generalize L[i]=x at *
    obtain ⟨xn,ws,xb,ks,xl,xc⟩:=x;rw [fC] at hx1 fin tc2;have IH:=ih ks (by omega) (by omega);rw [It.row] at rai;generalize ar ks=IR at *
    generalize aT ks=ck at *
    generalize aT (L.take i)=ct at *
    have w1:IntKind.i64.wrap ((ct:Int)+1)=(ct+1:Nat):=by rw [aj]<;>omega
    have w2:IntKind.i64.wrap (((ct+1:Nat):Int)+(ck:Int))=(ct+(1+ck):Nat):=by rw [aj]<;>omega
    have w3:IntKind.i64.wrap ((ct:Int)+1+(ck:Int))=(ct+(1+ck):Nat):=by rw [aj]<;>omega
    simp [g,g',gR,rai,rl];apply ab IH;simp [w1,w2,w3];refine fin _ ?_;apply ae<;>simp [t1,w1,w2,w3]
   ·obtain rfl:i=L.length:=by omega
    have g': ¬(L.length:Int)<L.length:=by omega
    rw [qJ,←hR];clear hK;simp [g',rl]
  ·apply ae<;>simp [aT]
theorem uE: ∀(N:Nat) (L:List It),aT L≤N→aT L≤1000→Sp Tryz.prog gl 14 [.sl (ar L)] (i6 (bN L)):=by
 intro N;induction N with
 |zero=>
  intro L h hc;have hL:L=[]:=by
   have:=eh L
   exact AN (by omega)
  subst hL;refine Us rfl rfl ?_;simp [QS,ar,bN];refine aP (α:=Unit) (fun _=>⟨[(0,.sl []),(3,i6 0),(4,i6 0)],[],[]⟩) (fun _=>True) (fun _=>0) ?_ () trivial ?_
  ·rintro K x hK _;clear hK;simp
  ·apply ae<;>simp
 |succ N ih=>
  intro L h hc;refine Us rfl rfl ?_;obtain ⟨R,hR⟩: ∃R,R=bN L:=⟨_,rfl⟩;rw [←hR];have rl:=bA L;have rat:=dW L;have ll:=eh L;generalize ar L=RR at *
  simp [QS];refine aP (α:=Nat) (fun i=>⟨[(0,.sl RR),(3,i6 (bN (L.take i))),(4,i6 i)],[],[]⟩) (fun i=>i≤L.length) (fun i=>L.length - i) ?_ 0 (iA _) ?_
  ·rintro K i hK h1;have t1:IntKind.i64.wrap ((i:Int)+1)=(i+1:Nat):=by rw [aj]<;>omega
   by_cases g:i<L.length
   ·have g':(i:Int)<L.length:=by omega
    have gR:i<RR.length:=by omega
    have rai:=rat i g gR;have hx1:=iZ (ml g);have fin:=fun σ' hσ=>hK (i+1) σ' (by omega) (by omega) hσ
    rw [Fx L i g] at fin;clear hK;generalize L[i]=x at *
    obtain ⟨xn,ws,xb,ks,xl,xc⟩:=x;rw [fC] at hx1;have dk:=oq ks;rw [lm] at fin;have IH:=ih ks (by omega) (by omega);rw [It.row] at rai;generalize ar ks=IR at *
    generalize bN ks=dd at *
    generalize bN (L.take i)=ct at *
    have w1:IntKind.i64.wrap (1+(dd:Int))=(1+dd:Nat):=by rw [aj]<;>omega
    by_cases c:ct<1+dd
    ·have c':(ct:Int)<1+(dd:Int):=by omega
     rw [Nat.max_eq_right (by omega)] at fin;simp [g,g',gR,rai,rl];apply ab IH;simp [w1,c,c'];refine fin _ ?_;apply ae<;>simp [t1,w1]
    ·have c': ¬(ct:Int)<1+(dd:Int):=by omega
     rw [Nat.max_eq_left (by omega)] at fin;simp [g,g',gR,rai,rl];apply ab IH;simp [w1,c,c'];refine fin _ ?_;apply ae<;>simp [t1,w1]
   ·obtain rfl:i=L.length:=by omega
    have g': ¬(L.length:Int)<L.length:=by omega
    rw [qJ,←hR];clear hK;simp [g',rl]
  ·apply ae<;>simp [bN]
mutual
def Cm:It→Prop
 | .mk n ws _ ks _ _=>(ws.length≤1000∧n.length≤100000∧ ∀t∈ws,t.t.length≤100000)∧uF ks
def uF:List It→Prop
 |[]=>True
 |x::r=>Cm x∧uF r
end
theorem pH: ∀ {L:List It} {x:It},uF L→x∈L→Cm x
 |y::L,x,hw,h=>by
  rw [uF] at hw;rcases jU.1 h with rfl|h
  ·exact hw.1
  ·exact pH hw.2 h
theorem sW (t:Tk):Sp Tryz.prog gl 34 [.agg t.row] (.agg (kF t).row):=by
 refine Vh rfl rfl ?_;obtain ⟨k,s,n,l,c⟩:=t;simp only [kF,Tk.row];simp [Uz]
def Ma (v w:Tk):Bool:=v.k==w.k&&(v.t==w.t&&((v.n:Int)==(w.n:Int)))
theorem K1 (v w:Tk):Ma v w=true↔kF v=kF w:=by
 unfold Ma kF;simp only [aE,bP,Tk.mk.injEq,and_true];constructor
 ·rintro ⟨h1,h2,h3⟩;exact ⟨h1,h2,by omega⟩
 ·rintro ⟨h1,h2,h3⟩;exact ⟨h1,h2,by omega⟩
theorem K3 (v w:Tk):Sp Tryz.prog gl 37 [.agg v.row,.agg w.row] (.bool (Ma v w)):=by
 refine Vk rfl rfl ?_;have B1:=sW v;have B2:=sW w;obtain ⟨k,s,n,l,c⟩:=v;obtain ⟨k2,s2,n2,l2,c2⟩:=w;simp only [kF,Tk.row,Ma] at *
 simp [UA];apply ab B1;simp;apply ab B2;simp
def ot:List Tk→List Tk→Bool
 |[],[]=>true
 |v::r,w::s=>Ma v w&&ot r s
 |_,_=>false
theorem zN: ∀(A B:List Tk),A.length≠B.length→ot A B=false
 |[],[],h=>absurd rfl h
 |[],w::s,_=>rfl
 |v::r,[],_=>rfl
 |v::r,w::s,h=>by rw [ot,zN r s (by simpa using h),Mz]
theorem zO: ∀(A B:List Tk),ot A B=true↔A.map kF=B.map kF
 |[],[]=>by simp [ot]
 |[],w::s=>by simp [ot]
 |v::r,w::s=>by rw [ot,aE,K1,zO r s,iP,iP,List.cons.injEq]
 |v::r,[]=>by simp [ot]
theorem Ii (A B:List Tk) (hA:A.length≤1000000) (d:Nat):
  cB Tryz.prog gl 38 d ⟨[.sl (A.map Tk.row),.sl (B.map Tk.row),.fn 37 []],[],[]⟩ ⟨.bool (ot A B),[],[]⟩:=by
 refine Vl rfl ?_;have al:(A.map Tk.row).length=A.length:=by simp
 have bl:(B.map Tk.row).length=B.length:=by simp
 have aat: ∀i (h:i<A.length),∀h2,(A.map Tk.row)[i]'h2=A[i].row:=fun i h h2=>by simp
 have bat: ∀i (h:i<B.length),∀h2,(B.map Tk.row)[i]'h2=B[i].row:=fun i h h2=>by simp
 obtain ⟨R,hR⟩: ∃R,R=ot A B:=⟨_,rfl⟩;have hne:A.length≠B.length→R=false:=fun h=>by rw [hR];exact zN A B h
 rw [←hR];generalize A.map Tk.row=AR at *
 generalize B.map Tk.row=BR at *
 simp only [aF,bV,bp,AV.mp,b7,Pl.mp];by_cases c:A.length=B.length
 ·have c':((A.length:Int)!=(B.length:Int))=false:=by rw [c];simp
  simp [QY,al,bl,c];refine aP (α:=Nat) (fun i=>⟨[(1,.sl BR),(2,.fn 37 []),(15,.sl AR),(16,i6 B.length),(17,i6 i)],[],[]⟩) (fun i=>i≤A.length∧R=ot (A.drop i) (B.drop i)) (fun i=>A.length - i) ?_ 0 ?_ ?_
  ·rintro K i hK ⟨h1,h2⟩;by_cases g:i<A.length
   ·have t1:IntKind.i64.wrap ((i:Int)+1)=(i+1:Nat):=by rw [aj]<;>omega
    have gB:i<B.length:=by omega
    have gA':i<AR.length:=by omega
    have gB':i<BR.length:=by omega
    have ra:=aat i g gA';have rb:=bat i gB gB';rw [oU g,oU gB] at h2;simp only [ot] at h2;have C:=fun d=>Sp.h (d:=d) (K3 A[i] B[i])
    have fin:Ma A[i] B[i]=true→ ∀σ',dL σ' ⟨[(1,.sl BR),(2,.fn 37 []),(15,.sl AR),(16,i6 B.length),(17,i6 (i+1:Nat))],[],[]⟩→K σ':=fun hg σ' hσ=>
     hK (i+1) σ' ⟨by omega,by rw [hg,ib] at h2;exact h2⟩ (by omega) hσ
    have hneg:Ma A[i] B[i]=false→R=false:=fun hg=>by rw [hg,iR] at h2;exact h2
    clear hK hR h2 aat bat hne;generalize Ma A[i] B[i]=q at *
    generalize A[i]=v at *
    generalize B[i]=w at *
    obtain ⟨k,s,n,l,cc⟩:=v;obtain ⟨k2,s2,n2,l2,c2⟩:=w;simp only [Tk.row] at *
    simp [g,gB,gA',gB',ra,rb];refine aB _ _ (C _) ?_;cases q
    ·have hn:=hneg rfl;subst hn;simp;apply am<;>simp
    ·have fin:=fin rfl;simp [t1];refine fin _ ?_;apply ae<;>simp [t1]
   ·obtain rfl:i=A.length:=by omega
    rw [A6,c,A6] at h2;have h2:R=true:=h2;subst h2;clear hK;simp [c];apply am<;>simp
  ·exact ⟨iA _,hR⟩
  ·apply ae<;>simp [al,bl,c]
 ·have h2:=hne c;subst h2;have c2: ¬(A.length:Int)=(B.length:Int):=by omega
  have c3:((A.length:Int)!=(B.length:Int))=true:=bne_iff_ne.2 c2;have c4:((A.length:Int)==(B.length:Int))=false:=cI.2 c2;simp [QY,al,bl,c,c2,c3,c4];apply am<;>simp
end Go.Ai
