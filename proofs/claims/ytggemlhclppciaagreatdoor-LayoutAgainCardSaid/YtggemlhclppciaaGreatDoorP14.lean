/- P14: a part of the proof. Conditions: as each theorem says. -/
import Derived.Test.YtggemlhclppciaaGreatDoorP13
set_option linter.unusedSimpArgs false
set_option linter.unusedVariables false
set_option maxRecDepth 20000
namespace Go.Ai
def eA (x:Tk):Int×List UInt8×Nat:=(x.k,x.t,x.n)
def Dw (l:List Int) (P:List (Int×Int)) (j e:Nat) (out out':List Tk):Prop:= ∀f,l.length - j<f→ ∃f',l.length - e<f'∧bp rV sU l P f j out=bp rV sU l P f' e out'
theorem Dw.refl (l:List Int) (P:List (Int×Int)) (j:Nat) (out:List Tk):Dw l P j j out out:=fun f h=>⟨f,h,rfl⟩
theorem Dw.trans {l:List Int} {P:List (Int×Int)} {j e g:Nat} {o1 o2 o3:List Tk} (h1:Dw l P j e o1 o2) (h2:Dw l P e g o2 o3):Dw l P j g o1 o3:=fun f h=>by
 obtain ⟨f1,a1,b1⟩:=h1 f h;obtain ⟨f2,a2,b2⟩:=h2 f1 a1;exact ⟨f2,a2,b1.trans b2⟩
theorem Dw.one {l:List Int} {P:List (Int×Int)} {j e:Nat} {o1 o2:List Tk} (hj:j<l.length) (he:j<e) (h: ∀f,bp rV sU l P (f+1) j o1=bp rV sU l P f e o2):Dw l P j e o1 o2:=fun f hf=>by
 cases f with
 |zero=>omega
 |succ f=>exact ⟨f,by omega,h f⟩
theorem Dw.blank {l:List Int} {P:List (Int×Int)} {j:Nat} {out:List Tk} {r:Int} (h:l[j]?=some r) (hr:r=32∨r=9∨r=10):Dw l P j (j+1) out out:=by
 obtain ⟨g,_⟩:=oU.1 h;refine .one g (by omega) fun f=>?_
 rw [bp,h];dsimp only;rw [if_pos hr]
theorem Dw.tok {l:List Int} {P:List (Int×Int)} {j:Nat} {out:List Tk} {r:Int} {k:Int} {w:List UInt8} {n e:Nat} (h:l[j]?=some r) (hr: ¬(r=32∨r=9∨r=10)∧r≠35) (ho:ck rV sU l j r=⟨k,w,n,e,0⟩) (he:j<e):
  Dw l P j e out (out++[⟨k,w,n,(P.getD j (0,0)).1,(P.getD j (0,0)).2⟩]):=by
 obtain ⟨g,_⟩:=oU.1 h;refine .one g he fun f=>?_
 rw [bp,h];dsimp only;rw [if_neg hr.1,if_neg hr.2,ho,if_pos rfl]
def iS (t:Tk):Tk:=⟨t.k,t.t,t.n,0,0⟩
mutual
def mw:It→It
 | .mk n ws b ks _ _=> .mk n (ws.map iS) b (eS ks) 0 0
def eS:List It→List It
 |[]=>[]
 |x::r=>mw x::eS r
end
theorem Cx {a b:List Tk} (h:a.map eA=b.map eA):a.map iS=b.map iS:=by
 have e: ∀l:List Tk,l.map iS=(l.map eA).map fun q=>(⟨q.1,q.2.1,q.2.2,0,0⟩:Tk):=fun l=>by
  rw [List.map_map];rfl
 rw [e,e,h]
theorem Cy {a b:List Tk} (h:a.map eA=b.map eA):a.length=b.length:=by
 have:=congrArg List.length h
 simpa using this
theorem my (t:Tk) (T rest:List Tk) (h:rest≠[]):rI (t::(T++rest))=T++rest:=by
 cases T with
 |nil=>
  cases rest with
  |nil=>exact absurd rfl h
  |cons a b=>rfl
 |cons a b=>rfl
def L4 (c:Int) (dp cn:Nat):Prop:=c=19∧5<dp∨c=9∧300<cn
theorem L4.mono {c:Int} {d n d' n':Nat} (h:L4 c d n) (h1:d≤d') (h2:n≤n'):L4 c d' n':=by
 rcases h with ⟨h,g⟩|⟨h,g⟩
 ·exact .inl ⟨h,by omega⟩
 ·exact .inr ⟨h,by omega⟩
theorem tu {a b:List Tk} {T:List Tk} (h:T.map eA=(a++b).map eA): ∃T1 T2,T=T1++T2∧T1.map eA=a.map eA∧T2.map eA=b.map eA:=by
 rw [List.map_append] at h;exact List.map_eq_append_iff.1 h
theorem mz {a:Tk} {b T:List Tk} (h:T.map eA=(a::b).map eA): ∃t T2,T=t::T2∧eA t=eA a∧T2.map eA=b.map eA:=by
 rw [ik] at h;exact List.map_eq_cons_iff.1 h
theorem IN: ∀f:Nat,(∀(its:List It) (T rest:List Tk) (d:Nat) (e:Int) (out:List It) (n:Nat),T.map eA=(gM its).map eA→Dq its→rest≠[]→2*(T++rest).length+1≤f→(e=0∨e=8)→n≤300→
   (∃its' f',eS its'=eS its∧pL f d e out (T++rest) n=pL f' d e (out++its') rest (n+bM its)∧2*rest.length+1≤f'∧(its=[]∨d+dX its≤5)∧n+bM its≤300)∨
   (∃c t l' n',pL f d e out (T++rest) n= .th c t l' n'∧L4 c (d+dX its) (n+bM its)))∧
  (∀(ws1 ws2 wsA:List Tk) (b:Bool) (ks:List It) (T rest:List Tk) (d:Nat) (nm:List UInt8) (ln co:Int) (n:Nat),T.map eA=(ws2++(if b=false then ([⟨9,[],0,0,0⟩]:List Tk) else (⟨7,[],0,0,0⟩:Tk)::(gM ks++[(⟨8,[],0,0,0⟩:Tk)]))).map eA→wsA.map eA=ws1.map eA→ws1.length+ws2.length≤6→(∀w∈ws2,1≤w.k∧w.k≤6)→(b=false→ks=[])→Dq ks→rest≠[]→2*(T++rest).length+1≤f→d≤4→n≤300→
   (∃wsB ks',wsB.map eA=(ws1++ws2).map eA∧eS ks'=eS ks∧pI f d nm ln co wsA (T++rest) n= .ok (.mk nm wsB b ks' ln co) rest (n+bM ks)∧d+(1+dX ks)≤5∧n+bM ks≤300)∨
   (∃c t l' n',pI f d nm ln co wsA (T++rest) n= .th c t l' n'∧L4 c (d+(1+dX ks)) (n+bM ks)))
 |0=>⟨fun its T rest d e out n _ _ _ hf=>by omega,fun ws1 ws2 wsA b ks T rest d nm ln co n _ _ _ _ _ _ _ hf=>by omega⟩
 |f+1=>by
  obtain ⟨ihL,ihI⟩:=IN f;refine ⟨fun its T rest d e out n hT hw hr hf he hn=>?_,fun ws1 ws2 wsA b ks T rest d nm ln co n hT hA h6 hk hb hw hr hf hd hn=>?_⟩
  ·cases its with
   |nil=>
    have:T=[]:=by simpa [gM] using hT
    subst this;exact .inl ⟨[],f+1,rfl,by rw [pc,bM];rfl,by simpa using hf,.inl rfl,by rw [bM];omega⟩
   |cons x its=>
    obtain ⟨xn,ws,b,ks,xl,xc⟩:=x;rw [gM,mr] at hT;obtain ⟨t,T0,rfl,ht,hT⟩:=mz hT;obtain ⟨T1,T2,rfl,hT1,hT2⟩:=tu hT;rw [Dq,JR] at hw;obtain ⟨⟨w1,w2,w3,w4⟩,w5⟩:=hw;have tk:t.k=1:=congrArg Prod.fst ht;have hrest:T2++rest≠[]:=by simp [hr]
    rw [bt,lJ,pL,my t T1 _ hrest];have hc:bM (.mk xn ws b ks xl xc::its)=1+bM ks+bM its:=by rw [bM,ga]
    have hdp:dX (.mk xn ws b ks xl xc::its)=max (1+dX ks) (dX its):=by rw [dX,o5]
    rw [hc,hdp];simp only [cG,dT] at hf;rw [if_neg (by omega),if_neg (by simp [tk])];by_cases c3:4<d
    ·rw [if_pos c3];exact .inr ⟨19,_,_,_,rfl,.inl ⟨rfl,by omega⟩⟩
    rw [if_neg c3];by_cases c4:n=300
    ·rw [if_pos c4];exact .inr ⟨9,_,_,_,rfl,.inr ⟨rfl,by omega⟩⟩
    rw [if_neg c4];rcases ihI [] ws [] b ks T1 (T2++rest) d t.t t.ln t.co (n+1) hT1 rfl (by simpa using w1) w2 w3 w4 hrest (by simp only [cG];omega) (by omega) (by omega) with ⟨wsB,ks',b1,b2,b3,b4,b5⟩|⟨c,t',l',n',b1,b2⟩
    ·rw [b3];dsimp only;rcases ihL its T2 rest d e (out++[.mk t.t wsB b ks' t.ln t.co]) (n+1+bM ks) hT2 w5 hr (by simp only [cG];omega) he (by omega) with ⟨its',f',d1,d2,d3,d4,d5⟩|⟨c,t',l',n',d1,d2⟩
     ·refine .inl ⟨.mk t.t wsB b ks' t.ln t.co::its',f',?_,?_,d3,?_,by omega⟩
      ·rw [eS,eS,d1,mw,mw,b2,Cx b1];have tt:t.t=xn:=congrArg (fun q=>q.2.1) ht;rw [tt];rfl
      ·rw [d2,lJ,show n+1+bM ks+bM its=n+(1+bM ks+bM its) by omega];rfl
      ·rcases d4 with rfl|d4
       ·right;rw [dX];omega
       ·right;omega
     ·exact .inr ⟨c,t',l',n',d1,d2.mono (by omega) (by omega)⟩
    ·rw [b1];exact .inr ⟨c,t',l',n',rfl,b2.mono (by omega) (by omega)⟩
  ·cases ws2 with
   |nil=>
    rw [bO] at hT;rw [pc];cases b with
    |false=>
     rw [if_pos rfl] at hT;obtain ⟨t,T0,rfl,ht,hT⟩:=mz hT
     have:T0=[]:=by simpa using hT
     subst this;have tk:t.k=9:=congrArg Prod.fst ht;have e0:=hb rfl;subst e0;have hx:=my t [] rest hr;rw [bO] at hx;rw [bt,bO,pI,hx,if_pos tk];exact .inl ⟨wsA,[],hA,rfl,by rw [bM];rfl,by rw [dX];omega,by rw [bM];omega⟩
    |true=>
     rw [if_neg (by decide)] at hT;obtain ⟨t,T0,rfl,ht,hT⟩:=mz hT;obtain ⟨T1,T2,rfl,hT1,hT2⟩:=tu hT;obtain ⟨t8,T3,rfl,ht8,hT3⟩:=mz hT2
     have:T3=[]:=by simpa using hT3
     subst this;have tk:t.k=7:=congrArg Prod.fst ht;have tk8:t8.k=8:=congrArg Prod.fst ht8;simp only [cG,dT,vA] at hf;rw [bt,lJ,pI,my t T1 _ (by simp),if_neg (by omega),if_pos tk];rw [bt,bO];rcases ihL ks T1 (t8::rest) (d+1) 8 [] n hT1 hw (by simp) (by simp only [cG,dT];omega) (.inr rfl) hn with ⟨its',f',d1,d2,d3,d4,d5⟩|⟨c,t',l',n',d1,d2⟩
     ·cases f' with
      |zero=>omega
      |succ f'=>
       have hx:=my t8 [] rest hr;rw [bO] at hx;rw [d2,bO,pL,if_pos tk8,hx];refine .inl ⟨wsA,its',hA,d1,rfl,?_,d5⟩;rcases d4 with rfl|d4
       ·rw [dX];omega
       ·omega
     ·rw [d1];exact .inr ⟨c,t',l',n',rfl,d2.mono (by omega) (by omega)⟩
   |cons w ws2=>
    rw [bt] at hT;obtain ⟨t,T0,rfl,ht,hT⟩:=mz hT;have tk:t.k=w.k:=congrArg Prod.fst ht;have hwk:=hk w (by simp);have hlen:=Cy hA;rw [dT] at h6;simp only [cG,dT] at hf;rw [bt,pI,my t T0 rest hr,if_neg (by omega),if_neg (by omega),if_neg (by omega),if_neg (by omega)];have ih:=ihI (ws1++[w]) ws2 (wsA++[t]) b ks T0 rest d nm ln co n hT (by rw [List.map_append,List.map_append,hA,ik,ik,ht]) (by rw [cG,yF];omega) (fun x hx=>hk x (by simp [hx])) hb hw hr (by simp only [cG];omega) hd hn;rw [lJ] at ih;exact ih
open Go.Proofs
inductive Pc where
 |b (r:Int)
 |t (x:Tk)
def nP:List Pc→List UInt8
 |[]=>[]
 | .b r::p=>UInt8.ofNat r.toNat::nP p
 | .t x::p=>kD x++nP p
def oJ:List Pc→List Int
 |[]=>[]
 | .b r::p=>r::oJ p
 | .t x::p=>ag (kD x) 0++oJ p
def pr:List Pc→List Tk
 |[]=>[]
 | .b _::p=>pr p
 | .t x::p=>x::pr p
theorem jo: ∀p q:List Pc,nP (p++q)=nP p++nP q
 |[],q=>rfl
 | .b r::p,q=>by rw [bt,nP,nP,jo p q,bt]
 | .t x::p,q=>by rw [bt,nP,nP,jo p q,lJ]
theorem jp: ∀p q:List Pc,pr (p++q)=pr p++pr q
 |[],q=>rfl
 | .b r::p,q=>by rw [bt,pr,pr,jp p q]
 | .t x::p,q=>by rw [bt,pr,pr,jp p q,bt]
def KT:List Pc→Prop
 |[]=>True
 | .b _::_=>True
 | .t x::_=>7≤x.k
def eI:List Pc→Prop
 |[]=>True
 | .b r::p=>(r=32∨r=10)∧eI p
 | .t x::p=>wK x∧KT p∧eI p
theorem qC: ∀p:List Pc,eI p→aq (oJ p)=nP p
 |[],_=>rfl
 | .b r::p,h=>by
  rw [eI] at h;rw [oJ,nP];show aq ([r]++oJ p)=_;rw [cB,qC p h.2];rcases h.1 with rfl|rfl<;>rfl
 | .t x::p,h=>by
  rw [eI] at h;rw [oJ,nP,cB,qC p h.2.2];unfold kD;rw [hZ _ (tj h.1.k h.1.n h.1.r).2]
theorem uE: ∀p:List Pc,eI p→ ∀r∈oJ p,nW r
 |[],_,r,hr=>by cases hr
 | .b q::p,h,r,hr=>by
  rw [eI] at h;rw [oJ,i8] at hr;rcases hr with rfl|hr
  ·unfold nW;omega
  ·exact uE p h.2 r hr
 | .t x::p,h,r,hr=>by
  rw [eI] at h;rw [oJ,gg] at hr;rcases hr with hr|hr
  ·exact eC _ _ 0 (eV _) r hr
  ·exact uE p h.2.2 r hr
theorem HD: ∀p:List Pc,KT p→eI p→ ∀x∈(oJ p).head?,wthn x=false
 |[],_,_,x,hx=>by simp [oJ] at hx
 | .b r::p,_,h,x,hx=>by
  rw [eI] at h;rw [oJ] at hx;simp only [List.head?_cons,Option.mem_def,bV] at hx;subst hx;rcases h.1 with rfl|rfl<;>decide
 | .t y::p,hb,h,x,hx=>by
  rw [eI] at h;have h7:7≤y.k:=hb;have one: ∀c:UInt8,c.toNat<128→wthn (c.toNat:Int)=false→eY y.k y.t y.n=[c]→wthn x=false:=fun c hc hw e=>by
   rw [oJ] at hx;unfold kD at hx;rw [e,wL c hc] at hx;simp only [bt,List.head?_cons,Option.mem_def,bV] at hx;rw [←hx];exact hw
  have hk:=h.1.k;have hr:=h.1.r;have kc:y.k=7∨y.k=8∨y.k=9:=by omega
  rcases kc with e|e|e
  ·exact one 123 (by decide) (by decide) (by unfold eY;rw [hr,e];rfl)
  ·exact one 125 (by decide) (by decide) (by unfold eY;rw [hr,e];rfl)
  ·exact one 59 (by decide) (by decide) (by unfold eY;rw [hr,e];rfl)
theorem qD (l:List Int) (P:List (Int×Int)): ∀(p:List Pc) (j:Nat) (out:List Tk),eI p→l.drop j=oJ p→ ∃o,o.map eA=(pr p).map eA∧gL l P j (j+(oJ p).length) out (out++o)
 |[],j,out,h,hd=>⟨[],rfl,by rw [pc];exact .refl l P j out⟩
 | .b r::p,j,out,h,hd=>by
  rw [eI] at h;rw [oJ] at hd;have d2:l.drop (j+1)=oJ p:=iQ (p:=[r]) hd;obtain ⟨o,ho,hr⟩:=qD l P p (j+1) out h.2 d2;refine ⟨o,by rw [pr];exact ho,?_⟩;have r1:=gL.blank (P:=P) (out:=out) hd (by rcases h.1 with h|h<;>simp [h])
  have:=r1.trans hr
  rw [oJ,dT,show j+((oJ p).length+1)=j+1+(oJ p).length by omega];exact this
 | .t x::p,j,out,h,hd=>by
  rw [eI] at h;obtain ⟨hx,hb,hp⟩:=h;rw [oJ] at hd;have d2:=iQ hd;obtain ⟨o,ho,hr⟩:=qD l P p _ (out++[⟨x.k,x.t,x.n,(P.getD j (0,0)).1,(P.getD j (0,0)).2⟩]) hp d2;have r2:=gL.tok (P:=P) (out:=out) x.k x.t x.n _ hx.k hx.n hx.r hd (HD p hb hp) (tj hx.k hx.n hx.r).1;have r3:=r2.trans hr;refine ⟨⟨x.k,x.t,x.n,(P.getD j (0,0)).1,(P.getD j (0,0)).2⟩::o,?_,?_⟩
  ·rw [pr,ik,ik,ho];rfl
  ·rw [lJ] at r3;rw [oJ,cG,←DE];exact r3
theorem Kd (p:List Pc) (h:eI p) (hl:(nP p).length≤40000): ∃o z,(cI (nP p)).l=o++[z]∧(cI (nP p)).c=0∧o.map eA=(pr p).map eA:=by
 have er:ag (nP p) 0=oJ p:=by
  rw [←qC p h];exact cC _ (uE p h)
 unfold cI CY;rw [if_neg (by omega),er];generalize vp 1 1 (oJ p)=P;obtain ⟨o,ho,hr⟩:=qD (oJ p) P p 0 [] h rfl;obtain ⟨f',hf,e'⟩:=hr ((oJ p).length+1) (by omega);rw [e'];cases f' with
 |zero=>omega
 |succ f'=>
  rw [Cm _ _ _ _ _ _ _ (Di (by omega))];exact ⟨o,_,rfl,rfl,ho⟩
def HG (n:Nat):List Pc:=List.replicate n (.b 32)
def EN:List Tk→List Pc
 |[]=>[]
 |w::r=> .b 32:: .t w::EN r
mutual
def Ke:Nat→It→List Pc
 |d,.mk n ws b ks ln co=>HG (2*d)++(.t ⟨1,n,0,ln,co⟩::(EN ws++(if b=false then [.t ⟨9,[],0,0,0⟩,.b 10] else .b 32:: .t ⟨7,[],0,0,0⟩:: .b 10::(HH (d+1) ks++(HG (2*d)++[.t ⟨8,[],0,0,0⟩,.b 10])))))
def HH:Nat→List It→List Pc
 |_,[]=>[]
 |d,x::r=>Ke d x++HH d r
end
theorem EO (n:Nat):nP (HG n)=List.replicate n 32:=by
 induction n with
 |zero=>rfl
 |succ n ih=>
  unfold HG at ih ⊢;rw [List.replicate_succ,List.replicate_succ,nP,ih];rfl
theorem EP (n:Nat):pr (HG n)=[]:=by
 induction n with
 |zero=>rfl
 |succ n ih=>
  unfold HG at ih ⊢;rw [List.replicate_succ,pr,ih]
theorem IQ: ∀ws:List Tk,nP (EN ws)=zI ws
 |[]=>rfl
 |w::r=>by rw [EN,nP,nP,IQ r,zI];rfl
theorem IS: ∀ws:List Tk,pr (EN ws)=ws
 |[]=>rfl
 |w::r=>by rw [EN,pr,pr,IS r]
theorem Bm (d:Nat):fI d=List.replicate (2*d) 32:=by
 induction d with
 |zero=>rfl
 |succ d ih=>
  have e:fI (d+1)=32::32::fI d:=rfl;rw [e,ih,show 2*(d+1)=2*d+1+1 by omega,List.replicate_succ,List.replicate_succ]
mutual
def HI:It→Prop
 | .mk n ws _ ks _ _=>dy n=true∧(∀w∈ws,wK w)∧mA ks
def mA:List It→Prop
 |[]=>True
 |x::r=>HI x∧mA r
end
theorem HJ {n:List UInt8} (h:dy n=true) (a b:Int):wK ⟨1,n,0,a,b⟩:=⟨by simp,by simp,by simp [iw,h]⟩
theorem EQ {n:List UInt8} (h:dy n=true) (a b:Int):kD ⟨1,n,0,a,b⟩=n:=by
 unfold kD eY;rw [show iw 1 n 0=true by simp [iw,h]];rfl
mutual
theorem L5: ∀(d:Nat) (x:It),HI x→nP (Ke d x)=xT d x
 |d,.mk n ws b ks ln co,h=>by
  rw [HI] at h;rw [Ke,xT,jo,EO,←Bm,nP,EQ h.1,jo,IQ];cases b
  ·rw [if_pos rfl,if_pos rfl];rfl
  ·rw [if_neg (by decide),if_neg (by decide),nP,nP,nP,jo,ER (d+1) ks h.2.2,jo,EO,←Bm];rfl
theorem ER: ∀(d:Nat) (L:List It),mA L→nP (HH d L)=eF d L
 |_,[],_=>rfl
 |d,x::r,h=>by
  rw [mA] at h;rw [HH,eF,jo,L5 d x h.1,ER d r h.2]
end
mutual
theorem L6: ∀(d:Nat) (x:It),pr (Ke d x)=mr x
 |d,.mk n ws b ks ln co=>by
  rw [Ke,mr,jp,EP,bO,pr,jp,IS];cases b
  ·rw [if_pos rfl,if_pos rfl];rfl
  ·rw [if_neg (by decide),if_neg (by decide),pr,pr,pr,jp,ET (d+1) ks,jp,EP];rfl
theorem ET: ∀(d:Nat) (L:List It),pr (HH d L)=gM L
 |_,[]=>rfl
 |d,x::r=>by rw [HH,gM,jp,L6 d x,ET d r]
end
theorem EU {p:List Pc} (h:eI p): ∀n,eI (HG n++p)
 |0=>h
 |n+1=>by
  have:=EU h n
  unfold HG at this ⊢;rw [List.replicate_succ,bt,eI];exact ⟨.inl rfl,this⟩
theorem Kf {p:List Pc} (hb:KT p) (h:eI p): ∀ws:List Tk,(∀w∈ws,wK w)→eI (EN ws++p)∧KT (EN ws++p)
 |[],_=>⟨h,hb⟩
 |w::r,hw=>by
  obtain ⟨h1,h2⟩:=Kf hb h r fun x hx=>hw x (by simp [hx])
  rw [EN,bt,bt,eI,eI];exact ⟨⟨.inl rfl,hw w (by simp),h2,h1⟩,trivial⟩
theorem zK (k:Int) (h:k=7∨k=8∨k=9):wK ⟨k,[],0,0,0⟩:=by
 rcases h with rfl|rfl|rfl<;>exact ⟨by decide,by decide,rfl⟩
mutual
theorem PT: ∀(d:Nat) (x:It),HI x→ ∀p,eI p→eI (Ke d x++p)
 |d,.mk n ws b ks ln co,h,p,hp=>by
  rw [HI] at h;rw [Ke,lJ];refine EU ?_ _;rw [bt,eI,lJ];have key: ∀q,KT q→eI q→wK ⟨1,n,0,ln,co⟩∧KT (EN ws++q)∧eI (EN ws++q):=fun q hb hq=>⟨HJ h.1 _ _,(Kf hb hq ws h.2.1).2,(Kf hb hq ws h.2.1).1⟩
  cases b
  ·rw [if_pos rfl];refine key _ ?_ ?_
   ·show (7:Int)≤9;decide
   ·exact ⟨zK 9 (by simp),trivial,.inr rfl,hp⟩
  ·rw [if_neg (by decide)];refine key _ trivial ?_;have k2:=Kg (d+1) ks h.2.2 _ (EU (p:= .t ⟨8,[],0,0,0⟩:: .b 10::p) ⟨zK 8 (by simp),trivial,.inr rfl,hp⟩ (2*d));refine ⟨.inl rfl,zK 7 (by simp),trivial,.inr rfl,?_⟩;show eI ((HH (d+1) ks++(HG (2*d)++[.t ⟨8,[],0,0,0⟩,.b 10]))++p);rw [lJ,lJ];exact k2
theorem Kg: ∀(d:Nat) (L:List It),mA L→ ∀p,eI p→eI (HH d L++p)
 |_,[],_,p,hp=>hp
 |d,x::r,h,p,hp=>by
  rw [mA] at h;rw [HH,lJ];exact PT d x h.1 _ (Kg d r h.2 p hp)
end
theorem zL (L:List It) (h:mA L) (hl:(eF 0 L).length≤40000): ∃o z,(cI (eF 0 L)).l=o++[z]∧(cI (eF 0 L)).c=0∧o.map eA=(gM L).map eA:=by
 have e:=ER 0 L h;have o:=Kg 0 L h [] trivial;rw [pc] at o;rw [←e] at hl ⊢
 have:=Kd _ o hl
 rw [ET] at this;exact this
mutual
theorem EV: ∀x:It,o5 x≤ga x
 | .mk n ws b ks ln co=>by
  have:=qE ks
  rw [o5,ga];omega
theorem qE: ∀L:List It,dX L≤bM L
 |[]=>eV _
 |x::L=>by
  have h1:=EV x;have h2:=qE L;rw [dX,bM];omega
end
mutual
def Cz:It→Prop
 | .mk n ws _ ks _ _=>(ws.length≤1000∧n.length≤100000∧ ∀t∈ws,t.t.length≤100000)∧wT ks
def wT:List It→Prop
 |[]=>True
 |x::r=>Cz x∧wT r
end
theorem uF: ∀ {L:List It} {x:It},wT L→x∈L→Cz x
 |y::L,x,hw,h=>by
  rw [wT] at hw;rcases i8.1 h with rfl|h
  ·exact hw.1
  ·exact uF hw.2 h
theorem qF (t:Tk):Sp Tryz.prog gl 34 [.agg t.row] (.agg (iS t).row):=by
 refine QB rfl rfl ?_;obtain ⟨k,s,n,l,c⟩:=t;simp only [iS,Tk.row];simp [P1]
def IV (v w:Tk):Bool:=v.k==w.k&&(v.t==w.t&&((v.n:Int)==(w.n:Int)))
theorem HK (v w:Tk):IV v w=true↔iS v=iS w:=by
 unfold IV iS;simp only [aC,bP,Tk.mk.injEq,and_true];constructor
 ·rintro ⟨h1,h2,h3⟩;exact ⟨h1,h2,by omega⟩
 ·rintro ⟨h1,h2,h3⟩;exact ⟨h1,h2,by omega⟩
theorem HL (v w:Tk):Sp Tryz.prog gl 37 [.agg v.row,.agg w.row] (.bool (IV v w)):=by
 refine QE rfl rfl ?_;have B1:=qF v;have B2:=qF w;obtain ⟨k,s,n,l,c⟩:=v;obtain ⟨k2,s2,n2,l2,c2⟩:=w;simp only [iS,Tk.row,IV] at *
 simp [P2];apply ab B1;simp;apply ab B2;simp
def mB:List Tk→List Tk→Bool
 |[],[]=>true
 |v::r,w::s=>IV v w&&mB r s
 |_,_=>false
theorem wU: ∀(A B:List Tk),A.length≠B.length→mB A B=false
 |[],[],h=>absurd rfl h
 |[],w::s,_=>rfl
 |v::r,[],_=>rfl
 |v::r,w::s,h=>by rw [mB,wU r s (by simpa using h),Lp]
theorem wV: ∀(A B:List Tk),mB A B=true↔A.map iS=B.map iS
 |[],[]=>by simp [mB]
 |[],w::s=>by simp [mB]
 |v::r,w::s=>by rw [mB,aC,HK,wV r s,ik,ik,List.cons.injEq]
 |v::r,[]=>by simp [mB]
theorem EW (A B:List Tk) (hA:A.length≤1000000) (d:Nat):
  b7 Tryz.prog gl 38 d ⟨[.sl (A.map Tk.row),.sl (B.map Tk.row),.fn 37 []],[],[]⟩ ⟨.bool (mB A B),[],[]⟩:=by
 refine QF rfl ?_;have al:(A.map Tk.row).length=A.length:=by simp
 have bl:(B.map Tk.row).length=B.length:=by simp
 have aat: ∀i (h:i<A.length),∀h2,(A.map Tk.row)[i]'h2=A[i].row:=fun i h h2=>by simp
 have bat: ∀i (h:i<B.length),∀h2,(B.map Tk.row)[i]'h2=B[i].row:=fun i h h2=>by simp
 obtain ⟨R,hR⟩: ∃R,R=mB A B:=⟨_,rfl⟩;have hne:A.length≠B.length→R=false:=fun h=>by rw [hR];exact wU A B h
 rw [←hR];generalize A.map Tk.row=AR at *
 generalize B.map Tk.row=BR at *
 simp only [az,bE,a7,AV.mp,bK,Pl.mp];by_cases c:A.length=B.length
 ·have c':((A.length:Int)!=(B.length:Int))=false:=by rw [c];simp
  simp [Ng,al,bl,c];refine bT (α:=Nat) (fun i=>⟨[(1,.sl BR),(2,.fn 37 []),(15,.sl AR),(16,i6 B.length),(17,i6 i)],[],[]⟩) (fun i=>i≤A.length∧R=mB (A.drop i) (B.drop i)) (fun i=>A.length - i) ?_ 0 ?_ ?_
  ·rintro K i hK ⟨h1,h2⟩;by_cases g:i<A.length
   ·have t1:IntKind.i64.wrap ((i:Int)+1)=(i+1:Nat):=by rw [an]<;>omega
    have gB:i<B.length:=by omega
    have gA':i<AR.length:=by omega
    have gB':i<BR.length:=by omega
    have ra:=aat i g gA';have rb:=bat i gB gB';rw [sf g,sf gB] at h2;simp only [mB] at h2;have C:=fun d=>Sp.h (d:=d) (HL A[i] B[i])
    have fin:IV A[i] B[i]=true→ ∀σ',e7 σ' ⟨[(1,.sl BR),(2,.fn 37 []),(15,.sl AR),(16,i6 B.length),(17,i6 (i+1:Nat))],[],[]⟩→K σ':=fun hg σ' hσ=>
     hK (i+1) σ' ⟨by omega,by rw [hg,kL] at h2;exact h2⟩ (by omega) hσ
    have hneg:IV A[i] B[i]=false→R=false:=fun hg=>by rw [hg,lQ] at h2;exact h2
    clear hK hR h2 aat bat hne;generalize IV A[i] B[i]=q at *
    generalize A[i]=v at *
    generalize B[i]=w at *
    obtain ⟨k,s,n,l,cc⟩:=v;obtain ⟨k2,s2,n2,l2,c2⟩:=w;simp only [Tk.row] at *
    simp [g,gB,gA',gB',ra,rb];refine ax _ _ (C _) ?_;cases q
    ·have hn:=hneg rfl;subst hn;simp;apply ai<;>simp
    ·have fin:=fin rfl;simp [t1];refine fin _ ?_;apply am<;>simp [t1]
   ·obtain rfl:i=A.length:=by omega
    rw [Ix,c,Ix] at h2;have h2:R=true:=h2;subst h2;clear hK;simp [c];apply ai<;>simp
  ·exact ⟨jI _,hR⟩
  ·apply am<;>simp [al,bl,c]
 ·have h2:=hne c;subst h2;have c2: ¬(A.length:Int)=(B.length:Int):=by omega
  have c3:((A.length:Int)!=(B.length:Int))=true:=bne_iff_ne.2 c2;have c4:((A.length:Int)==(B.length:Int))=false:=dh.2 c2;simp [Ng,al,bl,c,c2,c3,c4];apply ai<;>simp
theorem nQ (x:It):bc x.row=[]:=by
 obtain ⟨n,ws,b,ks,ln,co⟩:=x;rw [It.row];rfl
end Go.Ai
