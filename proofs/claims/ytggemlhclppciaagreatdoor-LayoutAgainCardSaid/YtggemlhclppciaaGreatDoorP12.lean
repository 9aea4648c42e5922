/- P12: a part of the proof. Conditions: as each theorem says. -/
import Derived.Test.YtggemlhclppciaaGreatDoorP11
set_option maxHeartbeats 4000000
set_option linter.unusedSimpArgs false
set_option linter.unusedVariables false
set_option maxRecDepth 20000
namespace Go.Ai
open Go.Proofs
def Gq (r:Int):List Int:=if r=34 then [92,34] else if r=92 then [92,92] else if r=10 then [92,110] else if r=9 then [92,116] else if r<32∨r=127 then [92,117,123]++(Dv (rH r.toNat)++[125]) else [r]
def pp:List Int→List Int
 |[]=>[]
 |r::l=>Gq r++pp l
theorem zC (a:Nat) (h:a<16):(iv a).toNat<128:=by
 have: ∀q:Fin 16,(iv q.1).toNat<128:=by decide
 exact this ⟨a,h⟩
theorem ux (a:Nat) (h:a<16):lH ((iv a).toNat:Int)=a:=by
 have: ∀q:Fin 16,lH ((iv q.1).toNat:Int)=q.1:=by decide
 exact this ⟨a,h⟩
theorem EA (a:Nat) (h:a<128): ∀b∈rH a,b.toNat<128:=by
 intro b hb;unfold rH at hb;split at hb
 ·rw [m9] at hb;subst hb;exact zC a (by omega)
 ·rw [i8,m9] at hb;rcases hb with rfl|rfl
  ·exact zC _ (by omega)
  ·exact zC _ (by omega)
theorem JZ (r:Int) (h:0≤r):IL r.toNat=aq (Gq r):=by
 unfold IL Gq;by_cases c1:r=34
 ·subst c1;rfl
 rw [if_neg c1,if_neg (by omega)];by_cases c2:r=92
 ·subst c2;rfl
 rw [if_neg c2,if_neg (by omega)];by_cases c3:r=10
 ·subst c3;rfl
 rw [if_neg c3,if_neg (by omega)];by_cases c4:r=9
 ·subst c4;rfl
 rw [if_neg c4,if_neg (by omega)];by_cases c5:r<32∨r=127
 ·rw [if_pos c5,if_pos (by omega),cB,cB,kC _ (EA _ (by omega))];rfl
 ·rw [if_neg c5,if_neg (by omega),aq,aq,pc];unfold iy;rw [if_neg (by omega)]
theorem EB: ∀l:List Int,(∀r∈l,0≤r)→Ds l=aq (pp l)
 |[],h=>rfl
 |r::l,h=>by rw [Ds,pp,cB,JZ r (h r (by simp)),EB l fun x hx=>h x (by simp [hx])]
theorem J0 (r:Int): ∀x∈Gq r,x=r∨(0≤x∧x<128):=by
 intro x hx;unfold Gq at hx;split at hx
 ·simp at hx;omega
 split at hx
 ·simp at hx;omega
 split at hx
 ·simp at hx;omega
 split at hx
 ·simp at hx;omega
 split at hx
 ·rename_i h;rcases gg.1 hx with hx|hx
  ·simp at hx;omega
  rcases gg.1 hx with hx|hx
  ·obtain ⟨b,hb,rfl⟩:=tO.1 hx
   have:=EA _ (by omega) b hb
   omega
  ·simp at hx;omega
 ·simp at hx;omega
theorem uy: ∀(l:List Int) (x:Int),x∈pp l→x∈l∨(0≤x∧x<128)
 |[],x,h=>by cases h
 |r::l,x,h=>by
  rw [pp,gg] at h;rcases h with h|h
  ·rcases J0 r x h with rfl|h
   ·exact .inl (by simp)
   ·exact .inr h
  ·rcases uy l x h with h|h
   ·exact .inl (by simp [h])
   ·exact .inr h
theorem wI (l:List Int) (h: ∀r∈l,0≤r):Dt l=aq (34::(pp l++[34])):=by
 rw [aq,cB,←EB l h];rfl
theorem nK (l:List Int) (h: ∀r∈l,0≤r) (hk: ∀r∈l,nW r):ag (Dt l) 0=34::(pp l++[34]):=by
 rw [wI l h];refine cC _ fun r hr=>?_
 rw [i8,gg,m9] at hr;rcases hr with rfl|hr|rfl
 ·right;omega
 ·rcases uy l r hr with h|h
  ·exact hk r h
  ·right;omega
 ·right;omega
theorem eP {x y:Rd} {r:Int} (l:List Int) (h:cU x r=(y,true)):cP x (r::l)=cP y l:=by
 rw [cP,h];rfl
theorem Rh (o:List Int) (n c:Nat):cU ⟨o,0,n,c⟩ 92=(⟨o,1,n,c⟩,true):=rfl
theorem PI (o:List Int) (n c:Nat):cU ⟨o,1,n,c⟩ 117=(⟨o,2,n,c⟩,true):=rfl
theorem PJ (o:List Int) (n c:Nat):cU ⟨o,2,n,c⟩ 123=(⟨o,3,0,0⟩,true):=rfl
theorem PK (o:List Int) (n c d:Nat) {r:Int} (h:lH r=d) (hc:c<6):cU ⟨o,3,n,c⟩ r=(⟨o,3,16*n+d,c+1⟩,true):=by
 show dM ⟨o,3,n,c⟩ r=_;unfold dM;rw [if_pos ⟨by omega,hc⟩,h];rfl
theorem Qv (o:List Int) (n c:Nat) (hc:c≠0) (hn:n<128):cU ⟨o,3,n,c⟩ 125=(⟨o++[(n:Int)],0,n,c⟩,true):=by
 show dM ⟨o,3,n,c⟩ 125=_;unfold dM
 have:fv (n:Int)=true:=by
  unfold fv;rw [BI,lK];left;omega
 rw [if_neg (by rintro ⟨h,_⟩;exact absurd h (by decide)),if_neg];rintro (h|h|h)
 ·exact h rfl
 ·exact hc h
 ·rw [this] at h;cases h
theorem EC (o:List Int) (n c:Nat) (r:Int) (h:0≤r) (t:List Int): ∃n' c',cP ⟨o,0,n,c⟩ (Gq r++t)=cP ⟨o++[r],0,n',c'⟩ t:=by
 unfold Gq;by_cases c1:r=34
 ·subst c1;exact ⟨n,c,rfl⟩
 rw [if_neg c1];by_cases c2:r=92
 ·subst c2;exact ⟨n,c,rfl⟩
 rw [if_neg c2];by_cases c3:r=10
 ·subst c3;exact ⟨n,c,rfl⟩
 rw [if_neg c3];by_cases c4:r=9
 ·subst c4;exact ⟨n,c,rfl⟩
 rw [if_neg c4];by_cases c5:r<32∨r=127
 ·rw [if_pos c5];obtain ⟨a,rfl⟩: ∃a:Nat,r=a:=⟨r.toNat,by omega⟩;rw [Int.toNat_natCast,lJ,lJ];show ∃n' c',cP ⟨o,0,n,c⟩ (92::117::123::(Dv (rH a)++(125::t)))=_;rw [eP _ (Rh o n c),eP _ (PI o n c),eP _ (PJ o n c)];unfold rH;by_cases c6:a<16
  ·rw [if_pos c6];refine ⟨16*0+a,0+1,?_⟩;show cP ⟨o,3,0,0⟩ (((iv a).toNat:Int)::125::t)=_;rw [eP _ (PK o 0 0 a (ux a c6) (by decide)),eP _ (Qv o _ _ (by decide) (by omega)),Nat.mul_zero,na]
  ·rw [if_neg c6];refine ⟨16*(16*0+a / 16)+a%16,0+1+1,?_⟩;show cP ⟨o,3,0,0⟩ (((iv (a / 16)).toNat:Int)::((iv (a%16)).toNat:Int)::125::t)=_;rw [eP _ (PK o 0 0 (a / 16) (ux _ (by omega)) (by decide)),eP _ (PK o _ _ (a%16) (ux _ (by omega)) (by decide)),eP _ (Qv o _ _ (by decide) (by omega))];have e:16*(16*0+a / 16)+a%16=a:=by omega
   rw [e]
 ·rw [if_neg c5];refine ⟨n,c,?_⟩;show cP _ (r::t)=_;refine eP _ ?_;show (if r=34 then _ else if r=92 then _ else if r<32∨r=127 then _ else _)=_;rw [if_neg c1,if_neg c2,if_neg c5]
theorem s9: ∀(l o:List Int) (n c:Nat) (t:List Int),(∀r∈l,0≤r)→ ∃n' c',cP ⟨o,0,n,c⟩ (pp l++t)=cP ⟨o++l,0,n',c'⟩ t
 |[],o,n,c,t,h=>⟨n,c,by rw [pc];rfl⟩
 |r::l,o,n,c,t,h=>by
  obtain ⟨n1,c1,e1⟩:=EC o n c r (h r (by simp)) (pp l++t);obtain ⟨n2,c2,e2⟩:=s9 l (o++[r]) n1 c1 t (fun x hx=>h x (by simp [hx]));refine ⟨n2,c2,?_⟩;rw [pp,lJ,e1,e2,lJ];rfl
theorem ED (l:List Int) (h: ∀r∈l,0≤r) (hl:l.length≤120):qm (34::(pp l++[34]))=(aq l,0):=by
 obtain ⟨n,c,e⟩:=s9 l [] 0 0 [34] h;have e':cP Gp (pp l++[34])=(⟨l,4,n,c⟩,true):=by
  show cP ⟨[],0,0,0⟩ _=_;rw [e];rfl
 have g:dQ (34::(pp l++[34]))=true:=by
  unfold dQ;rw [fC];intro r hr;rw [lK];rw [i8,gg,m9] at hr;rcases hr with rfl|hr|rfl
  ·decide
  ·rcases uy l r hr with h'|h'
   ·exact h r h'
   ·exact h'.1
  ·decide
 unfold qm;rw [if_neg,List.tail_cons,e',if_neg (show ¬(true=false) by decide),if_neg (by show ¬((4:Int)≠4);decide),if_neg (by show ¬120<l.length;omega)];rintro (h|h)
 ·rw [g] at h;cases h
 ·exact h rfl
theorem cA {l t:List Int} {j:Nat} {r:Int} (h:l.drop j=r::t): ∃g:j<l.length,l[j]=r∧l.drop (j+1)=t:=by
 have g:j<l.length:=by
  have:=congrArg List.length h
  rw [sn,dT] at this;omega
 rw [sf g] at h;injection h with h1 h2;exact ⟨g,h1,h2⟩
theorem iQ {l p t:List Int} {j:Nat} (h:l.drop j=p++t):l.drop (j+p.length)=t:=by
 rw [←List.drop_drop,h,List.drop_left]
theorem nL: ∀(p t l:List Int) (j:Nat),l.drop j=p++t→(∀x∈p,x≠10∧x≠34∧x≠92)→lC l j=lC l (j+p.length)
 |[],t,l,j,h,hp=>rfl
 |x::p,t,l,j,h,hp=>by
  obtain ⟨g,e,h'⟩:=cA h;obtain ⟨h1,h2,h3⟩:=hp x (by simp);rw [qT g,e,if_neg h1,if_neg h2,if_neg h3,nL p t l (j+1) h' (fun y hy=>hp y (by simp [hy])),dT];congr 1
  omega
theorem mq {l t:List Int} {j:Nat} {x:Int} (h:l.drop j=92::x::t) (hx:x≠10):lC l j=lC l (j+2):=by
 obtain ⟨g,e,h'⟩:=cA h;obtain ⟨g2,e2,_⟩:=cA h';rw [qT g,e,if_neg (by decide),if_neg (by decide),if_pos rfl,if_neg];rw [rC g2,e2];intro h;injection h with h;exact hx h
theorem zD (a:Nat) (h:a<16):((iv a).toNat:Int)≠10∧((iv a).toNat:Int)≠34∧((iv a).toNat:Int)≠92:=by
 have: ∀q:Fin 16,((iv q.1).toNat:Int)≠10∧((iv q.1).toNat:Int)≠34∧((iv q.1).toNat:Int)≠92:=by decide
 exact this ⟨a,h⟩
theorem J1 (a:Nat) (h:a<128): ∀x∈Dv (rH a),x≠10∧x≠34∧x≠92:=by
 intro x hx;obtain ⟨b,hb,rfl⟩:=tO.1 hx;unfold rH at hb;split at hb
 ·rw [m9] at hb;subst hb;exact zD a (by omega)
 ·rw [i8,m9] at hb;rcases hb with rfl|rfl
  ·exact zD _ (by omega)
  ·exact zD _ (by omega)
theorem J2 (r:Int) (h0:0≤r) (t l:List Int) (j:Nat) (h:l.drop j=Gq r++t):lC l j=lC l (j+(Gq r).length):=by
 unfold Gq at h ⊢;by_cases c1:r=34
 ·rw [if_pos c1] at h ⊢;exact mq h (by decide)
 rw [if_neg c1] at h ⊢;by_cases c2:r=92
 ·rw [if_pos c2] at h ⊢;exact mq h (by decide)
 rw [if_neg c2] at h ⊢;by_cases c3:r=10
 ·rw [if_pos c3] at h ⊢;exact mq h (by decide)
 rw [if_neg c3] at h ⊢;by_cases c4:r=9
 ·rw [if_pos c4] at h ⊢;exact mq h (by decide)
 rw [if_neg c4] at h ⊢;by_cases c5:r<32∨r=127
 ·rw [if_pos c5] at h ⊢;rw [lJ] at h;have h':l.drop j=92::117::(123::(Dv (rH r.toNat)++[125])++t):=h;rw [mq h' (by decide)];have h2:l.drop (j+2)=(123::(Dv (rH r.toNat)++[125]))++t:=iQ (p:=[92,117]) h';rw [nL _ t l (j+2) h2]
  ·congr 1
   simp only [cG,dT,vA];omega
  ·intro x hx;rw [i8,gg,m9] at hx;rcases hx with rfl|hx|rfl
   ·decide
   ·exact J1 _ (by omega) x hx
   ·decide
 ·rw [if_neg c5] at h ⊢;refine nL [r] t l j h fun x hx=>?_
  rw [m9] at hx;subst hx;exact ⟨c3,c1,c2⟩
theorem Bd: ∀(m t l:List Int) (j:Nat),(∀r∈m,0≤r)→l.drop j=pp m++t→lC l j=lC l (j+(pp m).length)
 |[],t,l,j,h0,h=>rfl
 |r::m,t,l,j,h0,h=>by
  rw [pp,lJ] at h;have h2:=iQ h;rw [J2 r (h0 r (by simp)) _ l j h,Bd m t l _ (fun x hx=>h0 x (by simp [hx])) h2,pp,cG];congr 1
  omega
theorem Cp (m t l:List Int) (j:Nat) (h0: ∀r∈m,0≤r) (h:l.drop j=pp m++34::t):lC l j=j+(pp m).length+1:=by
 rw [Bd m _ l j h0 h];obtain ⟨g,e,_⟩:=cA (iQ h);rw [qT g,e,if_neg (by decide),if_pos rfl]
theorem ti {l p t:List Int} {j:Nat} (h:l.drop j=p++t):cF l j (j+p.length)=p:=by
 unfold cF;rw [List.drop_take,Nat.add_sub_cancel_left,h,List.take_left]
theorem zE (VR:List Int→TV) (m t l:List Int) (j:Nat) (h0: ∀r∈m,0≤r) (hk: ∀r∈m,nW r) (hm:m.length≤120) (h:l.drop j=(34::(pp m++[34]))++t):
  ck VR sU l j 34=⟨2,aq m,0,j+(34::(pp m++[34])).length,0⟩:=by
 have h1:l.drop (j+1)=pp m++34::t:=by
  have:=iQ (p:=[34]) (t:=pp m++34::t) (by rw [h];simp)
  exact this
 have q:=Cp m t l (j+1) h0 h1;have hs:=ti h;have en:j+(34::(pp m++[34])).length=lC l (j+1):=by
  rw [q];simp only [cG,dT,vA];omega
 rw [en] at hs;have hr:=nK m h0 hk;rw [wI m h0] at hr;unfold ck;rw [if_neg (by decide),if_neg (by decide),if_neg (by decide),if_pos rfl,if_neg (by rw [q];omega),hs];unfold sU;rw [hr,ED m h0 hm,en]
theorem Be {l t:List Int} {j:Nat} {r:Int} (h:l.drop j=r::t):l[j]?=some r:=by
 obtain ⟨g,e,_⟩:=cA h;rw [rC g,e]
theorem wJ (VR:List Int→TV) (U:List UInt8→List UInt8×Int) (l:List Int) (P:List (Int×Int)) (f j:Nat) (out:List Tk) {r:Int} {t:List Int} (h:l.drop j=r::t) (hr:r=32∨r=9∨r=10):
  bp VR U l P (f+1) j out=bp VR U l P f (j+1) out:=by
 rw [bp,Be h];dsimp only;rw [if_pos hr]
theorem qy: ∀(p t l:List Int) (j:Nat),l.drop j=p++t→(∀x∈p,wthn x=true)→(∀x∈t.head?,wthn x=false)→fM l j=j+p.length
 |[],t,l,j,h,hp,ht=>by
  cases t with
  |nil=>
   rw [pc,List.drop_eq_nil_iff] at h;rw [gP (by omega)];rfl
  |cons x t=>
   obtain ⟨g,e,_⟩:=cA h;rw [jt g,e,if_neg (by rw [ht x rfl];decide)];rfl
 |x::p,t,l,j,h,hp,ht=>by
  obtain ⟨g,e,h'⟩:=cA h;rw [jt g,e,if_pos (hp x (by simp)),qy p t l (j+1) h' (fun y hy=>hp y (by simp [hy])) ht,dT];omega
theorem nM (VR:List Int→TV) (U:List UInt8→List UInt8×Int) (l:List Int) (P:List (Int×Int)) (f j:Nat) (out:List Tk) {r:Int} {t:List Int} {k:Int} {w:List UInt8} {n e:Nat} (h:l.drop j=r::t) (hr:r≠32∧r≠9∧r≠10∧r≠35) (ho:ck VR U l j r=⟨k,w,n,e,0⟩):
  bp VR U l P (f+1) j out=bp VR U l P f e (out++[⟨k,w,n,(P.getD j (0,0)).1,(P.getD j (0,0)).2⟩]):=by
 rw [bp,Be h];dsimp only;rw [if_neg (by rintro (h|h|h);exact hr.1 h;exact hr.2.1 h;exact hr.2.2.1 h),if_neg hr.2.2.2,ho,if_pos rfl]
theorem Cq (VR:List Int→TV) (U:List UInt8→List UInt8×Int) (l:List Int) (j:Nat) {r:Int} {p t:List Int} {k:Int} {w:List UInt8} {n:Nat} (h:l.drop j=(r::p)++t) (hp: ∀x∈r::p,wthn x=true) (ht: ∀x∈t.head?,wthn x=false) (hv:VR (r::p)= .t k w n):
  ck VR U l j r=⟨k,w,n,j+(r::p).length,0⟩:=by
 have hw:=hp r (by simp);have hne: ∀z:Int,wthn z=false→r≠z:=fun z hz e=>by rw [←e,hw] at hz;cases hz
 unfold ck;rw [if_neg (hne 123 rfl),if_neg (hne 125 rfl),if_neg (hne 59 rfl),if_neg (hne 34 rfl),if_pos hw,qy (r::p) t l j h hp ht,ti h,hv];rfl
theorem iR (s:List UInt8) (n:Nat) (h:iw 2 s n=true):eY 2 s n=Dt (ag s 0)∧n=0∧dQ (ag s 0)=true∧(ag s 0).length≤120:=by
 have h':(dQ (ag s 0)&&(decide ((ag s 0).length≤120)&&decide (n=0)))=true:=h;rw [aC,aC,lK,lK] at h';refine ⟨?_,h'.2.2,h'.1,h'.2.1⟩;unfold eY;rw [h];rfl
theorem Cr (l:List Int) (P:List (Int×Int)) (f j:Nat) (out:List Tk) (k:Int) (s:List UInt8) (n:Nat) (t:List Int) (hk:1≤k∧k≤9) (hn:n<18446744073709551616) (hR:iw k s n=true)
  (h:l.drop j=ag (eY k s n) 0++t) (ht: ∀x∈t.head?,wthn x=false):
  bp rV sU l P (f+1) j out=bp rV sU l P f (j+(ag (eY k s n) 0).length) (out++[⟨k,s,n,(P.getD j (0,0)).1,(P.getD j (0,0)).2⟩]):=by
 have brace: ∀(c:UInt8),eY k s n=[c]→s=[]→n=0→((c.toNat:Int)≠32∧(c.toNat:Int)≠9∧(c.toNat:Int)≠10∧(c.toNat:Int)≠35)→c.toNat<128→ck rV sU l j (c.toNat:Int)=⟨k,[],0,j+1,0⟩→
   bp rV sU l P (f+1) j out=bp rV sU l P f (j+(ag (eY k s n) 0).length) (out++[⟨k,s,n,(P.getD j (0,0)).1,(P.getD j (0,0)).2⟩]):=by
  intro c e hs hn hc hlt ho;have er:ag (eY k s n) 0=[(c.toNat:Int)]:=by
   rw [e,iP [c] (by simpa using hlt)];rfl
  rw [er] at h ⊢;rw [hs,hn];exact nM rV sU l P f j out h hc ho
 by_cases kw:k=1∨k=3∨k=4∨k=5∨k=6
 ·obtain ⟨h1,h2,h3⟩:=Bc k s n hn kw hR;generalize ag (eY k s n) 0=p at *
  cases p with
  |nil=>exact absurd rfl h2
  |cons r p=>
   have hw:=h1 r (by simp);have hne: ∀z:Int,wthn z=false→r≠z:=fun z hz e=>by rw [←e,hw] at hz;cases hz
   exact nM rV sU l P f j out h ⟨hne 32 rfl,hne 9 rfl,hne 10 rfl,hne 35 rfl⟩ (Cq rV sU l j h h1 ht h3)
 have kc:k=2∨k=7∨k=8∨k=9:=by omega
 rcases kc with rfl|rfl|rfl|rfl
 ·obtain ⟨e,hz,hg,hl⟩:=iR s n hR;subst hz;have h0: ∀r∈ag s 0,0≤r:=fun r hr=>xP (fC.1 hg r hr)
  have hk: ∀r∈ag s 0,nW r:=fun r hr=>eC s s.length 0 (by omega) r hr
  have tx:=hZ s (fun r hr=>by have:=h0 r hr;omega);rw [e,nK _ h0 hk] at h ⊢;have o:=zE rV (ag s 0) t l j h0 hk hl h;rw [tx] at o;exact nM rV sU l P f j out h (by decide) o
 ·have h':((s==[])&&decide (n=0))=true:=hR;rw [aC,bP,lK] at h';exact brace 123 (by unfold eY;rw [hR];rfl) h'.1 h'.2 (by decide) (by decide) rfl
 ·have h':((s==[])&&decide (n=0))=true:=hR;rw [aC,bP,lK] at h';exact brace 125 (by unfold eY;rw [hR];rfl) h'.1 h'.2 (by decide) (by decide) rfl
 ·have h':((s==[])&&decide (n=0))=true:=hR;rw [aC,bP,lK] at h';exact brace 59 (by unfold eY;rw [hR];rfl) h'.1 h'.2 (by decide) (by decide) rfl
def gL (l:List Int) (P:List (Int×Int)) (j e:Nat) (out out':List Tk):Prop:= ∀f,l.length - j<f→ ∃f',l.length - e<f'∧bp rV sU l P f j out=bp rV sU l P f' e out'
theorem gL.refl (l:List Int) (P:List (Int×Int)) (j:Nat) (out:List Tk):gL l P j j out out:=fun f h=>⟨f,h,rfl⟩
theorem gL.trans {l:List Int} {P:List (Int×Int)} {j e g:Nat} {o1 o2 o3:List Tk} (h1:gL l P j e o1 o2) (h2:gL l P e g o2 o3):gL l P j g o1 o3:=fun f h=>by
 obtain ⟨f1,a1,b1⟩:=h1 f h;obtain ⟨f2,a2,b2⟩:=h2 f1 a1;exact ⟨f2,a2,b1.trans b2⟩
theorem gL.one {l:List Int} {P:List (Int×Int)} {j e:Nat} {o1 o2:List Tk} (hj:j<l.length) (he:j<e) (h: ∀f,bp rV sU l P (f+1) j o1=bp rV sU l P f e o2):gL l P j e o1 o2:=fun f hf=>by
 cases f with
 |zero=>omega
 |succ f=>exact ⟨f,by omega,h f⟩
theorem gL.blank {l:List Int} {P:List (Int×Int)} {j:Nat} {out:List Tk} {r:Int} {t:List Int} (h:l.drop j=r::t) (hr:r=32∨r=9∨r=10):gL l P j (j+1) out out:=
 .one (cA h).1 (by omega) fun f=>wJ rV sU l P f j out h hr
theorem gL.tok {l:List Int} {P:List (Int×Int)} {j:Nat} {out:List Tk} (k:Int) (s:List UInt8) (n:Nat) (t:List Int) (hk:1≤k∧k≤9) (hn:n<18446744073709551616) (hR:iw k s n=true)
  (h:l.drop j=ag (eY k s n) 0++t) (ht: ∀x∈t.head?,wthn x=false) (h0:ag (eY k s n) 0≠[]):
  gL l P j (j+(ag (eY k s n) 0).length) out (out++[⟨k,s,n,(P.getD j (0,0)).1,(P.getD j (0,0)).2⟩]):=by
 have hp:=vz.2 h0;refine .one ?_ (by omega) fun f=>Cr l P f j out k s n t hk hn hR h ht
 have:=congrArg List.length h
 rw [sn,cG] at this;omega
def gk (gs:List UInt8) (i:Nat):Nat:=if gs=[] then 0 else (gs.getD (i%gs.length) 0).toNat
structure wK (x:Tk):Prop where
 k:1≤x.k∧x.k≤9
 n:x.n<18446744073709551616
 r:iw x.k x.t x.n=true
theorem wL (c:UInt8) (h:c.toNat<128):ag [c] 0=[(c.toNat:Int)]:=by
 rw [iP [c] (by simpa using h)];rfl
theorem tj {k:Int} {s:List UInt8} {n:Nat} (hk:1≤k∧k≤9) (hn:n<18446744073709551616) (h:iw k s n=true):ag (eY k s n) 0≠[]∧ ∀r∈ag (eY k s n) 0,r≠ -1:=by
 by_cases kw:k=1∨k=3∨k=4∨k=5∨k=6
 ·obtain ⟨h1,h2,h3⟩:=Bc k s n hn kw h;exact ⟨h2,fun r hr=>(j8 (h1 r hr)).2⟩
 have br: ∀c:UInt8,c.toNat<128→eY k s n=[c]→ag (eY k s n) 0≠[]∧ ∀r∈ag (eY k s n) 0,r≠ -1:=fun c hc e=>by
  rw [e,wL c hc];refine ⟨by simp,fun r hr=>?_⟩;rw [m9] at hr;omega
 have kc:k=2∨k=7∨k=8∨k=9:=by omega
 rcases kc with rfl|rfl|rfl|rfl
 ·obtain ⟨e,hz,hg,hl⟩:=iR s n h;have h0: ∀r∈ag s 0,0≤r:=fun r hr=>xP (fC.1 hg r hr)
  have hk: ∀r∈ag s 0,nW r:=fun r hr=>eC s s.length 0 (by omega) r hr
  rw [e,nK _ h0 hk];refine ⟨by simp,fun r hr=>?_⟩;rw [i8,gg,m9] at hr;rcases hr with rfl|hr|rfl
  ·decide
  ·rcases uy _ r hr with h'|h'
   ·have:=h0 r h'
    omega
   ·omega
  ·decide
 ·exact br 123 (by decide) (by unfold eY;rw [h];rfl)
 ·exact br 125 (by decide) (by unfold eY;rw [h];rfl)
 ·exact br 59 (by decide) (by unfold eY;rw [h];rfl)
def Tk.says (x:Tk):Int×List UInt8×Nat:=(x.k,x.t,x.n)
theorem nN (n:Nat) (h:n<18446744073709551616):(bu n).length≤20:=fA 19 n (by omega)
theorem pq (m:Nat): ∀(f x:Nat),(gr m f x).length≤f
 |0,x=>eV 0
 |f+1,x=>by
  rw [gr];split
  ·exact jI _
  ·rw [dT]
   have:=pq m f (x%m*10)
   omega
theorem Hs (x:Tk) (h:wK x) (hl:x.t.length≤500):(eY x.k x.t x.n).length≤800:=by
 obtain ⟨k,s,n,ln,co⟩:=x;obtain ⟨hk,hn,hr⟩:=h;dsimp only at *
 unfold eY;rw [hr,if_neg (by decide)];by_cases c1:k=1
 ·rw [if_pos c1];omega
 rw [if_neg c1];by_cases c2:k=2
 ·rw [if_pos c2];subst c2;obtain ⟨_,_,_,h3⟩:=iR s n hr
  have:=ml (ag s 0)
  unfold Dt;rw [dT,cG,yF];omega
 rw [if_neg c2];by_cases c3:k=3
 ·rw [if_pos c3]
  have:=nN n hn
  omega
 rw [if_neg c3];by_cases c4:k=4
 ·rw [if_pos c4];unfold Du;have h1:=nN (n / 1000) (by omega);have h2:=pq 10 2 (n%1000%100);rw [cG,dT,dT];omega
 rw [if_neg c4];by_cases c5:k=5
 ·rw [if_pos c5];unfold Dr;have h1:=nN (n / 10000) (by omega);have h2:=pq 1000 4 (n%10000);split
  ·simp
  ·rw [cG,cG,cG,yF];split
   ·rw [vA];omega
   ·rw [yF];omega
 rw [if_neg c5];by_cases c6:k=6
 ·rw [if_pos c6];subst c6;have h':((s==[])&&decide (n≤253402300799))=true:=hr;rw [aC,lK] at h';unfold qr;split
  ·simp
  ·have:=pj qq n h'.2
   have e:qq.length=5:=rfl;omega
 rw [if_neg c6];repeat' split
 all_goals simp
open Go.Shelf
theorem nO (n:Nat) (h:n<18446744073709551616):Sp Tryz.prog gl 93 [u n,i6 10] (.str (bu n)):=by
 have F:=Fp n h;rw [mM] at F;exact F
theorem rY (p:Nat):Sp Tryz.prog gl 128 [.int .u32 p] (.bool (decide (p≤1000000))):=by
 refine NA rfl rfl ?_;by_cases c:p≤1000000
 ·have c':(p:Int)≤1000000:=by omega
  simp [Ja,c,c']
 ·have c': ¬(p:Int)≤1000000:=by omega
  simp [Ja,c,c']
theorem Bf (b:Nat):(JT b).length=4:=rfl
theorem Bg (b:Nat):(Et b).length=3:=rfl
theorem wM (p:Nat) (hp:p≤1000000):Sp Tryz.prog gl 95 [.int .u32 p] (.str (Dr p)):=by
 refine Q8 rfl rfl ?_;have RG:=rY p;rw [jE hp] at RG;unfold Dr;rw [if_neg (by omega)];have I1:=tH (p / 10000) (by omega);have w1:IntKind.u32.wrap ((p:Int) / 10000)=((p / 10000:Nat):Int):=by rw [gI]<;>omega
 have w2:IntKind.i64.wrap ((p / 10000:Nat):Int)=((p / 10000:Nat):Int):=by rw [an]<;>omega
 have w3:(p:Int).tmod 10000=((p%10000:Nat):Int):=rfl;have w4:IntKind.u32.wrap ((p%10000:Nat):Int)=((p%10000:Nat):Int):=by rw [gI]<;>omega
 have w7:(p:Int).tdiv 10000=((p / 10000:Nat):Int):=rfl;have w8:IntKind.u32.wrap ((p / 10000:Nat):Int)=((p / 10000:Nat):Int):=by rw [gI]<;>omega
 have w9:IntKind.u32.wrap ((p:Int)%10000)=((p%10000:Nat):Int):=by rw [gI]<;>omega
 have hdl:(bu (p / 10000)).length≤20:=fA 19 _ (by omega);have bq:p%10000<10000:=Nat.mod_lt _ (by decide);by_cases c0:p%10000=0
 ·rw [if_pos c0,c0];rw [c0] at w3 w4 w9;rw [show gr 1000 4 0=[] from rfl];generalize bu (p / 10000)=hd at *
  generalize p / 10000=z at *
  have l1:hd.length≤9223372036854775806:=by omega
  simp [Nr];apply ab RG;simp [w1,w2,w3,w4,w7,w8,w9];apply ab I1;simp [w1,w2,w3,w4,w7,w8,w9,l1]
 ·rw [if_neg c0];have I2:=tH (10000+p%10000) (by omega);rw [Hb _ bq] at I2;have TR:=qu (JT (p%10000)) (by rw [Bf];decide);rw [LV _ bq] at TR;have fl:=pq 1000 4 (p%10000);have w5:IntKind.u32.wrap (10000+((p%10000:Nat):Int))=((10000+p%10000:Nat):Int):=by rw [gI]<;>omega
  have w6:IntKind.i64.wrap ((10000+p%10000:Nat):Int)=((10000+p%10000:Nat):Int):=by rw [an]<;>omega
  have c1:(0:Int)<((p%10000:Nat):Int):=by omega
  have c2:0<p%10000:=by omega
  have dl:=Bf (p%10000);generalize bu (p / 10000)=hd at *
  generalize p / 10000=z at *
  generalize JT (p%10000)=D at *
  generalize gr 1000 4 (p%10000)=T at *
  generalize 10000+p%10000=y at *
  generalize p%10000=b at *
  have l1:hd.length≤9223372036854775806:=by omega
  have l2:T.length+1≤9223372036854775807:=by omega
  have l3:hd.length+(T.length+1)≤9223372036854775807:=by omega
  have l4:hd.length+(T.length+1)≤9223372036854775806:=by omega
  have l5:T.length≤9223372036854775806:=by omega
  have l7:1+T.length≤9223372036854775807:=by omega
  have l6:List.take 4 D=D:=by rw [←dl,sg]
  simp [Nr];apply ab RG;simp [w1,w2,w3,w4,w7,w8,w9];apply ab I1;simp [w1,w2,w3,w4,w7,w8,w9,c1,c2,w5,w6];apply ab I2;simp [dl,l6];apply ab TR;simp [l1,l2,l3,l4,l5,l7]
theorem zF (n:Nat) (hn:n<18446744073709551616):Sp Tryz.prog gl 94 [u n] (.str (Du n)):=by
 refine Q7 rfl rfl ?_;unfold Du;have bq:n%1000<1000:=Nat.mod_lt _ (by decide);have F1:=nO (1000+n%1000) (by omega);have F2:=nO (n / 1000) (by omega);rw [Hc _ bq] at F1;have TR:=qu (Et (n%1000)) (by rw [Bg];decide);have t3:=LU _ bq;have w1:(n:Int).tmod 1000=((n%1000:Nat):Int):=rfl;have w2:IntKind.u64.wrap ((n%1000:Nat):Int)=((n%1000:Nat):Int):=by rw [cN]<;>omega
 have w3:IntKind.u64.wrap (1000+((n%1000:Nat):Int))=((1000+n%1000:Nat):Int):=by rw [cN]<;>omega
 have w4:IntKind.u64.wrap ((n:Int) / 1000)=((n / 1000:Nat):Int):=by rw [cN]<;>omega
 have w5:(n:Int).tdiv 1000=((n / 1000:Nat):Int):=rfl;have w6:IntKind.u64.wrap ((n / 1000:Nat):Int)=((n / 1000:Nat):Int):=by rw [cN]<;>omega
 have w7:IntKind.u64.wrap ((n:Int)%1000)=((n%1000:Nat):Int):=by rw [cN]<;>omega
 have hdl:(bu (n / 1000)).length≤20:=fA 19 _ (by omega);have dl:=Bg (n%1000);rw [←t3];have tl:(Lib.trimRightS (Et (n%1000)) [48]).length≤3:=by
  unfold Lib.trimRightS;rw [List.length_reverse];refine pJ (List.Sublist.length_le (List.dropWhile_sublist _)) ?_;rw [List.length_reverse,dl];decide
 clear t3;generalize bu (n / 1000)=hd at *
 generalize Lib.trimRightS (Et (n%1000)) [48]=T at *
 generalize Et (n%1000)=D at *
 generalize n / 1000=z at *
 generalize 1000+n%1000=y at *
 generalize n%1000=b at *
 have l1:hd.length≤9223372036854775806:=by omega
 have l3:hd.length+(T.length+1)≤9223372036854775807:=by omega
 have l4:hd.length+1+T.length≤9223372036854775807:=by omega
 have l5:hd.length≤9223372036854775805:=by omega
 have l6:List.take 3 D=D:=by rw [←dl,sg]
 by_cases c:T=[]
 ·rw [if_pos c];have c':(T==[])=true:=by rw [c];rfl
  subst c;simp [Nq,w1,w2,w3,w7];apply ab F1;simp [dl,l6];apply ab TR;simp [w4,w5,w6];apply ab F2;simp [l1,l5]
 ·rw [if_neg c];have c':(T==[])=false:=by simpa using c
  simp [Nq,w1,w2,w3,w7];apply ab F1;simp [dl,l6];apply ab TR;simp [w4,w5,w6,c,c'];apply ab F2;simp [l1,l3,l4,l5]
theorem Cs:Sp Tryz.prog gl 202 [i6 16] (.bool true):=by
 refine N5 rfl rfl ?_;have t1:IntKind.i64.wrap 15=15:=by decide
 have t2:bits .and .i64 16 15=0:=by decide
 simp [Lf,t1,t2]
theorem Ct:Sp Tryz.prog gl 225 [u 16] (i6 4):=by
 refine Og rfl rfl ?_;have t1:IntKind.u64.wrap (-16)=18446744073709551600:=by decide
 have t2:bits .and .u64 16 18446744073709551600=16:=by decide
 have t3:(IntKind.u64.wrap 4573923408821661840).fdiv (2^min 58 IntKind.u64.bits)=15:=by decide
 have t4:IntKind.i64.wrap 4=4:=by decide
 simp [Ll,t1,t2,t3,t4]
theorem Ht:Sp Tryz.prog gl 203 [u 16] (i6 4):=by
 refine N6 rfl rfl ?_;have T:=Ct;simp [Lg];apply ab T;simp
theorem LW: ∀r,r<256→bits .and .u64 ((r:Nat):Int) 15=((r%16:Nat):Int):=by decide+kernel
theorem EE: ∀r,r<16→([48,49,50,51,52,53,54,55,56,57,97,98,99,100,101,102,103,104,105,106,107,108,109,110,111,112,113,114,115,116,117,118,119,120,121,122]:List UInt8)[r]?=some (iv r):=by decide+kernel
theorem zG (r:Nat) (h:r<256):Sp Tryz.prog gl 168 [.nils,u r,i6 16,.bool false,.bool false] (.tup [.sl [],.str (rH r)]):=by
 refine NO rfl rfl ?_;have IP:=Cs;have TZ:=Ht;have t1:IntKind.u64.wrap 16=16:=by decide
 have t2:IntKind.u64.wrap 4=4:=by decide
 have t3:IntKind.u64.wrap 15=15:=by decide
 have t4:IntKind.i64.wrap 64=64:=by decide
 have t5:IntKind.i64.wrap 63=63:=by decide
 obtain ⟨R,hR⟩: ∃R,R=rH r:=⟨_,rfl⟩;rw [←hR];simp [K4];apply ab IP;simp [t1];apply ab TZ;simp [t1,t2,t3];refine bT (α:=Nat×Nat×List UInt8) (fun y=>⟨[(1,u y.2.1),(3,.bool false),(4,.bool false),(12,.ptr (.n 12) 0),(13,i6 y.1),(14,u 4),(15,u 16),(16,u 15),(10,.nils)],[(.n 12,gS y.1 y.2.2)],[]⟩) (fun y=>(y.1=65∧y.2.1=r∧y.2.2=[])∨(y.1=64∧16≤r∧y.2.1=r / 16∧y.2.2=[iv (r%16)])) (fun y=>y.1) ?_ (65,r,[]) ?_ ?_
 ·rintro K ⟨k,q,s⟩ hK hk;simp only at hk;rcases hk with ⟨rfl,rfl,rfl⟩|⟨rfl,hr,rfl,rfl⟩
  ·by_cases c:16≤q
   ·have c':(16:Int)≤q:=by omega
    have a1:=LW q h;have a2:=EE (q%16) (by omega);dsimp only at a2;have a3:(q:Int).fdiv (2^min 4 IntKind.u64.bits)=((q / 16:Nat):Int):=by
     rw [Int.fdiv_eq_ediv_of_nonneg _ (by decide)];rfl
    have a4:IntKind.u64.wrap ((q / 16:Nat):Int)=((q / 16:Nat):Int):=by rw [cN]<;>omega
    have fin:=fun σ' hσ=>hK (64,q / 16,[iv (q%16)]) σ' (.inr ⟨rfl,c,rfl,rfl⟩) (by simp only;omega) hσ
    have st:=qQ 64 (iv (q%16)) [];have hl:=km 65 [];have hi2:=xm 64 [iv (q%16)];clear hK hR;unfold gO at st;rw [show (64:Nat)+1=65 from rfl] at st;generalize gS 65 []=X at *
    generalize gS 64 [iv (q%16)]=Y at *
    generalize iv (q%16)=g at *
    generalize q%16=lo at *
    generalize q / 16=hi at *
    have jX:65≤X.length:=by rw [hl];simp
    simp [c,c',a1,a2,t4,jX,st,a3,a4];refine fin _ ?_;apply am<;>simp [hi2,a3,a4]
   ·have c': ¬(16:Int)≤q:=by omega
    have a2:=EE q (by omega);dsimp only at a2;have st:=qQ 64 (iv q) [];have hl:=km 65 [];have hl2:=km 64 [iv q];have hb:=tG 64 1 [iv q] (by simp);have eR:R=[iv q]:=by rw [hR];unfold rH;rw [if_pos (by omega)]
    clear hK hR;subst eR;unfold gO at st;rw [show (64:Nat)+1=65 from rfl] at st;generalize gS 65 []=X at *
    generalize gS 64 [iv q]=Y at *
    generalize iv q=g at *
    have jX:65≤X.length:=by rw [hl];simp
    have jY:65≤Y.length:=by rw [hl2];simp
    simp [c,c',a2,t4,jX,st,jY,jc,hb]
  ·have c: ¬16≤r / 16:=by omega
   have c': ¬(16:Int)≤((r / 16:Nat):Int):=by omega
   have a2:=EE (r / 16) (by omega);dsimp only at a2;have st:=qQ 63 (iv (r / 16)) [iv (r%16)];have hl:=km 64 [iv (r%16)];have hl2:=km 63 [iv (r / 16),iv (r%16)];have hb:=tG 63 2 [iv (r / 16),iv (r%16)] (by simp);have eR:R=[iv (r / 16),iv (r%16)]:=by rw [hR];unfold rH;rw [if_neg (by omega)]
   clear hK hR;subst eR;unfold gO at st;rw [show (63:Nat)+1=64 from rfl] at st;generalize gS 64 [iv (r%16)]=X at *
   generalize gS 63 [iv (r / 16),iv (r%16)]=Y at *
   generalize iv (r%16)=g at *
   generalize iv (r / 16)=g2 at *
   generalize r / 16=z at *
   have jX:65≤X.length:=by rw [hl];simp
   have jX2:64≤X.length:=by rw [hl];simp
   have jY:65≤Y.length:=by rw [hl2];simp
   simp [c,c',a2,t5,jX,jX2,st,jY,jc,hb]
 ·exact .inl ⟨rfl,rfl,rfl⟩
 ·apply am<;>simp [xm];exact wB (gS 65 [])
theorem zH (r:Nat) (h:r<256):Sp Tryz.prog gl 174 [i6 r,i6 16] (.str (rH r)):=by
 refine K6 rfl rfl ?_;have F:=fun d=>(zG r h).h (d:=d)
 have w1:IntKind.u64.wrap (r:Int)=r:=by rw [cN]<;>omega
 have c: ¬(r:Int)<0:=by omega
 generalize rH r=q at *
 simp [Jg,w1,c];refine ax _ _ (F _) ?_;simp
theorem Cu (r:Nat) (h:r<256):Sp Tryz.prog gl 132 [i6 r,i6 16] (.str (rH r)):=by
 refine K1 rfl rfl ?_;have F:=zH r h;generalize rH r=q at *
 simp [Jb];apply ab F;simp
def qz (r:Nat):List UInt8:=if r=34 then [92,34] else if r=92 then [92,92] else if r=10 then [92,110] else if r=9 then [92,116] else if r<32∨r=127 then [92,117,123]++(rH r++[125]) else []
theorem EF (r:Nat):IL r=if qz r=[] then cK r else qz r:=by
 unfold IL qz;by_cases c1:r=34
 ·simp [c1]
 by_cases c2:r=92
 ·simp [c2]
 by_cases c3:r=10
 ·simp [c3]
 by_cases c4:r=9
 ·simp [c4]
 by_cases c5:r<32∨r=127
 ·rw [if_neg c1,if_neg c2,if_neg c3,if_neg c4,if_pos c5,if_neg c1,if_neg c2,if_neg c3,if_neg c4,if_pos c5,if_neg (by simp)]
 ·rw [if_neg c1,if_neg c2,if_neg c3,if_neg c4,if_neg c5,if_neg c1,if_neg c2,if_neg c3,if_neg c4,if_neg c5,if_pos rfl]
theorem uz (q:Nat) (hq:q≤1114111):Sp Tryz.prog gl 125 [i3 q] (.str (qz q)):=by
 refine Ny rfl rfl ?_;have ne: ∀z:Nat,¬q=z→((q:Int)==(z:Int))=false:=fun z h=>dh.2 (by omega)
 unfold qz;by_cases c1:q=34
 ·subst c1;have e1:(Utf8.encode 34).data.toList=[34]:=by decide+kernel
  have e2:(Utf8.encode 34).size=1:=by decide+kernel
  simp [vu,e1,e2]
 rw [if_neg c1];have d1:((q:Int)==34)=false:=ne 34 c1;by_cases c2:q=92
 ·subst c2;have e1:(Utf8.encode 92).data.toList=[92]:=by decide+kernel
  have e2:(Utf8.encode 92).size=1:=by decide+kernel
  simp [vu,e1,e2]
 rw [if_neg c2];have d2:((q:Int)==92)=false:=ne 92 c2;by_cases c3:q=10
 ·subst c3;simp [vu]
 rw [if_neg c3];have d3:((q:Int)==10)=false:=ne 10 c3;by_cases c4:q=9
 ·subst c4;simp [vu]
 rw [if_neg c4];have d4:((q:Int)==9)=false:=ne 9 c4;by_cases c5:q<32∨q=127
 ·rw [if_pos c5];have FB:=Cu q (by omega);have hxl:=uq q;have w1:IntKind.i64.wrap (q:Int)=q:=by rw [an]<;>omega
  generalize rH q=hx at *
  have m1:3+hx.length≤9223372036854775807:=by omega
  have m2:hx.length≤9223372036854775804:=by omega
  have m3:hx.length+3≤9223372036854775806:=by omega
  have m4:hx.length+1+1+1≤9223372036854775806:=by omega
  have m5:hx.length≤9223372036854775803:=by omega
  rcases c5 with c5|c5
  ·have c5':(q:Int)<32:=by omega
   simp [vu,d1,d2,d3,d4,c1,c2,c3,c4,c5,c5',w1];apply ab FB;simp [m1,m2,m3,m4,m5]
  ·have c5': ¬(q:Int)<32:=by omega
   have c6:((q:Int)==127)=true:=by rw [c5];rfl
   have c7: ¬q<32:=by omega
   simp [vu,d1,d2,d3,d4,c1,c2,c3,c4,c5',c6,c7,w1];apply ab FB;simp [m1,m2,m3,m4,m5]
 ·rw [if_neg c5];have c5': ¬(q:Int)<32:=by omega
  have c6:((q:Int)==127)=false:=ne 127 (by omega);have c7: ¬q<32:=by omega
  have c8: ¬q=127:=by omega
  simp [vu,d1,d2,d3,d4,c1,c2,c3,c4,c5',c6,c7,c8]
theorem LX:fW Tryz.prog 69 69 2:=by unfold fW;kernel_rfl
theorem EG (r:Nat):(qz r).length≤6:=by
 have h:=uq r;unfold qz;repeat' split
 all_goals (simp;try omega)
theorem wN (s:List UInt8) (hl:s.length≤100000) (hg:dQ (ag s 0)=true) (hc:(ag s 0).length≤120):Sp Tryz.prog gl 92 [.str s] (.tup [.str (Dt (ag s 0)),i6 0]):=by
 refine Q5 rfl rfl ?_;have GD:=lz s (by omega);rw [hg] at GD;have CT:=ke s (by omega);have ct': ¬(120:Int)<((ag s 0).length:Int):=by omega
 have h0: ∀r∈ag s 0,0≤r:=fun r hr=>xP (fC.1 hg r hr)
 have hlen:=qK s s.length 0 (by omega);have el:=ml (ag s 0);have quE:Dt (ag s 0)=34::(Ds (ag s 0)++[34]):=rfl;obtain ⟨R,hR⟩: ∃R,R=34::Ds (ag s 0):=⟨_,rfl⟩;have quR:Dt (ag s 0)=R++[34]:=by rw [quE,hR];rfl
 have RL:R.length≤1000:=by rw [hR,dT];omega
 rw [quR];have WR:=fun (d:Nat) (hb:(Id.n 4).isNw d=false) (c0:AV) hc0 (l:List UInt8) (r:Nat) hr h hl=>m8 (d:=d) (b:= .n 4) rfl hb LX (c0:=c0) hc0 [] l r hr h hl
 have WS:=fun (d:Nat) (hb:(Id.n 4).isNw d=false) (l s:List UInt8) hl=>A7 (d:=d) (b:= .n 4) rfl hb (c0:= .ptr (.n 4) 0) (.inr rfl) l s hl
 have ST:=fun (d:Nat) (hb:(Id.n 4).isNw d=false)=>A8 (d:=d) (b:= .n 4) rfl hb (c0:= .ptr (.n 4) 0) (R++[34]) (by simp)
 have e34:cK 34=[34]:=rfl;have bn:ae []=[]:=rfl;have W0:=fun d hd=>WR d hd (.nilT (.n 4) 69 2) (.inl rfl) [] 34 (by left;decide) (by decide) (by decide)
 have W9:=fun d hd=>WR d hd (.ptr (.n 4) 0) (.inr rfl) R 34 (by left;decide) (by decide) (by omega)
 rw [e34] at W0 W9;rw [bO] at W0;simp [Qk];apply ab GD;simp;apply ab CT;simp [ct'];refine aK _ _ (W0 _ rfl) ⟨?_,?_,?_,?_,?_,?_,?_⟩ ?_;iterate 7 (· simp [bn])
 simp;refine bT (α:=Nat×List UInt8) (fun y=>⟨[(4,.ptr (.n 4) 0),(18,.itp 18)],[(.n 4,[.ptr (.n 4) 0,.sl (ae y.2)]),(.it 18,[.itr s y.1])],[(.b (.n 4) 1,bk 5)]⟩)
  (fun y=>y.1≤s.length∧(∀r∈ag s y.1,0≤r)∧y.2++Ds (ag s y.1)=R) (fun y=>s.length - y.1) ?_ (0,[34]) ?_ ?_
 ·rintro K ⟨i,out⟩ hK ⟨h1,h2,h3⟩;simp only at h1 h2 h3;have cl:out.length≤1000:=by
   rw [←h3,cG] at RL;omega
  by_cases g:i<s.length
  ·rw [aQ g] at h2 h3;rw [Ds] at h3;have hr0:0≤(ah s i).1:=h2 _ (by simp);have sr:=cg s i g;have sl:=fN s i g;have sp:=bA s i;have sk:=kI s i;rw [if_neg (by omega)] at sr;have esr:(ah s i)=((ah s i).1,(ah s i).2):=rfl;rw [esr] at sr;have fin:=fun σ' hσ=>hK (i+(ah s i).2,out++IL (ah s i).1.toNat) σ' ⟨sl,fun r hr=>h2 r (by simp [hr]),by simp only;rw [lJ];exact h3⟩ (by simp only;omega) hσ
   obtain ⟨q,hq⟩: ∃q:Nat,(ah s i).1=q:=⟨(ah s i).1.toNat,by omega⟩;rw [hq] at sr sk fin;rw [Int.toNat_natCast,EF] at fin;clear hK esr hr0 h2 h3 hq ST W0 W9 sp sl;generalize (ah s i).2=w at *
   have rv:du (q:Int)∧q≤1114111:=by
    rcases sk with sk|sk
    ·omega
    ·unfold du;omega
   have ES:=uz q rv.2;have W1:=fun d hd=>WS d hd out (qz q) (by have:=EG q;omega)
   have W2:=fun d hd=>WR d hd (.ptr (.n 4) 0) (.inr rfl) out q rv.1 rv.2 (by omega)
   clear WS WR;by_cases c:qz q=[]
   ·rw [if_pos c] at fin;rw [c] at ES;generalize cK q=bs at *
    simp [g,sr];apply ab ES;simp;refine ax _ _ (W2 _ rfl) ?_;simp;refine fin _ ?_;apply am<;>simp
   ·rw [if_neg c] at fin;have c':(qz q).isEmpty=false:=by simpa using c
    generalize qz q=bs at *
    simp [g,sr];apply ab ES;simp [c,c'];refine ax _ _ (W1 _ rfl) ?_;simp;refine fin _ ?_;apply am<;>simp
  ·obtain rfl:i=s.length:=by omega
   rw [aD (by omega),Ds,pc] at h3;subst h3;clear hK W0 WS WR;simp;refine ax _ _ (W9 _ rfl) ?_;simp;refine ax _ _ (ST _ rfl) ?_;simp
 ·exact ⟨jI _,h0,hR.symm⟩
 ·apply am<;>simp
end Go.Ai
