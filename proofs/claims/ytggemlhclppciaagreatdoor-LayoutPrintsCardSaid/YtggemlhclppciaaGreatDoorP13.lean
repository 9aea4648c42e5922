/- P13: a part of the proof. Conditions: as each theorem says. -/
import Derived.Test.YtggemlhclppciaaGreatDoorP12
set_option maxHeartbeats 4000000
set_option linter.unusedSimpArgs false
set_option linter.unusedVariables false
set_option maxRecDepth 20000
namespace Go.Ai
open Go.Proofs
def Nm (b:UInt8):Prop:=aC b=true∨b=46∨b=37∨b∈nB
theorem KH {b:UInt8} (h:Nm b):b.toNat<128:=by
 rcases h with h|rfl|rfl|h
 ·have:=(bC b).1 h
  omega
 ·decide
 ·decide
 ·exact (qZ b h).2.2.2
theorem sK (n:Nat): ∀b∈bg n,Nm b:=fun b hb=> .inl (gE.1 (i8 n) b hb)
theorem wV (m:Nat) (hm:0<m): ∀(f x:Nat),x<10*m→ ∀b∈fO m f x,aC b=true
 |0,x,h,b,hb=>by cases hb
 |f+1,x,h,b,hb=>by
  rw [fO] at hb;split at hb
  ·cases hb
  ·rcases jU.1 hb with rfl|hb
   ·have:x / m≤9:=by
     have:=(Nat.div_lt_iff_lt_mul hm).2 h
     omega
    generalize x / m=y at *
    rw [bC,bj this];omega
   ·have:=Nat.mod_lt x hm
    exact wV m hm f (x%m*10) (by omega) b hb
structure na (t:List UInt8):Prop where
 b: ∀b∈t,Nm b
 f: ∃q r,t=bg q++r
theorem HP (n:Nat):na (bg n):=⟨sK n,n,[],by rw [nA]⟩
theorem KI (n:Nat):na (DW n):=by
 refine ⟨fun b hb=>?_,_,_,rfl⟩;unfold DW at hb;rcases iB.1 hb with hb|hb
 ·exact sK _ b hb
 rcases jU.1 hb with rfl|hb
 ·exact .inr (.inl rfl)
 rcases jU.1 hb with rfl|hb
 ·have:n%1000 / 100≤9:=by omega
  left;rw [bC,bj this];omega
 ·exact .inl (wV 10 (by decide) 2 _ (by omega) b hb)
theorem KJ (p:Nat) (h:p≤1000000):na (AT p):=by
 unfold AT;rw [if_neg (by omega)];refine ⟨fun b hb=>?_,_,_,rfl⟩;rcases iB.1 hb with hb|hb
 ·exact sK _ b hb
 rcases iB.1 hb with hb|hb
 ·split at hb
  ·cases hb
  ·rw [oZ] at hb;exact .inr (.inl hb)
 rcases iB.1 hb with hb|hb
 ·exact .inl (wV 1000 (by decide) 4 _ (by omega) b hb)
 ·rw [oZ] at hb;exact .inr (.inr (.inl hb))
theorem KK (n:Nat):na (pz n):=by
 obtain ⟨h1,q,c,r,h2,h3⟩:=vx n;refine ⟨fun b hb=>?_,q,c::r,h2⟩;rcases h1 b hb with h|h
 ·exact .inl h
 ·exact .inr (.inr (.inr h))
theorem na.lt {t:List UInt8} (h:na t): ∀b∈t,b.toNat<128:=fun b hb=>KH (h.b b hb)
theorem na.runes {t:List UInt8} (h:na t):ai t 0=Gu t:=jJ t h.lt
theorem na.wthn {t:List UInt8} (h:na t): ∀r∈ai t 0,wthn r=true:=by
 rw [h.runes];intro r hr;obtain ⟨b,hb,rfl⟩:=vY.1 hr;exact wU b (h.b b hb)
theorem na.ne {t:List UInt8} (h:na t):ai t 0≠[]:=by
 obtain ⟨q,r,e⟩:=h.f;rw [h.runes,e];unfold Gu;intro g;rw [List.map_eq_nil_iff,List.append_eq_nil_iff] at g;exact lz q g.1
theorem na.rV {t:List UInt8} (h:na t):rV (ai t 0)=Dd t:=by
 obtain ⟨q,r,e⟩:=h.f;rw [h.runes];exact Ni t h.lt q r e
theorem DZ (k:Int) (s:List UInt8) (n:Nat) (hn:n<18446744073709551616) (hk:k=1∨k=3∨k=4∨k=5∨k=6) (h:gZ k s n=true):
  (∀r∈ai (fP k s n) 0,wthn r=true)∧ai (fP k s n) 0≠[]∧rV (ai (fP k s n) 0)= .t k s n:=by
 have num: ∀t,na t→Dd t= .t k s n→fP k s n=t→(∀r∈ai (fP k s n) 0,wthn r=true)∧ai (fP k s n) 0≠[]∧Ai.rV (ai (fP k s n) 0)= .t k s n:=fun t h1 h2 h3=>by
  rw [h3];exact ⟨h1.wthn,h1.ne,by rw [h1.rV,h2]⟩
 rcases hk with rfl|rfl|rfl|rfl|rfl
 ·have e:fP 1 s n=s:=by
   unfold fP;rw [h];rfl
  have h':(du s&&decide (n=0))=true:=h;rw [aE,kO] at h';obtain ⟨h1,rfl⟩:=h';rw [e];exact ⟨vz s h1,KG s h1,KF s h1⟩
 ·have h':(s==[])=true:=h;rw [bP] at h';subst h';exact num (bg n) (HP n) (Ku n hn) (by unfold fP;rw [h];rfl)
 ·have h':(s==[])=true:=h;rw [bP] at h';subst h';exact num (DW n) (KI n) (Nj n hn) (by unfold fP;rw [h];rfl)
 ·have h':((s==[])&&decide (n≤1000000))=true:=h;rw [aE,bP,kO] at h';obtain ⟨rfl,h2⟩:=h';exact num (AT n) (KJ n h2) (Nk n h2) (by unfold fP;rw [h];rfl)
 ·have h':((s==[])&&decide (n≤253402300799))=true:=h;rw [aE,bP,kO] at h';obtain ⟨rfl,h2⟩:=h';exact num (pz n) (KK n) (Nl n h2) (by unfold fP;rw [h];rfl)
def JL (r:Int):List Int:=if r=34 then [92,34] else if r=92 then [92,92] else if r=10 then [92,110] else if r=9 then [92,116] else if r<32∨r=127 then [92,117,123]++(Gu (qk r.toNat)++[125]) else [r]
def q8:List Int→List Int
 |[]=>[]
 |r::l=>JL r++q8 l
theorem B9 (a:Nat) (h:a<16):(gX a).toNat<128:=by
 have: ∀q:Fin 16,(gX q.1).toNat<128:=by decide
 exact this ⟨a,h⟩
theorem wW (a:Nat) (h:a<16):nv ((gX a).toNat:Int)=a:=by
 have: ∀q:Fin 16,nv ((gX q.1).toNat:Int)=q.1:=by decide
 exact this ⟨a,h⟩
theorem HQ (a:Nat) (h:a<128): ∀b∈qk a,b.toNat<128:=by
 intro b hb;unfold qk at hb;split at hb
 ·rw [oZ] at hb;subst hb;exact B9 a (by omega)
 ·rw [jU,oZ] at hb;rcases hb with rfl|rfl
  ·exact B9 _ (by omega)
  ·exact B9 _ (by omega)
theorem Nn (r:Int) (h:0≤r):JK r.toNat=au (JL r):=by
 unfold JK JL;by_cases c1:r=34
 ·subst c1;rfl
 rw [if_neg c1,if_neg (by omega)];by_cases c2:r=92
 ·subst c2;rfl
 rw [if_neg c2,if_neg (by omega)];by_cases c3:r=10
 ·subst c3;rfl
 rw [if_neg c3,if_neg (by omega)];by_cases c4:r=9
 ·subst c4;rfl
 rw [if_neg c4,if_neg (by omega)];by_cases c5:r<32∨r=127
 ·rw [if_pos c5,if_pos (by omega),di,di,lR _ (HQ _ (by omega))];rfl
 ·rw [if_neg c5,if_neg (by omega),au,au,nA];unfold jn;rw [if_neg (by omega)]
theorem HT: ∀l:List Int,(∀r∈l,0≤r)→zA l=au (q8 l)
 |[],h=>rfl
 |r::l,h=>by rw [zA,q8,di,Nn r (h r (by simp)),HT l fun x hx=>h x (by simp [hx])]
theorem No (r:Int): ∀x∈JL r,x=r∨(0≤x∧x<128):=by
 intro x hx;unfold JL at hx;split at hx
 ·simp at hx;omega
 split at hx
 ·simp at hx;omega
 split at hx
 ·simp at hx;omega
 split at hx
 ·simp at hx;omega
 split at hx
 ·rename_i h;rcases iB.1 hx with hx|hx
  ·simp at hx;omega
  rcases iB.1 hx with hx|hx
  ·obtain ⟨b,hb,rfl⟩:=vY.1 hx
   have:=HQ _ (by omega) b hb
   omega
  ·simp at hx;omega
 ·simp at hx;omega
theorem wX: ∀(l:List Int) (x:Int),x∈q8 l→x∈l∨(0≤x∧x<128)
 |[],x,h=>by cases h
 |r::l,x,h=>by
  rw [q8,iB] at h;rcases h with h|h
  ·rcases No r x h with rfl|h
   ·exact .inl (by simp)
   ·exact .inr h
  ·rcases wX l x h with h|h
   ·exact .inl (by simp [h])
   ·exact .inr h
theorem zE (l:List Int) (h: ∀r∈l,0≤r):AU l=au (34::(q8 l++[34])):=by
 rw [au,di,←HT l h];rfl
theorem pB (l:List Int) (h: ∀r∈l,0≤r) (hk: ∀r∈l,ug r):ai (AU l) 0=34::(q8 l++[34]):=by
 rw [zE l h];refine dS _ fun r hr=>?_
 rw [jU,iB,oZ] at hr;rcases hr with rfl|hr|rfl
 ·right;omega
 ·rcases wX l r hr with h|h
  ·exact hk r h
  ·right;omega
 ·right;omega
theorem fX {x y:Rd} {r:Int} (l:List Int) (h:fj x r=(y,true)):eD x (r::l)=eD y l:=by
 rw [eD,h];rfl
theorem V8 (o:List Int) (n c:Nat):fj ⟨o,0,n,c⟩ 92=(⟨o,1,n,c⟩,true):=rfl
theorem Uj (o:List Int) (n c:Nat):fj ⟨o,1,n,c⟩ 117=(⟨o,2,n,c⟩,true):=rfl
theorem Uk (o:List Int) (n c:Nat):fj ⟨o,2,n,c⟩ 123=(⟨o,3,0,0⟩,true):=rfl
theorem Ul (o:List Int) (n c d:Nat) {r:Int} (h:nv r=d) (hc:c<6):fj ⟨o,3,n,c⟩ r=(⟨o,3,16*n+d,c+1⟩,true):=by
 show fv ⟨o,3,n,c⟩ r=_;unfold fv;rw [if_pos ⟨by omega,hc⟩,h];rfl
theorem Va (o:List Int) (n c:Nat) (hc:c≠0) (hn:n<128):fj ⟨o,3,n,c⟩ 125=(⟨o++[(n:Int)],0,n,c⟩,true):=by
 show fv ⟨o,3,n,c⟩ 125=_;unfold fv
 have:jp (n:Int)=true:=by
  unfold jp;rw [EE,kO];left;omega
 rw [if_neg (by rintro ⟨h,_⟩;exact absurd h (by decide)),if_neg];rintro (h|h|h)
 ·exact h rfl
 ·exact hc h
 ·rw [this] at h;cases h
theorem HY (o:List Int) (n c:Nat) (r:Int) (h:0≤r) (t:List Int): ∃n' c',eD ⟨o,0,n,c⟩ (JL r++t)=eD ⟨o++[r],0,n',c'⟩ t:=by
 unfold JL;by_cases c1:r=34
 ·subst c1;exact ⟨n,c,rfl⟩
 rw [if_neg c1];by_cases c2:r=92
 ·subst c2;exact ⟨n,c,rfl⟩
 rw [if_neg c2];by_cases c3:r=10
 ·subst c3;exact ⟨n,c,rfl⟩
 rw [if_neg c3];by_cases c4:r=9
 ·subst c4;exact ⟨n,c,rfl⟩
 rw [if_neg c4];by_cases c5:r<32∨r=127
 ·rw [if_pos c5];obtain ⟨a,rfl⟩: ∃a:Nat,r=a:=⟨r.toNat,by omega⟩;rw [Int.toNat_natCast,jq,jq];show ∃n' c',eD ⟨o,0,n,c⟩ (92::117::123::(Gu (qk a)++(125::t)))=_;rw [fX _ (V8 o n c),fX _ (Uj o n c),fX _ (Uk o n c)];unfold qk;by_cases c6:a<16
  ·rw [if_pos c6];refine ⟨16*0+a,0+1,?_⟩;show eD ⟨o,3,0,0⟩ (((gX a).toNat:Int)::125::t)=_;rw [fX _ (Ul o 0 0 a (wW a c6) (by decide)),fX _ (Va o _ _ (by decide) (by omega)),Nat.mul_zero,mM]
  ·rw [if_neg c6];refine ⟨16*(16*0+a / 16)+a%16,0+1+1,?_⟩;show eD ⟨o,3,0,0⟩ (((gX (a / 16)).toNat:Int)::((gX (a%16)).toNat:Int)::125::t)=_;rw [fX _ (Ul o 0 0 (a / 16) (wW _ (by omega)) (by decide)),fX _ (Ul o _ _ (a%16) (wW _ (by omega)) (by decide)),fX _ (Va o _ _ (by decide) (by omega))];have e:16*(16*0+a / 16)+a%16=a:=by omega
   rw [e]
 ·rw [if_neg c5];refine ⟨n,c,?_⟩;show eD _ (r::t)=_;refine fX _ ?_;show (if r=34 then _ else if r=92 then _ else if r<32∨r=127 then _ else _)=_;rw [if_neg c1,if_neg c2,if_neg c5]
theorem vA: ∀(l o:List Int) (n c:Nat) (t:List Int),(∀r∈l,0≤r)→ ∃n' c',eD ⟨o,0,n,c⟩ (q8 l++t)=eD ⟨o++l,0,n',c'⟩ t
 |[],o,n,c,t,h=>⟨n,c,by rw [nA];rfl⟩
 |r::l,o,n,c,t,h=>by
  obtain ⟨n1,c1,e1⟩:=HY o n c r (h r (by simp)) (q8 l++t);obtain ⟨n2,c2,e2⟩:=vA l (o++[r]) n1 c1 t (fun x hx=>h x (by simp [hx]));refine ⟨n2,c2,?_⟩;rw [q8,jq,e1,e2,jq];rfl
theorem HZ (l:List Int) (h: ∀r∈l,0≤r) (hl:l.length≤120):BW (34::(q8 l++[34]))=(au l,0):=by
 obtain ⟨n,c,e⟩:=vA l [] 0 0 [34] h;have e':eD LZ (q8 l++[34])=(⟨l,4,n,c⟩,true):=by
  show eD ⟨[],0,0,0⟩ _=_;rw [e];rfl
 have g:dJ (34::(q8 l++[34]))=true:=by
  unfold dJ;rw [gE];intro r hr;rw [kO];rw [jU,iB,oZ] at hr;rcases hr with rfl|hr|rfl
  ·decide
  ·rcases wX l r hr with h'|h'
   ·exact h r h'
   ·exact h'.1
  ·decide
 unfold BW;rw [if_neg,List.tail_cons,e',if_neg (show ¬(true=false) by decide),if_neg (by show ¬((4:Int)≠4);decide),if_neg (by show ¬120<l.length;omega)];rintro (h|h)
 ·rw [g] at h;cases h
 ·exact h rfl
theorem dh {l t:List Int} {j:Nat} {r:Int} (h:l.drop j=r::t): ∃g:j<l.length,l[j]=r∧l.drop (j+1)=t:=by
 have g:j<l.length:=by
  have:=congrArg List.length h
  rw [uk,em] at this;omega
 rw [oU g] at h;injection h with h1 h2;exact ⟨g,h1,h2⟩
theorem jK {l p t:List Int} {j:Nat} (h:l.drop j=p++t):l.drop (j+p.length)=t:=by
 rw [←List.drop_drop,h,List.drop_left]
theorem pC: ∀(p t l:List Int) (j:Nat),l.drop j=p++t→(∀x∈p,x≠10∧x≠34∧x≠92)→nk l j=nk l (j+p.length)
 |[],t,l,j,h,hp=>rfl
 |x::p,t,l,j,h,hp=>by
  obtain ⟨g,e,h'⟩:=dh h;obtain ⟨h1,h2,h3⟩:=hp x (by simp);rw [tJ g,e,if_neg h1,if_neg h2,if_neg h3,pC p t l (j+1) h' (fun y hy=>hp y (by simp [hy])),em];congr 1
  omega
theorem oh {l t:List Int} {j:Nat} {x:Int} (h:l.drop j=92::x::t) (hx:x≠10):nk l j=nk l (j+2):=by
 obtain ⟨g,e,h'⟩:=dh h;obtain ⟨g2,e2,_⟩:=dh h';rw [tJ g,e,if_neg (by decide),if_neg (by decide),if_pos rfl,if_neg];rw [rG g2,e2];intro h;injection h with h;exact hx h
theorem Ca (a:Nat) (h:a<16):((gX a).toNat:Int)≠10∧((gX a).toNat:Int)≠34∧((gX a).toNat:Int)≠92:=by
 have: ∀q:Fin 16,((gX q.1).toNat:Int)≠10∧((gX q.1).toNat:Int)≠34∧((gX q.1).toNat:Int)≠92:=by decide
 exact this ⟨a,h⟩
theorem Np (a:Nat) (h:a<128): ∀x∈Gu (qk a),x≠10∧x≠34∧x≠92:=by
 intro x hx;obtain ⟨b,hb,rfl⟩:=vY.1 hx;unfold qk at hb;split at hb
 ·rw [oZ] at hb;subst hb;exact Ca a (by omega)
 ·rw [jU,oZ] at hb;rcases hb with rfl|rfl
  ·exact Ca _ (by omega)
  ·exact Ca _ (by omega)
theorem Nq (r:Int) (h0:0≤r) (t l:List Int) (j:Nat) (h:l.drop j=JL r++t):nk l j=nk l (j+(JL r).length):=by
 unfold JL at h ⊢;by_cases c1:r=34
 ·rw [if_pos c1] at h ⊢;exact oh h (by decide)
 rw [if_neg c1] at h ⊢;by_cases c2:r=92
 ·rw [if_pos c2] at h ⊢;exact oh h (by decide)
 rw [if_neg c2] at h ⊢;by_cases c3:r=10
 ·rw [if_pos c3] at h ⊢;exact oh h (by decide)
 rw [if_neg c3] at h ⊢;by_cases c4:r=9
 ·rw [if_pos c4] at h ⊢;exact oh h (by decide)
 rw [if_neg c4] at h ⊢;by_cases c5:r<32∨r=127
 ·rw [if_pos c5] at h ⊢;rw [jq] at h;have h':l.drop j=92::117::(123::(Gu (qk r.toNat)++[125])++t):=h;rw [oh h' (by decide)];have h2:l.drop (j+2)=(123::(Gu (qk r.toNat)++[125]))++t:=jK (p:=[92,117]) h';rw [pC _ t l (j+2) h2]
  ·congr 1
   simp only [cG,em,vZ];omega
  ·intro x hx;rw [jU,iB,oZ] at hx;rcases hx with rfl|hx|rfl
   ·decide
   ·exact Np _ (by omega) x hx
   ·decide
 ·rw [if_neg c5] at h ⊢;refine pC [r] t l j h fun x hx=>?_
  rw [oZ] at hx;subst hx;exact ⟨c3,c1,c2⟩
theorem D2: ∀(m t l:List Int) (j:Nat),(∀r∈m,0≤r)→l.drop j=q8 m++t→nk l j=nk l (j+(q8 m).length)
 |[],t,l,j,h0,h=>rfl
 |r::m,t,l,j,h0,h=>by
  rw [q8,jq] at h;have h2:=jK h;rw [Nq r (h0 r (by simp)) _ l j h,D2 m t l _ (fun x hx=>h0 x (by simp [hx])) h2,q8,cG];congr 1
  omega
theorem Fk (m t l:List Int) (j:Nat) (h0: ∀r∈m,0≤r) (h:l.drop j=q8 m++34::t):nk l j=j+(q8 m).length+1:=by
 rw [D2 m _ l j h0 h];obtain ⟨g,e,_⟩:=dh (jK h);rw [tJ g,e,if_neg (by decide),if_pos rfl]
theorem vB {l p t:List Int} {j:Nat} (h:l.drop j=p++t):dw l j (j+p.length)=p:=by
 unfold dw;rw [List.drop_take,Nat.add_sub_cancel_left,h,List.take_left]
theorem Cb (VR:List Int→TV) (m t l:List Int) (j:Nat) (h0: ∀r∈m,0≤r) (hk: ∀r∈m,ug r) (hm:m.length≤120) (h:l.drop j=(34::(q8 m++[34]))++t):
  dB VR sU l j 34=⟨2,au m,0,j+(34::(q8 m++[34])).length,0⟩:=by
 have h1:l.drop (j+1)=q8 m++34::t:=by
  have:=jK (p:=[34]) (t:=q8 m++34::t) (by rw [h];simp)
  exact this
 have q:=Fk m t l (j+1) h0 h1;have hs:=vB h;have en:j+(34::(q8 m++[34])).length=nk l (j+1):=by
  rw [q];simp only [cG,em,vZ];omega
 rw [en] at hs;have hr:=pB m h0 hk;rw [zE m h0] at hr;unfold dB;rw [if_neg (by decide),if_neg (by decide),if_neg (by decide),if_pos rfl,if_neg (by rw [q];omega),hs];unfold sU;rw [hr,HZ m h0 hm,en]
theorem D3 {l t:List Int} {j:Nat} {r:Int} (h:l.drop j=r::t):l[j]?=some r:=by
 obtain ⟨g,e,_⟩:=dh h;rw [rG g,e]
theorem zF (VR:List Int→TV) (U:List UInt8→List UInt8×Int) (l:List Int) (P:List (Int×Int)) (f j:Nat) (out:List Tk) {r:Int} {t:List Int} (h:l.drop j=r::t) (hr:r=32∨r=9∨r=10):
  bL VR U l P (f+1) j out=bL VR U l P f (j+1) out:=by
 rw [bL,D3 h];dsimp only;rw [if_pos hr]
theorem sL: ∀(p t l:List Int) (j:Nat),l.drop j=p++t→(∀x∈p,wthn x=true)→(∀x∈t.head?,wthn x=false)→hY l j=j+p.length
 |[],t,l,j,h,hp,ht=>by
  cases t with
  |nil=>
   rw [nA,List.drop_eq_nil_iff] at h;rw [iN (by omega)];rfl
  |cons x t=>
   obtain ⟨g,e,_⟩:=dh h;rw [kx g,e,if_neg (by rw [ht x rfl];decide)];rfl
 |x::p,t,l,j,h,hp,ht=>by
  obtain ⟨g,e,h'⟩:=dh h;rw [kx g,e,if_pos (hp x (by simp)),sL p t l (j+1) h' (fun y hy=>hp y (by simp [hy])) ht,em];omega
theorem pD (VR:List Int→TV) (U:List UInt8→List UInt8×Int) (l:List Int) (P:List (Int×Int)) (f j:Nat) (out:List Tk) {r:Int} {t:List Int} {k:Int} {w:List UInt8} {n e:Nat} (h:l.drop j=r::t) (hr:r≠32∧r≠9∧r≠10∧r≠35) (ho:dB VR U l j r=⟨k,w,n,e,0⟩):
  bL VR U l P (f+1) j out=bL VR U l P f e (out++[⟨k,w,n,(P.getD j (0,0)).1,(P.getD j (0,0)).2⟩]):=by
 rw [bL,D3 h];dsimp only;rw [if_neg (by rintro (h|h|h);exact hr.1 h;exact hr.2.1 h;exact hr.2.2.1 h),if_neg hr.2.2.2,ho,if_pos rfl]
theorem Fl (VR:List Int→TV) (U:List UInt8→List UInt8×Int) (l:List Int) (j:Nat) {r:Int} {p t:List Int} {k:Int} {w:List UInt8} {n:Nat} (h:l.drop j=(r::p)++t) (hp: ∀x∈r::p,wthn x=true) (ht: ∀x∈t.head?,wthn x=false) (hv:VR (r::p)= .t k w n):
  dB VR U l j r=⟨k,w,n,j+(r::p).length,0⟩:=by
 have hw:=hp r (by simp);have hne: ∀z:Int,wthn z=false→r≠z:=fun z hz e=>by rw [←e,hw] at hz;cases hz
 unfold dB;rw [if_neg (hne 123 rfl),if_neg (hne 125 rfl),if_neg (hne 59 rfl),if_neg (hne 34 rfl),if_pos hw,sL (r::p) t l j h hp ht,vB h,hv];rfl
theorem jL (s:List UInt8) (n:Nat) (h:gZ 2 s n=true):fP 2 s n=AU (ai s 0)∧n=0∧dJ (ai s 0)=true∧(ai s 0).length≤120:=by
 have h':(dJ (ai s 0)&&(decide ((ai s 0).length≤120)&&decide (n=0)))=true:=h;rw [aE,aE,kO,kO] at h';refine ⟨?_,h'.2.2,h'.1,h'.2.1⟩;unfold fP;rw [h];rfl
theorem Fm (l:List Int) (P:List (Int×Int)) (f j:Nat) (out:List Tk) (k:Int) (s:List UInt8) (n:Nat) (t:List Int) (hk:1≤k∧k≤9) (hn:n<18446744073709551616) (hR:gZ k s n=true)
  (h:l.drop j=ai (fP k s n) 0++t) (ht: ∀x∈t.head?,wthn x=false):
  bL rV sU l P (f+1) j out=bL rV sU l P f (j+(ai (fP k s n) 0).length) (out++[⟨k,s,n,(P.getD j (0,0)).1,(P.getD j (0,0)).2⟩]):=by
 have brace: ∀(c:UInt8),fP k s n=[c]→s=[]→n=0→((c.toNat:Int)≠32∧(c.toNat:Int)≠9∧(c.toNat:Int)≠10∧(c.toNat:Int)≠35)→c.toNat<128→dB rV sU l j (c.toNat:Int)=⟨k,[],0,j+1,0⟩→
   bL rV sU l P (f+1) j out=bL rV sU l P f (j+(ai (fP k s n) 0).length) (out++[⟨k,s,n,(P.getD j (0,0)).1,(P.getD j (0,0)).2⟩]):=by
  intro c e hs hn hc hlt ho;have er:ai (fP k s n) 0=[(c.toNat:Int)]:=by
   rw [e,jJ [c] (by simpa using hlt)];rfl
  rw [er] at h ⊢;rw [hs,hn];exact pD rV sU l P f j out h hc ho
 by_cases kw:k=1∨k=3∨k=4∨k=5∨k=6
 ·obtain ⟨h1,h2,h3⟩:=DZ k s n hn kw hR;generalize ai (fP k s n) 0=p at *
  cases p with
  |nil=>exact absurd rfl h2
  |cons r p=>
   have hw:=h1 r (by simp);have hne: ∀z:Int,wthn z=false→r≠z:=fun z hz e=>by rw [←e,hw] at hz;cases hz
   exact pD rV sU l P f j out h ⟨hne 32 rfl,hne 9 rfl,hne 10 rfl,hne 35 rfl⟩ (Fl rV sU l j h h1 ht h3)
 have kc:k=2∨k=7∨k=8∨k=9:=by omega
 rcases kc with rfl|rfl|rfl|rfl
 ·obtain ⟨e,hz,hg,hl⟩:=jL s n hR;subst hz;have h0: ∀r∈ai s 0,0≤r:=fun r hr=>AO (gE.1 hg r hr)
  have hk: ∀r∈ai s 0,ug r:=fun r hr=>fE s s.length 0 (by omega) r hr
  have tx:=lr s (fun r hr=>by have:=h0 r hr;omega);rw [e,pB _ h0 hk] at h ⊢;have o:=Cb rV (ai s 0) t l j h0 hk hl h;rw [tx] at o;exact pD rV sU l P f j out h (by decide) o
 ·have h':((s==[])&&decide (n=0))=true:=hR;rw [aE,bP,kO] at h';exact brace 123 (by unfold fP;rw [hR];rfl) h'.1 h'.2 (by decide) (by decide) rfl
 ·have h':((s==[])&&decide (n=0))=true:=hR;rw [aE,bP,kO] at h';exact brace 125 (by unfold fP;rw [hR];rfl) h'.1 h'.2 (by decide) (by decide) rfl
 ·have h':((s==[])&&decide (n=0))=true:=hR;rw [aE,bP,kO] at h';exact brace 59 (by unfold fP;rw [hR];rfl) h'.1 h'.2 (by decide) (by decide) rfl
def iK (l:List Int) (P:List (Int×Int)) (j e:Nat) (out out':List Tk):Prop:= ∀f,l.length - j<f→ ∃f',l.length - e<f'∧bL rV sU l P f j out=bL rV sU l P f' e out'
theorem iK.refl (l:List Int) (P:List (Int×Int)) (j:Nat) (out:List Tk):iK l P j j out out:=fun f h=>⟨f,h,rfl⟩
theorem iK.trans {l:List Int} {P:List (Int×Int)} {j e g:Nat} {o1 o2 o3:List Tk} (h1:iK l P j e o1 o2) (h2:iK l P e g o2 o3):iK l P j g o1 o3:=fun f h=>by
 obtain ⟨f1,a1,b1⟩:=h1 f h;obtain ⟨f2,a2,b2⟩:=h2 f1 a1;exact ⟨f2,a2,b1.trans b2⟩
theorem iK.one {l:List Int} {P:List (Int×Int)} {j e:Nat} {o1 o2:List Tk} (hj:j<l.length) (he:j<e) (h: ∀f,bL rV sU l P (f+1) j o1=bL rV sU l P f e o2):iK l P j e o1 o2:=fun f hf=>by
 cases f with
 |zero=>omega
 |succ f=>exact ⟨f,by omega,h f⟩
theorem iK.blank {l:List Int} {P:List (Int×Int)} {j:Nat} {out:List Tk} {r:Int} {t:List Int} (h:l.drop j=r::t) (hr:r=32∨r=9∨r=10):iK l P j (j+1) out out:=
 .one (dh h).1 (by omega) fun f=>zF rV sU l P f j out h hr
theorem iK.tok {l:List Int} {P:List (Int×Int)} {j:Nat} {out:List Tk} (k:Int) (s:List UInt8) (n:Nat) (t:List Int) (hk:1≤k∧k≤9) (hn:n<18446744073709551616) (hR:gZ k s n=true)
  (h:l.drop j=ai (fP k s n) 0++t) (ht: ∀x∈t.head?,wthn x=false) (h0:ai (fP k s n) 0≠[]):
  iK l P j (j+(ai (fP k s n) 0).length) out (out++[⟨k,s,n,(P.getD j (0,0)).1,(P.getD j (0,0)).2⟩]):=by
 have hp:=xO.2 h0;refine .one ?_ (by omega) fun f=>Fm l P f j out k s n t hk hn hR h ht
 have:=congrArg List.length h
 rw [uk,cG] at this;omega
def gk (gs:List UInt8) (i:Nat):Nat:=if gs=[] then 0 else (gs.getD (i%gs.length) 0).toNat
structure Cc (x:Tk):Prop where
 k:1≤x.k∧x.k≤9
 n:x.n<18446744073709551616
 r:gZ x.k x.t x.n=true
theorem zG (c:UInt8) (h:c.toNat<128):ai [c] 0=[(c.toNat:Int)]:=by
 rw [jJ [c] (by simpa using h)];rfl
theorem vC {k:Int} {s:List UInt8} {n:Nat} (hk:1≤k∧k≤9) (hn:n<18446744073709551616) (h:gZ k s n=true):ai (fP k s n) 0≠[]∧ ∀r∈ai (fP k s n) 0,r≠ -1:=by
 by_cases kw:k=1∨k=3∨k=4∨k=5∨k=6
 ·obtain ⟨h1,h2,h3⟩:=DZ k s n hn kw h;exact ⟨h2,fun r hr=>(oa (h1 r hr)).2⟩
 have br: ∀c:UInt8,c.toNat<128→fP k s n=[c]→ai (fP k s n) 0≠[]∧ ∀r∈ai (fP k s n) 0,r≠ -1:=fun c hc e=>by
  rw [e,zG c hc];refine ⟨by simp,fun r hr=>?_⟩;rw [oZ] at hr;omega
 have kc:k=2∨k=7∨k=8∨k=9:=by omega
 rcases kc with rfl|rfl|rfl|rfl
 ·obtain ⟨e,hz,hg,hl⟩:=jL s n h;have h0: ∀r∈ai s 0,0≤r:=fun r hr=>AO (gE.1 hg r hr)
  have hk: ∀r∈ai s 0,ug r:=fun r hr=>fE s s.length 0 (by omega) r hr
  rw [e,pB _ h0 hk];refine ⟨by simp,fun r hr=>?_⟩;rw [jU,iB,oZ] at hr;rcases hr with rfl|hr|rfl
  ·decide
  ·rcases wX _ r hr with h'|h'
   ·have:=h0 r h'
    omega
   ·omega
  ·decide
 ·exact br 123 (by decide) (by unfold fP;rw [h];rfl)
 ·exact br 125 (by decide) (by unfold fP;rw [h];rfl)
 ·exact br 59 (by decide) (by unfold fP;rw [h];rfl)
def Tk.says (x:Tk):Int×List UInt8×Nat:=(x.k,x.t,x.n)
theorem pE (n:Nat) (h:n<18446744073709551616):(bg n).length≤20:=cP 19 n (by omega)
theorem re (m:Nat): ∀(f x:Nat),(fO m f x).length≤f
 |0,x=>eI 0
 |f+1,x=>by
  rw [fO];split
  ·exact iA _
  ·rw [em]
   have:=re m f (x%m*10)
   omega
theorem KL (x:Tk) (h:Cc x) (hl:x.t.length≤500):(fP x.k x.t x.n).length≤800:=by
 obtain ⟨k,s,n,ln,co⟩:=x;obtain ⟨hk,hn,hr⟩:=h;dsimp only at *
 unfold fP;rw [hr,if_neg (by decide)];by_cases c1:k=1
 ·rw [if_pos c1];omega
 rw [if_neg c1];by_cases c2:k=2
 ·rw [if_pos c2];subst c2;obtain ⟨_,_,_,h3⟩:=jL s n hr
  have:=lQ (ai s 0)
  unfold AU;rw [em,cG,uc];omega
 rw [if_neg c2];by_cases c3:k=3
 ·rw [if_pos c3]
  have:=pE n hn
  omega
 rw [if_neg c3];by_cases c4:k=4
 ·rw [if_pos c4];unfold DW;have h1:=pE (n / 1000) (by omega);have h2:=re 10 2 (n%1000%100);rw [cG,em,em];omega
 rw [if_neg c4];by_cases c5:k=5
 ·rw [if_pos c5];unfold AT;have h1:=pE (n / 10000) (by omega);have h2:=re 1000 4 (n%10000);split
  ·simp
  ·rw [cG,cG,cG,uc];split
   ·rw [vZ];omega
   ·rw [uc];omega
 rw [if_neg c5];by_cases c6:k=6
 ·rw [if_pos c6];subst c6;have h':((s==[])&&decide (n≤253402300799))=true:=hr;rw [aE,kO] at h';unfold pz;split
  ·simp
  ·have:=oe kE n h'.2
   have e:kE.length=5:=rfl;omega
 rw [if_neg c6];repeat' split
 all_goals simp
open Go.Shelf
theorem pF (n:Nat) (h:n<18446744073709551616):Sp Tryz.prog gl 93 [u n,i6 10] (.str (bg n)):=by
 have F:=IN n h;rw [oF] at F;exact F
theorem uC (p:Nat):Sp Tryz.prog gl 128 [.int .u32 p] (.bool (decide (p≤1000000))):=by
 refine Rq rfl rfl ?_;by_cases c:p≤1000000
 ·have c':(p:Int)≤1000000:=by omega
  simp [Mi,c,c']
 ·have c': ¬(p:Int)≤1000000:=by omega
  simp [Mi,c,c']
theorem D4 (b:Nat):(Nh b).length=4:=rfl
theorem D5 (b:Nat):(HJ b).length=3:=rfl
theorem zH (p:Nat) (hp:p≤1000000):Sp Tryz.prog gl 95 [.int .u32 p] (.str (AT p)):=by
 refine VZ rfl rfl ?_;have RG:=uC p;rw [io hp] at RG;unfold AT;rw [if_neg (by omega)];have I1:=vM (p / 10000) (by omega);have w1:IntKind.u32.wrap ((p:Int) / 10000)=((p / 10000:Nat):Int):=by rw [cJ]<;>omega
 have w2:IntKind.i64.wrap ((p / 10000:Nat):Int)=((p / 10000:Nat):Int):=by rw [aj]<;>omega
 have w3:(p:Int).tmod 10000=((p%10000:Nat):Int):=rfl;have w4:IntKind.u32.wrap ((p%10000:Nat):Int)=((p%10000:Nat):Int):=by rw [cJ]<;>omega
 have w7:(p:Int).tdiv 10000=((p / 10000:Nat):Int):=rfl;have w8:IntKind.u32.wrap ((p / 10000:Nat):Int)=((p / 10000:Nat):Int):=by rw [cJ]<;>omega
 have w9:IntKind.u32.wrap ((p:Int)%10000)=((p%10000:Nat):Int):=by rw [cJ]<;>omega
 have hdl:(bg (p / 10000)).length≤20:=cP 19 _ (by omega);have bq:p%10000<10000:=Nat.mod_lt _ (by decide);by_cases c0:p%10000=0
 ·rw [if_pos c0,c0];rw [c0] at w3 w4 w9;rw [show fO 1000 4 0=[] from rfl];generalize bg (p / 10000)=hd at *
  generalize p / 10000=z at *
  have l1:hd.length≤9223372036854775806:=by omega
  simp [Ra];apply ab RG;simp [w1,w2,w3,w4,w7,w8,w9];apply ab I1;simp [w1,w2,w3,w4,w7,w8,w9,l1]
 ·rw [if_neg c0];have I2:=vM (10000+p%10000) (by omega);rw [Ks _ bq] at I2;have TR:=sH (Nh (p%10000)) (by rw [D4];decide);rw [Pz _ bq] at TR;have fl:=re 1000 4 (p%10000);have w5:IntKind.u32.wrap (10000+((p%10000:Nat):Int))=((10000+p%10000:Nat):Int):=by rw [cJ]<;>omega
  have w6:IntKind.i64.wrap ((10000+p%10000:Nat):Int)=((10000+p%10000:Nat):Int):=by rw [aj]<;>omega
  have c1:(0:Int)<((p%10000:Nat):Int):=by omega
  have c2:0<p%10000:=by omega
  have dl:=D4 (p%10000);generalize bg (p / 10000)=hd at *
  generalize p / 10000=z at *
  generalize Nh (p%10000)=D at *
  generalize fO 1000 4 (p%10000)=T at *
  generalize 10000+p%10000=y at *
  generalize p%10000=b at *
  have l1:hd.length≤9223372036854775806:=by omega
  have l2:T.length+1≤9223372036854775807:=by omega
  have l3:hd.length+(T.length+1)≤9223372036854775807:=by omega
  have l4:hd.length+(T.length+1)≤9223372036854775806:=by omega
  have l5:T.length≤9223372036854775806:=by omega
  have l7:1+T.length≤9223372036854775807:=by omega
  have l6:List.take 4 D=D:=by rw [←dl,qJ]
  simp [Ra];apply ab RG;simp [w1,w2,w3,w4,w7,w8,w9];apply ab I1;simp [w1,w2,w3,w4,w7,w8,w9,c1,c2,w5,w6];apply ab I2;simp [dl,l6];apply ab TR;simp [l1,l2,l3,l4,l5,l7]
theorem Cd (n:Nat) (hn:n<18446744073709551616):Sp Tryz.prog gl 94 [u n] (.str (DW n)):=by
 refine VY rfl rfl ?_;unfold DW;have bq:n%1000<1000:=Nat.mod_lt _ (by decide);have F1:=pF (1000+n%1000) (by omega);have F2:=pF (n / 1000) (by omega);rw [Kt _ bq] at F1;have TR:=sH (HJ (n%1000)) (by rw [D5];decide);have t3:=Py _ bq;have w1:(n:Int).tmod 1000=((n%1000:Nat):Int):=rfl;have w2:IntKind.u64.wrap ((n%1000:Nat):Int)=((n%1000:Nat):Int):=by rw [a6]<;>omega
 have w3:IntKind.u64.wrap (1000+((n%1000:Nat):Int))=((1000+n%1000:Nat):Int):=by rw [a6]<;>omega
 have w4:IntKind.u64.wrap ((n:Int) / 1000)=((n / 1000:Nat):Int):=by rw [a6]<;>omega
 have w5:(n:Int).tdiv 1000=((n / 1000:Nat):Int):=rfl;have w6:IntKind.u64.wrap ((n / 1000:Nat):Int)=((n / 1000:Nat):Int):=by rw [a6]<;>omega
 have w7:IntKind.u64.wrap ((n:Int)%1000)=((n%1000:Nat):Int):=by rw [a6]<;>omega
 have hdl:(bg (n / 1000)).length≤20:=cP 19 _ (by omega);have dl:=D5 (n%1000);rw [←t3];have tl:(Lib.trimRightS (HJ (n%1000)) [48]).length≤3:=by
  unfold Lib.trimRightS;rw [List.length_reverse];refine qT (List.Sublist.length_le (List.dropWhile_sublist _)) ?_;rw [List.length_reverse,dl];decide
 clear t3;generalize bg (n / 1000)=hd at *
 generalize Lib.trimRightS (HJ (n%1000)) [48]=T at *
 generalize HJ (n%1000)=D at *
 generalize n / 1000=z at *
 generalize 1000+n%1000=y at *
 generalize n%1000=b at *
 have l1:hd.length≤9223372036854775806:=by omega
 have l3:hd.length+(T.length+1)≤9223372036854775807:=by omega
 have l4:hd.length+1+T.length≤9223372036854775807:=by omega
 have l5:hd.length≤9223372036854775805:=by omega
 have l6:List.take 3 D=D:=by rw [←dl,qJ]
 by_cases c:T=[]
 ·rw [if_pos c];have c':(T==[])=true:=by rw [c];rfl
  subst c;simp [Q9,w1,w2,w3,w7];apply ab F1;simp [dl,l6];apply ab TR;simp [w4,w5,w6];apply ab F2;simp [l1,l5]
 ·rw [if_neg c];have c':(T==[])=false:=by simpa using c
  simp [Q9,w1,w2,w3,w7];apply ab F1;simp [dl,l6];apply ab TR;simp [w4,w5,w6,c,c'];apply ab F2;simp [l1,l3,l4,l5]
theorem Fn:Sp Tryz.prog gl 202 [i6 16] (.bool true):=by
 refine Sg rfl rfl ?_;have t1:IntKind.i64.wrap 15=15:=by decide
 have t2:bits .and .i64 16 15=0:=by decide
 simp [OX,t1,t2]
theorem Fo:Sp Tryz.prog gl 225 [u 16] (i6 4):=by
 refine Ss rfl rfl ?_;have t1:IntKind.u64.wrap (-16)=18446744073709551600:=by decide
 have t2:bits .and .u64 16 18446744073709551600=16:=by decide
 have t3:(IntKind.u64.wrap 4573923408821661840).fdiv (2^min 58 IntKind.u64.bits)=15:=by decide
 have t4:IntKind.i64.wrap 4=4:=by decide
 simp [O4,t1,t2,t3,t4]
theorem KM:Sp Tryz.prog gl 203 [u 16] (i6 4):=by
 refine Sh rfl rfl ?_;have T:=Fo;simp [OY];apply ab T;simp
theorem PC: ∀r,r<256→bits .and .u64 ((r:Nat):Int) 15=((r%16:Nat):Int):=by decide+kernel
theorem H0: ∀r,r<16→([48,49,50,51,52,53,54,55,56,57,97,98,99,100,101,102,103,104,105,106,107,108,109,110,111,112,113,114,115,116,117,118,119,120,121,122]:List UInt8)[r]?=some (gX r):=by decide+kernel
theorem Ce (r:Nat) (h:r<256):Sp Tryz.prog gl 168 [.nils,u r,i6 16,.bool false,.bool false] (.tup [.sl [],.str (qk r)]):=by
 refine RW rfl rfl ?_;have IP:=Fn;have TZ:=KM;have t1:IntKind.u64.wrap 16=16:=by decide
 have t2:IntKind.u64.wrap 4=4:=by decide
 have t3:IntKind.u64.wrap 15=15:=by decide
 have t4:IntKind.i64.wrap 64=64:=by decide
 have t5:IntKind.i64.wrap 63=63:=by decide
 obtain ⟨R,hR⟩: ∃R,R=qk r:=⟨_,rfl⟩;rw [←hR];simp [OL];apply ab IP;simp [t1];apply ab TZ;simp [t1,t2,t3];refine aP (α:=Nat×Nat×List UInt8) (fun y=>⟨[(1,u y.2.1),(3,.bool false),(4,.bool false),(12,.ptr (.n 12) 0),(13,i6 y.1),(14,u 4),(15,u 16),(16,u 15),(10,.nils)],[(.n 12,iS y.1 y.2.2)],[]⟩) (fun y=>(y.1=65∧y.2.1=r∧y.2.2=[])∨(y.1=64∧16≤r∧y.2.1=r / 16∧y.2.2=[gX (r%16)])) (fun y=>y.1) ?_ (65,r,[]) ?_ ?_
 ·rintro K ⟨k,q,s⟩ hK hk;simp only at hk;rcases hk with ⟨rfl,rfl,rfl⟩|⟨rfl,hr,rfl,rfl⟩
  ·by_cases c:16≤q
   ·have c':(16:Int)≤q:=by omega
    have a1:=PC q h;have a2:=H0 (q%16) (by omega);dsimp only at a2;have a3:(q:Int).fdiv (2^min 4 IntKind.u64.bits)=((q / 16:Nat):Int):=by
     rw [Int.fdiv_eq_ediv_of_nonneg _ (by decide)];rfl
    have a4:IntKind.u64.wrap ((q / 16:Nat):Int)=((q / 16:Nat):Int):=by rw [a6]<;>omega
    have fin:=fun σ' hσ=>hK (64,q / 16,[gX (q%16)]) σ' (.inr ⟨rfl,c,rfl,rfl⟩) (by simp only;omega) hσ
    have st:=tG 64 (gX (q%16)) [];have hl:=lD 65 [];have hi2:=Af 64 [gX (q%16)];clear hK hR;unfold iM at st;rw [show (64:Nat)+1=65 from rfl] at st;generalize iS 65 []=X at *
    generalize iS 64 [gX (q%16)]=Y at *
    generalize gX (q%16)=g at *
    generalize q%16=lo at *
    generalize q / 16=hi at *
    have jX:65≤X.length:=by rw [hl];simp
    simp [c,c',a1,a2,t4,jX,st,a3,a4];refine fin _ ?_;apply ae<;>simp [hi2,a3,a4]
   ·have c': ¬(16:Int)≤q:=by omega
    have a2:=H0 q (by omega);dsimp only at a2;have st:=tG 64 (gX q) [];have hl:=lD 65 [];have hl2:=lD 64 [gX q];have hb:=vL 64 1 [gX q] (by simp);have eR:R=[gX q]:=by rw [hR];unfold qk;rw [if_pos (by omega)]
    clear hK hR;subst eR;unfold iM at st;rw [show (64:Nat)+1=65 from rfl] at st;generalize iS 65 []=X at *
    generalize iS 64 [gX q]=Y at *
    generalize gX q=g at *
    have jX:65≤X.length:=by rw [hl];simp
    have jY:65≤Y.length:=by rw [hl2];simp
    simp [c,c',a2,t4,jX,st,jY,fR,hb]
  ·have c: ¬16≤r / 16:=by omega
   have c': ¬(16:Int)≤((r / 16:Nat):Int):=by omega
   have a2:=H0 (r / 16) (by omega);dsimp only at a2;have st:=tG 63 (gX (r / 16)) [gX (r%16)];have hl:=lD 64 [gX (r%16)];have hl2:=lD 63 [gX (r / 16),gX (r%16)];have hb:=vL 63 2 [gX (r / 16),gX (r%16)] (by simp);have eR:R=[gX (r / 16),gX (r%16)]:=by rw [hR];unfold qk;rw [if_neg (by omega)]
   clear hK hR;subst eR;unfold iM at st;rw [show (63:Nat)+1=64 from rfl] at st;generalize iS 64 [gX (r%16)]=X at *
   generalize iS 63 [gX (r / 16),gX (r%16)]=Y at *
   generalize gX (r%16)=g at *
   generalize gX (r / 16)=g2 at *
   generalize r / 16=z at *
   have jX:65≤X.length:=by rw [hl];simp
   have jX2:64≤X.length:=by rw [hl];simp
   have jY:65≤Y.length:=by rw [hl2];simp
   simp [c,c',a2,t5,jX,jX2,st,jY,fR,hb]
 ·exact .inl ⟨rfl,rfl,rfl⟩
 ·apply ae<;>simp [Af];exact nZ (iS 65 [])
theorem Cg (r:Nat) (h:r<256):Sp Tryz.prog gl 174 [i6 r,i6 16] (.str (qk r)):=by
 refine ON rfl rfl ?_;have F:=fun d=>(Ce r h).h (d:=d)
 have w1:IntKind.u64.wrap (r:Int)=r:=by rw [a6]<;>omega
 have c: ¬(r:Int)<0:=by omega
 generalize qk r=q at *
 simp [Mp,w1,c];refine aB _ _ (F _) ?_;simp
theorem Fp (r:Nat) (h:r<256):Sp Tryz.prog gl 132 [i6 r,i6 16] (.str (qk r)):=by
 refine OG rfl rfl ?_;have F:=Cg r h;generalize qk r=q at *
 simp [Mj];apply ab F;simp
def sM (r:Nat):List UInt8:=if r=34 then [92,34] else if r=92 then [92,92] else if r=10 then [92,110] else if r=9 then [92,116] else if r<32∨r=127 then [92,117,123]++(qk r++[125]) else []
theorem H1 (r:Nat):JK r=if sM r=[] then cX r else sM r:=by
 unfold JK sM;by_cases c1:r=34
 ·simp [c1]
 by_cases c2:r=92
 ·simp [c2]
 by_cases c3:r=10
 ·simp [c3]
 by_cases c4:r=9
 ·simp [c4]
 by_cases c5:r<32∨r=127
 ·rw [if_neg c1,if_neg c2,if_neg c3,if_neg c4,if_pos c5,if_neg c1,if_neg c2,if_neg c3,if_neg c4,if_pos c5,if_neg (by simp)]
 ·rw [if_neg c1,if_neg c2,if_neg c3,if_neg c4,if_neg c5,if_neg c1,if_neg c2,if_neg c3,if_neg c4,if_neg c5,if_pos rfl]
theorem wY (q:Nat) (hq:q≤1114111):Sp Tryz.prog gl 125 [i3 q] (.str (sM q)):=by
 refine Rn rfl rfl ?_;have ne: ∀z:Nat,¬q=z→((q:Int)==(z:Int))=false:=fun z h=>cI.2 (by omega)
 unfold sM;by_cases c1:q=34
 ·subst c1;have e1:(Utf8.encode 34).data.toList=[34]:=by decide+kernel
  have e2:(Utf8.encode 34).size=1:=by decide+kernel
  simp [xW,e1,e2]
 rw [if_neg c1];have d1:((q:Int)==34)=false:=ne 34 c1;by_cases c2:q=92
 ·subst c2;have e1:(Utf8.encode 92).data.toList=[92]:=by decide+kernel
  have e2:(Utf8.encode 92).size=1:=by decide+kernel
  simp [xW,e1,e2]
 rw [if_neg c2];have d2:((q:Int)==92)=false:=ne 92 c2;by_cases c3:q=10
 ·subst c3;simp [xW]
 rw [if_neg c3];have d3:((q:Int)==10)=false:=ne 10 c3;by_cases c4:q=9
 ·subst c4;simp [xW]
 rw [if_neg c4];have d4:((q:Int)==9)=false:=ne 9 c4;by_cases c5:q<32∨q=127
 ·rw [if_pos c5];have FB:=Fp q (by omega);have hxl:=qY q;have w1:IntKind.i64.wrap (q:Int)=q:=by rw [aj]<;>omega
  generalize qk q=hx at *
  have m1:3+hx.length≤9223372036854775807:=by omega
  have m2:hx.length≤9223372036854775804:=by omega
  have m3:hx.length+3≤9223372036854775806:=by omega
  have m4:hx.length+1+1+1≤9223372036854775806:=by omega
  have m5:hx.length≤9223372036854775803:=by omega
  rcases c5 with c5|c5
  ·have c5':(q:Int)<32:=by omega
   simp [xW,d1,d2,d3,d4,c1,c2,c3,c4,c5,c5',w1];apply ab FB;simp [m1,m2,m3,m4,m5]
  ·have c5': ¬(q:Int)<32:=by omega
   have c6:((q:Int)==127)=true:=by rw [c5];rfl
   have c7: ¬q<32:=by omega
   simp [xW,d1,d2,d3,d4,c1,c2,c3,c4,c5',c6,c7,w1];apply ab FB;simp [m1,m2,m3,m4,m5]
 ·rw [if_neg c5];have c5': ¬(q:Int)<32:=by omega
  have c6:((q:Int)==127)=false:=ne 127 (by omega);have c7: ¬q<32:=by omega
  have c8: ¬q=127:=by omega
  simp [xW,d1,d2,d3,d4,c1,c2,c3,c4,c5',c6,c7,c8]
end Go.Ai
