/- P2: a part of the proof. Conditions: as each theorem says. -/
import Derived.Test.YtojgeamhdkphaaaGreatDoorP1
import Derived.Lib.TrimUEq
import Derived.Lib.ValidU
import Derived.Lib.MapLaws
import Derived.Test.YtojgeamhdkphaaaGreatDoorLib11
import Derived.Shelf.Lays
import Derived.Shelf.LaysM
import Derived.Shelf.Small.Wraps
import Derived.Shelf.Strings.BuilderX
import Derived.Shelf.Strings.SplitCore
import Derived.Shelf.Unicode.ValidAny
set_option maxHeartbeats 4000000
set_option linter.unusedSimpArgs false
set_option linter.unusedVariables false
set_option maxRecDepth 20000
namespace Go.Ai
theorem iu {w:Nat} {n:List UInt8} {p:pu} (h:bV w n=some p):p∈gv w/\p.nm=n:=by
 unfold bV at h;exact ⟨List.mem_of_find?_eq_some h,by simpa using List.find?_some h⟩
theorem Dv (P:pu->Prop) [DecidablePred P] (h0: ∀p∈gv 0,P p) (h1: ∀p∈gv 1,P p) (h2: ∀p∈gv 2,P p) (h3: ∀p∈gv 3,P p) (w:Nat): ∀p∈gv w,P p:=by
 unfold gv at*;by_cases e0:w=0
 ·rw[if_pos e0];exact h0
 by_cases e1:w=1
 ·rw[if_neg e0,if_pos e1];exact h1
 by_cases e2:w=2
 ·rw[if_neg e0,if_neg e1,if_pos e2];exact h2
 ·rw[if_neg e0,if_neg e1,if_neg e2];exact h3
theorem wP (w:Nat): ∀p∈gv w,(32:UInt8)∉p.nm:=Dv _ (by decide) (by decide) (by decide) (by decide) w
theorem ES (w:Nat): ∀p∈gv w,(lR p.nm=true↔p.mo≠1):=Dv _ (by decide) (by decide) (by decide) (by decide) w
def jk (w:Nat) (C:List It):Prop:= ∀y∈C,∃p,bV w y.nm=some p/\cE p y=true
theorem jk.sp {w:Nat} {C:List It} (h:jk w C): ∀y∈C,(32:UInt8)∉y.nm:=fun y hy=>by
 obtain ⟨p,hp,_⟩:=h y hy;obtain ⟨h1,h2⟩:=iu hp;rw[<-h2];exact wP w p h1
theorem gQ {w:Nat} {C:List It} {x:It} (h:aX w C x=0): ∃p,bV w x.nm=some p/\cE p x=true:=by
 unfold aX at h;split at h
 ·cases h
 ·rename_i p hp;refine ⟨p,hp,?_⟩;cases hf:cE p x with
  |true=>rfl
  |false=>rw[hf,if_pos rfl] at h;cases h
theorem jk.snoc {w:Nat} {C:List It} {x:It} (h:jk w C) (hx:aX w C x=0):jk w (C++[x]):=fun y hy=>by
 rcases jD.1 hy with hy|hy
 ·exact h y hy
 ·rw[FI] at hy;subst hy;exact gQ hx
theorem fM {w:Nat} {C:List It} {x:It} (h:bV w x.nm=none):aX w C x=7:=by
 unfold aX;rw[h]
theorem gF {w:Nat} {C:List It} {x:It} {p:pu} (h:bV w x.nm=some p) (hf:cE p x=false):aX w C x=6:=by
 unfold aX;rw[h];dsimp only;rw[if_pos hf]
theorem kp {w:Nat} {C:List It} {x:It} {p:pu} (h:bV w x.nm=some p) (hf:cE p x=true) (h1:p.mo=1):aX w C x=if (am C).count x.nm≠0 then 18 else if ir x<p.lo\/p.hi<ir x then 8 else 0:=by
 obtain ⟨hm,hn⟩:=iu h;have sp:(32:UInt8)∉x.nm:=by rw[<-hn];exact wP w p hm
 rw[qI x.nm sp];unfold aX;rw[h];dsimp only;rw[if_neg (by rw[hf];decide),h1];have e:(C.any fun y=>y.nm==x.nm&&((1:Nat)==1||w0 y.ws==w0 x.ws))=C.any fun y=>y.nm==x.nm:=by
  congr 1
  funext y
  simp
 rw[e];have z:=rX (fun y:It=>y.nm==x.nm) C;unfold qz;cases ha:C.any fun y=>y.nm==x.nm with
 |true=>
  rw[if_pos rfl,if_pos (fun g=>by rw[z.1 g] at ha;cases ha)]
 |false=>
  rw[z.2 ha,if_neg (by decide),if_neg (by decide)];simp
theorem gG {w:Nat} {C:List It} {x:It} {p:pu} (hC:jk w C) (h:bV w x.nm=some p) (hf:cE p x=true) (h1:p.mo≠1):aX w C x=if (am C).count (de x.nm (w0 x.ws))≠0 then 18 else if p.mo<=(am C).count x.nm then 9 else 0:=by
 obtain ⟨hm,hn⟩:=iu h;have sp:(32:UInt8)∉x.nm:=by rw[<-hn];exact wP w p hm
 have nd:lR x.nm=true:=by rw[<-hn];exact (ES w p hm).2 h1
 rw[qI x.nm sp,uU x.nm (w0 x.ws) sp nd C hC.sp];unfold aX;rw[h];dsimp only;have b1:(p.mo==1)=false:=by simpa using h1
 rw[if_neg (by rw[hf];decide),b1];have e:(C.any fun y=>y.nm==x.nm&&(false||w0 y.ws==w0 x.ws))=C.any fun y=>y.nm==x.nm&&w0 y.ws==w0 x.ws:=by
  congr 1
 rw[e];have z:=rX (fun y:It=>y.nm==x.nm&&w0 y.ws==w0 x.ws) C;have e3: ∀q:Prop,[Decidable q]->(if p.mo=1/\q then (8:Int) else 0)=0:=fun q _=>if_neg (fun g=>h1 g.1)
 rw[e3];cases ha:C.any fun y=>y.nm==x.nm&&w0 y.ws==w0 x.ws with
 |true=>
  rw[if_pos rfl,if_pos (fun g=>by rw[z.1 g] at ha;cases ha)]
 |false=>
  rw[z.2 ha,if_neg (by decide)];simp
theorem qQ {n:List UInt8} {d:Nat}: ∀ {C:List It},gx C n=false->ai C n d=d
 |[],_=>rfl
 |y::C,h=>by
  unfold gx at h;rw[List.any_cons,Bool.or_eq_false_iff] at h;rw[ai,if_neg (cH.1 h.1)];exact qQ h.2
theorem pD (x:It) (n:List UInt8) (d:Nat): ∀C:List It,ai (C++[x]) n d=if gx C n=true then ai C n d else if x.nm=n then ir x else d
 |[]=>by simp[ai,gx]
 |y::C=>by
  rw[cB,ai,ai,pD x n d C];unfold gx;rw[List.any_cons];by_cases h:y.nm=n
  ·rw[if_pos h,if_pos h,if_pos (by simp[h])]
  ·rw[if_neg h,if_neg h]
   have:(y.nm==n)=false:=cH.2 h
   rw[this,Bool.false_or]
theorem EU (C:List It) (x:It) (n:List UInt8):gx (C++[x]) n=(gx C n||x.nm==n):=by simp[gx]
theorem vn {w:Nat} {C:List It} {x:It} {p:pu} (h:bV w x.nm=some p) (h1:p.mo=1) (hc:aX w C x=0):gx C x.nm=false:=by
 obtain ⟨q,hq,hf⟩:=gQ hc;rw[h] at hq;cases hq;obtain ⟨hm,hn⟩:=iu h;have sp:(32:UInt8)∉x.nm:=by rw[<-hn];exact wP w p hm
 rw[kp h hf h1,qI x.nm sp] at hc;by_cases z:qz C x.nm≠0
 ·rw[if_pos z] at hc;cases hc
 ·have z:qz C x.nm=0:=by omega
  exact (rX (fun y:It=>y.nm==x.nm) C).1 z
theorem EV {w:Nat} {C:List It} {x:It} {p:pu} (h:bV w x.nm=some p) (h1:p.mo=1) (hc:aX w C x=0):p.lo<=ir x/\ir x<=p.hi:=by
 obtain ⟨q,hq,hf⟩:=gQ hc;rw[h] at hq;cases hq;rw[kp h hf h1] at hc;split at hc
 ·cases hc
 ·split at hc
  ·cases hc
  ·omega
theorem cC {w:Nat} {C:List It} {x:It} {p:pu} (h:bV w x.nm=some p) (h1:p.mo=1) (hc:aX w C x=0) (d:Nat):ai (C++[x]) x.nm d=ir x:=by
 rw[pD,vn h h1 hc,if_neg (by decide),if_pos rfl]
theorem db {C:List It} {x:It} {n:List UInt8} (h:x.nm≠n) (d:Nat):ai (C++[x]) n d=ai C n d:=by
 rw[pD,if_neg h];split
 ·rfl
 ·rename_i hh;exact (qQ (by simpa using hh)).symm
theorem oz (lk:Lk) (w:Nat): ∀(L:List It) (s:List It×List Ft),jk w s.1->jk w (L.foldl (aB lk w) s).1
 |[],s,h=>h
 |x::L,s,h=>by
  rw[List.foldl_cons];refine oz lk w L _ ?_;unfold aB;split
  ·exact h
  ·rename_i hc;have hc:aX w s.1 x=0:=by omega
   split
   ·exact h.snoc hc
   ·exact h.snoc hc
theorem sD (lk:Lk) (w:Nat) (n:List UInt8) (p:pu) (hp:bV w n=some p) (h1:p.mo=1): ∀(L:List It) (s:List It×List Ft),(gx s.1 n=true-> ∀d,p.lo<=ai s.1 n d/\ai s.1 n d<=p.hi)->(gx (L.foldl (aB lk w) s).1 n=true-> ∀d,p.lo<=ai (L.foldl (aB lk w) s).1 n d/\ai (L.foldl (aB lk w) s).1 n d<=p.hi)
 |[],s,h=>h
 |x::L,s,h=>by
  rw[List.foldl_cons];refine sD lk w n p hp h1 L _ ?_;have key:aX w s.1 x=0->gx (s.1++[x]) n=true-> ∀d,p.lo<=ai (s.1++[x]) n d/\ai (s.1++[x]) n d<=p.hi:=fun hc hh d=>by
   by_cases e:x.nm=n
   ·subst e;rw[cC hp h1 hc];exact EV hp h1 hc
   ·rw[db e];rw[EU,cH.2 e,Lw] at hh;exact h hh d
  unfold aB;split
  ·exact h
  ·rename_i hc;have hc:aX w s.1 x=0:=by omega
   split
   ·exact key hc
   ·exact key hc
def flt (n:List UInt8) (L:List It):List It:=L.filter fun y=>y.nm==n
theorem qR (n:List UInt8) (A B:List It):flt n (A++B)=flt n A++flt n B:=by simp[flt]
theorem bI (n:List UInt8) (x:It) (L:List It):flt n (x::L)=if x.nm=n then x::flt n L else flt n L:=by
 unfold flt;rw[List.filter_cons];by_cases h:x.nm=n
 ·rw[if_pos h,if_pos (by simp[h])]
 ·rw[if_neg h,if_neg (by simp[h])]
theorem sE (n:List UInt8) (d:Nat): ∀L:List It,ai L n d=match flt n L with |[]=>d|y::_=>ir y
 |[]=>rfl
 |x::L=>by
  rw[ai,bI];by_cases h:x.nm=n
  ·rw[if_pos h,if_pos h]
  ·rw[if_neg h,if_neg h];exact sE n d L
theorem sF (n:List UInt8) (L:List It):gx L n=!(flt n L).isEmpty:=by
 induction L with
 |nil=>rfl
 |cons x L ih=>
  rw[bI];unfold gx at ih ⊢;rw[List.any_cons,ih];by_cases h:x.nm=n
  ·rw[if_pos h];simp[h]
  ·rw[if_neg h];simp[h]
theorem eE {α:Type} (n:List UInt8) (f:It->List α) (g:It->List α) (h: ∀y,y.nm=n->f y=g y) (h0: ∀y,y.nm≠n->f y=[]): ∀L:List It,L.flatMap f=(flt n L).flatMap g
 |[]=>rfl
 |x::L=>by
  rw[List.flatMap_cons,eE n f g h h0 L,bI];by_cases e:x.nm=n
  ·rw[if_pos e,List.flatMap_cons,h x e]
  ·rw[if_neg e,h0 x e,cL]
theorem sG (w:Nat) (C:List It) (x:It):aX w C x=aX w (flt x.nm C) x:=by
 unfold aX;split
 ·rfl
 ·rename_i p hp;have e1:(C.any fun y=>y.nm==x.nm&&(p.mo==1||w0 y.ws==w0 x.ws))=((flt x.nm C).any fun y=>y.nm==x.nm&&(p.mo==1||w0 y.ws==w0 x.ws)):=by
   unfold flt;rw[List.any_filter];congr 1
   funext y
   cases y.nm==x.nm<;>simp
  have e2:qz C x.nm=qz (flt x.nm C) x.nm:=by
   unfold qz flt;rw[List.filter_filter];congr 2
   funext y
   simp
  rw[e1,e2]
def sH (lk:Lk) (w:Nat) (C:List It) (x:It):Prop:=aX w C x=0/\(bR x.nm=0\/((lk (bR x.nm) x.kd).2=[]/\cV lk (bR x.nm) x (lk (bR x.nm) x.kd).1=[]))
theorem Dw {lk:Lk} {w:Nat} {C:List It} {x:It} (h:sH lk w C x):aB lk w (C,[]) x=(C++[x],[]):=by
 unfold aB;rw[if_neg (by rw[h.1];decide)];rcases h.2 with h|⟨h1,h2⟩
 ·rw[if_pos h]
 ·split
  ·rfl
  ·rw[h1,h2];rfl
theorem EW (lk:Lk) (w:Nat) (s:List It×List Ft) (x:It): ∃t,(aB lk w s x).2=s.2++t:=by
 unfold aB;split
 ·exact ⟨_,rfl⟩
 ·split
  ·exact ⟨[],by simp⟩
  ·exact ⟨_,rfl⟩
theorem vq (lk:Lk) (w:Nat): ∀(L:List It) (s:List It×List Ft),∃t,(L.foldl (aB lk w) s).2=s.2++t
 |[],s=>⟨[],by simp⟩
 |x::L,s=>by
  obtain ⟨t,h⟩:=EW lk w s x;obtain ⟨t2,h2⟩:=vq lk w L (aB lk w s x);exact ⟨t++t2,by rw[List.foldl_cons,h2,h,xv]⟩
theorem KU {lk:Lk} {w:Nat} {C:List It} {x:It} (h:(aB lk w (C,[]) x).2=[]):sH lk w C x:=by
 unfold aB at h;split at h
 ·simp at h
 ·rename_i hc;have hc:aX w C x=0:=Decidable.byContradiction fun g=>hc g
  split at h
  ·rename_i hi;exact ⟨hc,.inl hi⟩
  ·simp at h;exact ⟨hc,.inr h⟩
theorem qS (lk:Lk) (w:Nat): ∀(L C:List It),(L.foldl (aB lk w) (C,[])).2=[]↔ ∀(A B:List It) (x:It),L=A++x::B->sH lk w (C++A) x
 |[],C=>by simp
 |y::L,C=>by
  rw[List.foldl_cons];constructor
  ·intro h A B x e;obtain ⟨t,h2⟩:=vq lk w L (aB lk w (C,[]) y);rw[h2,List.append_eq_nil_iff] at h;have ok:=KU h.1;cases A with
   |nil=>
    simp only[cL,List.cons.injEq] at e;rw[<-e.1,xJ];exact ok
   |cons a A=>
    simp only[cB,List.cons.injEq] at e;have h3:(L.foldl (aB lk w) (C++[y],[])).2=[]:=by
     rw[<-Dw ok,h2,h.1,h.2];rfl
    have:=(qS lk w L (C++[y])).1 h3 A B x e.2
    rw[xv] at this;rw[<-e.1];exact this
  ·intro h;have ok:=h [] L y rfl;rw[xJ] at ok;rw[Dw ok];refine (qS lk w L (C++[y])).2 fun A B x e=>?_
   have:=h (y::A) B x (by rw[e];rfl)
   rw[xv];exact this
inductive F2 {α:Type} (R:α->α->Prop):List α->List α->Prop
 |nil:F2 R [] []
 |cons {a b:α} {l m:List α}:R a b->F2 R l m->F2 R (a::l) (b::m)
theorem F2.imp {α:Type} {R S:α->α->Prop} (h: ∀a b,R a b->S a b): ∀ {l m:List α},F2 R l m->F2 S l m
 |_,_,.nil=> .nil
 |_,_,.cons a b=> .cons (h _ _ a) (b.imp h)
theorem F2.all {α:Type} {R:Nat->α->α->Prop}: ∀ {l m:List α},(∀d,F2 (R d) l m)->F2 (fun a b=> ∀d,R d a b) l m
 |[],[],_=> .nil
 |[],b::m,h=>by cases h 0
 |a::l,[],h=>by cases h 0
 |a::l,b::m,h=> .cons (fun d=>by cases h d with |cons x _=>exact x) (F2.all fun d=>by cases h d with |cons _ y=>exact y)
theorem F2.refl {α:Type} {R:α->α->Prop} (h: ∀a,R a a): ∀l:List α,F2 R l l
 |[]=> .nil
 |a::l=> .cons (h a) (F2.refl h l)
theorem F2.trans {α:Type} {R:α->α->Prop} (h: ∀a b c,R a b->R b c->R a c): ∀ {l m k:List α},F2 R l m->F2 R m k->F2 R l k
 |_,_,_,.nil,.nil=> .nil
 |_,_,_,.cons a b,.cons c d=> .cons (h _ _ _ a c) (b.trans h d)
theorem F2.app {α:Type} {R:α->α->Prop}: ∀ {l m l' m':List α},F2 R l m->F2 R l' m'->F2 R (l++l') (m++m')
 |_,_,_,_,.nil,h=>h
 |_,_,_,_,.cons a b,h=> .cons a (b.app h)
theorem F2.mid {α:Type} {R:α->α->Prop}: ∀ {A B:List α} {x:α} {L:List α},F2 R L (A++x::B)-> ∃P y Q,L=P++y::Q/\F2 R P A/\R y x
 |[],B,x,_,.cons a b=>⟨[],_,_,rfl,.nil,a⟩
 |c::A,B,x,_,.cons a b=>by
  obtain ⟨P,y,Q,e,h1,h2⟩:=F2.mid b;exact ⟨_::P,y,Q,by rw[e];rfl,.cons a h1,h2⟩
def zV (x y:It):Prop:=x.nm=y.nm/\x.ws=y.ws/\x.bk=y.bk
def BR:Nat->List It->List It->Prop
 |0,L,M=> ∀n,F2 zV (flt n L) (flt n M)
 |d+1,L,M=> ∀n,F2 (fun x y=>zV x y/\BR d x.kd y.kd) (flt n L) (flt n M)
def dB (L M:List It):Prop:= ∀d,BR d L M
def ib (x y:It):Prop:=zV x y/\dB x.kd y.kd
theorem dB.flt {L M:List It} (h:dB L M) (n:List UInt8):F2 ib (Ai.flt n L) (Ai.flt n M):=by
 have:=F2.all (R:=fun d x y=>zV x y/\BR d x.kd y.kd) (fun d=>h (d+1) n)
 exact this.imp fun a b hab=>⟨(hab 0).1,fun d=>(hab d).2⟩
theorem dB.of {L M:List It} (h: ∀n,F2 ib (Ai.flt n L) (Ai.flt n M)):dB L M
 |0=>fun n=>(h n).imp fun a b hab=>hab.1
 |d+1=>fun n=>(h n).imp fun a b hab=>⟨hab.1,hab.2 d⟩
theorem pE (x:It):zV x x:=⟨rfl,rfl,rfl⟩
theorem vu: ∀(d:Nat) (L:List It),BR d L L
 |0,L=>fun n=>F2.refl pE _
 |d+1,L=>fun n=>F2.refl (fun x=>⟨pE x,vu d x.kd⟩) _
theorem dB.refl (L:List It):dB L L:=fun d=>vu d L
theorem ib.refl (x:It):ib x x:=⟨pE x,dB.refl _⟩
theorem sI: ∀(d:Nat) {L M K:List It},BR d L M->BR d M K->BR d L K
 |0,L,M,K,h,g=>fun n=>(h n).trans (fun a b c p q=>⟨p.1.trans q.1,p.2.1.trans q.2.1,p.2.2.trans q.2.2⟩) (g n)
 |d+1,L,M,K,h,g=>fun n=>(h n).trans (fun a b c p q=>⟨⟨p.1.1.trans q.1.1,p.1.2.1.trans q.1.2.1,p.1.2.2.trans q.1.2.2⟩,sI d p.2 q.2⟩) (g n)
theorem dB.trans {L M K:List It} (h:dB L M) (g:dB M K):dB L K:=fun d=>sI d (h d) (g d)
theorem zW {x y:It} (h:zV x y):ir x=ir y:=by
 unfold ir;rw[h.1,h.2.1]
theorem EX {x y:It} (h:zV x y) (p:pu):cE p x=cE p y:=by
 unfold cE;rw[h.2.1,h.2.2]
theorem F2.any {C D:List It} {f g:It->Bool} (hfg: ∀a b,ib a b->f a=g b) (h:F2 ib C D):C.any f=D.any g:=by
 induction h with
 |nil=>rfl
 |cons a b ih=>rw[List.any_cons,List.any_cons,hfg _ _ a,ih]
theorem F2.cnt {C D:List It} (h:F2 ib C D) (n:List UInt8):qz C n=qz D n:=by
 induction h with
 |nil=>rfl
 |cons a b ih=>
  unfold qz at ih ⊢;rw[List.filter_cons,List.filter_cons,a.1.1];split
  ·rw[e7,e7,ih]
  ·exact ih
theorem zX (w:Nat) {C D:List It} {x y:It} (h:F2 ib C D) (hx:ib x y):aX w C x=aX w D y:=by
 unfold aX;rw[hx.1.1];split
 ·rfl
 ·rename_i p hp;rw[EX hx.1,zW hx.1,h.cnt,F2.any (f:=fun z=>z.nm==y.nm&&(p.mo==1||w0 z.ws==w0 x.ws)) (g:=fun z=>z.nm==y.nm&&(p.mo==1||w0 z.ws==w0 y.ws)) (fun a b hab=>by rw[hab.1.1,hab.1.2.1,hx.1.2.1]) h]
theorem oA (lk:Lk) (w:Nat) (n:List UInt8): ∀(L:List It) (s:List It×List Ft) (F:List Ft),Ai.flt n (L.foldl (aB lk w) s).1=((Ai.flt n L).foldl (aB lk w) (Ai.flt n s.1,F)).1
 |[],s,F=>rfl
 |x::L,s,F=>by
  rw[List.foldl_cons,bI];by_cases e:x.nm=n
  ·rw[if_pos e,List.foldl_cons];subst e;have hc:=sG w s.1 x;have h1: ∃F',aB lk w (Ai.flt x.nm s.1,F) x=(Ai.flt x.nm (aB lk w s x).1,F'):=by
    unfold aB;rw[<-hc];split
    ·exact ⟨_,rfl⟩
    ·split
     ·exact ⟨_,by rw[qR,bI,if_pos rfl];rfl⟩
     ·exact ⟨_,by rw[qR,bI,if_pos rfl];rfl⟩
   obtain ⟨F',h1⟩:=h1;rw[h1];exact oA lk w x.nm L _ F'
  ·rw[if_neg e,oA lk w n L _ F]
   have:Ai.flt n (aB lk w s x).1=Ai.flt n s.1:=by
    unfold aB;have z:Ai.flt n (s.1++[x])=Ai.flt n s.1:=by rw[qR,bI,if_neg e];simp[Ai.flt]
    split
    ·rfl
    ·split
     ·exact z
     ·exact z
   rw[this]
theorem Dx (lk:Lk) (w:Nat): ∀ {P Q:List It} {C D:List It} {F G:List Ft},F2 ib P Q->F2 ib C D->F2 ib (P.foldl (aB lk w) (C,F)).1 (Q.foldl (aB lk w) (D,G)).1
 |_,_,C,D,F,G,.nil,h=>h
 |x::P,y::Q,C,D,F,G,.cons a b,h=>by
  rw[List.foldl_cons,List.foldl_cons];have hc:=zX w h a;have h1: ∃C' D' F' G',aB lk w (C,F) x=(C',F')/\aB lk w (D,G) y=(D',G')/\F2 ib C' D':=by
   unfold aB;dsimp only;rw[hc,a.1.1];split
   ·exact ⟨_,_,_,_,rfl,rfl,h⟩
   ·split
    ·exact ⟨_,_,_,_,rfl,rfl,h.app (.cons a .nil)⟩
    ·exact ⟨_,_,_,_,rfl,rfl,h.app (.cons a .nil)⟩
  obtain ⟨C',D',F',G',e1,e2,h2⟩:=h1;rw[e1,e2];exact Dx lk w b h2
theorem H5 (lk:Lk) (w:Nat) {L M:List It} (h:dB L M):dB (L.foldl (aB lk w) ([],[])).1 (M.foldl (aB lk w) ([],[])).1:= .of fun n=>by
 rw[oA lk w n L _ [],oA lk w n M _ []];exact Dx lk w (h.flt n) .nil
theorem wQ (n:List UInt8) (y:It): ∀(L P Q:List It),Ai.flt n L=P++y::Q-> ∃A B,L=A++y::B/\Ai.flt n A=P
 |[],P,Q,h=>by
  have:=congrArg List.length h
  simp[Ai.flt] at this
 |x::L,P,Q,h=>by
  rw[bI] at h;by_cases e:x.nm=n
  ·rw[if_pos e] at h;cases P with
   |nil=>
    simp only[cL,List.cons.injEq] at h;exact ⟨[],L,by rw[h.1];rfl,rfl⟩
   |cons p P=>
    simp only[cB,List.cons.injEq] at h;obtain ⟨A,B,e1,e2⟩:=wQ n y L P Q h.2;exact ⟨x::A,B,by rw[e1];rfl,by rw[bI,if_pos e,e2,h.1]⟩
  ·rw[if_neg e] at h;obtain ⟨A,B,e1,e2⟩:=wQ n y L P Q h;exact ⟨x::A,B,by rw[e1];rfl,by rw[bI,if_neg e,e2]⟩
structure KV (lk:Lk):Prop where
 rel: ∀w L M,dB L M->dB (lk w L).1 (lk w M).1
 no: ∀w L M,dB L M->(lk w L).2=[]->(lk w M).2=[]
theorem dB.get {k m:List It} (h:dB k m) (n:List UInt8) (d:Nat):ai k n d=ai m n d:=by
 rw[sE,sE]
 have:=h.flt n
 generalize Ai.flt n k=a,Ai.flt n m=b at*;cases this with
 |nil=>rfl
 |cons x _=>exact zW x.1
theorem dB.has {k m:List It} (h:dB k m) (n:List UInt8):gx k n=gx m n:=by
 rw[sF,sF]
 have:=h.flt n
 generalize Ai.flt n k=a,Ai.flt n m=b at*;cases this with
 |nil=>rfl
 |cons _ _=>rfl
theorem F2.flat {α:Type} {f g:It->List α} (hfg: ∀a b,ib a b->f a=g b) {C D:List It} (h:F2 ib C D):C.flatMap f=D.flatMap g:=by
 induction h with
 |nil=>rfl
 |cons a b ih=>rw[List.flatMap_cons,List.flatMap_cons,hfg _ _ a,ih]
theorem F2.flat0 {α:Type} {f g:It->List α} (hfg: ∀a b,ib a b->f a=[]->g b=[]) {C D:List It} (h:F2 ib C D):C.flatMap f=[]->D.flatMap g=[]:=by
 induction h with
 |nil=>exact id
 |cons a b ih=>
  rw[List.flatMap_cons,List.flatMap_cons,List.append_eq_nil_iff,List.append_eq_nil_iff];exact fun q=>⟨hfg _ _ a q.1,ih q.2⟩
theorem vw (lk:Lk) (g:Nat) (k:List It):gz lk g k=(Ai.flt dU k).flatMap fun y=>if ai (lk 2 y.kd).1 j8 0%g≠0\/ai (lk 2 y.kd).1 j9 0%g≠0 then [y.ft 8] else []:=by
 unfold gz;refine eE dU _ _ (fun y e=>?_) (fun y e=>?_) k
 ·simp only[e,true_and]
 ·rw[if_neg (fun q=>e q.1)]
theorem EY {lk:Lk} (H:KV lk) {k m:List It} (h:dB k m) (g:Nat):gz lk g k=[]->gz lk g m=[]:=by
 rw[vw,vw];refine F2.flat0 (fun a b hab=>?_) (h.flt dU);have r:=H.rel 2 _ _ hab.2;rw[r.get,r.get];split
 ·intro q;cases q
 ·exact fun _=>rfl
theorem EZ {lk:Lk} (H:KV lk) (i:Nat) {x y:It} {k m:List It} (h:dB k m):cV lk i x k=[]->cV lk i y m=[]:=by
 have no: ∀(p q r:Prop) [Decidable p] [Decidable q] (e f:Int),(if p then [x.ft e] else if q then [x.ft f] else [])=[]->(if p then [y.ft e] else if q then [y.ft f] else [])=[]:=fun p q r _ _ e f=>by
  split
  ·intro z;cases z
  ·split
   ·intro z;cases z
   ·exact fun _=>rfl
 have no1: ∀(p:Prop) [Decidable p] (e:Int),(if p then [x.ft e] else [])=[]->(if p then [y.ft e] else [])=[]:=fun p _ e=>by
  split
  ·intro z;cases z
  ·exact fun _=>rfl
 unfold cV;rw[h.has,h.has,h.has,h.has,h.has,h.get,h.get,h.get,h.get,h.get,h.get,h.get,h.get];split
 ·rw[List.append_eq_nil_iff,List.append_eq_nil_iff,List.append_eq_nil_iff,List.append_eq_nil_iff];exact fun q=>⟨no1 _ _ q.1,EY H h _ q.2.1,no1 _ _ q.2.2⟩
 split
 ·exact no _ _ True _ _
 split
 ·exact no1 _ _
 ·exact fun _=>rfl
theorem H6 {lk:Lk} (H:KV lk) {w:Nat} {C D:List It} {x y:It} (hx:ib x y) (hC:F2 ib (Ai.flt y.nm C) (Ai.flt y.nm D)) (h:sH lk w C x):sH lk w D y:=by
 obtain ⟨h1,h2⟩:=h;refine ⟨?_,?_⟩
 ·rw[sG,<-zX w hC hx,<-hx.1.1,<-sG];exact h1
 ·rw[<-hx.1.1];rcases h2 with h2|⟨h2,h3⟩
  ·exact .inl h2
  ·exact .inr ⟨H.no _ _ _ hx.2 h2,EZ H _ (H.rel _ _ _ hx.2) h3⟩
theorem wR: ∀f:Nat,KV (au f)
 |0=>⟨fun w L M _=>dB.refl _,fun w L M _ _=>rfl⟩
 |f+1=>by
  have H:=wR f;refine ⟨fun w L M h=>H5 (au f) w h,fun w L M h h0=>?_⟩;refine (qS (au f) w M []).2 fun A B y e=>?_
  rw[cL];have hf:=h.flt y.nm;have e2:Ai.flt y.nm M=Ai.flt y.nm A++y::Ai.flt y.nm B:=by rw[e,qR,bI,if_pos rfl]
  rw[e2] at hf;obtain ⟨P,x,Q,e3,hP,hx⟩:=hf.mid;obtain ⟨A',B',e4,e5⟩:=wQ y.nm x L P Q e3;have ok:=(qS (au f) w L []).1 h0 A' B' x e4;rw[cL] at ok;refine H6 H hx ?_ ok;rw[e5];exact hP
theorem Dy (k:List It):fi k=(Ai.flt kN k).foldl (fun c y=>if w0 y.ws=zc then 1 else 2) 0:=by
 unfold fi;generalize (0:Int)=c;induction k generalizing c with
 |nil=>rfl
 |cons x k ih=>
  rw[List.foldl_cons,bI,ih];by_cases e:x.nm=kN
  ·rw[if_pos e,if_pos e,List.foldl_cons]
  ·rw[if_neg e,if_neg e]
theorem dB.cal {k m:List It} (h:dB k m):fi k=fi m:=by
 rw[Dy,Dy]
 have:=h.flt kN
 generalize (0:Int)=c;generalize Ai.flt kN k=a,Ai.flt kN m=b at*;induction this generalizing c with
 |nil=>rfl
 |cons x _ ih=>rw[List.foldl_cons,List.foldl_cons,x.1.2.1,ih]
theorem dB.lbs {k m:List It} (h:dB k m):dY k=dY m:=by
 unfold dY;rw[eE pt _ (fun y=>[(⟨w0 y.ws,w1 y.ws⟩:Lb)]) (fun y e=>if_pos e) (fun y e=>if_neg e) k,eE pt _ (fun y=>[(⟨w0 y.ws,w1 y.ws⟩:Lb)]) (fun y e=>if_pos e) (fun y e=>if_neg e) m];exact F2.flat (fun a b hab=>by rw[hab.1.2.1]) (h.flt pt)
theorem dB.rus {lk:Lk} (H:KV lk) {k m:List It} (h:dB k m):dy lk k=dy lk m:=by
 unfold dy;rw[eE dU _ (fun y=>[tY lk y]) (fun y e=>if_pos e) (fun y e=>if_neg e) k,eE dU _ (fun y=>[tY lk y]) (fun y e=>if_pos e) (fun y e=>if_neg e) m];refine F2.flat (fun a b hab=>?_) (h.flt dU);have r:=H.rel 2 _ _ hab.2;unfold tY;rw[hab.1.2.1,r.get,r.get,r.get,r.get,r.get]
theorem H7 {lk:Lk} (H:KV lk) {x y:It} (h:ib x y):li lk x=li lk y:=by
 have r:=H.rel 1 _ _ h.2;unfold li;dsimp only;rw[h.1.2.1,r.get,r.get,r.get,r.get,r.cal,r.lbs,r.rus H]
theorem E0 {lk:Lk} (H:KV lk) {C D:List It} (h:dB C D):b9 lk C=b9 lk D:=by
 unfold b9;rw[eE mg _ (fun y=>[li lk y]) (fun y e=>if_pos e) (fun y e=>if_neg e) C,eE mg _ (fun y=>[li lk y]) (fun y e=>if_pos e) (fun y e=>if_neg e) D];exact F2.flat (fun a b hab=>by rw[H7 H hab]) (h.flt mg)
theorem OU {C:List It} (h:jk 0 C): ∀y∈C,y.nm=mg\/y.nm=tX:=fun y hy=>by
 obtain ⟨p,hp,_⟩:=h y hy;obtain ⟨h1,h2⟩:=iu hp;have all: ∀p∈gv 0,p.nm=mg\/p.nm=tX:=by decide
 rw[<-h2];exact all p h1
theorem wS (lk:Lk): ∀(C n:List It),(∀y∈C,y.nm=mg\/y.nm=tX)->C.foldl (fun n y=>if y.nm=mg then n else (lk 3 y.kd).1) n=(Ai.flt tX C).foldl (fun n y=>(lk 3 y.kd).1) n
 |[],n,_=>rfl
 |x::C,n,h=>by
  rw[List.foldl_cons,bI];have ih:=fun n=>wS lk C n fun y hy=>h y (by simp[hy])
  rcases h x (by simp) with e|e
  ·rw[if_pos e,if_neg (by rw[e];decide)];exact ih n
  ·rw[if_neg (by rw[e];decide),if_pos e,List.foldl_cons];exact ih _
theorem KW {lk:Lk} (H:KV lk) {C D:List It} (h:dB C D) (hC:jk 0 C) (hD:jk 0 D):dB (lQ lk C) (lQ lk D):=by
 unfold lQ;rw[wS lk C [] (OU hC),wS lk D [] (OU hD)]
 have:=h.flt tX
 have key: ∀ {a b:List It},F2 ib a b-> ∀n m:List It,dB n m->dB (a.foldl (fun n y=>(lk 3 y.kd).1) n) (b.foldl (fun n y=>(lk 3 y.kd).1) m):=fun q=>by
  induction q with
  |nil=>exact fun n m r=>r
  |cons x _ ih=>
   intro n m r;rw[List.foldl_cons,List.foldl_cons];exact ih _ _ (H.rel 3 _ _ x.2)
 exact key this _ _ (dB.refl [])
theorem KX {lk:Lk} (H:KV lk) {C D:List It} (h:dB C D) (hC:jk 0 C) (hD:jk 0 D):zd lk C=zd lk D:=by
 have r:=KW H h hC hD;unfold zd;dsimp only;rw[E0 H h,r.get,r.get,r.get,r.get,r.get]
theorem E1 (f:Nat) {L M:List It} (h:dB L M) (h0:(eD (f+1) true L).2=[]):eD (f+1) true M=eD (f+1) true L:=by
 unfold eD at h0 ⊢;simp only[Bool.true_eq_false,if_false] at h0 ⊢;by_cases hl:(au (f+1) 0 L).2≠[]
 ·rw[if_pos hl] at h0;exact absurd h0 hl
 ·have hl:(au (f+1) 0 L).2=[]:=Decidable.byContradiction fun q=>hl q
  have hm:=(wR (f+1)).no 0 L M h hl;rw[if_neg (by rw[hm];simp),if_neg (by rw[hl];simp)];have i1:jk 0 (au (f+1) 0 L).1:=oz (au f) 0 L ([],[]) (fun y hy=>by cases hy);have i2:jk 0 (au (f+1) 0 M).1:=oz (au f) 0 M ([],[]) (fun y hy=>by cases hy);rw[KX (wR (f+1)) ((wR (f+1)).rel 0 L M h) i1 i2]
open Go.Proofs
mutual
def vx:It->Nat->List (List AV)
 | .mk n ws b ks ln co,d=>[i6 d,.agg [.str n,.sl (ws.map Tk.row),.bool b,.sl (ab ks),i6 ln,i6 co]]::cA ks (d+1)
def cA:List It->Nat->List (List AV)
 |[],_=>[]
 |x::r,d=>vx x d++cA r d
end
theorem pF: ∀(a b:List It) (d:Nat),cA (a++b) d=cA a d++cA b d
 |[],b,d=>rfl
 |x::a,b,d=>by rw[cB,cA,cA,pF a b,xv]
theorem H8 (L:List It) (i:Nat) (h:i<L.length) (d:Nat):cA L d=cA (L.take i) d++(vx L[i] d++cA (L.drop (i+1)) d):=by
 conv=>lhs;rw[<-F9 i L,xI h]
 rw[pF,cA]
theorem BS (L:List It) (i:Nat) (h:i<L.length) (d:Nat):cA (L.take (i+1)) d=cA (L.take i) d++vx L[i] d:=by
 rw[Jo h,pF,cA,cA,xJ]
theorem Dz: ∀ {L:List It} {x:It},x∈L->pp x<=f8 L
 |y::L,x,h=>by
  rw[f8];rcases nH.1 h with rfl|h
  ·exact Nat.le_max_left _ _
  ·exact mu (Dz h) (Nat.le_max_right _ _)
theorem BT: ∀(N:Nat) (L:List It) (d:Nat),bJ L<=N->bJ L<=100000->d+f8 L<=100000->J6 Tryz.prog gl 69 [.sl (ab L),i6 d] (cA L d):=by
 intro N;induction N with
 |zero=>
  intro L d h hc hd;have hL:L=[]:=by
   have:=kL L
   exact Jy (by omega)
  subst hL;refine TF rfl rfl ?_;intro l ts k hseg;simp only[O8,rU,za,Bv,ab,cA,tO,tF,cB,cL];simp;refine C7 (α:=Unit) (fun _=>⟨[(0,.sl []),(1,i6 d),(2,.yv l),(9,.sl []),(10,i6 0),(11,i6 0)],[],[]⟩) (fun _=>k) (fun _=>True) (fun _=>0) ?_ () trivial ?_
  ·rintro K x hK _;clear hK;simp only[rU,za];simp[p8]
  ·apply aC<;>simp
 |succ N ih=>
  intro L d h hc hd;refine TF rfl rfl ?_;intro l ts k hseg;have rl:=bQ L;have rat:=iP L;have ll:=kL L;obtain ⟨RN,hRN⟩: ∃RN,RN=(cA L d).length:=⟨_,rfl⟩;rw[<-hRN] at hseg ⊢;generalize ab L=RR at*;simp only[O8,rU,za,Bv,cB,cL];simp;refine C7 (α:=Nat) (fun i=>⟨[(0,.sl RR),(1,i6 d),(2,.yv l),(9,.sl RR),(10,i6 RR.length),(11,i6 i)],[],[]⟩) (fun i=>k+(cA (L.take i) d).length) (fun i=>i<=L.length) (fun i=>L.length - i) ?_ 0 (jq _) ?_
  ·rintro K i hK h1;have t1:IntKind.i64.wrap ((i:Int)+1)=(i+1:Nat):=by rw[aL]<;>omega
   have t2:IntKind.i64.wrap ((d:Int)+1)=(d+1:Nat):=by rw[aL]<;>omega
   by_cases g:i<L.length
   ·have g':(i:Int)<RR.length:=by omega
    have gR:i<RR.length:=by omega
    have rai:=rat i g gR;have hx1:=wo (xz g);have hx2:=Dz (xz g);have fin:=fun σ' hσ=>hK (i+1) σ' (by omega) (by omega) hσ
    have hat:=H8 L i g d;rw[BS L i g] at fin;clear hK rat;generalize L[i]=x at*;obtain ⟨xn,ws,xb,ks,xl,xc⟩:=x;rw[jh] at hx1;rw[pp] at hx2;rw[It.row] at rai;rw[vx] at hat fin;have IH:=ih ks (d+1) (by omega) (by omega) (by omega);have hlen:RN=(cA (L.take i) d).length+(1+(cA ks (d+1)).length+(cA (L.drop (i+1)) d).length):=by
     rw[hRN,hat];simp[fT];omega
    have s0:ts[k+(cA (L.take i) d).length]?=some [i6 d,.agg [.str xn,.sl (ws.map Tk.row),.bool xb,.sl (ab ks),i6 xl,i6 xc]]:=by
     rw[hseg _ (by omega),hat,List.getElem?_append_right (eR _),Nat.sub_self];rfl
    have s1: ∀q,q<(cA ks (d+1)).length->ts[k+(cA (L.take i) d).length+1+q]?=(cA ks (d+1))[q]?:=by
     intro q hq;rw[show k+(cA (L.take i) d).length+1+q=k+((cA (L.take i) d).length+1+q) from by omega,hseg _ (by omega),hat,List.getElem?_append_right (by omega),show (cA (L.take i) d).length+1+q - (cA (L.take i) d).length=q+1 from by omega,cB,List.getElem?_cons_succ,List.getElem?_append_left hq]
    rw[fT,e7,<-Gd,N8 (cA ks (d+1)).length 1,<-Gd] at fin;clear hat hlen hseg;generalize ab ks=IR,ws.map Tk.row=WR,cA ks (d+1)=TK,(cA (L.take i) d).length=m at*;simp only[rU,za,Bv];simp[g',gR,rai];simp only[MB,m9];simp;refine J7 rfl rfl s0 rfl ?_ ?_
    ·simp only[m9];simp[t2];refine C8 rfl IH rfl rfl rfl s1 rfl ?_ ?_
     ·simp only[m9,lO];simp;refine fin _ ?_;apply aC<;>simp[t1]
     ·simp only[m9,lO];simp[p8]
    ·simp only[m9];simp;refine Em rfl ?_;simp only[m9,lO];simp[p8]
   ·obtain rfl:i=L.length:=by omega
    have g': ¬(L.length:Int)<RR.length:=by omega
    clear hK;rw[tJ] at*;rw[<-hRN];simp only[rU,za];simp[g',p8]
  ·apply aC<;>simp
theorem E2 (L:List It) (b:Id) (hb:b.isIt=false) (hc:bJ L<=100000) (hd:f8 L<=90000):Mz Tryz.prog gl 68 [.ptr b 0] [(b,[.sl (ab L)])] (cA L 1):=by
 refine U4 hb rfl ?_;intro l;have D:=BT _ L 1 (eR _) hc (by omega);generalize ab L=RR,cA L 1=TT at*;simp only[Qo,m9];simp;refine C8 rfl D rfl rfl rfl (fun i hi=>by rw[l5]) rfl ?_ ?_
 ·simp only[lO];simp
 ·simp only[lO];simp
theorem E3 (L:List It) (d:Nat):ba Tryz.prog gl 39 d ⟨[.sl (ab L)],[],[]⟩ ⟨.fn 68 [.ptr (.nw d (.n 1)) 0],[(.nw d (.n 1),[.sl (ab L)])],[]⟩:=by
 refine UB rfl ?_;generalize ab L=RR at*;simp only[ar,aW,aP,AV.mp,aY,Pl.mp];simp[Ti];apply ah<;>simp
theorem E4 (s:List UInt8) (i n r0 least:Nat) (h:(cD s i n r0 least).1= -1):(cD s i n r0 least).2=1:=by
 unfold cD at h ⊢;split
 ·rename_i hc;rw[if_pos hc] at h;simp only at h;omega
 ·rfl
theorem E5 (s:List UInt8) (i:Nat) (h:(aq s i).1= -1):(aq s i).2=1:=by
 unfold aq at h ⊢;simp only at h ⊢;repeat' split
 all_goals first
  |rfl
  |(simp_all;done)
  |(simp_all;exact E4 _ _ _ _ _ (by assumption))
theorem pG (s:List UInt8) (i n r0 least:Nat) (hn:1<=n) (h:(cD s i n r0 least).1≠ -1):(cD s i n r0 least).2≠1:=by
 unfold cD at h ⊢;split
 ·simp only;omega
 ·rename_i hc;rw[if_neg hc] at h;exact absurd rfl h
theorem E6 (s:List UInt8) (i:Nat) (h:(aq s i).1≠ -1) (h1:(aq s i).2=1):(aq s i).1<128:=by
 by_cases hb:bF s i<128
 ·unfold aq;simp only[hb,if_true];omega
 ·exfalso;unfold aq at h h1;simp only[hb,if_false] at h h1;split at h
  ·rename_i q;rw[if_pos q] at h1;exact pG _ _ _ _ _ (by omega) h h1
  ·rename_i q;rw[if_neg q] at h1;split at h
   ·rename_i q;rw[if_pos q] at h1;exact pG _ _ _ _ _ (by omega) h h1
   ·rename_i q;rw[if_neg q] at h1;split at h
    ·rename_i q;rw[if_pos q] at h1;exact pG _ _ _ _ _ (by omega) h h1
    ·exact absurd rfl h
theorem MX (s:List UInt8) (i:Nat) (h:i<s.length):(dW s i).2=(aq s i).2:=by
 rw[gp s i h];split
 ·rename_i hb;rw[E5 s i hb]
 ·rfl
def iB (l:List Int):Bool:=l.all fun r=>decide (0<=r)
theorem H9 (s:List UInt8) (i n r0 least:Nat):(cD s i n r0 least).1= -1\/0<=(cD s i n r0 least).1:=by
 unfold cD;split
 ·right;simp only;omega
 ·left;rfl
theorem Ia (s:List UInt8) (i:Nat):(aq s i).1= -1\/0<=(aq s i).1:=by
 unfold aq;simp only;repeat' split
 all_goals first
  |exact H9 _ _ _ _ _
  |(left;rfl)
  |(right;simp only;omega)
theorem BU (s:List UInt8) (i:Nat):dW s i=(((Lib.decodeL (s.drop i)).1:Int),(Lib.decodeL (s.drop i)).2):=by
 have:=Lib.decodeL_drop ⟨s.toArray⟩ i
 simp only at this;rw[this];rfl
theorem DA (s:List UInt8): ∀(n i:Nat),s.length - i<=n->Lib.validGoD n (s.drop i)=iB (ay s i)
 |0,i,h=>by
  rw[aS (by omega)];rfl
 |n+1,i,h=>by
  by_cases g:i<s.length
  ·have hne:s.drop i≠[]:=by
    intro e
    have:=congrArg List.length e
    rw[xy] at this;simp at this;omega
   have sr:=gp s i g;have da:=BU s i;rw[da] at sr;simp only[Lib.validGoD,if_neg hne];rw[bp g];have pos:=cN s i;by_cases hb:(aq s i).1= -1
   ·rw[if_pos hb] at sr;simp only[jM] at sr;rw[if_pos ⟨by omega,sr.2⟩];simp[iB,hb]
   ·rw[if_neg hb] at sr;have e1:((Lib.decodeL (s.drop i)).1:Int)=(aq s i).1:=congrArg Prod.fst sr;have e2:(Lib.decodeL (s.drop i)).2=(aq s i).2:=congrArg Prod.snd sr;rw[if_neg (by
     rintro ⟨q1,q2⟩
     have:=E6 s i hb (by omega)
     omega)]
    rw[List.drop_drop,e2,DA s n (i+(aq s i).2) (by omega)];have h0:0<=(aq s i).1:=by rcases Ia s i with h|h;exact absurd h hb;exact h
    simp[iB,h0]
  ·have e:s.drop i=[]:=Co (by omega);simp only[Lib.validGoD,e,if_true];rw[aS g];rfl
theorem zY (s:List UInt8):Lib.validD s=iB (ay s 0):=by
 have:=DA s s.length 0 (by omega)
 rwa [Gc] at this
theorem qf (s:List UInt8) (hl:s.length<=900000):Sp Tryz.prog gl 94 [.str s] (i6 (ay s 0).length):=by
 refine Vl rfl rfl ?_;obtain ⟨R,hR⟩: ∃R,R=(ay s 0).length:=⟨_,rfl⟩;rw[<-hR];simp[TW];refine cP (α:=Nat×Nat) (fun x=>⟨[(3,i6 x.2),(5,.itp 5)],[(.it 5,[.itr s x.1])],[]⟩)
  (fun x=>x.2<=x.1/\x.2+(ay s x.1).length=R/\x.1<=s.length+3) (fun x=>s.length+4 - x.1) ?_ (0,0) ?_ ?_
 ·rintro K ⟨i,n⟩ hK ⟨h1,h2,h3⟩;simp only at h1 h2 h3;by_cases g:i<s.length
  ·rw[bp g] at h2;simp only[e7] at h2;have sw:=MX s i g;have sl:=zb g;have sp:=cN s i;have fin: ∀σ',il σ' ⟨[(3,i6 (n+1:Nat)),(5,.itp 5)],[(.it 5,[.itr s (i+(aq s i).2)])],[]⟩->K σ':=
    fun σ' hσ=>hK (i+(aq s i).2,n+1) σ' ⟨by simp only;omega,by simp only;omega,by simp only;omega⟩ (by simp only;omega) hσ
   have t1:IntKind.i64.wrap ((n:Int)+1)=(n+1:Nat):=by rw[aL]<;>omega
   clear hK hR h2;simp[g,sw];refine fin _ (aC ?_ ?_ ?_ ?_ ?_ ?_)<;>simp[t1]
  ·rw[aS g] at h2
   have:n=R:=by simpa using h2
   subst this;simp[g]
 ·exact ⟨eR _,by simp[hR],by simp⟩
 ·apply aC<;>simp
open Go.Shelf
def jK:Ren:={
 f:=fun x=>match x with
  |196=>116
  |259=>138
  |n=>n
 t:=fun x=>match x with
  |9=>9
  |4=>4
  |3=>3
  |5=>5
  |12=>12
  |119=>204
  |0=>0
  |46=>208
  |139=>207
  |138=>206
  |53=>56
  |n=>n
 g:=fun x=>match x with
  |3=>0
  |4=>1
  |n=>n}
set_option maxRecDepth 100000 in
theorem E7:Lays.n196 Tryz.prog jK where
 mixed:=by kernel_rfl
 f196:=Eq.trans Tryz.func116 (congrArg some (show Tryz.f116=Body.n196 jK by kernel_rfl))
 f259:=Eq.trans Tryz.func138 (congrArg some (show Tryz.f138=Body.n259 jK by kernel_rfl))
 t0:=Tryz.underlying0
 a0:=Tryz.isAgg0
 z0:=Tryz.sizeOf0
 v0:=Tryz.zeroValue0
 t3:=Tryz.underlying3
 a3:=Tryz.isAgg3
 z3:=Tryz.sizeOf3
 v3:=Tryz.zeroValue3
 t4:=Tryz.underlying4
 a4:=Tryz.isAgg4
 z4:=Tryz.sizeOf4
 v4:=Tryz.zeroValue4
 t5:=Tryz.underlying5
 a5:=Tryz.isAgg5
 z5:=Tryz.sizeOf5
 v5:=Tryz.zeroValue5
 t9:=Tryz.underlying9
 a9:=Tryz.isAgg9
 z9:=Tryz.sizeOf9
 v9:=Tryz.zeroValue9
 t12:=Tryz.underlying12
 a12:=Tryz.isAgg12
 z12:=Tryz.sizeOf12
 v12:=Tryz.zeroValue12
 t46:=Tryz.underlying208
 a46:=Tryz.isAgg208
 z46:=Tryz.sizeOf208
 v46:=Tryz.zeroValue208
 t53:=Tryz.underlying56
 a53:=Tryz.isAgg56
 z53:=Tryz.sizeOf56
 v53:=Tryz.zeroValue56
 t119:=Tryz.underlying204
 a119:=Tryz.isAgg204
 z119:=Tryz.sizeOf204
 t138:=Tryz.underlying206
 a138:=Tryz.isAgg206
 z138:=Tryz.sizeOf206
 v138:=Tryz.zeroValue206
 t139:=Tryz.underlying207
 a139:=Tryz.isAgg207
 z139:=Tryz.sizeOf207
 v139:=Tryz.zeroValue207
 g3:=by kernel_rfl
 g4:=by kernel_rfl
def iK:Ren:={
 f:=fun x=>match x with
  |103=>156
  |210=>177
  |206=>187
  |n=>n
 t:=fun x=>match x with
  |9=>9
  |4=>4
  |24=>184
  |3=>3
  |n=>n
 g:=fun x=>x}
set_option maxRecDepth 100000 in
theorem Ib:Lays.n103 Tryz.prog iK where
 mixed:=by kernel_rfl
 f103:=Eq.trans Tryz.func156 (congrArg some (show Tryz.f156=Body.n103 iK by kernel_rfl))
 f206:=Eq.trans Tryz.func187 (congrArg some (show Tryz.f187=Body.n206 iK by kernel_rfl))
 f210:=Eq.trans Tryz.func177 (congrArg some (show Tryz.f177=Body.n210 iK by kernel_rfl))
 t3:=Tryz.underlying3
 a3:=Tryz.isAgg3
 z3:=Tryz.sizeOf3
 v3:=Tryz.zeroValue3
 t4:=Tryz.underlying4
 a4:=Tryz.isAgg4
 z4:=Tryz.sizeOf4
 v4:=Tryz.zeroValue4
 t9:=Tryz.underlying9
 a9:=Tryz.isAgg9
 z9:=Tryz.sizeOf9
 v9:=Tryz.zeroValue9
 t24:=Tryz.underlying184
 a24:=Tryz.isAgg184
 z24:=Tryz.sizeOf184
 v24:=Tryz.zeroValue184
structure KY (P:Program) (ρ:Ren):Prop where
 mixed:P.follows .mixedOrders=true
 f240:P.funcs[ρ.f 240]?=some (Body.n240 ρ)
 f276:P.funcs[ρ.f 276]?=some (Body.n276 ρ)
 t0:P.underlying (ρ.t 0)=some (TypeDesc.tuple #[])
 a0: ∀w,(isAgg (ρ.t 0)).run P w= .ok false w
 z0: ∀w,(Go.sizeOf (ρ.t 0)).run P w= .ok 1 w
 v0: ∀w,(zeroValue (ρ.t 0)).run P w= .ok (Value.tuple #[]) w
 t3:P.underlying (ρ.t 3)=some (TypeDesc.int IntKind.i64)
 a3: ∀w,(isAgg (ρ.t 3)).run P w= .ok false w
 z3: ∀w,(Go.sizeOf (ρ.t 3)).run P w= .ok 1 w
 v3: ∀w,(zeroValue (ρ.t 3)).run P w= .ok (Value.int IntKind.i64 0) w
 t4:P.underlying (ρ.t 4)=some (TypeDesc.bool)
 a4: ∀w,(isAgg (ρ.t 4)).run P w= .ok false w
 z4: ∀w,(Go.sizeOf (ρ.t 4)).run P w= .ok 1 w
 v4: ∀w,(zeroValue (ρ.t 4)).run P w= .ok (Value.bool false) w
 t9:P.underlying (ρ.t 9)=some (TypeDesc.string)
 a9: ∀w,(isAgg (ρ.t 9)).run P w= .ok false w
 z9: ∀w,(Go.sizeOf (ρ.t 9)).run P w= .ok 1 w
 v9: ∀w,(zeroValue (ρ.t 9)).run P w= .ok (Value.string {data:= #[]}) w
 t20:P.underlying (ρ.t 20)=some (TypeDesc.interface #[])
 a20: ∀w,(isAgg (ρ.t 20)).run P w= .ok false w
 z20: ∀w,(Go.sizeOf (ρ.t 20)).run P w= .ok 1 w
 v20: ∀w,(zeroValue (ρ.t 20)).run P w= .ok (Value.nilIface) w
 t37:P.underlying (ρ.t 37)=some (TypeDesc.slice (ρ.t 5))
 a37: ∀w,(isAgg (ρ.t 37)).run P w= .ok false w
 z37: ∀w,(Go.sizeOf (ρ.t 37)).run P w= .ok 1 w
 v37: ∀w,(zeroValue (ρ.t 37)).run P w= .ok (Value.slice none 0 0) w
 t70:P.underlying (ρ.t 70)=some (TypeDesc.pointer (ρ.t 72))
 a70: ∀w,(isAgg (ρ.t 70)).run P w= .ok false w
 z70: ∀w,(Go.sizeOf (ρ.t 70)).run P w= .ok 1 w
 v70: ∀w,(zeroValue (ρ.t 70)).run P w= .ok (Value.pointer none) w
 t72:P.underlying (ρ.t 72)=some (TypeDesc.struct #[{name:= "addr",type:=ρ.t 70,offset:=0,embedded:=false,tag:= "",pkgPath:= "strings",byteOffset:=0},{name:= "buf",type:=ρ.t 37,offset:=1,embedded:=false,tag:= "",pkgPath:= "strings",byteOffset:=8}])
 a72: ∀w,(isAgg (ρ.t 72)).run P w= .ok true w
 z72: ∀w,(Go.sizeOf (ρ.t 72)).run P w= .ok 2 w
 v72: ∀w,(zeroValue (ρ.t 72)).run P w= .ok (Value.agg #[Value.pointer none,Value.slice none 0 0]) w
 t75:P.underlying (ρ.t 75)=some (TypeDesc.interface #[("Error",ρ.t 80)])
 a75: ∀w,(isAgg (ρ.t 75)).run P w= .ok false w
 z75: ∀w,(Go.sizeOf (ρ.t 75)).run P w= .ok 1 w
 v75: ∀w,(zeroValue (ρ.t 75)).run P w= .ok (Value.nilIface) w
 t164:P.underlying (ρ.t 164)=some (TypeDesc.unsafePointer)
 a164: ∀w,(isAgg (ρ.t 164)).run P w= .ok false w
 z164: ∀w,(Go.sizeOf (ρ.t 164)).run P w= .ok 1 w
 v164: ∀w,(zeroValue (ρ.t 164)).run P w= .ok (Value.pointer none) w
 f169:P.funcs[ρ.f 169]?=some (Body.n169 ρ)
 t127:P.underlying (ρ.t 127)=some (TypeDesc.pointer (ρ.t 5))
 a127: ∀w,(isAgg (ρ.t 127)).run P w= .ok false w
 z127: ∀w,(Go.sizeOf (ρ.t 127)).run P w= .ok 1 w
 v127: ∀w,(zeroValue (ρ.t 127)).run P w= .ok (Value.pointer none) w
def dQ:Ren:={
 f:=fun x=>match x with
  |169=>158
  |240=>189
  |276=>192
  |n=>n
 t:=fun x=>match x with
  |0=>0
  |3=>3
  |4=>4
  |5=>5
  |9=>9
  |20=>20
  |37=>201
  |70=>222
  |72=>224
  |75=>193
  |76=>241
  |80=>227
  |127=>243
  |164=>256
  |n=>n
 g:=fun x=>x}
set_option maxRecDepth 100000 in
theorem aM:KY Tryz.prog dQ where
 mixed:=by kernel_rfl
 f240:=Eq.trans Tryz.func189 (congrArg some (show Tryz.f189=Body.n240 dQ by kernel_rfl))
 f276:=Eq.trans Tryz.func192 (congrArg some (show Tryz.f192=Body.n276 dQ by kernel_rfl))
 t0:=Tryz.underlying0
 a0:=Tryz.isAgg0
 z0:=Tryz.sizeOf0
 v0:=Tryz.zeroValue0
 t3:=Tryz.underlying3
 a3:=Tryz.isAgg3
 z3:=Tryz.sizeOf3
 v3:=Tryz.zeroValue3
 t4:=Tryz.underlying4
 a4:=Tryz.isAgg4
 z4:=Tryz.sizeOf4
 v4:=Tryz.zeroValue4
 t9:=Tryz.underlying9
 a9:=Tryz.isAgg9
 z9:=Tryz.sizeOf9
 v9:=Tryz.zeroValue9
 t20:=Tryz.underlying20
 a20:=Tryz.isAgg20
 z20:=Tryz.sizeOf20
 v20:=Tryz.zeroValue20
 t37:=Tryz.underlying201
 a37:=Tryz.isAgg201
 z37:=Tryz.sizeOf201
 v37:=Tryz.zeroValue201
 t70:=Tryz.underlying222
 a70:=Tryz.isAgg222
 z70:=Tryz.sizeOf222
 v70:=Tryz.zeroValue222
 t72:=Tryz.underlying224
 a72:=Tryz.isAgg224
 z72:=Tryz.sizeOf224
 v72:=Tryz.zeroValue224
 t75:=Tryz.underlying193
 a75:=Tryz.isAgg193
 z75:=Tryz.sizeOf193
 v75:=Tryz.zeroValue193
 t164:=Tryz.underlying256
 a164:=Tryz.isAgg256
 z164:=Tryz.sizeOf256
 v164:=Tryz.zeroValue256
 f169:=Eq.trans Tryz.func158 (congrArg some (show Tryz.f158=Body.n169 dQ by kernel_rfl))
 t127:=Tryz.underlying243
 a127:=Tryz.isAgg243
 z127:=Tryz.sizeOf243
 v127:=Tryz.zeroValue243
end Go.Ai
