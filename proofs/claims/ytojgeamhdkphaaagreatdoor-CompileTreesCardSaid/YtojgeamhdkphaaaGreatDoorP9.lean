/- P9: a part of the proof. Conditions: as each theorem says. -/
import Derived.Test.YtojgeamhdkphaaaGreatDoorP8
set_option maxHeartbeats 4000000
set_option linter.unusedSimpArgs false
set_option linter.unusedVariables false
set_option maxRecDepth 20000
namespace Go.Ai
open Go.Proofs
def aI {α:Type} (mk:α->MK) (l:List (α×Nat)):List (MK×MK):=l.map fun p=>(mk p.1,.i .i64 p.2)
def eN {α:Type} [DecidableEq α] (l:List (α×Nat)) (n:α):List (α×Nat):=match l with
 |[]=>[(n,1)]
 |(m,c)::r=>if n=m then (m,c+1)::r else (m,c)::eN r n
structure Ij {α:Type} (l:List (α×Nat)) (s:List α):Prop where
 mem: ∀n,n∈l.map Prod.fst↔n∈s
 le: ∀p∈l,1<=p.2/\p.2<=s.length
theorem mJ {α:Type} [DecidableEq α] (n x:α): ∀l:List (α×Nat),x∈(eN l n).map Prod.fst↔x=n\/x∈l.map Prod.fst
 |[]=>by simp[eN]
 |(m,c)::r=>by
  simp only[eN];split
  ·rename_i h;subst h;simp
  ·rename_i h;simp only[gL,o8,mJ n x r];constructor
   ·rintro (h|h|h)
    ·exact .inr (.inl h)
    ·exact .inl h
    ·exact .inr (.inr h)
   ·rintro (h|h|h)
    ·exact .inr (.inl h)
    ·exact .inl h
    ·exact .inr (.inr h)
theorem zZ {α:Type} [DecidableEq α] (n:α) (N:Nat): ∀l:List (α×Nat),(∀p∈l,1<=p.2/\p.2<=N)-> ∀p∈eN l n,1<=p.2/\p.2<=N+1
 |[],_,p,hp=>by simp only[eN,KA] at hp;subst hp;simp
 |(m,c)::r,h,p,hp=>by
  simp only[eN] at hp;have h1:=h (m,c) (by simp);simp only at h1;split at hp
  ·rcases o8.1 hp with rfl|hp
   ·simp only;omega
   ·have:=h p (by simp[hp]);omega
  ·rcases o8.1 hp with rfl|hp
   ·simp only;omega
   ·exact zZ n N r (fun q hq=>h q (by simp[hq])) p hp
theorem Ij.nil {α:Type}:Ij ([]:List (α×Nat)) []:=⟨by simp,by simp⟩
theorem Ij.bump {α:Type} [DecidableEq α] {l:List (α×Nat)} {s:List α} (h:Ij l s) (n:α):Ij (eN l n) (s++[n]):=by
 refine ⟨fun x=>?_,fun p hp=>?_⟩
 ·rw[mJ,h.mem,lN,KA];exact Or.comm
 ·rw[gJ];exact zZ n s.length l h.le p hp
theorem vh {α:Type} [DecidableEq α] (mk:α->MK) (hs: ∀a b:α,MK.same (mk a) (mk b)=some (decide (a=b))) (n:α): ∀(l:List (α×Nat)) (i:Nat),
  (n∉l.map Prod.fst/\iz (mk n) (aI mk l) i=some none/\aI mk (eN l n)=aI mk l++[(mk n,.i .i64 1)]/\
   iz (mk n) (aI mk l++[(mk n,.i .i64 1)]) i=some (some (i+l.length,.i .i64 1)))\/
  ∃j c,(n,c)∈l/\iz (mk n) (aI mk l) i=some (some (i+j,.i .i64 (c:Nat)))/\tN (aI mk l) j (.i .i64 ((c+1:Nat):Int))=aI mk (eN l n)/\
   iz (mk n) (aI mk (eN l n)) i=some (some (i+j,.i .i64 ((c+1:Nat):Int)))
 |[],i=> .inl ⟨by simp,rfl,rfl,by simp[aI,iz,hs]⟩
 |(m,c)::r,i=>by
  have e:aI mk ((m,c)::r)=(mk m,.i .i64 c)::aI mk r:=rfl;rw[e];simp only[iz,hs,eN,cT];by_cases h:n=m
  ·subst h;refine .inr ⟨0,c,by simp,?_,?_,?_⟩
   ·simp
   ·rw[if_pos rfl];rfl
   ·rw[if_pos rfl];simp[aI,iz,hs]
  ·rw[ik h,if_neg h];have e2:aI mk ((m,c)::eN r n)=(mk m,.i .i64 c)::aI mk (eN r n):=rfl;rw[e2];simp only[iz,hs,ik h];rcases vh mk hs n r (i+1) with ⟨h0,h1,h2,h3⟩|⟨j,c',h0,h1,h2,h3⟩
   ·refine .inl ⟨by simp only[gL,o8];exact fun e=>e.elim h h0,h1,by rw[h2],?_⟩;simp only[h3,jG];rw[show i+1+r.length=i+(r.length+1) by omega]
   ·refine .inr ⟨j+1,c',by simp[h0],?_,?_,?_⟩
    ·simp only[h1];rw[show i+1+j=i+(j+1) by omega]
    ·show tN _ (j+1) _=(mk m,MK.i .i64 (c:Int))::aI mk (eN r n);rw[<-h2];rfl
    ·simp only[h3];rw[show i+1+j=i+(j+1) by omega]
def kS (s:List UInt8):MK:= .s s
theorem Ki (a b:List UInt8):MK.same (kS a) (kS b)=some (decide (a=b)):=by
 simp only[kS,MK.same];by_cases h:a=b<;>simp[h]
def aB (s:List (List UInt8)):List (List UInt8×Nat):=s.foldl eN []
theorem BL (s:List (List UInt8)) (n:List UInt8):aB (s++[n])=eN (aB s) n:=by
 unfold aB;rw[List.foldl_append];rfl
theorem vj {α:Type} [DecidableEq α] (n:α) (f:α->Nat): ∀l:List (α×Nat),(l.map Prod.fst).Nodup->(∀p∈l,p.2=f p.1)->(n∉l.map Prod.fst->f n=0)->
  ((eN l n).map Prod.fst).Nodup/\ ∀p∈eN l n,p.2=f p.1+(if p.1=n then 1 else 0)
 |[],_,_,h0=>by
  have:=h0 (by simp)
  refine ⟨by simp[eN],fun p hp=>?_⟩;simp only[eN,KA] at hp;subst hp;simp[this]
 |(m,c)::r,hn,hv,h0=>by
  rw[gL,Mp] at hn;have hm:=hv (m,c) (by simp);simp only at hm;rw[eN];by_cases e:n=m
  ·subst e;rw[if_pos rfl];refine ⟨by rw[gL,Mp];exact hn,fun p hp=>?_⟩;rcases o8.1 hp with rfl|hp
   ·simp[hm]
   ·have hne:p.1≠n:=fun e=>hn.1 (nM.2 ⟨p,hp,e⟩)
    rw[if_neg hne,hv p (by simp[hp])];rfl
  ·rw[if_neg e];obtain ⟨i1,i2⟩:=vj n f r hn.2 (fun p hp=>hv p (by simp[hp])) (fun h=>h0 (by
    rw[gL,o8];rintro (g|g)
    ·exact e g
    ·exact h g))
   refine ⟨?_,fun p hp=>?_⟩
   ·rw[gL,Mp];refine ⟨fun hm2=>?_,i1⟩;rcases (mJ n m r).1 hm2 with g|g
    ·exact e g.symm
    ·exact hn.1 g
   ·rcases o8.1 hp with rfl|hp
    ·rw[if_neg (fun g=>e g.symm)];exact hm
    ·exact i2 p hp
def vq (l:List (List UInt8×Nat)) (s:List (List UInt8)):Prop:=(l.map Prod.fst).Nodup/\(∀p∈l,p.2=s.count p.1)/\(∀n,n∈l.map Prod.fst↔n∈s)
theorem vq.bump {l:List (List UInt8×Nat)} {s:List (List UInt8)} (h:vq l s) (n:List UInt8):vq (eN l n) (s++[n]):=by
 obtain ⟨h1,h2,h3⟩:=h;obtain ⟨g1,g2⟩:=vj n (fun x=>s.count x) l h1 h2 (fun h=>List.count_eq_zero.2 (fun g=>h ((h3 n).2 g)));refine ⟨g1,fun p hp=>?_,fun x=>?_⟩
 ·rw[g2 p hp,List.count_append,List.count_singleton];by_cases e:p.1=n
  ·rw[if_pos e,if_pos (by rw[e];simp)]
  ·rw[if_neg e,if_neg (by simpa using fun g=>e g.symm)]
 ·rw[mJ,h3,lN,KA];exact Or.comm
theorem Df: ∀(t:List (List UInt8)) (l:List (List UInt8×Nat)) (s:List (List UInt8)),vq l s->vq (t.foldl eN l) (s++t)
 |[],l,s,h=>by rw[BV];exact h
 |n::t,l,s,h=>by
  have:=Df t _ _ (h.bump n)
  rw[BU] at this;exact this
theorem Ik (s:List (List UInt8)):vq (aB s) s:=Df s [] [] ⟨by simp,by simp,by simp⟩
theorem f8 (s:List (List UInt8)) (n:List UInt8):
  (s.count n=0/\iz (kS n) (aI kS (aB s)) 0=some none/\aI kS (aB (s++[n]))=aI kS (aB s)++[(kS n,.i .i64 1)]/\iz (kS n) (aI kS (aB s)++[(kS n,.i .i64 1)]) 0=some (some ((aB s).length,.i .i64 1)))\/
  ∃j,0<s.count n/\iz (kS n) (aI kS (aB s)) 0=some (some (j,.i .i64 (s.count n:Nat)))/\tN (aI kS (aB s)) j (.i .i64 ((s.count n+1:Nat):Int))=aI kS (aB (s++[n])):=by
 obtain ⟨h1,h2,h3⟩:=Ik s;rw[BL];rcases vh kS Ki n (aB s) 0 with ⟨a,b,c,d⟩|⟨j,c,a,b,d,e⟩
 ·rw[mm] at d;exact .inl ⟨List.count_eq_zero.2 (fun g=>a ((h3 n).2 g)),b,c,d⟩
 ·have hc:=h2 (n,c) a;simp only at hc;subst hc;refine .inr ⟨j,List.count_pos_iff.2 ((h3 n).1 (nM.2 ⟨_,a,rfl⟩)),?_,d⟩;rw[mm] at b;exact b
def mh (n:List UInt8):Bool:=n==ly||(n==nP||n==du)
def dJ (n w:List UInt8):List UInt8:=n++32::w
def lK (y:It):List (List UInt8):=if mh y.nm=true then [dJ y.nm (w0 y.ws),y.nm] else [y.nm]
def ar (C:List It):List (List UInt8):=C.flatMap lK
theorem lA (C:List It) (x:It):ar (C++[x])=ar C++lK x:=by simp[ar]
theorem z6: ∀ {a b c d:List UInt8},(32:UInt8)∉a->(32:UInt8)∉c->a++32::b=c++32::d->a=c/\b=d
 |[],b,[],d,_,_,h=>by simpa using h
 |[],b,x::c,d,_,hc,h=>by
  simp only[dB,cT,List.cons.injEq] at h;exact absurd (by simp[h.1]) hc
 |x::a,b,[],d,ha,_,h=>by
  simp only[dB,cT,List.cons.injEq] at h;exact absurd (by simp[h.1]) ha
 |x::a,b,y::c,d,ha,hc,h=>by
  simp only[cT,List.cons.injEq] at h;simp only[o8,not_or] at ha hc;obtain ⟨e1,e2⟩:=z6 ha.2 hc.2 h.2;exact ⟨by rw[h.1,e1],e2⟩
theorem Dg (n w:List UInt8):(32:UInt8)∈dJ n w:=by simp[dJ]
theorem qY (n:List UInt8) (hn:(32:UInt8)∉n): ∀C:List It,(ar C).count n=lz C n
 |[]=>rfl
 |y::C=>by
  have ih:=qY n hn C;have e:ar (y::C)=lK y++ar C:=by simp[ar]
  rw[e,List.count_append,ih];unfold lz;rw[List.filter_cons];have hf:dJ y.nm (w0 y.ws)≠n:=fun g=>hn (by rw[<-g];exact Dg _ _)
  have one:(lK y).count n=if y.nm=n then 1 else 0:=by
   unfold lK;split
   ·rw[List.count_cons,List.count_singleton,if_neg (show ¬(dJ y.nm (w0 y.ws)==n)=true by simpa using hf)];simp
   ·rw[List.count_singleton];simp
  rw[one];by_cases g:y.nm=n
  ·rw[if_pos g,if_pos (by simpa using g),jG];omega
  ·rw[if_neg g,if_neg (by simpa using g)];omega
theorem vu (n w:List UInt8) (hn:(32:UInt8)∉n) (hm:mh n=true): ∀C:List It,(∀y∈C,(32:UInt8)∉y.nm)->(ar C).count (dJ n w)=(C.filter fun y=>y.nm==n&&w0 y.ws==w).length
 |[],_=>rfl
 |y::C,h=>by
  have ih:=vu n w hn hm C fun z hz=>h z (by simp[hz])
  have hy:=h y (by simp);have e:ar (y::C)=lK y++ar C:=by simp[ar]
  rw[e,List.count_append,ih,List.filter_cons];have hf:y.nm≠dJ n w:=fun g=>hy (by rw[g];exact Dg _ _)
  have one:(lK y).count (dJ n w)=if y.nm=n/\w0 y.ws=w then 1 else 0:=by
   unfold lK;split
   ·rw[List.count_cons,List.count_singleton,if_neg (show ¬(y.nm==dJ n w)=true by simpa using hf),mm];by_cases g:y.nm=n/\w0 y.ws=w
    ·rw[if_pos g,if_pos (by rw[g.1,g.2];simp)]
    ·rw[if_neg g,if_neg];intro q;exact g (z6 hy hn (cY.1 q))
   ·rename_i hk;rw[List.count_singleton,if_neg (show ¬(y.nm==dJ n w)=true by simpa using hf),if_neg];rintro ⟨g,_⟩;exact hk (by rw[g];exact hm)
  rw[one];by_cases g:y.nm=n/\w0 y.ws=w
  ·rw[if_pos g,if_pos (by simp[g.1,g.2]),jG];omega
  ·rw[if_neg g,if_neg (by simpa using g)];omega
theorem tu {α:Type} (p:α->Bool) (C:List α):(C.filter p).length=0↔C.any p=false:=by
 rw[List.length_eq_zero_iff,List.filter_eq_nil_iff,List.any_eq_false]
theorem iV {w:Nat} {n:List UInt8} {p:jV} (h:bK w n=some p):p∈fZ w/\p.nm=n:=by
 unfold bK at h;exact ⟨List.mem_of_find?_eq_some h,by simpa using List.find?_some h⟩
theorem xe (P:jV->Prop) [DecidablePred P] (h0: ∀p∈fZ 0,P p) (h1: ∀p∈fZ 1,P p) (h2: ∀p∈fZ 2,P p) (h3: ∀p∈fZ 3,P p) (w:Nat): ∀p∈fZ w,P p:=by
 unfold fZ at*;by_cases e0:w=0
 ·rw[if_pos e0];exact h0
 by_cases e1:w=1
 ·rw[if_neg e0,if_pos e1];exact h1
 by_cases e2:w=2
 ·rw[if_neg e0,if_neg e1,if_pos e2];exact h2
 ·rw[if_neg e0,if_neg e1,if_neg e2];exact h3
theorem xf (w:Nat): ∀p∈fZ w,(32:UInt8)∉p.nm:=xe _ (by decide) (by decide) (by decide) (by decide) w
theorem EJ (w:Nat): ∀p∈fZ w,(mh p.nm=true↔p.mo≠1):=xe _ (by decide) (by decide) (by decide) (by decide) w
def kR (w:Nat) (C:List It):Prop:= ∀y∈C,∃p,bK w y.nm=some p/\cz p y=true
theorem kR.sp {w:Nat} {C:List It} (h:kR w C): ∀y∈C,(32:UInt8)∉y.nm:=fun y hy=>by
 obtain ⟨p,hp,_⟩:=h y hy;obtain ⟨h1,h2⟩:=iV hp;rw[<-h2];exact xf w p h1
theorem iw {w:Nat} {C:List It} {x:It} (h:aV w C x=0): ∃p,bK w x.nm=some p/\cz p x=true:=by
 unfold aV at h;split at h
 ·cases h
 ·rename_i p hp;refine ⟨p,hp,?_⟩;cases hf:cz p x with
  |true=>rfl
  |false=>rw[hf,if_pos rfl] at h;cases h
theorem kR.snoc {w:Nat} {C:List It} {x:It} (h:kR w C) (hx:aV w C x=0):kR w (C++[x]):=fun y hy=>by
 rcases lN.1 hy with hy|hy
 ·exact h y hy
 ·rw[KA] at hy;subst hy;exact iw hx
theorem go {w:Nat} {C:List It} {x:It} (h:bK w x.nm=none):aV w C x=7:=by
 unfold aV;rw[h]
theorem ii {w:Nat} {C:List It} {x:It} {p:jV} (h:bK w x.nm=some p) (hf:cz p x=false):aV w C x=6:=by
 unfold aV;rw[h];dsimp only;rw[if_pos hf]
theorem kT {w:Nat} {C:List It} {x:It} {p:jV} (h:bK w x.nm=some p) (hf:cz p x=true) (h1:p.mo=1):aV w C x=if (ar C).count x.nm≠0 then 18 else if f7 x<p.lo\/p.hi<f7 x then 8 else 0:=by
 obtain ⟨hm,hn⟩:=iV h;have sp:(32:UInt8)∉x.nm:=by rw[<-hn];exact xf w p hm
 rw[qY x.nm sp];unfold aV;rw[h];dsimp only;rw[if_neg (by rw[hf];decide),h1];have e:(C.any fun y=>y.nm==x.nm&&((1:Nat)==1||w0 y.ws==w0 x.ws))=C.any fun y=>y.nm==x.nm:=by
  congr 1
  funext y
  simp
 rw[e];have z:=tu (fun y:It=>y.nm==x.nm) C;unfold lz;cases ha:C.any fun y=>y.nm==x.nm with
 |true=>
  rw[if_pos rfl,if_pos (fun g=>by rw[z.1 g] at ha;cases ha)]
 |false=>
  rw[z.2 ha,if_neg (by decide),if_neg (by decide)];simp
theorem ij {w:Nat} {C:List It} {x:It} {p:jV} (hC:kR w C) (h:bK w x.nm=some p) (hf:cz p x=true) (h1:p.mo≠1):aV w C x=if (ar C).count (dJ x.nm (w0 x.ws))≠0 then 18 else if p.mo<=(ar C).count x.nm then 9 else 0:=by
 obtain ⟨hm,hn⟩:=iV h;have sp:(32:UInt8)∉x.nm:=by rw[<-hn];exact xf w p hm
 have nd:mh x.nm=true:=by rw[<-hn];exact (EJ w p hm).2 h1
 rw[qY x.nm sp,vu x.nm (w0 x.ws) sp nd C hC.sp];unfold aV;rw[h];dsimp only;have b1:(p.mo==1)=false:=by simpa using h1
 rw[if_neg (by rw[hf];decide),b1];have e:(C.any fun y=>y.nm==x.nm&&(false||w0 y.ws==w0 x.ws))=C.any fun y=>y.nm==x.nm&&w0 y.ws==w0 x.ws:=by
  congr 1
 rw[e];have z:=tu (fun y:It=>y.nm==x.nm&&w0 y.ws==w0 x.ws) C;have e3: ∀q:Prop,[Decidable q]->(if p.mo=1/\q then (8:Int) else 0)=0:=fun q _=>if_neg (fun g=>h1 g.1)
 rw[e3];cases ha:C.any fun y=>y.nm==x.nm&&w0 y.ws==w0 x.ws with
 |true=>
  rw[if_pos rfl,if_pos (fun g=>by rw[z.1 g] at ha;cases ha)]
 |false=>
  rw[z.2 ha,if_neg (by decide)];simp
theorem oY {n:List UInt8} {d:Nat}: ∀ {C:List It},cR C n=false->ah C n d=d
 |[],_=>rfl
 |y::C,h=>by
  unfold cR at h;rw[List.any_cons,Bool.or_eq_false_iff] at h;rw[ah,if_neg (bJ.1 h.1)];exact oY h.2
theorem qd (x:It) (n:List UInt8) (d:Nat): ∀C:List It,ah (C++[x]) n d=if cR C n=true then ah C n d else if x.nm=n then f7 x else d
 |[]=>by simp[ah,cR]
 |y::C=>by
  rw[cT,ah,ah,qd x n d C];unfold cR;rw[List.any_cons];by_cases h:y.nm=n
  ·rw[if_pos h,if_pos h,if_pos (by simp[h])]
  ·rw[if_neg h,if_neg h]
   have:(y.nm==n)=false:=bJ.2 h
   rw[this,Bool.false_or]
theorem EK (C:List It) (x:It) (n:List UInt8):cR (C++[x]) n=(cR C n||x.nm==n):=by simp[cR]
theorem vw {w:Nat} {C:List It} {x:It} {p:jV} (h:bK w x.nm=some p) (h1:p.mo=1) (hc:aV w C x=0):cR C x.nm=false:=by
 obtain ⟨q,hq,hf⟩:=iw hc;rw[h] at hq;cases hq;obtain ⟨hm,hn⟩:=iV h;have sp:(32:UInt8)∉x.nm:=by rw[<-hn];exact xf w p hm
 rw[kT h hf h1,qY x.nm sp] at hc;by_cases z:lz C x.nm≠0
 ·rw[if_pos z] at hc;cases hc
 ·have z:lz C x.nm=0:=by omega
  exact (tu (fun y:It=>y.nm==x.nm) C).1 z
theorem EL {w:Nat} {C:List It} {x:It} {p:jV} (h:bK w x.nm=some p) (h1:p.mo=1) (hc:aV w C x=0):p.lo<=f7 x/\f7 x<=p.hi:=by
 obtain ⟨q,hq,hf⟩:=iw hc;rw[h] at hq;cases hq;rw[kT h hf h1] at hc;split at hc
 ·cases hc
 ·split at hc
  ·cases hc
  ·omega
theorem cP {w:Nat} {C:List It} {x:It} {p:jV} (h:bK w x.nm=some p) (h1:p.mo=1) (hc:aV w C x=0) (d:Nat):ah (C++[x]) x.nm d=f7 x:=by
 rw[qd,vw h h1 hc,if_neg (by decide),if_pos rfl]
theorem dF {C:List It} {x:It} {n:List UInt8} (h:x.nm≠n) (d:Nat):ah (C++[x]) n d=ah C n d:=by
 rw[qd,if_neg h];split
 ·rfl
 ·rename_i hh;exact (oY (by simpa using hh)).symm
theorem mj (lk:Lk) (w:Nat): ∀(L:List It) (s:List It×List Ft),kR w s.1->kR w (L.foldl (aG lk w) s).1
 |[],s,h=>h
 |x::L,s,h=>by
  rw[List.foldl_cons];refine mj lk w L _ ?_;unfold aG;split
  ·exact h
  ·rename_i hc;have hc:aV w s.1 x=0:=by omega
   split
   ·exact h.snoc hc
   ·exact h.snoc hc
theorem oZ (lk:Lk) (w:Nat) (n:List UInt8) (p:jV) (hp:bK w n=some p) (h1:p.mo=1): ∀(L:List It) (s:List It×List Ft),(cR s.1 n=true-> ∀d,p.lo<=ah s.1 n d/\ah s.1 n d<=p.hi)->(cR (L.foldl (aG lk w) s).1 n=true-> ∀d,p.lo<=ah (L.foldl (aG lk w) s).1 n d/\ah (L.foldl (aG lk w) s).1 n d<=p.hi)
 |[],s,h=>h
 |x::L,s,h=>by
  rw[List.foldl_cons];refine oZ lk w n p hp h1 L _ ?_;have key:aV w s.1 x=0->cR (s.1++[x]) n=true-> ∀d,p.lo<=ah (s.1++[x]) n d/\ah (s.1++[x]) n d<=p.hi:=fun hc hh d=>by
   by_cases e:x.nm=n
   ·subst e;rw[cP hp h1 hc];exact EL hp h1 hc
   ·rw[dF e];rw[EK,bJ.2 e,KC] at hh;exact h hh d
  unfold aG;split
  ·exact h
  ·rename_i hc;have hc:aV w s.1 x=0:=by omega
   split
   ·exact key hc
   ·exact key hc
def flt (n:List UInt8) (L:List It):List It:=L.filter fun y=>y.nm==n
theorem tw (n:List UInt8) (x:It) (L:List It):flt n (x::L)=if x.nm=n then x::flt n L else flt n L:=by
 unfold flt;rw[List.filter_cons];by_cases h:x.nm=n
 ·rw[if_pos h,if_pos (by simp[h])]
 ·rw[if_neg h,if_neg (by simp[h])]
theorem tx (n:List UInt8) (d:Nat): ∀L:List It,ah L n d=match flt n L with |[]=>d|y::_=>f7 y
 |[]=>rfl
 |x::L=>by
  rw[ah,tw];by_cases h:x.nm=n
  ·rw[if_pos h,if_pos h]
  ·rw[if_neg h,if_neg h];exact tx n d L
theorem tz (n:List UInt8) (L:List It):cR L n=!(flt n L).isEmpty:=by
 induction L with
 |nil=>rfl
 |cons x L ih=>
  rw[tw];unfold cR at ih ⊢;rw[List.any_cons,ih];by_cases h:x.nm=n
  ·rw[if_pos h];simp[h]
  ·rw[if_neg h];simp[h]
theorem o5 {α:Type} (n:List UInt8) (f:It->List α) (g:It->List α) (h: ∀y,y.nm=n->f y=g y) (h0: ∀y,y.nm≠n->f y=[]): ∀L:List It,L.flatMap f=(flt n L).flatMap g
 |[]=>rfl
 |x::L=>by
  rw[List.flatMap_cons,o5 n f g h h0 L,tw];by_cases e:x.nm=n
  ·rw[if_pos e,List.flatMap_cons,h x e]
  ·rw[if_neg e,h0 x e,dB]
inductive F2 {α:Type} (R:α->α->Prop):List α->List α->Prop
 |nil:F2 R [] []
 |cons {a b:α} {l m:List α}:R a b->F2 R l m->F2 R (a::l) (b::m)
theorem F2.imp {α:Type} {R S:α->α->Prop} (h: ∀a b,R a b->S a b): ∀ {l m:List α},F2 R l m->F2 S l m
 |_,_,.nil=> .nil
 |_,_,.cons a b=> .cons (h _ _ a) (b.imp h)
theorem F2.all {α:Type} {R:Nat->α->α->Prop}: ∀ {l m:List α},(∀d,F2 (R d) l m)->F2 (fun a b=> ∀d,R d a b) l m
 |[],[],_=> .nil
 |[],b::m,h=>by cases h 0
 |a::l,[],h=>by cases h 0
 |a::l,b::m,h=> .cons (fun d=>by cases h d with |cons x _=>exact x) (F2.all fun d=>by cases h d with |cons _ y=>exact y)
theorem F2.trans {α:Type} {R:α->α->Prop} (h: ∀a b c,R a b->R b c->R a c): ∀ {l m k:List α},F2 R l m->F2 R m k->F2 R l k
 |_,_,_,.nil,.nil=> .nil
 |_,_,_,.cons a b,.cons c d=> .cons (h _ _ _ a c) (b.trans h d)
def Il (x y:It):Prop:=x.nm=y.nm/\x.ws=y.ws/\x.bk=y.bk
def EM:Nat->List It->List It->Prop
 |0,L,M=> ∀n,F2 Il (flt n L) (flt n M)
 |d+1,L,M=> ∀n,F2 (fun x y=>Il x y/\EM d x.kd y.kd) (flt n L) (flt n M)
def qe (L M:List It):Prop:= ∀d,EM d L M
def Kj (x y:It):Prop:=Il x y/\qe x.kd y.kd
theorem qe.flt {L M:List It} (h:qe L M) (n:List UInt8):F2 Kj (Ai.flt n L) (Ai.flt n M):=by
 have:=F2.all (R:=fun d x y=>Il x y/\EM d x.kd y.kd) (fun d=>h (d+1) n)
 exact this.imp fun a b hab=>⟨(hab 0).1,fun d=>(hab d).2⟩
theorem qe.of {L M:List It} (h: ∀n,F2 Kj (Ai.flt n L) (Ai.flt n M)):qe L M
 |0=>fun n=>(h n).imp fun a b hab=>hab.1
 |d+1=>fun n=>(h n).imp fun a b hab=>⟨hab.1,hab.2 d⟩
theorem tA: ∀(d:Nat) {L M K:List It},EM d L M->EM d M K->EM d L K
 |0,L,M,K,h,g=>fun n=>(h n).trans (fun a b c p q=>⟨p.1.trans q.1,p.2.1.trans q.2.1,p.2.2.trans q.2.2⟩) (g n)
 |d+1,L,M,K,h,g=>fun n=>(h n).trans (fun a b c p q=>⟨⟨p.1.1.trans q.1.1,p.1.2.1.trans q.1.2.1,p.1.2.2.trans q.1.2.2⟩,tA d p.2 q.2⟩) (g n)
theorem qe.trans {L M K:List It} (h:qe L M) (g:qe M K):qe L K:=fun d=>tA d (h d) (g d)
theorem Im {x y:It} (h:Il x y):f7 x=f7 y:=by
 unfold f7;rw[h.1,h.2.1]
theorem F2.any {C D:List It} {f g:It->Bool} (hfg: ∀a b,Kj a b->f a=g b) (h:F2 Kj C D):C.any f=D.any g:=by
 induction h with
 |nil=>rfl
 |cons a b ih=>rw[List.any_cons,List.any_cons,hfg _ _ a,ih]
theorem qe.get {k m:List It} (h:qe k m) (n:List UInt8) (d:Nat):ah k n d=ah m n d:=by
 rw[tx,tx]
 have:=h.flt n
 generalize Ai.flt n k=a,Ai.flt n m=b at*;cases this with
 |nil=>rfl
 |cons x _=>exact Im x.1
theorem qe.has {k m:List It} (h:qe k m) (n:List UInt8):cR k n=cR m n:=by
 rw[tz,tz]
 have:=h.flt n
 generalize Ai.flt n k=a,Ai.flt n m=b at*;cases this with
 |nil=>rfl
 |cons _ _=>rfl
theorem o6 {w:Nat} {n:List UInt8} {p:jV} (hp:bK w n=some p) (h1:p.mo=1) (hlo:1<=p.lo) (lk:Lk) (L:List It):ah (L.foldl (aG lk w) ([],[])).1 n 0=0↔cR (L.foldl (aG lk w) ([],[])).1 n=false:=by
 have g:=oZ lk w n p hp h1 L ([],[]) (fun h=>by cases h);constructor
 ·intro h;cases e:cR (L.foldl (aG lk w) ([],[])).1 n with
  |false=>rfl
  |true=>have:=g e 0;omega
 ·exact oY
theorem qf {w:Nat} {n:List UInt8} {p:jV} (hp:bK w n=some p) (h1:p.mo=1) (lk:Lk) (L:List It) (d:Nat) (hd:d<=p.hi):ah (L.foldl (aG lk w) ([],[])).1 n d<=p.hi:=by
 have g:=oZ lk w n p hp h1 L ([],[]) (fun h=>by cases h);cases e:cR (L.foldl (aG lk w) ([],[])).1 n with
 |false=>rw[oY e];exact hd
 |true=>exact (g e d).2
theorem Io {w:Nat} {n:List UInt8} {p:jV} (hp:bK w n=some p) (h1:p.mo=1) (lk:Lk) (L:List It) (d:Nat) (hd:p.lo<=d):p.lo<=ah (L.foldl (aG lk w) ([],[])).1 n d:=by
 have g:=oZ lk w n p hp h1 L ([],[]) (fun h=>by cases h);cases e:cR (L.foldl (aG lk w) ([],[])).1 n with
 |false=>rw[oY e];exact hd
 |true=>exact (g e d).1
theorem Mg (lk lk':Lk) (x:It) (L:List It):bu lk' 2 x (L.foldl (aG lk 2) ([],[])).1=if ah (L.foldl (aG lk 2) ([],[])).1 fX 0=0\/ah (L.foldl (aG lk 2) ([],[])).1 fY 0=0\/ah (L.foldl (aG lk 2) ([],[])).1 eZ 0=0 then [x.ft 6] else if ah (L.foldl (aG lk 2) ([],[])).1 fX 0<ah (L.foldl (aG lk 2) ([],[])).1 fY 0 then [x.ft 8] else []:=by
 have a:=o6 (w:=2) (n:=fX) (p:=⟨fX,[6],false,1,1,34560000⟩) rfl rfl (gp _) lk L;have b:=o6 (w:=2) (n:=fY) (p:=⟨fY,[6],false,1,1,34560000⟩) rfl rfl (gp _) lk L;have c:=o6 (w:=2) (n:=eZ) (p:=⟨eZ,[4],false,1,1,1000000⟩) rfl rfl (gp _) lk L;unfold bu;rw[if_neg (by decide),if_pos rfl];simp only[a,b,c]
theorem qZ (lk:Lk) (k:List It):dj lk k=(Ai.flt du k).map (vd lk):=by
 unfold dj;rw[o5 du _ (fun y=>[vd lk y]) (fun y e=>if_pos e) (fun y e=>if_neg e) k];generalize Ai.flt du k=a;induction a with
 |nil=>rfl
 |cons x a ih=>rw[List.flatMap_cons,ih,gL];rfl
theorem Kk (lk:Lk) (k:List It):dj lk k=[]↔cR k du=false:=by
 rw[qZ,tz,List.map_eq_nil_iff];cases Ai.flt du k<;>simp
theorem Mh (lk lk':Lk) (x:It) (L:List It):bu lk' 1 x (L.foldl (aG lk 1) ([],[])).1=(if ah (L.foldl (aG lk 1) ([],[])).1 gv 0=0\/dj lk' (L.foldl (aG lk 1) ([],[])).1=[] then [x.ft 6] else [])++(cO lk' (ah (L.foldl (aG lk 1) ([],[])).1 fC 60) (L.foldl (aG lk 1) ([],[])).1++(if ah (L.foldl (aG lk 1) ([],[])).1 iv 0%ah (L.foldl (aG lk 1) ([],[])).1 fC 60≠0 then [x.ft 8] else [])):=by
 have a:=o6 (w:=1) (n:=gv) (p:=⟨gv,[5],false,1,1,999999⟩) rfl rfl (gp _) lk L;have b:=Kk lk' (L.foldl (aG lk 1) ([],[])).1;unfold bu;rw[if_pos rfl];simp only[a,b]
theorem Kl (lk lk':Lk) {w:Nat} (hw:2<=w) (s:List It×List Ft) (x:It):aG lk w s x=aG lk' w s x:=by
 unfold aG;by_cases hc:aV w s.1 x≠0
 ·rw[if_pos hc,if_pos hc]
 ·rw[if_neg hc,if_neg hc];have hc:aV w s.1 x=0:=Decidable.byContradiction fun g=>hc g
  obtain ⟨p,hp,_⟩:=iw hc;obtain ⟨hm,hn⟩:=iV hp;have h2: ∀p∈fZ 2,bQ p.nm=0:=by decide
  have h3: ∀p∈fZ 3,bQ p.nm=0:=by decide
  have e:bQ x.nm=0:=by
   rw[<-hn];unfold fZ at hm h2 h3;rw[if_neg (by omega),if_neg (by omega)] at hm;by_cases e2:w=2
   ·rw[if_pos e2] at hm;exact h2 p hm
   ·rw[if_neg e2] at hm;exact h3 p hm
  rw[if_pos e,if_pos e]
theorem kU (f g:Nat) {w:Nat} (hw:2<=w) (L:List It):ag (f+1) w L=ag (g+1) w L:=by
 show L.foldl _ _=L.foldl _ _;congr 1
 funext s x
 exact Kl _ _ hw s x
def jV.row (p:jV):List AV:=[.str p.nm,.sl (p.ks.map fun k=>[i6 k]),.bool p.bl,i6 p.mo,u p.lo,u p.hi]
theorem z7 (w:Nat) (hw:w<=3):Sp Tryz.prog gl 97 [i6 w] (.sl ((fZ w).map jV.row)):=by
 have h:w=0\/w=1\/w=2\/w=3:=by omega
 rcases h with rfl|rfl|rfl|rfl
 all_goals
  refine Vb rfl rfl ?_;simp[To,fZ,jV.row,ly,vb,gv,fC,jA,iv,jj,nP,du,fX,fY,eZ,lH,lI,iZ,jD,jE,jF,lJ]
def Ip (o:Option jV):AV:=match o with
 |some p=> .tup [.agg p.row,.bool true]
 |none=> .tup [.agg [.str [],.sl [],.bool false,i6 0,u 0,u 0],.bool false]
theorem BN (w:Nat) (hw:w<=3) (n:List UInt8):Sp Tryz.prog gl 80 [i6 w,.str n] (Ip (bK w n)):=by
 refine UZ rfl rfl ?_;have SP:=z7 w hw;obtain ⟨R,hR⟩: ∃R,R=bK w n:=⟨_,rfl⟩;rw[<-hR];unfold bK at hR;have hl:(fZ w).length<=7:=by
  have h:w=0\/w=1\/w=2\/w=3:=by omega
  rcases h with rfl|rfl|rfl|rfl<;>decide
 generalize fZ w=L at*;have rl:(L.map jV.row).length=L.length:=kp _;have rat: ∀i (h:i<L.length),∀h2,(L.map jV.row)[i]'h2=[.str L[i].nm,.sl (L[i].ks.map fun k=>[i6 k]),.bool L[i].bl,i6 L[i].mo,u L[i].lo,u L[i].hi]:=fun i h h2=>by simp[jV.row]
 generalize L.map jV.row=RR at*;simp[Tg];apply ab SP;simp;refine aY (α:=Nat) (fun i=>⟨[(1,.str n),(4,.ptr (.n 4) 0),(6,.sl RR),(7,i6 i)],[(.n 4,[.str [],.nils,.bool false,i6 0,u 0,u 0])],[]⟩) (fun i=>i<=L.length/\R=(L.drop i).find? fun p=>p.nm==n) (fun i=>L.length - i) ?_ 0 ⟨gN _,by rw[xj];exact hR⟩ ?_
 ·rintro K i hK ⟨h1,h2⟩;by_cases g:i<L.length
  ·have t1:IntKind.i64.wrap ((i:Int)+1)=(i+1:Nat):=by rw[ay]<;>omega
   have g':(i:Int)<L.length:=by omega
   have gR:i<RR.length:=by omega
   have rai:=rat i g gR;rw[rb g,List.find?_cons] at h2;have fin:=fun h4 σ' hσ=>hK (i+1) σ' ⟨by omega,h4⟩ (by omega) hσ
   clear hK rat hR;generalize L[i]=p at*;obtain ⟨pn,pk,pb,pm,pl,ph⟩:=p;dsimp only at rai h2;by_cases e:pn=n
   ·subst e;have h2:R=some ⟨pn,pk,pb,pm,pl,ph⟩:=by rw[h2];simp
    subst h2;simp[g,g',gR,rai,rl,Ip,jV.row]
   ·have e':(pn==n)=false:=bJ.2 e;rw[e'] at h2;simp[g,g',gR,rai,rl,e,e'];refine fin h2 _ ?_;apply aj<;>simp[t1]
  ·obtain rfl:i=L.length:=by omega
   rw[xA] at h2;have h2:R=none:=h2;subst h2;clear hK;simp[rl,Ip]
 ·apply aj<;>simp
theorem xg (p:jV): ∀(ks:List Int) (ws:List Tk),e7 p ks ws=true->ks.length=ws.length
 |[],[],_=>rfl
 |[],w::r,h=>by cases h
 |k::ks,[],h=>by cases h
 |k::ks,w::r,h=>by
  rw[e7,aL] at h;rw[jG,jG,xg p ks r h.2]
theorem Iq {ws:List Tk} (h:0<ws.length):w0 ws=ws[0].t:=by cases ws with |nil=>cases h|cons a r=>rfl
theorem NW {ws:List Tk} (h:1<ws.length):w1 ws=ws[1].t:=by
 cases ws with
 |nil=>cases h
 |cons a r=>cases r with
  |nil=>simp at h
  |cons b s=>rfl
theorem BO (p:jV) (x:It) (hca:p.nm=jj->p.ks.length=1) (hru:p.nm=du->p.ks.length=2) (hks:p.ks.length<=100):Sp Tryz.prog gl 81 [.agg p.row,.agg x.row] (.bool (cz p x)):=by
 obtain ⟨pn,pk,pb,pm,pl,ph⟩:=p;obtain ⟨n,ws,xb,ks,l,c⟩:=x;have e1:cz ⟨pn,pk,pb,pm,pl,ph⟩ (.mk n ws xb ks l c)=((xb==pb)&&(e7 ⟨pn,pk,pb,pm,pl,ph⟩ pk ws&&((pn !=jj||(w0 ws==qD||w0 ws==xr))&&(pn !=du||(w1 ws==qa||w1 ws==IE))))):=rfl;have e2:jV.row ⟨pn,pk,pb,pm,pl,ph⟩=[.str pn,.sl (pk.map fun k=>[i6 k]),.bool pb,i6 pm,u pl,u ph]:=rfl;rw[e1,e2,It.row];simp only at hca hru hks;clear e1 e2;refine U0 rfl rfl ?_;generalize ae ks=KR at*;have wl:(ws.map Tk.row).length=ws.length:=kp _;have wat: ∀k (h:k<ws.length),∀h2,(ws.map Tk.row)[k]'h2=[i6 ws[k].k,.str ws[k].t,u ws[k].n,i6 ws[k].ln,i6 ws[k].co]:=fun k h h2=>by simp[Tk.row]
 generalize ws.map Tk.row=WR at*;have kl:(pk.map fun k=>[i6 k]).length=pk.length:=kp _;have kat: ∀k (h:k<pk.length),∀h2,(pk.map fun k=>[i6 k])[k]'h2=[i6 pk[k]]:=fun k h h2=>by simp
 generalize (pk.map fun k=>[i6 k])=PK at*;by_cases hb:xb=pb
 ·subst hb;rw[show (xb==xb)=true by simp,iX];have hb1:(xb !=xb)=false:=by simp
  by_cases hl:ws.length=pk.length
  ·have hl1:((ws.length:Int)!=(pk.length:Int))=false:=by simp[hl]
   have hl2:(ws.length !=pk.length)=false:=by simp[hl]
   obtain ⟨R,hR⟩: ∃R,R=(e7 ⟨pn,pk,xb,pm,pl,ph⟩ pk ws&&((pn !=jj||(w0 ws==qD||w0 ws==xr))&&(pn !=du||(w1 ws==qa||w1 ws==IE)))):=⟨_,rfl⟩;rw[<-hR];generalize hP:(⟨pn,pk,xb,pm,pl,ph⟩:jV)=P at*;have hPn:P.nm=pn:=by rw[<-hP]
   clear hP;simp[Od,hb1,wl,kl,hl1,hl2];refine aY (α:=Nat) (fun i=>⟨[(2,.ptr (.n 2) 0),(3,.ptr (.n 3) 0),(5,i6 i)],[(.n 2,[.str pn,.sl PK,.bool xb,i6 pm,u pl,u ph]),(.n 3,[.str n,.sl WR,.bool xb,.sl KR,i6 l,i6 c])],[]⟩)
    (fun i=>i<=pk.length/\R=(e7 P (pk.drop i) (ws.drop i)&&((pn !=jj||(w0 ws==qD||w0 ws==xr))&&(pn !=du||(w1 ws==qa||w1 ws==IE))))) (fun i=>pk.length - i) ?_ 0 ⟨gN _,by rw[xj,xj];exact hR⟩ ?_
   ·rintro K i hK ⟨h1,h2⟩;by_cases g:i<pk.length
    ·have t1:IntKind.i64.wrap ((i:Int)+1)=(i+1:Nat):=by rw[ay]<;>omega
     have g':(i:Int)<pk.length:=by omega
     have gw:i<ws.length:=by omega
     have gw':(i:Int)<ws.length:=by omega
     have gP:i<PK.length:=by omega
     have gW:i<WR.length:=by omega
     have wai:=wat i gw gW;have kai:=kat i g gP;rw[rb g,rb gw,e7,hPn] at h2;have fin:=fun h4 σ' hσ=>hK (i+1) σ' ⟨by omega,h4⟩ (by omega) hσ
     clear hK hR wat kat;generalize ws[i]=w,pk[i]=k at*;obtain ⟨tk,tt,tn,tl,tc⟩:=w;dsimp only at wai h2;by_cases q1:tk=k
     ·have q1':(tk !=k)=false:=by simp[q1]
      rw[show (tk==k)=true by simp[q1],Bool.true_or,iX] at h2;simp[g,g',gw,gw',gW,gP,wai,kai,kl,wl,q1'];refine fin h2 _ ?_;apply aj<;>simp[t1]
     ·have q1':(tk !=k)=true:=by simp[q1]
      rw[show (tk==k)=false by simp[q1],Bool.false_or] at h2;by_cases q2:pn=eZ
      ·have q2':(pn==[102,97,99,116,111,114])=true:=by rw[q2];rfl
       rw[show (pn==eZ)=true by simp[q2],iX] at h2;by_cases q3:tk=3
       ·have q3':(tk==3)=true:=by simp[q3]
        rw[q3',iX] at h2;simp[g,g',gw,gw',gW,gP,wai,kai,kl,wl,q1',q2',q3'];refine fin h2 _ ?_;apply aj<;>simp[t1]
       ·have q3':(tk==3)=false:=by simp[q3]
        rw[q3',jC,jC] at h2;subst h2;simp[g,g',gw,gw',gW,gP,wai,kai,kl,wl,q1',q2',q3']
      ·have q2':(pn==[102,97,99,116,111,114])=false:=bJ.2 q2;rw[show (pn==eZ)=false by simp[q2],jC,jC,jC] at h2;subst h2;simp[g,g',gw,gw',gW,gP,wai,kai,kl,wl,q1',q2']
    ·obtain rfl:i=pk.length:=by omega
     rw[xA,<-hl,xA,e7,iX] at h2;clear hK hR kat;by_cases q1:pn=jj
     ·have hl0:=hca q1;have g0:0<ws.length:=by omega
      have gW:0<WR.length:=by omega
      have wa0:=wat 0 g0 gW;rw[Iq g0] at h2;clear wat;have q1':(pn==[99,97,108,101,110,100,97,114])=true:=by rw[q1];rfl
      have q4:(pn==[114,117,108,101])=false:=by rw[q1];rfl
      rw[show (pn !=jj)=false by simp[q1],Bool.false_or,show (pn !=du)=true by rw[q1];decide,Bool.true_or,Bool.and_true] at h2;generalize ws[0]=w at*;obtain ⟨tk,tt,tn,tl,tc⟩:=w;dsimp only at wa0 h2;by_cases q2:tt=qD
      ·have q2':(tt==[109,111,110,116,104])=true:=by rw[q2];rfl
       rw[show (tt==qD)=true by simp[q2],Bool.true_or] at h2;subst h2;simp[kl,wl,g0,gW,wa0,q1',q2',q4]
      ·have q2':(tt==[109,111,110,116,104])=false:=bJ.2 q2;by_cases q3:tt=xr
       ·have q3':(tt==[113,117,97,114,116,101,114])=true:=by rw[q3];rfl
        rw[show (tt==xr)=true by simp[q3],Bool.or_true] at h2;subst h2;simp[kl,wl,g0,gW,wa0,q1',q2',q3',q4]
       ·have q3':(tt==[113,117,97,114,116,101,114])=false:=bJ.2 q3;rw[show (tt==xr)=false by simp[q3],show (tt==qD)=false by simp[q2]] at h2;have h2:R=false:=h2;subst h2;simp[kl,wl,g0,gW,wa0,q1',q2',q3']
     ·have q1':(pn==[99,97,108,101,110,100,97,114])=false:=bJ.2 q1;rw[show (pn !=jj)=true by simp[q1],Bool.true_or,iX] at h2;by_cases q5:pn=du
      ·have hl2:=hru q5;have g1:1<ws.length:=by omega
       have gW:1<WR.length:=by omega
       have wa1:=wat 1 g1 gW;rw[NW g1] at h2;clear wat;have q5':(pn==[114,117,108,101])=true:=by rw[q5];rfl
       rw[show (pn !=du)=false by simp[q5],Bool.false_or] at h2;generalize ws[1]=w at*;obtain ⟨tk,tt,tn,tl,tc⟩:=w;dsimp only at wa1 h2;by_cases q2:tt=qa
       ·have q2':(tt==[112,97,103,101])=true:=by rw[q2];rfl
        rw[show (tt==qa)=true by simp[q2],Bool.true_or] at h2;subst h2;simp[kl,wl,g1,gW,wa1,q1',q2',q5']
       ·have q2':(tt==[112,97,103,101])=false:=bJ.2 q2;rw[show (tt==qa)=false by simp[q2],Bool.false_or] at h2;have h2:R=(tt==[116,105,99,107,101,116]):=h2;simp[kl,wl,g1,gW,wa1,q1',q2',q5'];exact h2.symm
      ·have q5':(pn==[114,117,108,101])=false:=bJ.2 q5;rw[show (pn !=du)=true by simp[q5],Bool.true_or] at h2;subst h2;simp[kl,wl,q1',q5']
   ·apply aj<;>simp
  ·have hk:e7 ⟨pn,pk,xb,pm,pl,ph⟩ pk ws=false:=by
    cases h:e7 ⟨pn,pk,xb,pm,pl,ph⟩ pk ws with
    |false=>rfl
    |true=>exact absurd (xg _ _ _ h).symm hl
   rw[hk,jC];have hl1:((ws.length:Int)!=(pk.length:Int))=true:=by simp;omega
   have hl2:(ws.length !=pk.length)=true:=by simp[hl]
   simp[Od,hb1,wl,kl,hl1,hl2]
 ·have hb1:(xb !=pb)=true:=by simp[hb]
  rw[show (xb==pb)=false by simp[hb],jC];simp[Od,hb1]
theorem Mi (w:Nat): ∀p∈fZ w,(p.nm=jj->p.ks.length=1)/\(p.nm=du->p.ks.length=2)/\p.ks.length<=100/\(p.mo≠1->1<=p.ks.length)/\p.mo<=6/\p.lo<=1000000000/\p.hi<=1000000000:=xe _ (by decide) (by decide) (by decide) (by decide) w
theorem z8 {p:jV} {x:It} (h:cz p x=true):x.ws.length=p.ks.length:=by
 unfold cz at h;rw[aL,aL] at h;exact (xg _ _ _ h.2.1).symm
theorem BP (w:Nat) (hw:w<=3) (C:List It) (x:It) (hC:kR w C) (hlen:C.length<=100000):Sp Tryz.prog gl 55 [i6 w,.sl (ae C),.agg x.row] (i6 (aV w C x)):=by
 rw[au];refine Uz rfl rfl ?_;have FD:=BN w hw x.nm;have NV:=qE x;have FM:=fun p h1 h2 h3=>BO p x h1 h2 h3
 have rl:=a8 C;have rat:=cp C;obtain ⟨R,hR⟩: ∃R,R=aV w C x:=⟨_,rfl⟩;rw[<-hR];unfold aV at hR;cases hf:bK w x.nm with
 |none=>
  rw[hf] at FD hR;have hR:R=7:=hR;subst hR;simp only[Ip] at FD;generalize ae C=CR,ae x.kd=KR,x.ws.map Tk.row=XW,x.nm=xn,x.bk=xb,x.pl.1=p1,x.pl.2=p2 at*;simp[N9];apply ab FD;simp
 |some p=>
  rw[hf] at FD hR;dsimp only at hR;obtain ⟨hm,hn⟩:=iV hf;obtain ⟨k1,k2,k3,k4,k5,k6,k7⟩:=Mi w p hm;have FM:=FM p k1 k2 k3;simp only[Ip] at FD;cases hg:cz p x with
  |false=>
   rw[hg] at FM hR;rw[if_pos rfl] at hR;subst hR;rw[au] at FM NV;unfold jV.row at FD FM;generalize ae C=CR,ae x.kd=KR,x.ws.map Tk.row=XW,x.nm=xn,x.bk=xb,x.pl.1=p1,x.pl.2=p2 at*;simp[N9];apply ab FD;simp;apply ab FM;simp
  |true=>
   rw[hg] at FM hR;rw[if_neg (by decide)] at hR;have hxl:=z8 hg;rw[au] at FM NV;unfold jV.row at FD FM;have xwl:(x.ws.map Tk.row).length=x.ws.length:=kp _;have xw0: ∀(h:0<x.ws.length),∀h2,(x.ws.map Tk.row)[0]'h2=[i6 x.ws[0].k,.str (w0 x.ws),u x.ws[0].n,i6 x.ws[0].ln,i6 x.ws[0].co]:=fun h h2=>by rw[Iq h];simp[Tk.row]
   generalize hxs:x.ws=xs,ae C=CR,ae x.kd=KR at*;generalize xs.map Tk.row=XW at*;have hnum:f7 x=f7 x:=rfl;generalize f7 x=nv,hxn:x.nm=xn,x.bk=xb,x.pl.1=p1,x.pl.2=p2 at*;have hcn:=fun i=>jH (List.length_filter_le (fun y:It=>y.nm==xn) (C.take i)) (List.length_take_le i C)
   simp[N9];apply ab FD;simp;apply ab FM;simp;refine aY (α:=Nat) (fun i=>⟨[(1,.sl CR),(5,.ptr (.n 5) 0),(7,.ptr (.n 7) 0),(9,i6 (lz (C.take i) xn)),(10,i6 i)],[(.n 5,[.str xn,.sl XW,.bool xb,.sl KR,i6 p1,i6 p2]),(.n 7,[.str p.nm,.sl (p.ks.map fun k=>[i6 k]),.bool p.bl,i6 p.mo,u p.lo,u p.hi])],[]⟩)
    (fun i=>i<=C.length/\(C.any fun y=>y.nm==xn&&(p.mo==1||w0 y.ws==w0 xs))=((C.drop i).any fun y=>y.nm==xn&&(p.mo==1||w0 y.ws==w0 xs))) (fun i=>C.length - i) ?_ 0 ⟨gN _,by rw[xj]⟩ ?_
   ·rintro K i hK ⟨h1,h2⟩;have ci:=hcn i;by_cases g:i<C.length
    ·have t1:IntKind.i64.wrap ((i:Int)+1)=(i+1:Nat):=by rw[ay]<;>omega
     have t2:IntKind.i64.wrap ((lz (C.take i) xn:Int)+1)=(lz (C.take i) xn+1:Nat):=by unfold lz;rw[ay]<;>omega
     have g':(i:Int)<C.length:=by omega
     have gR:i<CR.length:=by omega
     have rai:=rat i g gR;have inv:=hC _ (o9 g);have snoc:lz (C.take (i+1)) xn=lz (C.take i) xn+(if C[i].nm=xn then 1 else 0):=by
      rw[Am g];unfold lz;rw[List.filter_append,gJ,List.filter_cons];by_cases e:C[i].nm=xn
      ·rw[if_pos e,if_pos (by simp[e])];rfl
      ·rw[if_neg e,if_neg (by simp[e])];rfl
     rw[rb g,List.any_cons] at h2;have fin:=fun h4 σ' hσ=>hK (i+1) σ' ⟨by omega,h4⟩ (by omega) hσ
     clear hK rat hcn ci;rw[snoc] at fin;clear snoc;generalize lz (C.take i) xn=kn,C[i]=y at*;obtain ⟨q,hq,hqf⟩:=inv;have hyl:=z8 hqf;rw[au] at rai;have ywl:(y.ws.map Tk.row).length=y.ws.length:=kp _;have yw0: ∀(h:0<y.ws.length),∀h2,(y.ws.map Tk.row)[0]'h2=[i6 y.ws[0].k,.str (w0 y.ws),u y.ws[0].n,i6 y.ws[0].ln,i6 y.ws[0].co]:=fun h h2=>by rw[Iq h];simp[Tk.row]
     generalize y.ws.map Tk.row=YW,ae y.kd=YK,y.bk=yb,y.pl.1=r1,y.pl.2=r2 at*;by_cases e:y.nm=xn
     ·have e':(y.nm==xn)=true:=by simp[e]
      rw[e',iX] at h2;rw[if_pos e] at fin;have eq:q=p:=by rw[e,hf] at hq;exact (Option.some.inj hq).symm
      subst eq;generalize y.nm=yn at*;subst e;by_cases m1:q.mo=1
      ·have m1':((q.mo:Int)==1)=true:=by simp[m1]
       have m1'':(q.mo==1)=true:=by simp[m1]
       have hR:R=18:=by rw[hR,if_pos (by rw[h2,m1''];rfl)]
       subst hR;simp[g,g',gR,rai,rl,m1',m1'',t2]
      ·have m1':((q.mo:Int)==1)=false:=bJ.2 (by omega);have m1'':(q.mo==1)=false:=by simp[m1]
       rw[m1'',Bool.false_or] at h2;have kx:=k4 m1;have gx:0<xs.length:=by omega
       have gy:0<y.ws.length:=by omega
       have gX:0<XW.length:=by omega
       have gY:0<YW.length:=by omega
       have xa:=xw0 gx gX;have ya:=yw0 gy gY;by_cases e2:w0 y.ws=w0 xs
       ·have e2':(w0 y.ws==w0 xs)=true:=by simp[e2]
        have hR:R=18:=by rw[hR,m1''];exact if_pos (by rw[h2,e2'];rfl)
        subst hR;simp[g,g',gR,rai,rl,m1',m1'',gx,gy,gX,gY,xa,ya,xwl,ywl,e2',t2]
       ·have e2':(w0 y.ws==w0 xs)=false:=bJ.2 e2;rw[e2',Bool.false_or] at h2;simp[g,g',gR,rai,rl,m1',m1'',gx,gy,gX,gY,xa,ya,xwl,ywl,e2',t2];refine fin (by rw[m1''];exact h2) _ ?_;apply aj<;>simp[t1,t2]
     ·have e':(y.nm==xn)=false:=bJ.2 e;rw[e',jC,Bool.false_or] at h2;rw[if_neg e] at fin;generalize y.nm=yn at*;simp[g,g',gR,rai,rl,e,e'];refine fin h2 _ ?_;apply aj<;>simp[t1]
    ·obtain rfl:i=C.length:=by omega
     rw[xA] at h2;rw[h2] at hR;rw[pr] at ci;have hR:R=if p.mo<=lz C xn then 9 else if p.mo=1/\(nv<p.lo\/p.hi<nv) then 8 else 0:=hR
     have tk:lz (C.take C.length) xn=lz C xn:=by rw[pr]
     rw[tk];generalize lz C xn=kn at*;clear hK hcn h2 ci tk rat;by_cases c1:p.mo<=kn
     ·have c1':(p.mo:Int)<=kn:=by omega
      rw[if_pos c1] at hR;subst hR;simp[rl,c1,c1']
     ·have c1': ¬(p.mo:Int)<=kn:=by omega
      rw[if_neg c1] at hR;by_cases m1:p.mo=1
      ·have m1':((p.mo:Int)==1)=true:=by simp[m1]
       have m1'':(p.mo==1)=true:=by simp[m1]
       by_cases d1:nv<p.lo
       ·have d1':(nv:Int)<p.lo:=by omega
        rw[if_pos ⟨m1,.inl d1⟩] at hR;subst hR;simp[rl,c1,c1',m1',m1''];apply ab NV;simp[d1,d1']
       ·have d1': ¬(nv:Int)<p.lo:=by omega
        by_cases d2:p.hi<nv
        ·have d2':(p.hi:Int)<nv:=by omega
         rw[if_pos ⟨m1,.inr d2⟩] at hR;subst hR;simp[rl,c1,c1',m1',m1''];apply ab NV;simp[d1,d1'];apply ab NV;simp[d2,d2']
        ·have d2': ¬(p.hi:Int)<nv:=by omega
         rw[if_neg (by omega)] at hR;subst hR;simp[rl,c1,c1',m1',m1''];apply ab NV;simp[d1,d1'];apply ab NV;simp[d2,d2']
      ·have m1':((p.mo:Int)==1)=false:=bJ.2 (by omega);have m1'':(p.mo==1)=false:=by simp[m1]
       rw[if_neg (fun q=>m1 q.1)] at hR;subst hR;simp[rl,c1,c1',m1',m1'']
   ·apply aj<;>simp[lz]
end Go.Ai
