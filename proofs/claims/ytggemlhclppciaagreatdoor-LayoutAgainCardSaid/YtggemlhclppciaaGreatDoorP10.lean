/- P10: a part of the proof. Conditions: as each theorem says. -/
import Derived.Test.YtggemlhclppciaaGreatDoorP9
set_option maxHeartbeats 4000000
set_option linter.unusedSimpArgs false
set_option linter.unusedVariables false
set_option maxRecDepth 20000
namespace Go.Ai
open Go.Proofs Go.Shelf
def cU (x:Rd) (r:Int):Rd×Bool:=
 if x.st=1 then jx x r
 else if x.st=2 then ({x with st:=3,n:=0,c:=0},decide (r=123))
 else if x.st=3 then dM x r
 else if x.st=4 then (x,false)
 else if r=34 then ({x with st:=4},true)
 else if r=92 then ({x with st:=1},true)
 else if r<32∨r=127 then (x,false)
 else ({x with out:=x.out++[r]},true)
theorem wE (x:Rd) (hl:x.out.length≤1000000) (hc:x.c≤6) (hn:x.n<16^x.c) (r:Int) (hr:du r) (d:Nat) (b:Id) (hb:b.isIt=false) (hbd:b.isNw d=false):
  b7 Tryz.prog gl 221 d ⟨[.ptr b 0,i3 r],[(b,eJ b x)],bg b x.out⟩ ⟨.bool (cU x r).2,[(b,eJ b (cU x r).1)],bg b (cU x r).1.out⟩:=by
 refine Of rfl ?_;have hib:=aP hbd;have tl:=fq x.out;have ne: ∀z:Int,¬r=z→(r==z)=false:=fun z h=>dh.2 h
 have A:=fun e=>xL x hl r e (.up b) hb
 have I:=fun e=>sd x hl hc hn r e (.up b) hb
 unfold cU;by_cases c1:x.st=1
 ·rw [if_pos c1];clear I;generalize (jx x r).2=ok at *
  generalize (jx x r).1=y at *
  unfold eJ at *
  cases hx:x.out with
  |nil=>
   rw [hx] at A;cases hy:y.out with
   |nil=>
    rw [hy] at A;simp only [bB,bg,bt,bO] at A ⊢;simp only [az,bE,a7,AV.mp,bK,Pl.mp,bt,bO];simp [gA,c1];refine aK _ _ (A _ rfl) ⟨?_,?_,?_,?_,?_,?_,?_⟩ ?_;iterate 7 (· simp [hb,c1])
    simp;apply ai<;>simp [hib,hb]
   |cons a2 l2=>
    rw [hy] at A;simp only [bB,bg,bt,bO] at A ⊢;generalize ae (aq (a2::l2))=B1 at *
    simp only [az,bE,a7,AV.mp,bK,Pl.mp,bt,bO];simp [gA,c1];refine aK _ _ (A _ rfl) ⟨?_,?_,?_,?_,?_,?_,?_⟩ ?_;iterate 7 (· simp [hb,c1])
    simp;apply ai<;>simp [hib,hb]
  |cons a l=>
   rw [hx] at A;cases hy:y.out with
   |nil=>
    rw [hy] at A;simp only [bB,bg,bt,bO] at A ⊢;generalize ae (aq (a::l))=B0 at *
    simp only [az,bE,a7,AV.mp,bK,Pl.mp,bt,bO];simp [gA,c1];refine aK _ _ (A _ rfl) ⟨?_,?_,?_,?_,?_,?_,?_⟩ ?_;iterate 7 (· simp [hb,c1])
    simp;apply ai<;>simp [hib,hb]
   |cons a2 l2=>
    rw [hy] at A;simp only [bB,bg,bt,bO] at A ⊢;generalize ae (aq (a2::l2))=B1 at *
    generalize ae (aq (a::l))=B0 at *
    simp only [az,bE,a7,AV.mp,bK,Pl.mp,bt,bO];simp [gA,c1];refine aK _ _ (A _ rfl) ⟨?_,?_,?_,?_,?_,?_,?_⟩ ?_;iterate 7 (· simp [hb,c1])
    simp;apply ai<;>simp [hib,hb]
 rw [if_neg c1];have n1:(x.st==1)=false:=dh.2 c1;clear A;by_cases c2:x.st=2
 ·rw [if_pos c2];clear I;dsimp only;have e:(r==123)=decide (r=123):=by by_cases h:r=123<;>simp [h]
  rw [←e];unfold eJ;cases hx:x.out with
  |nil=>
   simp only [bB,bg,bt,bO];simp only [az,bE,a7,AV.mp,bK,Pl.mp,bt,bO];simp [gA,c2];apply ai<;>simp [hib,hb]
  |cons a l=>
   simp only [bB,bg,bt,bO];generalize ae (aq (a::l))=B0 at *
   simp only [az,bE,a7,AV.mp,bK,Pl.mp,bt,bO];simp [gA,c2];apply ai<;>simp [hib,hb]
 rw [if_neg c2];have n2:(x.st==2)=false:=dh.2 c2;by_cases c3:x.st=3
 ·rw [if_pos c3];generalize (dM x r).2=ok at *
  generalize (dM x r).1=y at *
  unfold eJ at *
  cases hx:x.out with
  |nil=>
   rw [hx] at I;cases hy:y.out with
   |nil=>
    rw [hy] at I;simp only [bB,bg,bt,bO] at I ⊢;simp only [az,bE,a7,AV.mp,bK,Pl.mp,bt,bO];simp [gA,c3];refine aK _ _ (I _ rfl) ⟨?_,?_,?_,?_,?_,?_,?_⟩ ?_;iterate 7 (· simp [hb,c3])
    simp;apply ai<;>simp [hib,hb]
   |cons a2 l2=>
    rw [hy] at I;simp only [bB,bg,bt,bO] at I ⊢;generalize ae (aq (a2::l2))=B1 at *
    simp only [az,bE,a7,AV.mp,bK,Pl.mp,bt,bO];simp [gA,c3];refine aK _ _ (I _ rfl) ⟨?_,?_,?_,?_,?_,?_,?_⟩ ?_;iterate 7 (· simp [hb,c3])
    simp;apply ai<;>simp [hib,hb]
  |cons a l=>
   rw [hx] at I;cases hy:y.out with
   |nil=>
    rw [hy] at I;simp only [bB,bg,bt,bO] at I ⊢;generalize ae (aq (a::l))=B0 at *
    simp only [az,bE,a7,AV.mp,bK,Pl.mp,bt,bO];simp [gA,c3];refine aK _ _ (I _ rfl) ⟨?_,?_,?_,?_,?_,?_,?_⟩ ?_;iterate 7 (· simp [hb,c3])
    simp;apply ai<;>simp [hib,hb]
   |cons a2 l2=>
    rw [hy] at I;simp only [bB,bg,bt,bO] at I ⊢;generalize ae (aq (a2::l2))=B1 at *
    generalize ae (aq (a::l))=B0 at *
    simp only [az,bE,a7,AV.mp,bK,Pl.mp,bt,bO];simp [gA,c3];refine aK _ _ (I _ rfl) ⟨?_,?_,?_,?_,?_,?_,?_⟩ ?_;iterate 7 (· simp [hb,c3])
    simp;apply ai<;>simp [hib,hb]
 rw [if_neg c3];have n3:(x.st==3)=false:=dh.2 c3;clear I;by_cases c4:x.st=4
 ·rw [if_pos c4];dsimp only;unfold eJ;cases hx:x.out with
  |nil=>
   simp only [bB,bg,bt,bO];simp only [az,bE,a7,AV.mp,bK,Pl.mp,bt,bO];simp [gA,c4];apply ai<;>simp [hib,hb,c4]
  |cons a l=>
   simp only [bB,bg,bt,bO];generalize ae (aq (a::l))=B0 at *
   simp only [az,bE,a7,AV.mp,bK,Pl.mp,bt,bO];simp [gA,c4];apply ai<;>simp [hib,hb,c4]
 rw [if_neg c4];have n4:(x.st==4)=false:=dh.2 c4;by_cases d1:r=34
 ·rw [if_pos d1];subst d1;dsimp only;unfold eJ;cases hx:x.out with
  |nil=>
   simp only [bB,bg,bt,bO];simp only [az,bE,a7,AV.mp,bK,Pl.mp,bt,bO];simp [gA,n1,n2,n3,n4];apply ai<;>simp [hib,hb]
  |cons a l=>
   simp only [bB,bg,bt,bO];generalize ae (aq (a::l))=B0 at *
   simp only [az,bE,a7,AV.mp,bK,Pl.mp,bt,bO];simp [gA,n1,n2,n3,n4];apply ai<;>simp [hib,hb]
 rw [if_neg d1];have m1:=ne 34 d1;by_cases d2:r=92
 ·rw [if_pos d2];subst d2;dsimp only;unfold eJ;cases hx:x.out with
  |nil=>
   simp only [bB,bg,bt,bO];simp only [az,bE,a7,AV.mp,bK,Pl.mp,bt,bO];simp [gA,n1,n2,n3,n4];apply ai<;>simp [hib,hb]
  |cons a l=>
   simp only [bB,bg,bt,bO];generalize ae (aq (a::l))=B0 at *
   simp only [az,bE,a7,AV.mp,bK,Pl.mp,bt,bO];simp [gA,n1,n2,n3,n4];apply ai<;>simp [hib,hb]
 rw [if_neg d2];have m2:=ne 92 d2;by_cases d3:r<32∨r=127
 ·rw [if_pos d3];dsimp only;have d4:r<32∨(¬r<32∧(r==127)=true):=by
   by_cases h:r<32
   ·exact .inl h
   ·exact .inr ⟨h,by rw [bP];omega⟩
  unfold eJ;cases hx:x.out with
  |nil=>
   simp only [bB,bg,bt,bO];simp only [az,bE,a7,AV.mp,bK,Pl.mp,bt,bO];rcases d4 with d4|⟨d4,d5⟩
   ·simp [gA,n1,n2,n3,n4,m1,m2,d4];apply ai<;>simp [hib,hb]
   ·simp [gA,n1,n2,n3,n4,m1,m2,d4,d5];apply ai<;>simp [hib,hb]
  |cons a l=>
   simp only [bB,bg,bt,bO];generalize ae (aq (a::l))=B0 at *
   simp only [az,bE,a7,AV.mp,bK,Pl.mp,bt,bO];rcases d4 with d4|⟨d4,d5⟩
   ·simp [gA,n1,n2,n3,n4,m1,m2,d4];apply ai<;>simp [hib,hb]
   ·simp [gA,n1,n2,n3,n4,m1,m2,d4,d5];apply ai<;>simp [hib,hb]
 rw [if_neg d3];have d4: ¬r<32:=fun h=>d3 (.inl h)
 have d5:=ne 127 (fun h=>d3 (.inr h));obtain ⟨q,rfl⟩: ∃q:Nat,r=q:=⟨r.toNat,by omega⟩;have W:=fun (c0:AV) (hc0:c0= .nilT (.up b) 260 5∨c0= .ptr (.up b) 0) (e:Nat) (he:(Id.up b).isNw e=false)=>m8 (d:=e) (b:= .up b) hb he lI hc0 [i6 x.st,i3 x.n,i6 x.c] (aq x.out) q hr (by unfold du at hr;omega) (by omega)
 dsimp only;unfold eJ;rw [iZ,i7];cases hx:x.out with
 |nil=>
  rw [hx] at W;have W:=W _ (.inl rfl);rw [show aq []=[] from rfl] at W ⊢;simp only [bO] at W ⊢;rw [show ae []=[] from rfl] at W;generalize ae (cK q)=B at *
  simp only [bB,bg];simp only [az,bE,a7,AV.mp,bK,Pl.mp,bt,bO];simp [gA,n1,n2,n3,n4,m1,m2,d4,d5];refine aK _ _ (W _ rfl) ⟨?_,?_,?_,?_,?_,?_,?_⟩ ?_;iterate 7 (· simp [hb])
  simp;apply ai<;>simp [hib,hb]
 |cons a l=>
  rw [hx] at W;have W:=W _ (.inr rfl);generalize ae (aq (a::l)++cK q)=B at *
  simp only [bB,bg];generalize ae (aq (a::l))=B0 at *
  simp only [az,bE,a7,AV.mp,bK,Pl.mp,bt,bO];simp [gA,n1,n2,n3,n4,m1,m2,d4,d5];refine aK _ _ (W _ rfl) ⟨?_,?_,?_,?_,?_,?_,?_⟩ ?_;iterate 7 (· simp [hb])
  simp;apply ai<;>simp [hib,hb]
def cP (x:Rd):List Int→Rd×Bool
 |[]=>(x,true)
 |r::l=>if (cU x r).2=true then cP (cU x r).1 l else ((cU x r).1,false)
def Gp:Rd:=⟨[],0,0,0⟩
def qm (l:List Int):List UInt8×Int:=
 if dQ l=false∨l.head?≠some 34 then ([],5)
 else if (cP Gp l.tail).2=false then ([],5)
 else if (cP Gp l.tail).1.st≠4 then ([],5)
 else if 120<(cP Gp l.tail).1.out.length then ([],9)
 else (aq (cP Gp l.tail).1.out,0)
structure Cj (x:Rd) (i:Nat):Prop where
 o:x.out.length≤i
 c:x.c≤6
 n:x.n<16^x.c
 k: ∀r∈x.out,nW r
theorem qn {r:Int} (h:du r):nW r:=by
 unfold du at h;right;omega
theorem wF {l:List Int} {q:Int} (h: ∀r∈l,nW r) (hq:nW q): ∀r∈l++[q],nW r:=by
 intro r hr;rw [gg,m9] at hr;rcases hr with hr|rfl
 ·exact h r hr
 ·exact hq
theorem Cj.step {x:Rd} {i:Nat} (h:Cj x i) {r:Int} (hr:du r) (w:Nat) (hw:1≤w):Cj (cU x r).1 (i+w):=by
 obtain ⟨h1,h2,h3,h4⟩:=h;have same: ∀y:Rd,y.out=x.out→y.c=x.c→y.n=x.n→Cj y (i+w):=fun y a b c=>⟨by rw [a];omega,by rw [b];exact h2,by rw [c,b];exact h3,by rw [a];exact h4⟩
 have more: ∀(y:Rd) q,y.out=x.out++[q]→nW q→y.c=x.c→y.n=x.n→Cj y (i+w):=fun y q a hq b c=>⟨by rw [a,cG];simp;omega,by rw [b];exact h2,by rw [c,b];exact h3,by rw [a];exact wF h4 hq⟩
 unfold cU;by_cases c1:x.st=1
 ·rw [if_pos c1];unfold jx;by_cases d1:r=34∨r=92
  ·rw [if_pos d1];exact more _ r rfl (qn hr) rfl rfl
  rw [if_neg d1];by_cases d2:r=110
  ·rw [if_pos d2];exact more _ 10 rfl (by right;omega) rfl rfl
  rw [if_neg d2];by_cases d3:r=116
  ·rw [if_pos d3];exact more _ 9 rfl (by right;omega) rfl rfl
  rw [if_neg d3];by_cases d4:r=117
  ·rw [if_pos d4];exact same _ rfl rfl rfl
  ·rw [if_neg d4];exact same _ rfl rfl rfl
 rw [if_neg c1];by_cases c2:x.st=2
 ·rw [if_pos c2];exact ⟨by dsimp only;omega,Nat.zero_le _,by simp,h4⟩
 rw [if_neg c2];by_cases c3:x.st=3
 ·rw [if_pos c3];unfold dM;by_cases d1:0≤lH r∧x.c<6
  ·rw [if_pos d1];have hx:=BF r;refine ⟨by dsimp only;omega,by dsimp only;omega,?_,h4⟩;dsimp only;rw [Jr];omega
  rw [if_neg d1];by_cases d2:r≠125∨x.c=0∨fv x.n=false
  ·rw [if_pos d2];exact same _ rfl rfl rfl
  ·rw [if_neg d2];refine more _ x.n rfl (qn ((rB _).1 ?_)) rfl rfl;cases hv:fv (x.n:Int)
   ·exact absurd (.inr (.inr hv)) d2
   ·rfl
 rw [if_neg c3];by_cases c4:x.st=4
 ·rw [if_pos c4];exact same _ rfl rfl rfl
 rw [if_neg c4];by_cases d1:r=34
 ·rw [if_pos d1];exact same _ rfl rfl rfl
 rw [if_neg d1];by_cases d2:r=92
 ·rw [if_pos d2];exact same _ rfl rfl rfl
 rw [if_neg d2];by_cases d3:r<32∨r=127
 ·rw [if_pos d3];exact same _ rfl rfl rfl
 ·rw [if_neg d3];exact more _ r rfl (qn hr) rfl rfl
theorem nG (t:List UInt8):ag (34::t) 0=34::ag t 0:=by
 have h:=tI (r:=34) (by right;omega) t;have e:iy 34=[34]:=by decide
 rw [e] at h;have h2:=lB [34] t t.length 0 (by omega);rw [aQ (by simp),show (34::t)=[34]++t from rfl,h];simp only [dT,vA,na,rE] at h2 ⊢;rw [h2]
theorem rU (s:List UInt8) (h:(ah s 0).1=34):aS s 0=34:=by
 have ff: ∀n r0 least,128≤least→(bR s 0 n r0 least).1=34→False:=by
  intro n r0 least hl e;unfold bR at e;split at e
  ·rename_i c;rw [aC] at c
   have:=gw c.2
   dsimp only at e;omega
  ·dsimp only at e;omega
 unfold ah at h;simp only at h;split at h
 ·dsimp only at h;omega
 ·split at h
  ·exact (ff _ _ _ (by omega) h).elim
  ·split at h
   ·exact (ff _ _ _ (by omega) h).elim
   ·split at h
    ·exact (ff _ _ _ (by omega) h).elim
    ·dsimp only at h;omega
theorem um (s:List UInt8):Lib.hasPrefix s [34]=decide ((ag s 0).head?=some 34):=by
 cases s with
 |nil=>rw [aD (by simp)];rfl
 |cons b t=>
  by_cases c:b=34
  ·subst c;rw [nG];simp [Lib.hasPrefix]
  ·have h1:Lib.hasPrefix (b::t) [34]=false:=by
    unfold Lib.hasPrefix;show ((34:UInt8)==b&&([]:List UInt8).isPrefixOf t)=false;rw [dh.2 (fun h=>c h.symm),lQ]
   rw [h1,aQ (by simp)];symm;rw [decide_eq_false_iff_not];intro h;have h:(ah (b::t) 0).1=34:=by simpa using h
   have:=rU (b::t) h
   apply c;have hb:aS (b::t) 0=b.toNat:=rfl;rw [hb] at this;exact KK.1 (by rw [this];rfl)
theorem Er {l:List Int} (h:dQ l=true): ∀r∈l,r≠ -1:=by
 intro r hr e;unfold dQ at h
 have:=xP (fC.1 h r hr)
 omega
theorem qo {d:Nat} {b:Id} (hit:b.isIt=false) (hnwb:b.isNw d=false) {c0:AV} (rest:List AV) (l:List UInt8) (h0:l≠[]):
  b7 Tryz.prog gl 40 d ⟨[.ptr b 0],[(b,c0:: .sl (ae l)::rest)],[(.b b 1,bk 5)]⟩ ⟨.str l,[(b,c0:: .sl (ae l)::rest)],[]⟩:=
 pS (L:={au with}) dE (by kernel_rfl) (by kernel_rfl) hit hnwb (rest:=rest) l h0
theorem sW {d:Nat} {b:Id} (hit:b.isIt=false) (hnwb:b.isNw d=false) {c0:AV} (rest:List AV):
  b7 Tryz.prog gl 40 d ⟨[.ptr b 0],[(b,c0:: .nils::rest)],[]⟩ ⟨.str [],[(b,c0:: .nils::rest)],[]⟩:=
 sC (L:={au with}) dE (by kernel_rfl) (by kernel_rfl) hit hnwb (rest:=rest)
theorem qp (r:Int) (l:List Int):aq (r::l)≠[]:=by
 intro h
 have:=xp r
 have e:(aq (r::l)).length=0:=by rw [h];rfl
 rw [aq,cG] at e;omega
theorem kY (s:List UInt8) (hl:s.length≤200000):Sp Tryz.prog gl 196 [.str s] (.tup [.str (qm (ag s 0)).1,i6 (qm (ag s 0)).2]):=by
 refine N4 rfl rfl ?_;have CP:=Cg s [34];have GO:=lz s (by omega);rw [um] at CP;unfold qm;by_cases c1:(ag s 0).head?=some 34
 ·rw [jE c1] at CP;cases hg:dQ (ag s 0)
  ·rw [hg] at GO;rw [if_pos (.inl rfl)];generalize Lib.trimPrefix s [34]=t at *
   simp [Gv];apply ab CP;simp;apply ab GO;simp
  ·rw [hg] at GO;rw [if_neg (by rintro (h|h);cases h;exact h c1)];obtain ⟨t,ht⟩: ∃t,s=34::t:=by
    have:=um s
    rw [jE c1] at this;cases s with
    |nil=>cases this
    |cons b t=>
     unfold Lib.hasPrefix at this;have h2:((34:UInt8)==b&&([]:List UInt8).isPrefixOf t)=true:=this;rw [aC,bP] at h2;exact ⟨t,by rw [h2.1]⟩
   have et:Lib.trimPrefix s [34]=t:=by
    unfold Lib.trimPrefix;rw [um,jE c1,if_pos rfl,ht];rfl
   have er:(ag s 0).tail=ag t 0:=by rw [ht,nG];rfl
   have hok: ∀r∈ag t 0,du r:=by
    intro r hr;have h1:=Er hg r (by rw [ht,nG];exact List.mem_cons_of_mem _ hr);have h2:=eC t t.length 0 (by omega) r hr;unfold du;rcases h2 with h2|h2
    ·exact absurd h2 h1
    ·omega
   have htl:t.length≤200000:=by rw [ht] at hl;simp at hl;omega
   rw [et] at CP;rw [er];clear er et ht hg c1;obtain ⟨R,hR⟩: ∃R,R=cP Gp (ag t 0):=⟨_,rfl⟩;rw [←hR];simp [Gv];apply ab CP;simp;apply ab GO;simp;refine bT (α:=Rd×Nat) (fun y=>⟨[(6,.ptr (.n 23) 0),(25,.itp 25)],[(.n 23,eJ (.n 23) y.1),(.it 25,[.itr t y.2])],bg (.n 23) y.1.out⟩)
    (fun y=>Cj y.1 y.2∧y.2≤t.length∧cP y.1 (ag t y.2)=R∧ ∀r∈ag t y.2,du r) (fun y=>t.length - y.2) ?_ (Gp,0) ?_ ?_
   ·rintro K ⟨x,i⟩ hK ⟨h1,h2,h3,h4⟩;simp only at h1 h2 h3 h4;by_cases g:i<t.length
    ·have sr:=mP t i g;have sp:=bA t i;have sw:=fN t i g;rw [aQ g] at h3 h4;have hv:=h4 (ah t i).1 (by simp);have e65:jv (ah t i).1=(ah t i).1:=by unfold jv;rw [if_neg];unfold du at hv;omega
     rw [e65] at sr;have T:=fun (e:Nat) (he:(Id.n 23).isNw e=false)=>wE x (by have:=h1.o;omega) h1.c h1.n (ah t i).1 hv e (.n 23) rfl he
     have ok:=h1.step hv (ah t i).2 sp;have fin:cP (cU x (ah t i).1).1 (ag t (i+(ah t i).2))=R→ ∀σ',e7 σ' ⟨[(6,.ptr (.n 23) 0),(25,.itp 25)],[(.n 23,eJ (.n 23) (cU x (ah t i).1).1),(.it 25,[.itr t (i+(ah t i).2)])],bg (.n 23) (cU x (ah t i).1).1.out⟩→K σ':=
      fun hh σ' hσ=>hK ((cU x (ah t i).1).1,i+(ah t i).2) σ' ⟨ok,sw,hh,fun r hr=>h4 r (List.mem_cons_of_mem _ hr)⟩ (by simp only;omega) hσ
     rw [cP] at h3;clear hK hR ok h4 hv;generalize (ah t i).1=r at *
     generalize (ah t i).2=w at *
     generalize (cU x r).2=okk at *
     generalize (cU x r).1=y at *
     cases okk
     ·rw [if_neg (by decide)] at h3;subst h3;dsimp only;rw [if_pos rfl];clear fin;unfold eJ at *
      cases hx:x.out with
      |nil=>
       rw [hx] at T;cases hy:y.out with
       |nil=>
        rw [hy] at T;simp only [bB,bg,bt,bO] at T ⊢;simp [g,sr];refine ax _ _ (T _ rfl) ?_;simp
       |cons a2 l2=>
        rw [hy] at T;simp only [bB,bg,bt,bO] at T ⊢;generalize ae (aq (a2::l2))=B1 at *
        simp [g,sr];refine ax _ _ (T _ rfl) ?_;simp
      |cons a l=>
       rw [hx] at T;cases hy:y.out with
       |nil=>
        rw [hy] at T;simp only [bB,bg,bt,bO] at T ⊢;generalize ae (aq (a::l))=B0 at *
        simp [g,sr];refine ax _ _ (T _ rfl) ?_;simp
       |cons a2 l2=>
        rw [hy] at T;simp only [bB,bg,bt,bO] at T ⊢;generalize ae (aq (a2::l2))=B1 at *
        generalize ae (aq (a::l))=B0 at *
        simp [g,sr];refine ax _ _ (T _ rfl) ?_;simp
     ·rw [if_pos rfl] at h3;have fin:=fin h3;clear h3;generalize (if R.2=false then _ else _:List UInt8×Int)=res;unfold eJ at *
      cases hx:x.out with
      |nil=>
       rw [hx] at T;cases hy:y.out with
       |nil=>
        rw [hy] at T fin;simp only [bB,bg,bt,bO] at T fin ⊢;simp [g,sr];refine ax _ _ (T _ rfl) ?_;simp;refine fin _ ?_;apply am<;>simp
       |cons a2 l2=>
        rw [hy] at T fin;simp only [bB,bg,bt,bO] at T fin ⊢;generalize ae (aq (a2::l2))=B1 at *
        simp [g,sr];refine ax _ _ (T _ rfl) ?_;simp;refine fin _ ?_;apply am<;>simp
      |cons a l=>
       rw [hx] at T;cases hy:y.out with
       |nil=>
        rw [hy] at T fin;simp only [bB,bg,bt,bO] at T fin ⊢;generalize ae (aq (a::l))=B0 at *
        simp [g,sr];refine ax _ _ (T _ rfl) ?_;simp;refine fin _ ?_;apply am<;>simp
       |cons a2 l2=>
        rw [hy] at T fin;simp only [bB,bg,bt,bO] at T fin ⊢;generalize ae (aq (a2::l2))=B1 at *
        generalize ae (aq (a::l))=B0 at *
        simp [g,sr];refine ax _ _ (T _ rfl) ?_;simp;refine fin _ ?_;apply am<;>simp
    ·rw [aD g,cP] at h3;subst h3;dsimp only;rw [if_neg (by decide)];clear hK;have tl:=fq x.out;have ol:=h1.o;have TC:=ke (aq x.out) (by omega);rw [cC x.out h1.k] at TC;unfold eJ;by_cases c4:x.st=4
     ·rw [if_pos c4];have c4':(x.st !=4)=false:=by rw [c4];rfl
      by_cases c5:120<x.out.length
      ·rw [if_pos c5];have c5':(120:Int)<x.out.length:=by omega
       cases hx:x.out with
       |nil=>rw [hx] at c5;simp at c5
       |cons a l=>
        have S:=fun (e:Nat) (he:(Id.n 23).isNw e=false)=>qo (d:=e) (b:= .n 23) rfl he (c0:= .ptr (.n 23) 0) [i6 x.st,i3 x.n,i6 x.c] (aq (a::l)) (qp a l)
        rw [hx] at TC c5 c5';simp only [bB,bg,bt,bO];generalize (a::l).length=n at *
        generalize aq (a::l)=T at *
        generalize ae T=B0 at *
        simp [g];refine ax _ _ (S _ rfl) ?_;simp [c4,c4'];apply ab TC;simp [c5,c5']
      ·rw [if_neg c5];have c5': ¬(120:Int)<x.out.length:=by omega
       cases hx:x.out with
       |nil=>
        have S:=fun (e:Nat) (he:(Id.n 23).isNw e=false)=>sW (d:=e) (b:= .n 23) rfl he (c0:= .nilT (.n 23) 260 5) [i6 x.st,i3 x.n,i6 x.c]
        rw [hx] at TC c5';rw [show aq []=[] from rfl] at TC ⊢;simp only [bB,bg,bt,bO];simp [g];refine ax _ _ (S _ rfl) ?_;simp [c4,c4'];apply ab TC;simp
       |cons a l=>
        have S:=fun (e:Nat) (he:(Id.n 23).isNw e=false)=>qo (d:=e) (b:= .n 23) rfl he (c0:= .ptr (.n 23) 0) [i6 x.st,i3 x.n,i6 x.c] (aq (a::l)) (qp a l)
        rw [hx] at TC c5 c5';simp only [bB,bg,bt,bO];generalize (a::l).length=n at *
        generalize aq (a::l)=T at *
        generalize ae T=B0 at *
        simp [g];refine ax _ _ (S _ rfl) ?_;simp [c4,c4'];apply ab TC;simp [c5,c5']
     ·rw [if_neg c4];have c4':(x.st !=4)=true:=bne_iff_ne.2 c4;have c4'':(x.st==4)=false:=dh.2 c4;cases hx:x.out with
      |nil=>
       have S:=fun (e:Nat) (he:(Id.n 23).isNw e=false)=>sW (d:=e) (b:= .n 23) rfl he (c0:= .nilT (.n 23) 260 5) [i6 x.st,i3 x.n,i6 x.c]
       simp only [bB,bg,bt,bO];simp [g];refine ax _ _ (S _ rfl) ?_;simp [c4,c4',c4'']
      |cons a l=>
       have S:=fun (e:Nat) (he:(Id.n 23).isNw e=false)=>qo (d:=e) (b:= .n 23) rfl he (c0:= .ptr (.n 23) 0) [i6 x.st,i3 x.n,i6 x.c] (aq (a::l)) (qp a l)
       simp only [bB,bg,bt,bO];generalize aq (a::l)=T at *
       generalize ae T=B0 at *
       simp [g];refine ax _ _ (S _ rfl) ?_;simp [c4,c4',c4'']
   ·exact ⟨⟨jI _,jI _,by decide,by intro r hr;cases hr⟩,jI _,hR.symm,hok⟩
   ·apply am<;>simp [eJ,bB,bg,Gp]
 ·rw [oV c1] at CP;rw [if_pos (.inr c1)];generalize Lib.trimPrefix s [34]=t at *
  simp [Gv];apply ab CP;simp
theorem zr (x:Rd) (r:Int) (l:List Int):cP x (r::l)=if (cU x r).2=true then cP (cU x r).1 l else ((cU x r).1,false):=rfl
def sU (w:List UInt8):List UInt8×Int:=qm (ag w 0)
theorem j8 {r:Int} (h:wthn r=true):nW r∧r≠ -1:=by
 unfold wthn bN cJ at h;simp only [BI,lK] at h;unfold nW;omega
theorem mj {k:Int} {q:Nat×Int} {c:Int} (h:bz k q= .e c):c≠0:=by
 unfold bz at h;split at h
 ·cases h
 ·cases h;assumption
theorem PG (w:List UInt8) (c:Int) (h:sV w= .e c):c≠0:=by
 unfold sV at h;split at h
 ·split at h
  ·cases h
  ·cases h;decide
 ·split at h
  ·exact mj h
  ·split at h
   ·exact mj h
   ·split at h
    ·exact mj h
    ·exact mj h
theorem LQ (m:List Int) (h0:m≠[]) (hw: ∀r∈m,wthn r=true):rV m=sV (aq m):=by
 have hr:=cC m (fun r hr=>(j8 (hw r hr)).1);have hpos:0<(aq m).length:=by
  by_cases g:0<(aq m).length
  ·exact g
  ·rw [aD g] at hr;exact absurd hr.symm h0
 have hv:vR (aq m)=m.headD 0:=by
  unfold vR;rw [if_neg (fun e=>by rw [e] at hpos;cases hpos)];rw [aQ hpos] at hr;cases m with
  |nil=>exact absurd rfl h0
  |cons r t=>
   injection hr with h1 h2;rw [h1,List.headD_cons];unfold jv;rw [if_neg (j8 (hw r (by simp))).2]
 unfold rV sV;rw [hv];cases hd:cJ (m.headD 0)
 ·rw [if_pos (Or.inr rfl),if_pos rfl]
 ·rw [if_neg (by rintro (h|h);exact h0 h;cases h),if_neg (by decide)];unfold xU;generalize aq m=w at *
  have e1:fS w=w.all ay:=by
   unfold fS;rw [jE hpos,Bool.and_true]
  have e2:fO w [37]=true↔aS w (w.length - 1)=37:=by
   rw [rz];constructor
   ·exact fun h=>h.2
   ·exact fun h=>⟨hpos,h⟩
  rw [e1,Kz,ry];by_cases c1:w.all ay=true
  ·rw [if_pos c1,if_pos c1]
  ·rw [if_neg c1,if_neg c1];by_cases c2:aS w (w.length - 1)=37
   ·rw [if_pos c2,if_pos (e2.2 c2)]
   ·rw [if_neg c2,if_neg (fun h=>c2 (e2.1 h))]
theorem PH:C0 sV sU rV qm:=⟨fun _=>rfl,LQ,PG⟩
def cI (s:List UInt8):TR:=CY rV sU s
theorem Ck {s:List UInt8} (h:40000<s.length):cI s=⟨[],9,1,1⟩:=by
 unfold cI CY;rw [if_pos h]
theorem zt (s:List UInt8) (h:40000<s.length):Sp Tryz.prog gl 47 [.str s] (cI s).av:=by
 refine P6 rfl rfl ?_;have B:=fun (e:Nat) (he:(Id.n 10).isNw e=false)=>fL s ⟨[],0,0,0,0,1,1,0,0,0⟩ 0 0 e (.n 10) rfl he
 have hB:Sc.begin ⟨[],0,0,0,0,1,1,0,0,0⟩ 0 0=vq:=rfl;rw [hB] at B;rw [Ck h];have hl':(40000:Int)<s.length:=by omega
 have W:=fun (e:Nat) (he:(Id.n 10).isNw e=false)=>dG s vq 9 e (.n 10) rfl he
 unfold ed Sc.wrong vq at *
 simp only [vn] at B W;unfold TR.av;simp [Mf];refine ax _ _ (B _ rfl) ?_;simp [h,hl'];refine ax _ _ (W _ rfl) ?_;simp
theorem Cl (s:List UInt8):Sp Tryz.prog gl 47 [.str s] (cI s).av:=by
 by_cases h:40000<s.length
 ·exact zt s h
 ·have:=mQ sV sU s (fun w hw=>kY w (by omega)) (fun w hw=>oT w (by omega))
  rw [FT PH s] at this;exact this
theorem Cm (VR:List Int→TV) (U:List UInt8→List UInt8×Int) (l:List Int) (P:List (Int×Int)) (f k:Nat) (out:List Tk) (h:l[k]?=none):bp VR U l P (f+1) k out=⟨out++[⟨0,[],0,(P.getD l.length (0,0)).1,(P.getD l.length (0,0)).2⟩],0,0,0⟩:=by
 rw [bp,h]
theorem Es (s:List UInt8): ∀n i,s.length - i≤n→i≤s.length→Wk s i (ag s i) s.length
 |0,i,h,hi=>by
  rw [aD (by omega)];show i=s.length;omega
 |n+1,i,h,hi=>by
  by_cases g:i<s.length
  ·rw [aQ g]
   have:=bA s i
   exact ⟨g,rfl,Es s n _ (by omega) (fN s i g)⟩
  ·rw [aD g];show i=s.length;omega
theorem hZ (s:List UInt8) (h: ∀r∈ag s 0,r≠ -1):aq (ag s 0)=s:=by
 have:=uP s (ag s 0) 0 s.length (eV _) (Es s s.length 0 (by omega) (jI _)) h
 rw [sg,Gz] at this;exact this.symm
def gr (m:Nat):Nat→Nat→List UInt8
 |0,_=>[]
 |f+1,x=>if x=0 then [] else UInt8.ofNat (48+x / m)::gr m f (x%m*10)
def Dr (p:Nat):List UInt8:=if 1000000<p then [63] else bu (p / 10000)++((if p%10000=0 then [] else [46])++(gr 1000 4 (p%10000)++[37]))
def qq:List (Nat×UInt8):=[(604800,119),(86400,100),(3600,104),(60,109),(1,115)]
def nH:List (Nat×UInt8)→Nat→List UInt8
 |[],_=>[]
 |(u,c)::l,n=>if u≤n then bu (n / u)++(c::nH l (n%u)) else nH l n
def qr (n:Nat):List UInt8:=if n=0 then [48,115] else nH qq n
theorem pj: ∀(l:List (Nat×UInt8)) (n:Nat),n≤253402300799→(nH l n).length≤21*l.length
 |[],n,h=>by simp [nH]
 |(u,c)::l,n,h=>by
  rw [nH];split
  ·have h1:n / u≤n:=Nat.div_le_self _ _;have h2:n%u≤n:=Nat.mod_le _ _;have a:=pj l (n%u) (by omega);have b:=fA 19 (n / u) (by omega);simp only [cG,dT];omega
  ·have a:=pj l n h;simp only [dT];omega
theorem uo (n:Nat):nH qq n=[]↔n=0:=by
 constructor
 ·intro h;unfold qq at h;simp only [nH] at h;repeat' (split at h)
  all_goals first|omega|(simp at h)
 ·rintro rfl;rfl
def Cn:List UInt8:=[119,100,104,109,115]
theorem JS:fW Tryz.prog 69 69 2:=by unfold fW;kernel_rfl
theorem rW (n:Int):Sp Tryz.prog gl 130 [i6 n] (.bool (decide (0≤n)&&decide (n≤253402300799))):=by
 refine NC rfl rfl ?_;by_cases c:0≤n
 ·by_cases c2:n≤253402300799
  ·simp [Gu,c,c2]
  ·simp [Gu,c,c2]
 ·simp [Gu,c]
theorem zu:bD Cn 0=(119,1):=by rw [cg Cn 0 (by decide)];rfl
theorem zw:bD Cn 1=(100,1):=by rw [cg Cn 1 (by decide)];rfl
theorem zx:bD Cn 2=(104,1):=by rw [cg Cn 2 (by decide)];rfl
theorem zy:bD Cn 3=(109,1):=by rw [cg Cn 3 (by decide)];rfl
theorem zA:bD Cn 4=(115,1):=by rw [cg Cn 4 (by decide)];rfl
theorem rX (n:Nat) (hn:n≤253402300799):Sp Tryz.prog gl 96 [i6 n] (.str (qr n)):=by
 refine Q9 rfl rfl ?_;have RG:=rW (n:Int);rw [jE (show (0:Int)≤n by omega),jE (show (n:Int)≤253402300799 by omega)] at RG;unfold qr;by_cases c0:n=0
 ·have c0':(n:Int)=0:=by omega
  rw [if_pos c0];rw [c0'] at RG ⊢;simp [Ns];apply ab RG;simp
 have c0':((n:Int)==0)=false:=by simp;omega
 rw [if_neg c0];have RL:=pj qq n hn;have RN:=uo n;have hl5:qq.length=5:=rfl;obtain ⟨R,hR⟩: ∃R,R=nH qq n:=⟨_,rfl⟩;rw [←hR] at RL RN ⊢;rw [hl5] at RL;have RN':R≠[]:=fun e=>c0 (RN.1 e)
 have WS:=fun (d:Nat) (hb:(Id.n 3).isNw d=false) (c0:AV) hc (l s:List UInt8) hl=>A7 (d:=d) (b:= .n 3) rfl hb (c0:=c0) hc l s hl
 have WR:=fun (d:Nat) (hb:(Id.n 3).isNw d=false) (l:List UInt8) (r:Nat) hr h hl=>m8 (d:=d) (b:= .n 3) rfl hb JS (c0:= .ptr (.n 3) 0) (.inr rfl) [] l r hr h hl
 have ST:=fun (d:Nat) (hb:(Id.n 3).isNw d=false) (c0:AV)=>A8 (d:=d) (b:= .n 3) rfl hb (c0:=c0) R RN'
 have wdl:Cn.length=5:=rfl;have bn:ae []=[]:=rfl;simp [Ns];apply ab RG;simp [c0'];rw [show ([119,100,104,109,115]:List UInt8)=Cn from rfl];obtain ⟨WD,hWD⟩: ∃WD,WD=Cn:=⟨_,rfl⟩;have wdl':WD.length=5:=by rw [hWD];rfl
 have ra0:bD WD 0=(119,1):=by rw [hWD];exact zu
 have ra1:bD WD 1=(100,1):=by rw [hWD];exact zw
 have ra2:bD WD 2=(104,1):=by rw [hWD];exact zx
 have ra3:bD WD 3=(109,1):=by rw [hWD];exact zy
 have ra4:bD WD 4=(115,1):=by rw [hWD];exact zA
 rw [←hWD];clear hWD;refine bT (α:=Nat×AV×List UInt8×Nat) (fun y=>⟨[(0,i6 y.2.2.2),(3,.ptr (.n 3) 0),(14,.itp 14)],[(.n 3,[y.2.1,.sl (ae y.2.2.1)]),(.it 14,[.itr WD y.1])],[(.b (.n 3) 1,bk 5)]⟩)
  (fun y=>y.1≤5∧(y.2.1= .nilT (.n 3) 69 2∨y.2.1= .ptr (.n 3) 0)∧y.2.2.2≤253402300799∧y.2.2.1++nH (qq.drop y.1) y.2.2.2=R) (fun y=>5 - y.1) ?_ (0,.nilT (.n 3) 69 2,[],n) ?_ ?_
 ·rintro K ⟨i,c1,s,m⟩ hK ⟨h1,hc1,h2,h3⟩;simp only at h1 hc1 h2 h3;have sl:s.length≤105:=by
   rw [←h3,cG] at RL;omega
  obtain rfl|rfl|rfl|rfl|rfl|rfl:i=0∨i=1∨i=2∨i=3∨i=4∨i=5:=by omega
  ·have UN:=ft 119;rw [show aU 119=604800 from rfl] at UN;rw [show qq.drop 0=(604800,119)::qq.drop 1 from rfl,nH] at h3;have fin:=fun c' s' m' b0 b1 b2 σ' hσ=>hK (1,c',s',m') σ' ⟨by omega,b0,b1,b2⟩ (by simp only;omega) hσ
   clear hK ST RL RN;have d0:(m:Int).tdiv 604800=((m / 604800:Nat):Int):=rfl;have d1:IntKind.i64.wrap ((m:Int) / 604800)=((m / 604800:Nat):Int):=by rw [an]<;>omega
   have d2:(m:Int).tmod 604800=((m%604800:Nat):Int):=rfl;have d3:IntKind.i64.wrap ((m%604800:Nat):Int)=((m%604800:Nat):Int):=by rw [an]<;>omega
   have d4:IntKind.i64.wrap ((m / 604800:Nat):Int)=((m / 604800:Nat):Int):=by rw [an]<;>omega
   have d5:IntKind.i64.wrap ((m:Int)%604800)=((m%604800:Nat):Int):=by rw [an]<;>omega
   have mb:m%604800≤253402300799:=by have:=Nat.mod_le m 604800;omega
   by_cases gu:604800≤m
   ·rw [if_pos gu] at h3;have FI:=iU (m / 604800) (by omega);have dl:=fA 19 (m / 604800) (by omega);have gq:0<m / 604800:=by omega
    have gq':(0:Int)<((m / 604800:Nat):Int):=by omega
    have W1:=fun d hd=>WS d hd c1 hc1 s (bu (m / 604800)) (by omega)
    have W2:=fun d hd=>WR d hd (s++bu (m / 604800)) 119 (by left;decide) (by decide) (by rw [cG];omega)
    rw [show cK 119=[119] from rfl] at W2;have fin:=fin (.ptr (.n 3) 0) (s++bu (m / 604800)++[119]) (m%604800) (.inr rfl) mb (by rw [←h3];simp);clear h3 WS WR hc1;generalize bu (m / 604800)=D at *
    generalize m / 604800=q at *
    generalize m%604800=r at *
    simp [ra0,wdl'];apply ab UN;simp [gq,gq',d0,d1,d2,d3,d4,d5];apply ab FI;simp;refine ax _ _ (W1 _ rfl) ?_;simp;refine ax _ _ (W2 _ rfl) ?_;simp;apply ab UN;simp [d0,d1,d2,d3,d4,d5];refine fin _ ?_;apply am<;>simp [d0,d1,d2,d3,d4,d5]
   ·rw [if_neg gu] at h3;have gq:m / 604800=0:=by rw [Nat.div_eq_zero_iff];omega
    have gm:m%604800=m:=vk (by omega);rw [gq] at d0 d1 d4;rw [gm] at d2 d3 d5;have fin:=fin c1 s m hc1 h2 h3;clear h3 WS WR;rcases hc1 with rfl|rfl
    ·simp [ra0,wdl'];apply ab UN;simp [d0,d1,d2,d3,d4,d5];apply ab UN;simp [d0,d1,d2,d3,d4,d5];refine fin _ ?_;apply am<;>simp [d0,d1,d2,d3,d4,d5]
    ·simp [ra0,wdl'];apply ab UN;simp [d0,d1,d2,d3,d4,d5];apply ab UN;simp [d0,d1,d2,d3,d4,d5];refine fin _ ?_;apply am<;>simp [d0,d1,d2,d3,d4,d5]
  ·have UN:=ft 100;rw [show aU 100=86400 from rfl] at UN;rw [show qq.drop 1=(86400,100)::qq.drop 2 from rfl,nH] at h3;have fin:=fun c' s' m' b0 b1 b2 σ' hσ=>hK (2,c',s',m') σ' ⟨by omega,b0,b1,b2⟩ (by simp only;omega) hσ
   clear hK ST RL RN;have d0:(m:Int).tdiv 86400=((m / 86400:Nat):Int):=rfl;have d1:IntKind.i64.wrap ((m:Int) / 86400)=((m / 86400:Nat):Int):=by rw [an]<;>omega
   have d2:(m:Int).tmod 86400=((m%86400:Nat):Int):=rfl;have d3:IntKind.i64.wrap ((m%86400:Nat):Int)=((m%86400:Nat):Int):=by rw [an]<;>omega
   have d4:IntKind.i64.wrap ((m / 86400:Nat):Int)=((m / 86400:Nat):Int):=by rw [an]<;>omega
   have d5:IntKind.i64.wrap ((m:Int)%86400)=((m%86400:Nat):Int):=by rw [an]<;>omega
   have mb:m%86400≤253402300799:=by have:=Nat.mod_le m 86400;omega
   by_cases gu:86400≤m
   ·rw [if_pos gu] at h3;have FI:=iU (m / 86400) (by omega);have dl:=fA 19 (m / 86400) (by omega);have gq:0<m / 86400:=by omega
    have gq':(0:Int)<((m / 86400:Nat):Int):=by omega
    have W1:=fun d hd=>WS d hd c1 hc1 s (bu (m / 86400)) (by omega)
    have W2:=fun d hd=>WR d hd (s++bu (m / 86400)) 100 (by left;decide) (by decide) (by rw [cG];omega)
    rw [show cK 100=[100] from rfl] at W2;have fin:=fin (.ptr (.n 3) 0) (s++bu (m / 86400)++[100]) (m%86400) (.inr rfl) mb (by rw [←h3];simp);clear h3 WS WR hc1;generalize bu (m / 86400)=D at *
    generalize m / 86400=q at *
    generalize m%86400=r at *
    simp [ra1,wdl'];apply ab UN;simp [gq,gq',d0,d1,d2,d3,d4,d5];apply ab FI;simp;refine ax _ _ (W1 _ rfl) ?_;simp;refine ax _ _ (W2 _ rfl) ?_;simp;apply ab UN;simp [d0,d1,d2,d3,d4,d5];refine fin _ ?_;apply am<;>simp [d0,d1,d2,d3,d4,d5]
   ·rw [if_neg gu] at h3;have gq:m / 86400=0:=by rw [Nat.div_eq_zero_iff];omega
    have gm:m%86400=m:=vk (by omega);rw [gq] at d0 d1 d4;rw [gm] at d2 d3 d5;have fin:=fin c1 s m hc1 h2 h3;clear h3 WS WR;rcases hc1 with rfl|rfl
    ·simp [ra1,wdl'];apply ab UN;simp [d0,d1,d2,d3,d4,d5];apply ab UN;simp [d0,d1,d2,d3,d4,d5];refine fin _ ?_;apply am<;>simp [d0,d1,d2,d3,d4,d5]
    ·simp [ra1,wdl'];apply ab UN;simp [d0,d1,d2,d3,d4,d5];apply ab UN;simp [d0,d1,d2,d3,d4,d5];refine fin _ ?_;apply am<;>simp [d0,d1,d2,d3,d4,d5]
  ·have UN:=ft 104;rw [show aU 104=3600 from rfl] at UN;rw [show qq.drop 2=(3600,104)::qq.drop 3 from rfl,nH] at h3;have fin:=fun c' s' m' b0 b1 b2 σ' hσ=>hK (3,c',s',m') σ' ⟨by omega,b0,b1,b2⟩ (by simp only;omega) hσ
   clear hK ST RL RN;have d0:(m:Int).tdiv 3600=((m / 3600:Nat):Int):=rfl;have d1:IntKind.i64.wrap ((m:Int) / 3600)=((m / 3600:Nat):Int):=by rw [an]<;>omega
   have d2:(m:Int).tmod 3600=((m%3600:Nat):Int):=rfl;have d3:IntKind.i64.wrap ((m%3600:Nat):Int)=((m%3600:Nat):Int):=by rw [an]<;>omega
   have d4:IntKind.i64.wrap ((m / 3600:Nat):Int)=((m / 3600:Nat):Int):=by rw [an]<;>omega
   have d5:IntKind.i64.wrap ((m:Int)%3600)=((m%3600:Nat):Int):=by rw [an]<;>omega
   have mb:m%3600≤253402300799:=by have:=Nat.mod_le m 3600;omega
   by_cases gu:3600≤m
   ·rw [if_pos gu] at h3;have FI:=iU (m / 3600) (by omega);have dl:=fA 19 (m / 3600) (by omega);have gq:0<m / 3600:=by omega
    have gq':(0:Int)<((m / 3600:Nat):Int):=by omega
    have W1:=fun d hd=>WS d hd c1 hc1 s (bu (m / 3600)) (by omega)
    have W2:=fun d hd=>WR d hd (s++bu (m / 3600)) 104 (by left;decide) (by decide) (by rw [cG];omega)
    rw [show cK 104=[104] from rfl] at W2;have fin:=fin (.ptr (.n 3) 0) (s++bu (m / 3600)++[104]) (m%3600) (.inr rfl) mb (by rw [←h3];simp);clear h3 WS WR hc1;generalize bu (m / 3600)=D at *
    generalize m / 3600=q at *
    generalize m%3600=r at *
    simp [ra2,wdl'];apply ab UN;simp [gq,gq',d0,d1,d2,d3,d4,d5];apply ab FI;simp;refine ax _ _ (W1 _ rfl) ?_;simp;refine ax _ _ (W2 _ rfl) ?_;simp;apply ab UN;simp [d0,d1,d2,d3,d4,d5];refine fin _ ?_;apply am<;>simp [d0,d1,d2,d3,d4,d5]
   ·rw [if_neg gu] at h3;have gq:m / 3600=0:=by rw [Nat.div_eq_zero_iff];omega
    have gm:m%3600=m:=vk (by omega);rw [gq] at d0 d1 d4;rw [gm] at d2 d3 d5;have fin:=fin c1 s m hc1 h2 h3;clear h3 WS WR;rcases hc1 with rfl|rfl
    ·simp [ra2,wdl'];apply ab UN;simp [d0,d1,d2,d3,d4,d5];apply ab UN;simp [d0,d1,d2,d3,d4,d5];refine fin _ ?_;apply am<;>simp [d0,d1,d2,d3,d4,d5]
    ·simp [ra2,wdl'];apply ab UN;simp [d0,d1,d2,d3,d4,d5];apply ab UN;simp [d0,d1,d2,d3,d4,d5];refine fin _ ?_;apply am<;>simp [d0,d1,d2,d3,d4,d5]
  ·have UN:=ft 109;rw [show aU 109=60 from rfl] at UN;rw [show qq.drop 3=(60,109)::qq.drop 4 from rfl,nH] at h3;have fin:=fun c' s' m' b0 b1 b2 σ' hσ=>hK (4,c',s',m') σ' ⟨by omega,b0,b1,b2⟩ (by simp only;omega) hσ
   clear hK ST RL RN;have d0:(m:Int).tdiv 60=((m / 60:Nat):Int):=rfl;have d1:IntKind.i64.wrap ((m:Int) / 60)=((m / 60:Nat):Int):=by rw [an]<;>omega
   have d2:(m:Int).tmod 60=((m%60:Nat):Int):=rfl;have d3:IntKind.i64.wrap ((m%60:Nat):Int)=((m%60:Nat):Int):=by rw [an]<;>omega
   have d4:IntKind.i64.wrap ((m / 60:Nat):Int)=((m / 60:Nat):Int):=by rw [an]<;>omega
   have d5:IntKind.i64.wrap ((m:Int)%60)=((m%60:Nat):Int):=by rw [an]<;>omega
   have mb:m%60≤253402300799:=by have:=Nat.mod_le m 60;omega
   by_cases gu:60≤m
   ·rw [if_pos gu] at h3;have FI:=iU (m / 60) (by omega);have dl:=fA 19 (m / 60) (by omega);have gq:0<m / 60:=by omega
    have gq':(0:Int)<((m / 60:Nat):Int):=by omega
    have W1:=fun d hd=>WS d hd c1 hc1 s (bu (m / 60)) (by omega)
    have W2:=fun d hd=>WR d hd (s++bu (m / 60)) 109 (by left;decide) (by decide) (by rw [cG];omega)
    rw [show cK 109=[109] from rfl] at W2;have fin:=fin (.ptr (.n 3) 0) (s++bu (m / 60)++[109]) (m%60) (.inr rfl) mb (by rw [←h3];simp);clear h3 WS WR hc1;generalize bu (m / 60)=D at *
    generalize m / 60=q at *
    generalize m%60=r at *
    simp [ra3,wdl'];apply ab UN;simp [gq,gq',d0,d1,d2,d3,d4,d5];apply ab FI;simp;refine ax _ _ (W1 _ rfl) ?_;simp;refine ax _ _ (W2 _ rfl) ?_;simp;apply ab UN;simp [d0,d1,d2,d3,d4,d5];refine fin _ ?_;apply am<;>simp [d0,d1,d2,d3,d4,d5]
   ·rw [if_neg gu] at h3;have gq:m / 60=0:=by rw [Nat.div_eq_zero_iff];omega
    have gm:m%60=m:=vk (by omega);rw [gq] at d0 d1 d4;rw [gm] at d2 d3 d5;have fin:=fin c1 s m hc1 h2 h3;clear h3 WS WR;rcases hc1 with rfl|rfl
    ·simp [ra3,wdl'];apply ab UN;simp [d0,d1,d2,d3,d4,d5];apply ab UN;simp [d0,d1,d2,d3,d4,d5];refine fin _ ?_;apply am<;>simp [d0,d1,d2,d3,d4,d5]
    ·simp [ra3,wdl'];apply ab UN;simp [d0,d1,d2,d3,d4,d5];apply ab UN;simp [d0,d1,d2,d3,d4,d5];refine fin _ ?_;apply am<;>simp [d0,d1,d2,d3,d4,d5]
  ·have UN:=ft 115;rw [show aU 115=1 from rfl] at UN;rw [show qq.drop 4=(1,115)::qq.drop 5 from rfl,nH] at h3;have fin:=fun c' s' m' b0 b1 b2 σ' hσ=>hK (5,c',s',m') σ' ⟨by omega,b0,b1,b2⟩ (by simp only;omega) hσ
   clear hK ST RL RN;have d0:(m:Int).tdiv 1=((m / 1:Nat):Int):=rfl;have d1:IntKind.i64.wrap ((m:Int) / 1)=((m / 1:Nat):Int):=by rw [an]<;>omega
   have d2:(m:Int).tmod 1=((m%1:Nat):Int):=rfl;have d3:IntKind.i64.wrap ((m%1:Nat):Int)=((m%1:Nat):Int):=by rw [an]<;>omega
   have d4:IntKind.i64.wrap ((m / 1:Nat):Int)=((m / 1:Nat):Int):=by rw [an]<;>omega
   have d5:IntKind.i64.wrap ((m:Int)%1)=((m%1:Nat):Int):=by rw [an]<;>omega
   have mb:m%1≤253402300799:=by have:=Nat.mod_le m 1;omega
   by_cases gu:1≤m
   ·rw [if_pos gu] at h3;have FI:=iU (m / 1) (by omega);have dl:=fA 19 (m / 1) (by omega);have gq:0<m / 1:=by omega
    have gq':(0:Int)<((m / 1:Nat):Int):=by omega
    have W1:=fun d hd=>WS d hd c1 hc1 s (bu (m / 1)) (by omega)
    have W2:=fun d hd=>WR d hd (s++bu (m / 1)) 115 (by left;decide) (by decide) (by rw [cG];omega)
    rw [show cK 115=[115] from rfl] at W2;have fin:=fin (.ptr (.n 3) 0) (s++bu (m / 1)++[115]) (m%1) (.inr rfl) mb (by rw [←h3];simp);clear h3 WS WR hc1;generalize bu (m / 1)=D at *
    generalize m / 1=q at *
    generalize m%1=r at *
    simp [ra4,wdl'];apply ab UN;simp [gq,gq',d0,d1,d2,d3,d4,d5];apply ab FI;simp;refine ax _ _ (W1 _ rfl) ?_;simp;refine ax _ _ (W2 _ rfl) ?_;simp;apply ab UN;simp [d0,d1,d2,d3,d4,d5];refine fin _ ?_;apply am<;>simp [d0,d1,d2,d3,d4,d5]
   ·rw [if_neg gu] at h3;have gq:m / 1=0:=by rw [Nat.div_eq_zero_iff];omega
    have gm:m%1=m:=vk (by omega);rw [gq] at d0 d1 d4;rw [gm] at d2 d3 d5;have fin:=fin c1 s m hc1 h2 h3;clear h3 WS WR;rcases hc1 with rfl|rfl
    ·simp [ra4,wdl'];apply ab UN;simp [d0,d1,d2,d3,d4,d5];apply ab UN;simp [d0,d1,d2,d3,d4,d5];refine fin _ ?_;apply am<;>simp [d0,d1,d2,d3,d4,d5]
    ·simp [ra4,wdl'];apply ab UN;simp [d0,d1,d2,d3,d4,d5];apply ab UN;simp [d0,d1,d2,d3,d4,d5];refine fin _ ?_;apply am<;>simp [d0,d1,d2,d3,d4,d5]
  ·rw [show qq.drop 5=[] from rfl,nH,pc] at h3;subst h3;have S1:=fun d hd=>ST d hd c1
   clear hK WS WR ST;simp [wdl'];refine ax _ _ (S1 _ rfl) ?_;simp
 ·exact ⟨jI _,.inl rfl,hn,by rw [hR];rfl⟩
 ·apply am<;>simp [bn]
end Go.Ai
