/- P10: a part of the proof. Conditions: as each theorem says. -/
import Derived.Test.YtojgeamhdkphaaaGreatDoorP9
set_option maxHeartbeats 4000000
set_option linter.unusedSimpArgs false
set_option linter.unusedVariables false
set_option maxRecDepth 20000
namespace Go.Ai
open Go.Proofs Go.Shelf
def fK (x:Rd) (r:Int):Rd×Bool:=
 if x.st=1 then k8 x r
 else if x.st=2 then ({x with st:=3,n:=0,c:=0},decide (r=123))
 else if x.st=3 then iN x r
 else if x.st=4 then (x,false)
 else if r=34 then ({x with st:=4},true)
 else if r=92 then ({x with st:=1},true)
 else if r<32\/r=127 then (x,false)
 else ({x with out:=x.out++[r]},true)
theorem zg (x:Rd) (hl:x.out.length<=1000000) (hc:x.c<=6) (hn:x.n<16^x.c) (r:Int) (hr:eS r) (d:Nat) (b:Id) (hb:b.isIt=false) (hbd:b.isNw d=false):
  ba Tryz.prog gl 157 d ⟨[.ptr b 0,i3 r],[(b,fR b x)],bX b x.out⟩ ⟨.bool (fK x r).2,[(b,fR b (fK x r).1)],bX b (fK x r).1.out⟩:=by
 refine Q0 rfl ?_;have hib:=ae hbd;have tl:=gH x.out;have ne: ∀z:Int,¬r=z->(r==z)=false:=fun z h=>cH.2 h
 have A:=fun e=>Ax x hl r e (.up b) hb
 have I:=fun e=>ui x hl hc hn r e (.up b) hb
 unfold fK;by_cases c1:x.st=1
 ·rw[if_pos c1];clear I;generalize (k8 x r).2=ok,(k8 x r).1=y at*;unfold fR at*;cases hx:x.out with
  |nil=>
   rw[hx] at A;cases hy:y.out with
   |nil=>
    rw[hy] at A;simp only[cp,bX,cB,cL] at A ⊢;simp only[ar,aW,aP,AV.mp,aY,Pl.mp,cB,cL];simp[iW,c1];refine aE _ _ (A _ rfl) (by constructor<;>simp[hb,c1]) ?_
    simp;apply ah<;>simp[hib,hb]
   |cons a2 l2=>
    rw[hy] at A;simp only[cp,bX,cB,cL] at A ⊢;generalize aj (aG (a2::l2))=B1 at*;simp only[ar,aW,aP,AV.mp,aY,Pl.mp,cB,cL];simp[iW,c1];refine aE _ _ (A _ rfl) (by constructor<;>simp[hb,c1]) ?_
    simp;apply ah<;>simp[hib,hb]
  |cons a l=>
   rw[hx] at A;cases hy:y.out with
   |nil=>
    rw[hy] at A;simp only[cp,bX,cB,cL] at A ⊢;generalize aj (aG (a::l))=B0 at*;simp only[ar,aW,aP,AV.mp,aY,Pl.mp,cB,cL];simp[iW,c1];refine aE _ _ (A _ rfl) (by constructor<;>simp[hb,c1]) ?_
    simp;apply ah<;>simp[hib,hb]
   |cons a2 l2=>
    rw[hy] at A;simp only[cp,bX,cB,cL] at A ⊢;generalize aj (aG (a2::l2))=B1,aj (aG (a::l))=B0 at*;simp only[ar,aW,aP,AV.mp,aY,Pl.mp,cB,cL];simp[iW,c1];refine aE _ _ (A _ rfl) (by constructor<;>simp[hb,c1]) ?_
    simp;apply ah<;>simp[hib,hb]
 rw[if_neg c1];have n1:(x.st==1)=false:=cH.2 c1;clear A;by_cases c2:x.st=2
 ·rw[if_pos c2];clear I;dsimp only;have e:(r==123)=decide (r=123):=by by_cases h:r=123<;>simp[h]
  rw[<-e];unfold fR;cases hx:x.out with
  |nil=>
   simp only[cp,bX,cB,cL];simp only[ar,aW,aP,AV.mp,aY,Pl.mp,cB,cL];simp[iW,c2];apply ah<;>simp[hib,hb]
  |cons a l=>
   simp only[cp,bX,cB,cL];generalize aj (aG (a::l))=B0 at*;simp only[ar,aW,aP,AV.mp,aY,Pl.mp,cB,cL];simp[iW,c2];apply ah<;>simp[hib,hb]
 rw[if_neg c2];have n2:(x.st==2)=false:=cH.2 c2;by_cases c3:x.st=3
 ·rw[if_pos c3];generalize (iN x r).2=ok,(iN x r).1=y at*;unfold fR at*;cases hx:x.out with
  |nil=>
   rw[hx] at I;cases hy:y.out with
   |nil=>
    rw[hy] at I;simp only[cp,bX,cB,cL] at I ⊢;simp only[ar,aW,aP,AV.mp,aY,Pl.mp,cB,cL];simp[iW,c3];refine aE _ _ (I _ rfl) (by constructor<;>simp[hb,c3]) ?_
    simp;apply ah<;>simp[hib,hb]
   |cons a2 l2=>
    rw[hy] at I;simp only[cp,bX,cB,cL] at I ⊢;generalize aj (aG (a2::l2))=B1 at*;simp only[ar,aW,aP,AV.mp,aY,Pl.mp,cB,cL];simp[iW,c3];refine aE _ _ (I _ rfl) (by constructor<;>simp[hb,c3]) ?_
    simp;apply ah<;>simp[hib,hb]
  |cons a l=>
   rw[hx] at I;cases hy:y.out with
   |nil=>
    rw[hy] at I;simp only[cp,bX,cB,cL] at I ⊢;generalize aj (aG (a::l))=B0 at*;simp only[ar,aW,aP,AV.mp,aY,Pl.mp,cB,cL];simp[iW,c3];refine aE _ _ (I _ rfl) (by constructor<;>simp[hb,c3]) ?_
    simp;apply ah<;>simp[hib,hb]
   |cons a2 l2=>
    rw[hy] at I;simp only[cp,bX,cB,cL] at I ⊢;generalize aj (aG (a2::l2))=B1,aj (aG (a::l))=B0 at*;simp only[ar,aW,aP,AV.mp,aY,Pl.mp,cB,cL];simp[iW,c3];refine aE _ _ (I _ rfl) (by constructor<;>simp[hb,c3]) ?_
    simp;apply ah<;>simp[hib,hb]
 rw[if_neg c3];have n3:(x.st==3)=false:=cH.2 c3;clear I;by_cases c4:x.st=4
 ·rw[if_pos c4];dsimp only;unfold fR;cases hx:x.out with
  |nil=>
   simp only[cp,bX,cB,cL];simp only[ar,aW,aP,AV.mp,aY,Pl.mp,cB,cL];simp[iW,c4];apply ah<;>simp[hib,hb,c4]
  |cons a l=>
   simp only[cp,bX,cB,cL];generalize aj (aG (a::l))=B0 at*;simp only[ar,aW,aP,AV.mp,aY,Pl.mp,cB,cL];simp[iW,c4];apply ah<;>simp[hib,hb,c4]
 rw[if_neg c4];have n4:(x.st==4)=false:=cH.2 c4;by_cases d1:r=34
 ·rw[if_pos d1];subst d1;dsimp only;unfold fR;cases hx:x.out with
  |nil=>
   simp only[cp,bX,cB,cL];simp only[ar,aW,aP,AV.mp,aY,Pl.mp,cB,cL];simp[iW,n1,n2,n3,n4];apply ah<;>simp[hib,hb]
  |cons a l=>
   simp only[cp,bX,cB,cL];generalize aj (aG (a::l))=B0 at*;simp only[ar,aW,aP,AV.mp,aY,Pl.mp,cB,cL];simp[iW,n1,n2,n3,n4];apply ah<;>simp[hib,hb]
 rw[if_neg d1];have m1:=ne 34 d1;by_cases d2:r=92
 ·rw[if_pos d2];subst d2;dsimp only;unfold fR;cases hx:x.out with
  |nil=>
   simp only[cp,bX,cB,cL];simp only[ar,aW,aP,AV.mp,aY,Pl.mp,cB,cL];simp[iW,n1,n2,n3,n4];apply ah<;>simp[hib,hb]
  |cons a l=>
   simp only[cp,bX,cB,cL];generalize aj (aG (a::l))=B0 at*;simp only[ar,aW,aP,AV.mp,aY,Pl.mp,cB,cL];simp[iW,n1,n2,n3,n4];apply ah<;>simp[hib,hb]
 rw[if_neg d2];have m2:=ne 92 d2;by_cases d3:r<32\/r=127
 ·rw[if_pos d3];dsimp only;have d4:r<32\/(¬r<32/\(r==127)=true):=by
   by_cases h:r<32
   ·exact .inl h
   ·exact .inr ⟨h,by rw[cI];omega⟩
  unfold fR;cases hx:x.out with
  |nil=>
   simp only[cp,bX,cB,cL];simp only[ar,aW,aP,AV.mp,aY,Pl.mp,cB,cL];rcases d4 with d4|⟨d4,d5⟩
   ·simp[iW,n1,n2,n3,n4,m1,m2,d4];apply ah<;>simp[hib,hb]
   ·simp[iW,n1,n2,n3,n4,m1,m2,d4,d5];apply ah<;>simp[hib,hb]
  |cons a l=>
   simp only[cp,bX,cB,cL];generalize aj (aG (a::l))=B0 at*;simp only[ar,aW,aP,AV.mp,aY,Pl.mp,cB,cL];rcases d4 with d4|⟨d4,d5⟩
   ·simp[iW,n1,n2,n3,n4,m1,m2,d4];apply ah<;>simp[hib,hb]
   ·simp[iW,n1,n2,n3,n4,m1,m2,d4,d5];apply ah<;>simp[hib,hb]
 rw[if_neg d3];have d4: ¬r<32:=fun h=>d3 (.inl h)
 have d5:=ne 127 (fun h=>d3 (.inr h));obtain ⟨q,rfl⟩: ∃q:Nat,r=q:=⟨r.toNat,by omega⟩;have W:=fun (c0:AV) (hc0:c0= .nilT (.up b) 226 5\/c0= .ptr (.up b) 0) (e:Nat) (he:(Id.up b).isNw e=false)=>xu (d:=e) (b:= .up b) hb he ny hc0 [i6 x.st,i3 x.n,i6 x.c] (aG x.out) q hr (by unfold eS at hr;omega) (by omega)
 dsimp only;unfold fR;rw[kx,ky];cases hx:x.out with
 |nil=>
  rw[hx] at W;have W:=W _ (.inl rfl);rw[show aG []=[] from rfl] at W ⊢;simp only[cL] at W ⊢;rw[show aj []=[] from rfl] at W;generalize aj (fm q)=B at*;simp only[cp,bX];simp only[ar,aW,aP,AV.mp,aY,Pl.mp,cB,cL];simp[iW,n1,n2,n3,n4,m1,m2,d4,d5];refine aE _ _ (W _ rfl) (by constructor<;>simp[hb]) ?_
  simp;apply ah<;>simp[hib,hb]
 |cons a l=>
  rw[hx] at W;have W:=W _ (.inr rfl);generalize aj (aG (a::l)++fm q)=B at*;simp only[cp,bX];generalize aj (aG (a::l))=B0 at*;simp only[ar,aW,aP,AV.mp,aY,Pl.mp,cB,cL];simp[iW,n1,n2,n3,n4,m1,m2,d4,d5];refine aE _ _ (W _ rfl) (by constructor<;>simp[hb]) ?_
  simp;apply ah<;>simp[hib,hb]
def jy (x:Rd):List Int->Rd×Bool
 |[]=>(x,true)
 |r::l=>if (fK x r).2=true then jy (fK x r).1 l else ((fK x r).1,false)
def Kc:Rd:=⟨[],0,0,0⟩
def wx (l:List Int):List UInt8×Int:=
 if iB l=false\/l.head?≠some 34 then ([],5)
 else if (jy Kc l.tail).2=false then ([],5)
 else if (jy Kc l.tail).1.st≠4 then ([],5)
 else if 120<(jy Kc l.tail).1.out.length then ([],9)
 else (aG (jy Kc l.tail).1.out,0)
structure En (x:Rd) (i:Nat):Prop where
 o:x.out.length<=i
 c:x.c<=6
 n:x.n<16^x.c
 k: ∀r∈x.out,uc r
theorem rY {r:Int} (h:eS r):uc r:=by
 unfold eS at h;right;omega
theorem zh {l:List Int} {q:Int} (h: ∀r∈l,uc r) (hq:uc q): ∀r∈l++[q],uc r:=by
 intro r hr;rw[jD,FI] at hr;rcases hr with hr|rfl
 ·exact h r hr
 ·exact hq
theorem En.step {x:Rd} {i:Nat} (h:En x i) {r:Int} (hr:eS r) (w:Nat) (hw:1<=w):En (fK x r).1 (i+w):=by
 obtain ⟨h1,h2,h3,h4⟩:=h;have same: ∀y:Rd,y.out=x.out->y.c=x.c->y.n=x.n->En y (i+w):=fun y a b c=>⟨by rw[a];omega,by rw[b];exact h2,by rw[c,b];exact h3,by rw[a];exact h4⟩
 have more: ∀(y:Rd) q,y.out=x.out++[q]->uc q->y.c=x.c->y.n=x.n->En y (i+w):=fun y q a hq b c=>⟨by rw[a,fT];simp;omega,by rw[b];exact h2,by rw[c,b];exact h3,by rw[a];exact zh h4 hq⟩
 unfold fK;by_cases c1:x.st=1
 ·rw[if_pos c1];unfold k8;by_cases d1:r=34\/r=92
  ·rw[if_pos d1];exact more _ r rfl (rY hr) rfl rfl
  rw[if_neg d1];by_cases d2:r=110
  ·rw[if_pos d2];exact more _ 10 rfl (by right;omega) rfl rfl
  rw[if_neg d2];by_cases d3:r=116
  ·rw[if_pos d3];exact more _ 9 rfl (by right;omega) rfl rfl
  rw[if_neg d3];by_cases d4:r=117
  ·rw[if_pos d4];exact same _ rfl rfl rfl
  ·rw[if_neg d4];exact same _ rfl rfl rfl
 rw[if_neg c1];by_cases c2:x.st=2
 ·rw[if_pos c2];exact ⟨by dsimp only;omega,Nat.zero_le _,by simp,h4⟩
 rw[if_neg c2];by_cases c3:x.st=3
 ·rw[if_pos c3];unfold iN;by_cases d1:0<=qA r/\x.c<6
  ·rw[if_pos d1];have hx:=DP r;refine ⟨by dsimp only;omega,by dsimp only;omega,?_,h4⟩;dsimp only;rw[Ns];omega
  rw[if_neg d1];by_cases d2:r≠125\/x.c=0\/jm x.n=false
  ·rw[if_pos d2];exact same _ rfl rfl rfl
  ·rw[if_neg d2];refine more _ x.n rfl (rY ((tA _).1 ?_)) rfl rfl;cases hv:jm (x.n:Int)
   ·exact absurd (.inr (.inr hv)) d2
   ·rfl
 rw[if_neg c3];by_cases c4:x.st=4
 ·rw[if_pos c4];exact same _ rfl rfl rfl
 rw[if_neg c4];by_cases d1:r=34
 ·rw[if_pos d1];exact same _ rfl rfl rfl
 rw[if_neg d1];by_cases d2:r=92
 ·rw[if_pos d2];exact same _ rfl rfl rfl
 rw[if_neg d2];by_cases d3:r<32\/r=127
 ·rw[if_pos d3];exact same _ rfl rfl rfl
 ·rw[if_neg d3];exact more _ r rfl (rY hr) rfl rfl
theorem pw (t:List UInt8):ay (34::t) 0=34::ay t 0:=by
 have h:=vz (r:=34) (by right;omega) t;have e:lW 34=[34]:=by decide
 rw[e] at h;have h2:=nk [34] t t.length 0 (by omega);rw[bp (by simp),show (34::t)=[34]++t from rfl,h];simp only[e7,tO,l5,tF] at h2 ⊢;rw[h2]
theorem tZ (s:List UInt8) (h:(aq s 0).1=34):bF s 0=34:=by
 have ff: ∀n r0 least,128<=least->(cD s 0 n r0 least).1=34->False:=by
  intro n r0 least hl e;unfold cD at e;split at e
  ·rename_i c;rw[aJ] at c
   have:=iT c.2
   dsimp only at e;omega
  ·dsimp only at e;omega
 unfold aq at h;simp only at h;split at h
 ·dsimp only at h;omega
 ·split at h
  ·exact (ff _ _ _ (by omega) h).elim
  ·split at h
   ·exact (ff _ _ _ (by omega) h).elim
   ·split at h
    ·exact (ff _ _ _ (by omega) h).elim
    ·dsimp only at h;omega
theorem wy (s:List UInt8):Lib.hasPrefix s [34]=decide ((ay s 0).head?=some 34):=by
 cases s with
 |nil=>rw[aS (by simp)];rfl
 |cons b t=>
  by_cases c:b=34
  ·subst c;rw[pw];simp[Lib.hasPrefix]
  ·have h1:Lib.hasPrefix (b::t) [34]=false:=by
    unfold Lib.hasPrefix;show ((34:UInt8)==b&&([]:List UInt8).isPrefixOf t)=false;rw[cH.2 (fun h=>c h.symm),qp]
   rw[h1,bp (by simp)];symm;rw[decide_eq_false_iff_not];intro h;have h:(aq (b::t) 0).1=34:=by simpa using h
   have:=tZ (b::t) h
   apply c;have hb:bF (b::t) 0=b.toNat:=rfl;rw[hb] at this;exact Nq.1 (by rw[this];rfl)
theorem Hb {l:List Int} (h:iB l=true): ∀r∈l,r≠ -1:=by
 intro r hr e;unfold iB at h
 have:=FJ (ik.1 h r hr)
 omega
theorem rZ {d:Nat} {b:Id} (hit:b.isIt=false) (hnwb:b.isNw d=false) {c0:AV} (rest:List AV) (l:List UInt8) (h0:l≠[]):
  ba Tryz.prog gl 158 d ⟨[.ptr b 0],[(b,c0:: .sl (aj l)::rest)],[(.b b 1,bk 5)]⟩ ⟨.str l,[(b,c0:: .sl (aj l)::rest)],[]⟩:=
 Gn (L:={aM with}) pP (by kernel_rfl) (by kernel_rfl) hit hnwb (rest:=rest) l h0
theorem uV {d:Nat} {b:Id} (hit:b.isIt=false) (hnwb:b.isNw d=false) {c0:AV} (rest:List AV):
  ba Tryz.prog gl 158 d ⟨[.ptr b 0],[(b,c0:: .nils::rest)],[]⟩ ⟨.str [],[(b,c0:: .nils::rest)],[]⟩:=
 DX (L:={aM with}) pP (by kernel_rfl) (by kernel_rfl) hit hnwb (rest:=rest)
theorem r7 (r:Int) (l:List Int):aG (r::l)≠[]:=by
 intro h
 have:=z8 r
 have e:(aG (r::l)).length=0:=by rw[h];rfl
 rw[aG,fT] at e;omega
theorem mP (s:List UInt8) (hl:s.length<=200000):Sp Tryz.prog gl 135 [.str s] (.tup [.str (wx (ay s 0)).1,i6 (wx (ay s 0)).2]):=by
 refine QO rfl rfl ?_;have CP:=Fl s [34];have GO:=sJ s (by omega);rw[wy] at CP;unfold wx;by_cases c1:(ay s 0).head?=some 34
 ·rw[mI c1] at CP;cases hg:iB (ay s 0)
  ·rw[hg] at GO;rw[if_pos (.inl rfl)];generalize Lib.trimPrefix s [34]=t at*;simp[Jv];apply ag CP;simp;apply ag GO;simp
  ·rw[hg] at GO;rw[if_neg (by rintro (h|h);cases h;exact h c1)];obtain ⟨t,ht⟩: ∃t,s=34::t:=by
    have:=wy s
    rw[mI c1] at this;cases s with
    |nil=>cases this
    |cons b t=>
     unfold Lib.hasPrefix at this;have h2:((34:UInt8)==b&&([]:List UInt8).isPrefixOf t)=true:=this;rw[aJ,cI] at h2;exact ⟨t,by rw[h2.1]⟩
   have et:Lib.trimPrefix s [34]=t:=by
    unfold Lib.trimPrefix;rw[wy,mI c1,if_pos rfl,ht];rfl
   have er:(ay s 0).tail=ay t 0:=by rw[ht,pw];rfl
   have hok: ∀r∈ay t 0,eS r:=by
    intro r hr;have h1:=Hb hg r (by rw[ht,pw];exact List.mem_cons_of_mem _ hr);have h2:=kX t t.length 0 (by omega) r hr;unfold eS;rcases h2 with h2|h2
    ·exact absurd h2 h1
    ·omega
   have htl:t.length<=200000:=by rw[ht] at hl;simp at hl;omega
   rw[et] at CP;rw[er];clear er et ht hg c1;obtain ⟨R,hR⟩: ∃R,R=jy Kc (ay t 0):=⟨_,rfl⟩;rw[<-hR];simp[Jv];apply ag CP;simp;apply ag GO;simp;refine cP (α:=Rd×Nat) (fun y=>⟨[(6,.ptr (.n 23) 0),(25,.itp 25)],[(.n 23,fR (.n 23) y.1),(.it 25,[.itr t y.2])],bX (.n 23) y.1.out⟩)
    (fun y=>En y.1 y.2/\y.2<=t.length/\jy y.1 (ay t y.2)=R/\ ∀r∈ay t y.2,eS r) (fun y=>t.length - y.2) ?_ (Kc,0) ?_ ?_
   ·rintro K ⟨x,i⟩ hK ⟨h1,h2,h3,h4⟩;simp only at h1 h2 h3 h4;by_cases g:i<t.length
    ·have sr:=oG t i g;have sp:=cN t i;have sw:=jl t i g;rw[bp g] at h3 h4;have hv:=h4 (aq t i).1 (by simp);have e65:kZ (aq t i).1=(aq t i).1:=by unfold kZ;rw[if_neg];unfold eS at hv;omega
     rw[e65] at sr;have T:=fun (e:Nat) (he:(Id.n 23).isNw e=false)=>zg x (by have:=h1.o;omega) h1.c h1.n (aq t i).1 hv e (.n 23) rfl he
     have ok:=h1.step hv (aq t i).2 sp;have fin:jy (fK x (aq t i).1).1 (ay t (i+(aq t i).2))=R-> ∀σ',il σ' ⟨[(6,.ptr (.n 23) 0),(25,.itp 25)],[(.n 23,fR (.n 23) (fK x (aq t i).1).1),(.it 25,[.itr t (i+(aq t i).2)])],bX (.n 23) (fK x (aq t i).1).1.out⟩->K σ':=
      fun hh σ' hσ=>hK ((fK x (aq t i).1).1,i+(aq t i).2) σ' ⟨ok,sw,hh,fun r hr=>h4 r (List.mem_cons_of_mem _ hr)⟩ (by simp only;omega) hσ
     rw[jy] at h3;clear hK hR ok h4 hv;generalize (aq t i).1=r,(aq t i).2=w at*;generalize (fK x r).2=okk,(fK x r).1=y at*;cases okk
     ·rw[if_neg (by decide)] at h3;subst h3;dsimp only;rw[if_pos rfl];clear fin;unfold fR at*;cases hx:x.out with
      |nil=>
       rw[hx] at T;cases hy:y.out with
       |nil=>
        rw[hy] at T;simp only[cp,bX,cB,cL] at T ⊢;simp[g,sr];refine bg _ _ (T _ rfl) ?_;simp
       |cons a2 l2=>
        rw[hy] at T;simp only[cp,bX,cB,cL] at T ⊢;generalize aj (aG (a2::l2))=B1 at*;simp[g,sr];refine bg _ _ (T _ rfl) ?_;simp
      |cons a l=>
       rw[hx] at T;cases hy:y.out with
       |nil=>
        rw[hy] at T;simp only[cp,bX,cB,cL] at T ⊢;generalize aj (aG (a::l))=B0 at*;simp[g,sr];refine bg _ _ (T _ rfl) ?_;simp
       |cons a2 l2=>
        rw[hy] at T;simp only[cp,bX,cB,cL] at T ⊢;generalize aj (aG (a2::l2))=B1,aj (aG (a::l))=B0 at*;simp[g,sr];refine bg _ _ (T _ rfl) ?_;simp
     ·rw[if_pos rfl] at h3;have fin:=fin h3;clear h3;generalize (if R.2=false then _ else _:List UInt8×Int)=res;unfold fR at*;cases hx:x.out with
      |nil=>
       rw[hx] at T;cases hy:y.out with
       |nil=>
        rw[hy] at T fin;simp only[cp,bX,cB,cL] at T fin ⊢;simp[g,sr];refine bg _ _ (T _ rfl) ?_;simp;refine fin _ ?_;apply aC<;>simp
       |cons a2 l2=>
        rw[hy] at T fin;simp only[cp,bX,cB,cL] at T fin ⊢;generalize aj (aG (a2::l2))=B1 at*;simp[g,sr];refine bg _ _ (T _ rfl) ?_;simp;refine fin _ ?_;apply aC<;>simp
      |cons a l=>
       rw[hx] at T;cases hy:y.out with
       |nil=>
        rw[hy] at T fin;simp only[cp,bX,cB,cL] at T fin ⊢;generalize aj (aG (a::l))=B0 at*;simp[g,sr];refine bg _ _ (T _ rfl) ?_;simp;refine fin _ ?_;apply aC<;>simp
       |cons a2 l2=>
        rw[hy] at T fin;simp only[cp,bX,cB,cL] at T fin ⊢;generalize aj (aG (a2::l2))=B1,aj (aG (a::l))=B0 at*;simp[g,sr];refine bg _ _ (T _ rfl) ?_;simp;refine fin _ ?_;apply aC<;>simp
    ·rw[aS g,jy] at h3;subst h3;dsimp only;rw[if_neg (by decide)];clear hK;have tl:=gH x.out;have ol:=h1.o;have TC:=qf (aG x.out) (by omega);rw[eN x.out h1.k] at TC;unfold fR;by_cases c4:x.st=4
     ·rw[if_pos c4];have c4':(x.st !=4)=false:=by rw[c4];rfl
      by_cases c5:120<x.out.length
      ·rw[if_pos c5];have c5':(120:Int)<x.out.length:=by omega
       cases hx:x.out with
       |nil=>rw[hx] at c5;simp at c5
       |cons a l=>
        have S:=fun (e:Nat) (he:(Id.n 23).isNw e=false)=>rZ (d:=e) (b:= .n 23) rfl he (c0:= .ptr (.n 23) 0) [i6 x.st,i3 x.n,i6 x.c] (aG (a::l)) (r7 a l)
        rw[hx] at TC c5 c5';simp only[cp,bX,cB,cL];generalize (a::l).length=n,aG (a::l)=T at*;generalize aj T=B0 at*;simp[g];refine bg _ _ (S _ rfl) ?_;simp[c4,c4'];apply ag TC;simp[c5,c5']
      ·rw[if_neg c5];have c5': ¬(120:Int)<x.out.length:=by omega
       cases hx:x.out with
       |nil=>
        have S:=fun (e:Nat) (he:(Id.n 23).isNw e=false)=>uV (d:=e) (b:= .n 23) rfl he (c0:= .nilT (.n 23) 226 5) [i6 x.st,i3 x.n,i6 x.c]
        rw[hx] at TC c5';rw[show aG []=[] from rfl] at TC ⊢;simp only[cp,bX,cB,cL];simp[g];refine bg _ _ (S _ rfl) ?_;simp[c4,c4'];apply ag TC;simp
       |cons a l=>
        have S:=fun (e:Nat) (he:(Id.n 23).isNw e=false)=>rZ (d:=e) (b:= .n 23) rfl he (c0:= .ptr (.n 23) 0) [i6 x.st,i3 x.n,i6 x.c] (aG (a::l)) (r7 a l)
        rw[hx] at TC c5 c5';simp only[cp,bX,cB,cL];generalize (a::l).length=n,aG (a::l)=T at*;generalize aj T=B0 at*;simp[g];refine bg _ _ (S _ rfl) ?_;simp[c4,c4'];apply ag TC;simp[c5,c5']
     ·rw[if_neg c4];have c4':(x.st !=4)=true:=bne_iff_ne.2 c4;have c4'':(x.st==4)=false:=cH.2 c4;cases hx:x.out with
      |nil=>
       have S:=fun (e:Nat) (he:(Id.n 23).isNw e=false)=>uV (d:=e) (b:= .n 23) rfl he (c0:= .nilT (.n 23) 226 5) [i6 x.st,i3 x.n,i6 x.c]
       simp only[cp,bX,cB,cL];simp[g];refine bg _ _ (S _ rfl) ?_;simp[c4,c4',c4'']
      |cons a l=>
       have S:=fun (e:Nat) (he:(Id.n 23).isNw e=false)=>rZ (d:=e) (b:= .n 23) rfl he (c0:= .ptr (.n 23) 0) [i6 x.st,i3 x.n,i6 x.c] (aG (a::l)) (r7 a l)
       simp only[cp,bX,cB,cL];generalize aG (a::l)=T at*;generalize aj T=B0 at*;simp[g];refine bg _ _ (S _ rfl) ?_;simp[c4,c4',c4'']
   ·exact ⟨⟨jq _,jq _,by decide,by intro r hr;cases hr⟩,jq _,hR.symm,hok⟩
   ·apply aC<;>simp[fR,cp,bX,Kc]
 ·rw[lm c1] at CP;rw[if_pos (.inr c1)];generalize Lib.trimPrefix s [34]=t at*;simp[Jv];apply ag CP;simp
theorem BD (x:Rd) (r:Int) (l:List Int):jy x (r::l)=if (fK x r).2=true then jy (fK x r).1 l else ((fK x r).1,false):=rfl
def sU (w:List UInt8):List UInt8×Int:=wx (ay w 0)
theorem r9 {r:Int} (h:eV r=true):uc r/\r≠ -1:=by
 unfold eV cR ep at h;simp only[AG,Cn] at h;unfold uc;omega
theorem oc {k:Int} {q:Nat×Int} {c:Int} (h:ck k q= .e c):c≠0:=by
 unfold ck at h;split at h
 ·cases h
 ·cases h;assumption
theorem Sz (w:List UInt8) (c:Int) (h:sV w= .e c):c≠0:=by
 unfold sV at h;split at h
 ·split at h
  ·cases h
  ·cases h;decide
 ·split at h
  ·exact oc h
  ·split at h
   ·exact oc h
   ·split at h
    ·exact oc h
    ·exact oc h
theorem OD (m:List Int) (h0:m≠[]) (hw: ∀r∈m,eV r=true):rV m=sV (aG m):=by
 have hr:=eN m (fun r hr=>(r9 (hw r hr)).1);have hpos:0<(aG m).length:=by
  by_cases g:0<(aG m).length
  ·exact g
  ·rw[aS g] at hr;exact absurd hr.symm h0
 have hv:vR (aG m)=m.headD 0:=by
  unfold vR;rw[if_neg (fun e=>by rw[e] at hpos;cases hpos)];rw[bp hpos] at hr;cases m with
  |nil=>exact absurd rfl h0
  |cons r t=>
   injection hr with h1 h2;rw[h1,List.headD_cons];unfold kZ;rw[if_neg (r9 (hw r (by simp))).2]
 unfold rV sV;rw[hv];cases hd:ep (m.headD 0)
 ·rw[if_pos (Or.inr rfl),if_pos rfl]
 ·rw[if_neg (by rintro (h|h);exact h0 h;cases h),if_neg (by decide)];unfold OY;generalize aG m=w at*;have e1:oM w=w.all aV:=by
   unfold oM;rw[mI hpos,Bool.and_true]
  have e2:ii w [37]=true↔bF w (w.length - 1)=37:=by
   rw[tx];constructor
   ·exact fun h=>h.2
   ·exact fun h=>⟨hpos,h⟩
  rw[e1,M7,tu];by_cases c1:w.all aV=true
  ·rw[if_pos c1,if_pos c1]
  ·rw[if_neg c1,if_neg c1];by_cases c2:bF w (w.length - 1)=37
   ·rw[if_pos c2,if_pos (e2.2 c2)]
   ·rw[if_neg c2,if_neg (fun h=>c2 (e2.1 h))]
theorem SC:Fi sV sU rV wx:=⟨fun _=>rfl,OD,Sz⟩
def dZ (s:List UInt8):TR:=IF rV sU s
theorem Eo {s:List UInt8} (h:40000<s.length):dZ s=⟨[],9,1,1⟩:=by
 unfold dZ IF;rw[if_pos h]
theorem BE (s:List UInt8) (h:40000<s.length):Sp Tryz.prog gl 35 [.str s] (dZ s).av:=by
 refine Te rfl rfl ?_;have B:=fun (e:Nat) (he:(Id.n 10).isNw e=false)=>ic s ⟨[],0,0,0,0,1,1,0,0,0⟩ 0 0 e (.n 10) rfl he
 have hB:Sc.begin ⟨[],0,0,0,0,1,1,0,0,0⟩ 0 0=xB:=rfl;rw[hB] at B;rw[Eo h];have hl':(40000:Int)<s.length:=by omega
 have W:=fun (e:Nat) (he:(Id.n 10).isNw e=false)=>eF s xB 9 e (.n 10) rfl he
 unfold fv Sc.wrong xB at*;simp only[l6] at B W;unfold TR.av;simp[O3];refine bg _ _ (B _ rfl) ?_;simp[h,hl'];refine bg _ _ (W _ rfl) ?_;simp
theorem Ep (s:List UInt8):Sp Tryz.prog gl 35 [.str s] (dZ s).av:=by
 by_cases h:40000<s.length
 ·exact BE s h
 ·have:=oH sV sU s (fun w hw=>mP w (by omega)) (fun w hw=>qo w (by omega))
  rw[IM SC s] at this;exact this
theorem Kd (f:Nat) (hL: ∀g,g<f->P7 g):LU f:=by
 intro d x l n D b hb hbd hd hn;refine ⟨fun o l' n' h=>?_,fun c t l' n' h=>?_⟩
 ·refine U2 rfl ?_;refine DC f d x l n D b hb hbd hd hn hL _ _ (by rw[h];simp) (fun o2 l2 n2 h2 σ hp=>?_) (fun c t l' n' h2=>by rw[h] at h2;cases h2);rw[h] at h2;cases h2;exact hp
 ·refine U1 rfl ?_;refine DC f d x l n D b hb hbd hd hn hL _ _ (by rw[h];simp) (fun o2 l2 n2 h2=>by rw[h] at h2;cases h2) (fun c2 t2 l2 n2 h2 v σ hp=>?_);rw[h] at h2;cases h2;exact hp
theorem SE: ∀f,P7 f/\LU f:=by
 intro f;induction f using Nat.strongRecOn with
 |ind f ih=>exact ⟨K0 f fun g hg=>(ih g hg).2,Kd f fun g hg=>(ih g hg).1⟩
theorem Ke (V:List (List AV)) (a b c:Int) (dm:Nat):FQ Tryz.prog gl 36 dm ⟨[.ptr (.up (.n 2)) 0,.ptr (.up (.n 3)) 0],[(.up (.n 2),[.sl V]),(.up (.n 3),[i6 a,i6 b,i6 c])],[]⟩ .nili ⟨.tup [],[(.up (.n 2),[.sl V]),(.up (.n 3),[i6 a,i6 b,i6 c])],[]⟩:=by
 refine Tg rfl rfl ?_;simp only[ar,aW,aP,AV.mp,aY,Pl.mp];simp[O4,O5];refine bh ?_;constructor<;>simp
theorem Kf (a b c:Int) (e:Int) (t:Tk) (dm:Nat):FQ Tryz.prog gl 36 dm ⟨[.ptr (.up (.n 2)) 0,.ptr (.up (.n 3)) 0],[(.up (.n 2),[.nils]),(.up (.n 3),[i6 a,i6 b,i6 c])],[]⟩ (wV e t) ⟨.tup [],[(.up (.n 2),[.nils]),(.up (.n 3),[i6 e,i6 t.ln,i6 t.co])],[]⟩:=by
 refine Tg rfl rfl ?_;unfold wV;simp only[ar,aW,aP,AV.mp,aY,Pl.mp];simp[O4,O5];refine bh ?_;constructor<;>simp
theorem OE:(List.range 22).map X.s=[.s 0,.s 1,.s 2,.s 3,.s 4,.s 5,.s 6,.s 7,.s 8,.s 9,.s 10,.s 11,.s 12,.s 13,.s 14,.s 15,.s 16,.s 17,.s 18,.s 19,.s 20,.s 21]:=rfl
def fV (s:List UInt8):List It×Int×Int×Int:=
 if (dZ s).c≠0 then ([],(dZ s).c,(dZ s).a,(dZ s).b)
 else match pL (2*(dZ s).l.length+3) 1 0 [] (dZ s).l 0 with
  | .ok o _ _=>(o,0,0,0)
  | .th c t _ _=>([],c,t.ln,t.co)
  | .no=>([],0,0,0)
def lS (x:List It×Int×Int×Int):AV:= .tup [.sl (ab x.1),.agg [i6 x.2.1,i6 x.2.2.1,i6 x.2.2.2]]
def BF (x:TR):List It×Int×Int×Int:=
 if x.c≠0 then ([],x.c,x.a,x.b)
 else match pL (2*x.l.length+3) 1 0 [] x.l 0 with
  | .ok o _ _=>(o,0,0,0)
  | .th c t _ _=>([],c,t.ln,t.co)
  | .no=>([],0,0,0)
theorem zi (s:List UInt8) (x:TR) (TK:Sp Tryz.prog gl 35 [.str s] x.av) (hno:x.c=0->pL (2*x.l.length+3) 1 0 [] x.l 0≠ .no):Sp Tryz.prog gl 15 [.str s] (lS (BF x)):=by
 refine Sp.of_h fun D=>?_
 refine Uh 1 1 (by decide) (by decide) rfl ?_;unfold BF lS;obtain ⟨xl,xc,xa,xb⟩:=x;unfold TR.av at TK;simp only at*;simp only[ar,aW,aP,AV.mp,aY,Pl.mp,P8,iL];by_cases h0:xc=0
 ·subst h0;have hno:=hno rfl;simp;apply ag TK;simp;have hL:=fun D h=>(SE (2*xl.length+3)).1 1 0 xl 0 D (.n 18) rfl h (by decide) (by decide)
  unfold qg at hL;cases hP:pL (2*xl.length+3) 1 0 [] xl 0 with
  |no=>exact absurd hP hno
  |ok o l' n'=>
   have LO:=fun D h=>(hL D h).1 _ _ _ hP
   clear hL hno hP;dsimp only;generalize ab o=OR,List.map Tk.row xl=XL,List.map Tk.row l'=L1 at*;rw[gS,OE];simp;refine ⟨⟨[.str s,.undef,.ptr (.n 2) 0,.ptr (.n 3) 0,.sl XL,.undef,.tup [.sl XL,.agg [i6 0,i6 xa,i6 xb]],.str s,.tup [.sl XL,.agg [i6 0,i6 xa,i6 xb]],.sl XL,.agg [i6 0,i6 xa,i6 xb],.ptr (.n 3) 0,i6 0,.bool false,.undef,.fn 36 [.ptr (.n 2) 0,.ptr (.n 3) 0],.undef,.undef,.undef,.undef,.undef,.undef],[(.n 2,[.nils]),(.n 3,[i6 0,i6 xa,i6 xb])],[]⟩,rfl,⟨.tup [.sl OR,.agg [i6 0,i6 0,i6 0]],[(.n 2,[.sl OR]),(.n 3,[i6 0,i6 0,i6 0])],[]⟩,⟨?_,?_,?_,?_,?_,?_,?_⟩,?_,?_⟩;iterate 7 (· simp)
   ·apply ah<;>simp
   ·simp;refine aZ _ _ (LO _ rfl) (by constructor<;>simp) ?_
    simp;refine ⟨_,_,Ke OR 0 0 0 1,⟨?_,?_,?_,?_,?_,?_,?_⟩,?_⟩;iterate 7 (· simp)
    apply ah<;>simp
  |th c t l' n'=>
   have LT:=fun D h=>(hL D h).2 _ _ _ _ hP
   clear hL hno hP;dsimp only;have RF:=Kf 0 xa xb c t 1;generalize List.map Tk.row xl=XL,List.map Tk.row l'=L1 at*;obtain ⟨tk,tt,tn,tl,tc⟩:=t;unfold wV at*;dsimp only at*;rw[gS,OE];simp;refine ⟨⟨[.str s,.undef,.ptr (.n 2) 0,.ptr (.n 3) 0,.sl XL,.undef,.tup [.sl XL,.agg [i6 0,i6 xa,i6 xb]],.str s,.tup [.sl XL,.agg [i6 0,i6 xa,i6 xb]],.sl XL,.agg [i6 0,i6 xa,i6 xb],.ptr (.n 3) 0,i6 0,.bool false,.undef,.fn 36 [.ptr (.n 2) 0,.ptr (.n 3) 0],.undef,.undef,.undef,.undef,.undef,.undef],[(.n 2,[.nils]),(.n 3,[i6 0,i6 xa,i6 xb])],[]⟩,rfl,⟨.tup [.sl [],.agg [i6 c,i6 tl,i6 tc]],[(.n 2,[.nils]),(.n 3,[i6 c,i6 tl,i6 tc])],[]⟩,⟨?_,?_,?_,?_,?_,?_,?_⟩,?_,?_⟩;iterate 7 (· simp)
   ·apply ah<;>simp[ab]
   ·simp;refine bj _ _ (LT _ rfl) (by constructor<;>simp) rfl ?_
    refine ⟨⟨_,_,rfl⟩,_,_,RF,⟨?_,?_,?_,?_,?_,?_,?_⟩,?_⟩;iterate 7 (· simp)
    apply ah<;>simp
 ·have h0':(xc !=0)=true:=by simpa using h0
  rw[if_pos h0];generalize List.map Tk.row xl=XL at*;simp;apply ag TK;simp[h0,h0'];apply ah<;>simp[ab]
theorem Er (s:List UInt8) (hno:(dZ s).c=0->pL (2*(dZ s).l.length+3) 1 0 [] (dZ s).l 0≠ .no):Sp Tryz.prog gl 15 [.str s] (lS (fV s)):=zi s (dZ s) (Ep s) hno
structure zj (t:Tk):Prop where
 k:1<=t.k/\t.k<=9
 nm:t.k=1->t.n=0
 br:7<=t.k->t.t=[]/\t.n=0
theorem Hc {k:Int} {w:List UInt8} {n:Nat} {a b:Int} (h1:1<=k/\k<=9) (h2:k=1->n=0) (h3:7<=k->w=[]/\n=0):zj ⟨k,w,n,a,b⟩:=⟨h1,h2,h3⟩
def sd (t:Tk):Prop:=t.k=0/\t.t=[]/\t.n=0
theorem Kg {m:List Int} {k:Int} {w:List UInt8} {n:Nat} (h:rV m= .t k w n):(k=1/\n=0)\/(3<=k/\k<=6):=by
 have td: ∀ {j:Int} {q:Nat×Int},ck j q= .t k w n->k=j:=by
  intro j q h;unfold ck at h;split at h
  ·cases h;rfl
  ·cases h
 unfold rV at h;split at h
 ·split at h
  ·cases h;exact .inl ⟨rfl,rfl⟩
  ·cases h
 ·unfold OY at h;right;split at h
  ·rw[td h];decide
  split at h
  ·rw[td h];decide
  split at h
  ·rw[td h];decide
  ·rw[td h];decide
theorem OF {m:List Int} {c:Int} (h:rV m= .e c):c≠0:=by
 unfold rV at h;split at h
 ·split at h
  ·cases h
  ·cases h;decide
 ·unfold OY at h;repeat' split at h
  all_goals exact oc h
theorem Db (l:List Int) (i:Nat) (r:Int) (hc:(dR rV sU l i r).c=0) (a b:Int):zj ⟨(dR rV sU l i r).k,(dR rV sU l i r).w,(dR rV sU l i r).n,a,b⟩:=by
 unfold dR at hc ⊢;by_cases c1:r=123
 ·rw[if_pos c1];exact Hc (k:=7) (w:=[]) (n:=0) (by decide) (fun h=>absurd h (by decide)) (fun _=>⟨rfl,rfl⟩)
 rw[if_neg c1] at hc ⊢;by_cases c2:r=125
 ·rw[if_pos c2];exact Hc (k:=8) (w:=[]) (n:=0) (by decide) (fun h=>absurd h (by decide)) (fun _=>⟨rfl,rfl⟩)
 rw[if_neg c2] at hc ⊢;by_cases c3:r=59
 ·rw[if_pos c3];exact Hc (k:=9) (w:=[]) (n:=0) (by decide) (fun h=>absurd h (by decide)) (fun _=>⟨rfl,rfl⟩)
 rw[if_neg c3] at hc ⊢;by_cases c4:r=34
 ·rw[if_pos c4] at hc ⊢;by_cases c5:ud l (i+1)=0
  ·rw[if_pos c5] at hc;exact absurd hc (by decide)
  ·rw[if_neg c5];exact Hc (k:=2) (n:=0) (by decide) (fun h=>absurd h (by decide)) (fun h=>absurd h (by decide))
 rw[if_neg c4] at hc ⊢;by_cases c5:eV r=true
 ·rw[if_pos c5] at hc ⊢;cases hv:rV (dG l i (iv l i)) with
  |e c=>
   rw[hv] at hc;exact absurd hc (OF hv)
  |t k w n=>
   have:=Kg hv
   unfold TV.on;dsimp only;exact Hc (by omega) (by omega) (by omega)
 ·rw[if_neg c5] at hc;exact absurd hc (by decide)
theorem kP (Q:Tk->Prop) (l:List Int) (hQ: ∀i r,(dR rV sU l i r).c=0-> ∀a b,Q ⟨(dR rV sU l i r).k,(dR rV sU l i r).w,(dR rV sU l i r).n,a,b⟩) (P:List (Int×Int)): ∀(f i:Nat) (out:List Tk),l.length - i<f->i<=l.length->(eT rV sU l P f i out).c=0-> ∃o z,(eT rV sU l P f i out).l=out++o++[z]/\(∀t∈o,Q t)/\sd z
 |0,i,out,hf,hi,hc=>by omega
 |f+1,i,out,hf,hi,hc=>by
  rw[eT] at hc ⊢;cases hl:l[i]? with
  |none=>
   rw[hl] at hc;refine ⟨[],_,by rw[xJ],(fun t ht=>by cases ht),rfl,rfl,rfl⟩
  |some r=>
   obtain ⟨gi,er⟩:=qZ.1 hl;rw[hl] at hc;dsimp only at hc ⊢;by_cases c1:r=32\/r=9\/r=10
   ·rw[if_pos c1] at hc ⊢;exact kP Q l hQ P f (i+1) out (by omega) (by omega) hc
   rw[if_neg c1] at hc ⊢;by_cases c2:r=35
   ·rw[if_pos c2] at hc ⊢;have hs:=IE l l.length (i+1) (by omega) (by omega);have e:B5 l i=B5 l (i+1):=by rw[xd gi,if_neg (by rw[er,c2];decide)]
    rw[e] at hc ⊢;exact kP Q l hQ P f _ out (by omega) (by omega) hc
   rw[if_neg c2] at hc ⊢;by_cases c3:(dR rV sU l i r).c=0
   ·rw[if_pos c3] at hc ⊢;have he:=K4 rV sU l i gi (by rw[er];exact c3);rw[er] at he;obtain ⟨o,z,h1,h2,h3⟩:=kP Q l hQ P f _ _ (by omega) (by omega) hc;refine ⟨⟨(dR rV sU l i r).k,(dR rV sU l i r).w,(dR rV sU l i r).n,(P.getD i (0,0)).1,(P.getD i (0,0)).2⟩::o,z,?_,?_,h3⟩
    ·rw[h1];simp only[xv,List.singleton_append,cB,cL]
    ·intro t ht;rcases nH.1 ht with rfl|ht
     ·exact hQ i r c3 _ _
     ·exact h2 t ht
   ·rw[if_neg c3] at hc;exact absurd hc c3
theorem uW (Q:Tk->Prop) {s:List UInt8} (hQ: ∀i r,(dR rV sU (ay s 0) i r).c=0-> ∀a b,Q ⟨(dR rV sU (ay s 0) i r).k,(dR rV sU (ay s 0) i r).w,(dR rV sU (ay s 0) i r).n,a,b⟩) (h:(dZ s).c=0): ∃o z,(dZ s).l=o++[z]/\(∀t∈o,Q t)/\sd z:=by
 unfold dZ IF at h ⊢;split at h
 ·exact absurd h (by decide)
 ·rename_i hl;rw[if_neg hl];obtain ⟨o,z,h1,h2⟩:=kP Q _ hQ _ _ 0 [] (by omega) (jq _) h;exact ⟨o,z,by rw[h1,cL],h2⟩
theorem Hd {s:List UInt8} (h:(dZ s).c=0): ∃o z,(dZ s).l=o++[z]/\(∀t∈o,zj t)/\sd z:=uW zj (fun i r hc a b=>Db _ i r hc a b) h
structure Jr (l:List Tk):Prop where
 h: ∃o z,l=o++[z]/\(∀t∈o,zj t)/\sd z
theorem Jr.ne {l:List Tk} (h:Jr l):l≠[]:=by
 obtain ⟨o,z,rfl,_⟩:=h;simp
theorem Jr.cons {t:Tk} {r:List Tk} (h:Jr (t::r)):(r=[]/\sd t/\ub (t::r)=[t])\/(zj t/\Jr r/\ub (t::r)=r):=by
 obtain ⟨o,z,e,ho,hz⟩:=h;cases o with
 |nil=>
  rw[cL] at e;injection e with e1 e2;subst e1;subst e2;exact .inl ⟨rfl,hz,rfl⟩
 |cons a o=>
  rw[cB] at e;injection e with e1 e2;subst e1;subst e2;refine .inr ⟨ho _ (by simp),⟨o,z,rfl,fun t ht=>ho t (by simp[ht]),hz⟩,?_⟩;cases o with
  |nil=>rfl
  |cons b o=>rfl
mutual
def uX:It->List Tk
 | .mk n ws b ks ln co=>⟨1,n,0,ln,co⟩::(ws++(if b=false then [⟨9,[],0,0,0⟩] else ⟨7,[],0,0,0⟩::(qa ks++[⟨8,[],0,0,0⟩])))
def qa:List It->List Tk
 |[]=>[]
 |x::r=>uX x++qa r
end
def wz (t:Tk):Tk:=⟨t.k,t.t,t.n,if t.k<7 then t.ln else 0,if t.k<7 then t.co else 0⟩
theorem Dc {t:Tk} (h:t.k<7):wz t=t:=by
 obtain ⟨k,s,n,a,b⟩:=t;unfold wz;dsimp only at*;rw[if_pos h,if_pos h]
theorem wA {t:Tk} (h:zj t) (h7:7<=t.k):wz t=⟨t.k,[],0,0,0⟩:=by
 obtain ⟨e1,e2⟩:=h.br h7;unfold wz;rw[if_neg (by omega),if_neg (by omega),e1,e2]
def Vt (d:Nat) (e:Int) (out:List It) (l:List Tk) (n:Nat):Pr (List It)->Prop
 | .no=>False
 | .ok o l' n'=> ∃its T t r,o=out++its/\l=T++t::r/\t.k=e/\l'=ub (t::r)/\Jr (t::r)/\T.map wz=qa its/\n'=n+bJ its/\(its=[]\/d+f8 its<=5)/\NB its
 | .th c _ _ _=>c≠0
def Vu (d:Nat) (nm:List UInt8) (ln co:Int) (ws l:List Tk) (n:Nat):Pr It->Prop
 | .no=>False
 | .ok y l' n'=> ∃T,l=T++l'/\Jr l'/\(⟨1,nm,0,ln,co⟩::(ws++T.map wz):List Tk)=uX y/\n'+1=n+jh y/\d+pp y<=5/\P5 y
 | .th c _ _ _=>c≠0
theorem He: ∀f:Nat,(∀d e out l n,Jr l->2*l.length+1<=f->(e=0\/e=8)->Vt d e out l n (pL f d e out l n))/\
  (∀d nm ln co ws l n,Jr l->2*l.length+1<=f->d<=4->ws.length<=6->(∀w∈ws,1<=w.k/\w.k<=6)->Vu d nm ln co ws l n (pI f d nm ln co ws l n))
 |0=>⟨fun d e out l n hs hf=>by omega,fun d nm ln co ws l n hs hf=>by omega⟩
 |f+1=>by
  obtain ⟨ihL,ihI⟩:=He f;refine ⟨fun d e out l n hs hf he=>?_,fun d nm ln co ws l n hs hf hd hw hk=>?_⟩
  ·cases l with
   |nil=>exact absurd rfl hs.ne
   |cons t r=>
    rw[pL];rw[e7] at hf;by_cases c1:t.k=e
    ·rw[if_pos c1];exact ⟨[],[],t,r,(xJ _).symm,rfl,c1,rfl,hs,rfl,rfl,.inl rfl,trivial⟩
    rw[if_neg c1];by_cases c2:t.k≠1
    ·rw[if_pos c2];show (6:Int)≠0;decide
    rw[if_neg c2];by_cases c3:4<d
    ·rw[if_pos c3];show (19:Int)≠0;decide
    rw[if_neg c3];by_cases c4:n=300
    ·rw[if_pos c4];show (9:Int)≠0;decide
    rw[if_neg c4];rcases hs.cons with ⟨_,hz,_⟩|⟨ht,hr,hn⟩
    ·exact absurd hz.1 (by omega)
    rw[hn];have hi:=ihI d t.t t.ln t.co [] r (n+1) hr (by omega) (by omega) (by decide) (fun w hw=>by cases hw);split
    ·rename_i x l2 n2 hx;rw[hx] at hi;obtain ⟨T1,e1,s1,k1,n1,d1,w1⟩:=hi;have hl:=ihL d e (out++[x]) l2 n2 s1 (by rw[e1,fT] at hf;omega) he;generalize pL f d e (out++[x]) l2 n2=R at*;cases R with
     |no=>exact hl
     |th c t l n=>exact hl
     |ok o l' n'=>
      obtain ⟨its,T2,t2,r2,e2,e3,k2,nx,s2,tk,n2',dd,ww⟩:=hl;refine ⟨x::its,t::(T1++T2),t2,r2,by rw[e2,xv];rfl,by rw[e1,e3];simp,k2,nx,s2,?_,?_,.inr ?_,w1,ww⟩
      ·have eu:wz t=⟨1,t.t,0,t.ln,t.co⟩:=by
        rw[Dc (by omega)];obtain ⟨k,s,m,a,b⟩:=t;have h1:k=1:=by simpa using c2
        have h2:=ht.nm h1;dsimp only at h2 ⊢;rw[h1,h2]
       rw[fZ,List.map_append,tk,eu,qa,<-k1];simp
      ·rw[bJ];omega
      ·rw[f8];rcases dd with rfl|dd
       ·rw[f8];omega
       ·omega
    ·rename_i c2' t2 l2 n2 hx;rw[hx] at hi;exact hi
    ·rename_i hx;rw[hx] at hi;exact hi
  ·cases l with
   |nil=>exact absurd rfl hs.ne
   |cons t r=>
    rw[pI];rw[e7] at hf;rcases hs.cons with ⟨rfl,hz,hn⟩|⟨ht,hr,hn⟩
    ·rw[if_neg (by rw[hz.1];decide),if_neg (by rw[hz.1];decide),if_pos (by rw[hz.1];decide)];show (6:Int)≠0;decide
    rw[hn];by_cases c1:t.k=9
    ·rw[if_pos c1];refine ⟨[t],rfl,hr,?_,by rw[jh,bJ],by rw[pp,f8];omega,hw,hk,fun _=>rfl,trivial⟩;rw[fZ,l6,wA ht (by omega),c1,uX,if_pos rfl]
    rw[if_neg c1];by_cases c2:t.k=7
    ·rw[if_pos c2];have hl:=ihL (d+1) 8 [] r n hr (by omega) (.inr rfl);split
     ·rename_i ks l2 n2 hx;rw[hx] at hl;obtain ⟨its,T2,t2,r2,e2,e3,k2,nx,s2,tk,n2',dd,ww⟩:=hl;rw[cL] at e2;subst e2;rcases s2.cons with ⟨_,hz,_⟩|⟨ht2,hr2,hn2⟩
      ·exact absurd hz.1 (by omega)
      rw[hn2] at nx;subst nx;refine ⟨t::(T2++[t2]),by rw[e3];simp,hr2,?_,?_,?_,hw,hk,(fun h=>by cases h),ww⟩
      ·rw[fZ,List.map_append,fZ,l6,wA ht (by omega),wA ht2 (by omega),tk,c2,k2,uX,if_neg (by decide)]
      ·rw[jh];omega
      ·rw[pp];rcases dd with rfl|dd
       ·rw[f8];omega
       ·omega
     ·rename_i c2' t2 l2 n2 hx;rw[hx] at hl;exact hl
     ·rename_i hx;rw[hx] at hl;exact hl
    rw[if_neg c2];by_cases c3:t.k<1\/6<t.k
    ·rw[if_pos c3];show (6:Int)≠0;decide
    rw[if_neg c3];by_cases c4:ws.length=6
    ·rw[if_pos c4];show (9:Int)≠0;decide
    rw[if_neg c4];have hi:=ihI d nm ln co (ws++[t]) r n hr (by omega) hd (by rw[fT,Cp];omega) (fun w hw=>by
     rw[jD,FI] at hw;rcases hw with hw|rfl
     ·exact hk w hw
     ·omega)
    generalize pI f d nm ln co (ws++[t]) r n=R at*;cases R with
    |no=>exact hi
    |th c t l n=>exact hi
    |ok y l' n'=>
     obtain ⟨T,e1,s1,k1,rest⟩:=hi;refine ⟨t::T,by rw[e1];rfl,s1,?_,rest⟩;rw[<-k1,fZ,Dc (by omega)];simp
theorem zk {s:List UInt8} (h:(dZ s).c=0):Jr (dZ s).l:=⟨Hd h⟩
theorem Hf (s:List UInt8) (h:(dZ s).c=0):pL (2*(dZ s).l.length+3) 1 0 [] (dZ s).l 0≠ .no:=by
 have:=(He (2*(dZ s).l.length+3)).1 1 0 [] _ 0 (zk h) (by omega) (.inl rfl)
 intro e;rw[e] at this;exact this
theorem zl (s:List UInt8):Sp Tryz.prog gl 15 [.str s] (lS (fV s)):=Er s (Hf s)
structure wB (s:List UInt8) (its:List It):Prop where
 c:(dZ s).c=0
 h: ∃T z,(dZ s).l=T++[z]/\sd z/\T.map wz=qa its/\(∀t∈T,zj t)
 wf:NB its
 dep:its=[]\/f8 its<=4
 cnt:bJ its<=300
 p: ∃T z n,pL (2*(dZ s).l.length+3) 1 0 [] (dZ s).l 0= .ok its T z/\n=z
theorem Es (s:List UInt8):(fV s).2.1≠0/\(fV s).1=[]\/(fV s).2=(0,0,0)/\wB s (fV s).1:=by
 unfold fV;by_cases h:(dZ s).c=0
 ·rw[if_neg (by simpa using h)];have hs:=zk h;have hf:=(He (2*(dZ s).l.length+3)).1 1 0 [] _ 0 hs (by omega) (.inl rfl);have hc:=(Iu (2*(dZ s).l.length+3)).1 1 0 [] (dZ s).l 0;cases hp:pL (2*(dZ s).l.length+3) 1 0 [] (dZ s).l 0 with
  |no=>rw[hp] at hf;exact hf.elim
  |th c t l n=>
   rw[hp] at hf;exact .inl ⟨hf,rfl⟩
  |ok o l' n'=>
   rw[hp] at hf;dsimp only;obtain ⟨its,T,t,r,e1,e2,k,nx,s2,tk,n1,dd,ww⟩:=hf;rw[cL] at e1;subst e1;have hc:=hc _ _ _ hp (by decide) (eR _);rcases s2.cons with ⟨rfl,hz,_⟩|⟨ht,_,_⟩
   ·refine .inr ⟨rfl,h,⟨T,t,e2,hz,tk,?_⟩,ww,?_,by omega,⟨l',n',n',hp,rfl⟩⟩
    ·obtain ⟨o2,z2,e3,h3,_⟩:=hs.h;rw[e2] at e3
     have:=List.append_inj_left' e3 rfl
     rw[this];exact h3
    ·rcases dd with h|h
     ·exact .inl h
     ·exact .inr (by omega)
   ·have:=ht.k;omega
 ·rw[if_pos h];exact .inl ⟨h,rfl⟩
structure P6 (A l:List Int) (m:Nat):Prop where
 h: ∀q,q<A.length->l[m+q]?=A[q]?
 n:l[m+A.length]?=some 10\/l[m+A.length]?=none
theorem P6.at {A l:List Int} {m:Nat} (h:P6 A l m) {i:Nat} (hi:i<A.length): ∃g:m+i<l.length,l[m+i]=A[i]:=by
 have:=h.h i hi
 rw[uk hi] at this;exact qZ.1 this
theorem P6.fin {A l:List Int} {m:Nat} (h:P6 A l m):(∃g:m+A.length<l.length,l[m+A.length]=10)\/ ¬m+A.length<l.length:=h.n.imp (fun h=>qZ.1 h) (fun h=>by have:=List.getElem?_eq_none_iff.1 h;omega)
def LP (l:List Int) (P:List (Int×Int)) (j e:Nat) (out out':List Tk):Prop:= ∀f,l.length - j<f-> ∃f',l.length - e<f'/\eT rV sU l P f j out=eT rV sU l P f' e out'
theorem LP.refl (l:List Int) (P:List (Int×Int)) (j:Nat) (out:List Tk):LP l P j j out out:=fun f h=>⟨f,h,rfl⟩
theorem LP.trans {l:List Int} {P:List (Int×Int)} {j e g:Nat} {o1 o2 o3:List Tk} (h1:LP l P j e o1 o2) (h2:LP l P e g o2 o3):LP l P j g o1 o3:=fun f h=>by
 obtain ⟨f1,a1,b1⟩:=h1 f h;obtain ⟨f2,a2,b2⟩:=h2 f1 a1;exact ⟨f2,a2,b1.trans b2⟩
theorem LP.one {l:List Int} {P:List (Int×Int)} {j e:Nat} {o1 o2:List Tk} (hj:j<l.length) (he:j<e) (h: ∀f,eT rV sU l P (f+1) j o1=eT rV sU l P f e o2):LP l P j e o1 o2:=fun f hf=>by
 cases f with
 |zero=>omega
 |succ f=>exact ⟨f,by omega,h f⟩
end Go.Ai
