/- P10: a part of the proof. Conditions: as each theorem says. -/
import Derived.Test.YtggemlhclppciaaGreatDoorP9
set_option maxHeartbeats 4000000
set_option linter.unusedSimpArgs false
set_option linter.unusedVariables false
set_option maxRecDepth 20000
namespace Go.Ai
open Go.Proofs Go.Shelf
structure Rd where
 out:List Int
 st:Int
 n:Nat
 c:Nat
def bQ (b:Id):List Int→List AV
 |[]=>[.nilT b 260 5,.nils]
 |r::l=>[.ptr b 0,.sl (ag (au (r::l)))]
def bE (b:Id):List Int→List (Pl×Nat)
 |[]=>[]
 |r::l=>[(.b b 1,bk 5)]
def fL (b:Id) (x:Rd):List AV:=bQ b x.out++[i6 x.st,i3 x.n,i6 x.c]
def lq (x:Rd) (r:Int):Rd×Bool:=
 if r=34∨r=92 then ({x with st:=0,out:=x.out++[r]},true)
 else if r=110 then ({x with st:=0,out:=x.out++[10]},true)
 else if r=116 then ({x with st:=0,out:=x.out++[9]},true)
 else if r=117 then ({x with st:=2},true)
 else ({x with st:=0},false)
def fv (x:Rd) (r:Int):Rd×Bool:=
 if 0≤nv r∧x.c<6 then ({x with n:=16*x.n+(nv r).toNat,c:=x.c+1},true)
 else if r≠125∨x.c=0∨jp x.n=false then (x,false)
 else ({x with out:=x.out++[(x.n:Int)],st:=0},true)
theorem mZ:hZ Tryz.prog 69 260 5:=by unfold hZ;kernel_rfl
theorem jH (b:Id) (l:List Int) (r:Nat):bQ b (l++[(r:Int)])=[.ptr b 0,.sl (ag (au l++cX r))]:=by
 have e:au (l++[(r:Int)])=au l++cX r:=by
  rw [di]
  have:jn (r:Int)=cX r:=by unfold jn;rw [if_neg (by omega),Int.toNat_natCast]
  rw [au,au,nA,this]
 rw [←e];cases l<;>rfl
theorem jI (b:Id) (l:List Int) (r:Int):bE b (l++[r])=[(.b b 1,bk 5)]:=by cases l<;>rfl
theorem zu (x:Rd) (hl:x.out.length≤1000000) (r:Int) (d:Nat) (b:Id) (hb:b.isIt=false) (hbd:b.isNw d=false):
  cB Tryz.prog gl 241 d ⟨[.ptr b 0,i3 r],[(b,fL b x)],bE b x.out⟩ ⟨.bool (lq x r).2,[(b,fL b (lq x r).1)],bE b (lq x r).1.out⟩:=by
 refine Sw rfl ?_;have hib:=aV hbd;have ne: ∀z:Int,¬r=z→(r==z)=false:=fun z h=>cI.2 h
 have tl:=jP x.out;have W:=fun (q:Nat) (hq:ee (q:Int)) (hq2:q≤1114111) (c0:AV) (hc0:c0= .nilT (.up b) 260 5∨c0= .ptr (.up b) 0) e he=>oT (d:=e) (b:= .up b) hb he mZ hc0 [i6 0,i3 x.n,i6 x.c] (au x.out) q hq hq2 (by omega)
 unfold lq;by_cases c1:r=34∨r=92
 ·rw [if_pos c1];dsimp only;obtain ⟨q,rfl⟩: ∃q:Nat,r=q:=⟨r.toNat,by omega⟩;have hq:ee (q:Int):=by unfold ee;omega
  have W:=W q hq (by omega);unfold fL;rw [jH,jI];have c1':((q:Int)==34)=true∨(((q:Int)==34)=false∧((q:Int)==92)=true):=by
   by_cases h:(q:Int)=34
   ·left;rw [h];rfl
   ·right;exact ⟨cI.2 h,by rw [bP];omega⟩
  cases hx:x.out with
  |nil=>
   rw [hx] at W;have W:=W _ (.inl rfl);rw [show au []=[] from rfl,bR] at W ⊢;rw [show ag []=[] from rfl] at W;generalize ag (cX q)=B at *
   simp only [bQ,bE];simp only [aF,bV,bp,AV.mp,b7,Pl.mp,bH,bR];rcases c1' with c1'|⟨c1',c2'⟩
   ·simp [oW,c1'];refine aQ _ _ (W _ rfl) ⟨?_,?_,?_,?_,?_,?_,?_⟩ ?_;iterate 7 (· simp [hb])
    simp;apply am<;>simp [hib,hb]
   ·simp [oW,c1',c2'];refine aQ _ _ (W _ rfl) ⟨?_,?_,?_,?_,?_,?_,?_⟩ ?_;iterate 7 (· simp [hb])
    simp;apply am<;>simp [hib,hb]
  |cons a l=>
   rw [hx] at W;have W:=W _ (.inr rfl);generalize ag (au (a::l)++cX q)=B at *
   simp only [bQ,bE];generalize ag (au (a::l))=B0 at *
   simp only [aF,bV,bp,AV.mp,b7,Pl.mp,bH,bR];rcases c1' with c1'|⟨c1',c2'⟩
   ·simp [oW,c1'];refine aQ _ _ (W _ rfl) ⟨?_,?_,?_,?_,?_,?_,?_⟩ ?_;iterate 7 (· simp [hb])
    simp;apply am<;>simp [hib,hb]
   ·simp [oW,c1',c2'];refine aQ _ _ (W _ rfl) ⟨?_,?_,?_,?_,?_,?_,?_⟩ ?_;iterate 7 (· simp [hb])
    simp;apply am<;>simp [hib,hb]
 rw [if_neg c1];have n1:=ne 34 (fun h=>c1 (.inl h));have n2:=ne 92 (fun h=>c1 (.inr h));by_cases c3:r=110
 ·rw [if_pos c3];subst c3;dsimp only;have W:=W 10 (by unfold ee;omega) (by omega);unfold fL;rw [show (10:Int)=((10:Nat):Int) from rfl,jH,jI];cases hx:x.out with
  |nil=>
   rw [hx] at W;have W:=W _ (.inl rfl);rw [show au []=[] from rfl,bR] at W ⊢;rw [show ag []=[] from rfl] at W;generalize ag (cX 10)=B at *
   simp only [bQ,bE];simp only [aF,bV,bp,AV.mp,b7,Pl.mp,bH,bR];simp [oW];refine aQ _ _ (W _ rfl) ⟨?_,?_,?_,?_,?_,?_,?_⟩ ?_;iterate 7 (· simp [hb])
   simp;apply am<;>simp [hib,hb]
  |cons a l=>
   rw [hx] at W;have W:=W _ (.inr rfl);generalize ag (au (a::l)++cX 10)=B at *
   simp only [bQ,bE];generalize ag (au (a::l))=B0 at *
   simp only [aF,bV,bp,AV.mp,b7,Pl.mp,bH,bR];simp [oW];refine aQ _ _ (W _ rfl) ⟨?_,?_,?_,?_,?_,?_,?_⟩ ?_;iterate 7 (· simp [hb])
   simp;apply am<;>simp [hib,hb]
 rw [if_neg c3];have n3:=ne 110 c3;by_cases c4:r=116
 ·rw [if_pos c4];subst c4;dsimp only;have W:=W 9 (by unfold ee;omega) (by omega);unfold fL;rw [show (9:Int)=((9:Nat):Int) from rfl,jH,jI];cases hx:x.out with
  |nil=>
   rw [hx] at W;have W:=W _ (.inl rfl);rw [show au []=[] from rfl,bR] at W ⊢;rw [show ag []=[] from rfl] at W;generalize ag (cX 9)=B at *
   simp only [bQ,bE];simp only [aF,bV,bp,AV.mp,b7,Pl.mp,bH,bR];simp [oW];refine aQ _ _ (W _ rfl) ⟨?_,?_,?_,?_,?_,?_,?_⟩ ?_;iterate 7 (· simp [hb])
   simp;apply am<;>simp [hib,hb]
  |cons a l=>
   rw [hx] at W;have W:=W _ (.inr rfl);generalize ag (au (a::l)++cX 9)=B at *
   simp only [bQ,bE];generalize ag (au (a::l))=B0 at *
   simp only [aF,bV,bp,AV.mp,b7,Pl.mp,bH,bR];simp [oW];refine aQ _ _ (W _ rfl) ⟨?_,?_,?_,?_,?_,?_,?_⟩ ?_;iterate 7 (· simp [hb])
   simp;apply am<;>simp [hib,hb]
 rw [if_neg c4];have n4:=ne 116 c4;clear W;by_cases c5:r=117
 ·rw [if_pos c5];subst c5;dsimp only;unfold fL;cases hx:x.out with
  |nil=>
   simp only [bQ,bE];simp only [aF,bV,bp,AV.mp,b7,Pl.mp,bH,bR];simp [oW];apply am<;>simp [hib,hb]
  |cons a l=>
   simp only [bQ,bE];generalize ag (au (a::l))=B0 at *
   simp only [aF,bV,bp,AV.mp,b7,Pl.mp,bH,bR];simp [oW];apply am<;>simp [hib,hb]
 rw [if_neg c5];have n5:=ne 117 c5;dsimp only;unfold fL;cases hx:x.out with
 |nil=>
  simp only [bQ,bE];simp only [aF,bV,bp,AV.mp,b7,Pl.mp,bH,bR];simp [oW,n1,n2,n3,n4,n5];apply am<;>simp [hib,hb]
 |cons a l=>
  simp only [bQ,bE];generalize ag (au (a::l))=B0 at *
  simp only [aF,bV,bp,AV.mp,b7,Pl.mp,bH,bR];simp [oW,n1,n2,n3,n4,n5];apply am<;>simp [hib,hb]
theorem DU (r:Int):nv r<16:=by
 unfold nv cT;split
 ·rename_i h
  have:=AO h
  omega
 ·split<;>omega
theorem M4 (x h:Nat) (hx:x<16777216) (hh:h<16):bits BinOp.or IntKind.i32 ((x*16:Nat):Int) (h:Int)=((16*x+h:Nat):Int):=by
 have hx2:x*16|||h=16*x+h:=by
  rw [show x*16=2^4*x by omega,←Nat.two_pow_add_eq_or_of_lt (by omega)]
 have h1:(BitVec.ofInt 32 ((x*16:Nat):Int)).toNat=x*16:=by
  rw [BitVec.ofInt_natCast,BitVec.toNat_ofNat];exact nE (by omega)
 have h2:(BitVec.ofInt 32 (h:Int)).toNat=h:=by
  rw [BitVec.ofInt_natCast,BitVec.toNat_ofNat];exact nE (by omega)
 show IntKind.i32.wrap ((BitVec.ofInt 32 ((x*16:Nat):Int)|||BitVec.ofInt 32 (h:Int)).toNat:Int)=_;rw [BitVec.toNat_or,h1,h2,hx2,aR]<;>omega
theorem Kq (x:Nat) (hx:x<16777216):IntKind.i32.wrap ((x:Int)*2^(min 4 IntKind.i32.bits))=((x*16:Nat):Int):=by
 have e:(2:Int)^(min 4 IntKind.i32.bits)=16:=by decide
 rw [e,aR]<;>omega
theorem uy (x:Rd) (hl:x.out.length≤1000000) (hc:x.c≤6) (hn:x.n<16^x.c) (r:Int) (d:Nat) (b:Id) (hb:b.isIt=false) (hbd:b.isNw d=false):
  cB Tryz.prog gl 242 d ⟨[.ptr b 0,i3 r],[(b,fL b x)],bE b x.out⟩ ⟨.bool (fv x r).2,[(b,fL b (fv x r).1)],bE b (fv x r).1.out⟩:=by
 refine Sy rfl ?_;have hib:=aV hbd;have tl:=jP x.out;have HX:=Gf r;have hlt:=DU r;have nlt:x.n<16777216:=vX hn (qT (Nat.pow_le_pow_right (by omega) hc) (by decide));have VS:=Df (x.n:Int);unfold fv;by_cases c1:0≤nv r∧x.c<6
 ·rw [if_pos c1];dsimp only;obtain ⟨h,hh⟩: ∃h:Nat,nv r=h:=⟨(nv r).toNat,by omega⟩;rw [hh] at HX hlt c1 ⊢;rw [Int.toNat_natCast];have k1:=Kq x.n nlt;have k2:=M4 x.n h nlt (by omega);have k3:IntKind.i64.wrap ((x.c:Int)+1)=(x.c+1:Nat):=by rw [aj]<;>omega
  have k4:(x.c:Int)<6:=by omega
  have k5:=c1.2;have k6:=c1.1;have kk:((16*x.n+h:Nat):Int)=16*(x.n:Int)+h:=by omega
  rw [kk] at k2;generalize ((x.n*16:Nat):Int)=SV at *
  unfold fL;clear VS;cases hx:x.out with
  |nil=>
   simp only [bQ,bE];simp only [aF,bV,bp,AV.mp,b7,Pl.mp,bH,bR];simp [oX];apply ab HX;simp [k1,k2,k3,k4,k5,k6];apply am<;>simp [hib,hb]
  |cons a l=>
   simp only [bQ,bE];generalize ag (au (a::l))=B0 at *
   simp only [aF,bV,bp,AV.mp,b7,Pl.mp,bH,bR];simp [oX];apply ab HX;simp [k1,k2,k3,k4,k5,k6];apply am<;>simp [hib,hb]
 rw [if_neg c1];by_cases c2:r=125
 ·subst c2;have e:nv 125= -1:=by decide
  rw [e] at HX;by_cases c3:x.c=0
  ·rw [if_pos (.inr (.inl c3))];dsimp only;unfold fL;clear VS;cases hx:x.out with
   |nil=>
    simp only [bQ,bE];simp only [aF,bV,bp,AV.mp,b7,Pl.mp,bH,bR];simp [oX];apply ab HX;simp [c3];apply am<;>simp [hib,hb,c3]
   |cons a l=>
    simp only [bQ,bE];generalize ag (au (a::l))=B0 at *
    simp only [aF,bV,bp,AV.mp,b7,Pl.mp,bH,bR];simp [oX];apply ab HX;simp [c3];apply am<;>simp [hib,hb,c3]
  ·have c3':((x.c:Int)==0)=false:=cI.2 (by omega);cases hv:jp (x.n:Int)
   ·rw [hv] at VS;rw [if_pos (.inr (.inr rfl))];dsimp only;unfold fL;cases hx:x.out with
    |nil=>
     simp only [bQ,bE];simp only [aF,bV,bp,AV.mp,b7,Pl.mp,bH,bR];simp [oX];apply ab HX;simp [c3,c3'];apply ab VS;simp;apply am<;>simp [hib,hb]
    |cons a l=>
     simp only [bQ,bE];generalize ag (au (a::l))=B0 at *
     simp only [aF,bV,bp,AV.mp,b7,Pl.mp,bH,bR];simp [oX];apply ab HX;simp [c3,c3'];apply ab VS;simp;apply am<;>simp [hib,hb]
   ·rw [hv] at VS;rw [if_neg (by rintro (h|h|h)<;>first|exact h rfl|exact c3 h|cases h)];dsimp only;have hq:=(ub _).1 hv;have W:=fun (s6:Int) (c0:AV) (hc0:c0= .nilT (.up b) 260 5∨c0= .ptr (.up b) 0) (e:Nat) (he:(Id.up b).isNw e=false)=>oT (d:=e) (b:= .up b) hb he mZ hc0 [i6 s6,i3 x.n,i6 x.c] (au x.out) x.n hq (by unfold ee at hq;omega) (by omega)
    unfold fL;rw [jH,jI];cases hx:x.out with
    |nil=>
     rw [hx] at W;have W:=fun s6=>W s6 _ (.inl rfl)
     rw [show au []=[] from rfl] at W ⊢;simp only [bR] at W ⊢;rw [show ag []=[] from rfl] at W;generalize ag (cX x.n)=B at *
     simp only [bQ,bE];simp only [aF,bV,bp,AV.mp,b7,Pl.mp,bH,bR];simp [oX];apply ab HX;simp [c3,c3'];apply ab VS;simp;refine aQ _ _ (W x.st _ rfl) ⟨?_,?_,?_,?_,?_,?_,?_⟩ ?_;iterate 7 (· simp [hb])
     simp;apply am<;>simp [hib,hb]
    |cons a l=>
     rw [hx] at W;have W:=fun s6=>W s6 _ (.inr rfl)
     generalize ag (au (a::l)++cX x.n)=B at *
     simp only [bQ,bE];generalize ag (au (a::l))=B0 at *
     simp only [aF,bV,bp,AV.mp,b7,Pl.mp,bH,bR];simp [oX];apply ab HX;simp [c3,c3'];apply ab VS;simp;refine aQ _ _ (W x.st _ rfl) ⟨?_,?_,?_,?_,?_,?_,?_⟩ ?_;iterate 7 (· simp [hb])
     simp;apply am<;>simp [hib,hb]
 ·rw [if_pos (.inl c2)];dsimp only;have c2':(r !=125)=true:=bne_iff_ne.2 c2;have c2'':(r==125)=false:=cI.2 c2;unfold fL;clear VS;by_cases c3:0≤nv r
  ·have c4: ¬x.c<6:=fun h=>c1 ⟨c3,h⟩
   have c4': ¬(x.c:Int)<6:=by omega
   cases hx:x.out with
   |nil=>
    simp only [bQ,bE];simp only [aF,bV,bp,AV.mp,b7,Pl.mp,bH,bR];simp [oX];apply ab HX;simp [c3,c4,c4',c2',c2''];apply am<;>simp [hib,hb]
   |cons a l=>
    simp only [bQ,bE];generalize ag (au (a::l))=B0 at *
    simp only [aF,bV,bp,AV.mp,b7,Pl.mp,bH,bR];simp [oX];apply ab HX;simp [c3,c4,c4',c2',c2''];apply am<;>simp [hib,hb]
  ·cases hx:x.out with
   |nil=>
    simp only [bQ,bE];simp only [aF,bV,bp,AV.mp,b7,Pl.mp,bH,bR];simp [oX];apply ab HX;simp [c3,c2',c2''];apply am<;>simp [hib,hb]
   |cons a l=>
    simp only [bQ,bE];generalize ag (au (a::l))=B0 at *
    simp only [aF,bV,bp,AV.mp,b7,Pl.mp,bH,bR];simp [oX];apply ab HX;simp [c3,c2',c2''];apply am<;>simp [hib,hb]
def fj (x:Rd) (r:Int):Rd×Bool:=
 if x.st=1 then lq x r
 else if x.st=2 then ({x with st:=3,n:=0,c:=0},decide (r=123))
 else if x.st=3 then fv x r
 else if x.st=4 then (x,false)
 else if r=34 then ({x with st:=4},true)
 else if r=92 then ({x with st:=1},true)
 else if r<32∨r=127 then (x,false)
 else ({x with out:=x.out++[r]},true)
theorem zw (x:Rd) (hl:x.out.length≤1000000) (hc:x.c≤6) (hn:x.n<16^x.c) (r:Int) (hr:ee r) (d:Nat) (b:Id) (hb:b.isIt=false) (hbd:b.isNw d=false):
  cB Tryz.prog gl 221 d ⟨[.ptr b 0,i3 r],[(b,fL b x)],bE b x.out⟩ ⟨.bool (fj x r).2,[(b,fL b (fj x r).1)],bE b (fj x r).1.out⟩:=by
 refine Sr rfl ?_;have hib:=aV hbd;have tl:=jP x.out;have ne: ∀z:Int,¬r=z→(r==z)=false:=fun z h=>cI.2 h
 have A:=fun e=>zu x hl r e (.up b) hb
 have I:=fun e=>uy x hl hc hn r e (.up b) hb
 unfold fj;by_cases c1:x.st=1
 ·rw [if_pos c1];clear I;generalize (lq x r).2=ok at *
  generalize (lq x r).1=y at *
  unfold fL at *
  cases hx:x.out with
  |nil=>
   rw [hx] at A;cases hy:y.out with
   |nil=>
    rw [hy] at A;simp only [bQ,bE,bH,bR] at A ⊢;simp only [aF,bV,bp,AV.mp,b7,Pl.mp,bH,bR];simp [iz,c1];refine aQ _ _ (A _ rfl) ⟨?_,?_,?_,?_,?_,?_,?_⟩ ?_;iterate 7 (· simp [hb,c1])
    simp;apply am<;>simp [hib,hb]
   |cons a2 l2=>
    rw [hy] at A;simp only [bQ,bE,bH,bR] at A ⊢;generalize ag (au (a2::l2))=B1 at *
    simp only [aF,bV,bp,AV.mp,b7,Pl.mp,bH,bR];simp [iz,c1];refine aQ _ _ (A _ rfl) ⟨?_,?_,?_,?_,?_,?_,?_⟩ ?_;iterate 7 (· simp [hb,c1])
    simp;apply am<;>simp [hib,hb]
  |cons a l=>
   rw [hx] at A;cases hy:y.out with
   |nil=>
    rw [hy] at A;simp only [bQ,bE,bH,bR] at A ⊢;generalize ag (au (a::l))=B0 at *
    simp only [aF,bV,bp,AV.mp,b7,Pl.mp,bH,bR];simp [iz,c1];refine aQ _ _ (A _ rfl) ⟨?_,?_,?_,?_,?_,?_,?_⟩ ?_;iterate 7 (· simp [hb,c1])
    simp;apply am<;>simp [hib,hb]
   |cons a2 l2=>
    rw [hy] at A;simp only [bQ,bE,bH,bR] at A ⊢;generalize ag (au (a2::l2))=B1 at *
    generalize ag (au (a::l))=B0 at *
    simp only [aF,bV,bp,AV.mp,b7,Pl.mp,bH,bR];simp [iz,c1];refine aQ _ _ (A _ rfl) ⟨?_,?_,?_,?_,?_,?_,?_⟩ ?_;iterate 7 (· simp [hb,c1])
    simp;apply am<;>simp [hib,hb]
 rw [if_neg c1];have n1:(x.st==1)=false:=cI.2 c1;clear A;by_cases c2:x.st=2
 ·rw [if_pos c2];clear I;dsimp only;have e:(r==123)=decide (r=123):=by by_cases h:r=123<;>simp [h]
  rw [←e];unfold fL;cases hx:x.out with
  |nil=>
   simp only [bQ,bE,bH,bR];simp only [aF,bV,bp,AV.mp,b7,Pl.mp,bH,bR];simp [iz,c2];apply am<;>simp [hib,hb]
  |cons a l=>
   simp only [bQ,bE,bH,bR];generalize ag (au (a::l))=B0 at *
   simp only [aF,bV,bp,AV.mp,b7,Pl.mp,bH,bR];simp [iz,c2];apply am<;>simp [hib,hb]
 rw [if_neg c2];have n2:(x.st==2)=false:=cI.2 c2;by_cases c3:x.st=3
 ·rw [if_pos c3];generalize (fv x r).2=ok at *
  generalize (fv x r).1=y at *
  unfold fL at *
  cases hx:x.out with
  |nil=>
   rw [hx] at I;cases hy:y.out with
   |nil=>
    rw [hy] at I;simp only [bQ,bE,bH,bR] at I ⊢;simp only [aF,bV,bp,AV.mp,b7,Pl.mp,bH,bR];simp [iz,c3];refine aQ _ _ (I _ rfl) ⟨?_,?_,?_,?_,?_,?_,?_⟩ ?_;iterate 7 (· simp [hb,c3])
    simp;apply am<;>simp [hib,hb]
   |cons a2 l2=>
    rw [hy] at I;simp only [bQ,bE,bH,bR] at I ⊢;generalize ag (au (a2::l2))=B1 at *
    simp only [aF,bV,bp,AV.mp,b7,Pl.mp,bH,bR];simp [iz,c3];refine aQ _ _ (I _ rfl) ⟨?_,?_,?_,?_,?_,?_,?_⟩ ?_;iterate 7 (· simp [hb,c3])
    simp;apply am<;>simp [hib,hb]
  |cons a l=>
   rw [hx] at I;cases hy:y.out with
   |nil=>
    rw [hy] at I;simp only [bQ,bE,bH,bR] at I ⊢;generalize ag (au (a::l))=B0 at *
    simp only [aF,bV,bp,AV.mp,b7,Pl.mp,bH,bR];simp [iz,c3];refine aQ _ _ (I _ rfl) ⟨?_,?_,?_,?_,?_,?_,?_⟩ ?_;iterate 7 (· simp [hb,c3])
    simp;apply am<;>simp [hib,hb]
   |cons a2 l2=>
    rw [hy] at I;simp only [bQ,bE,bH,bR] at I ⊢;generalize ag (au (a2::l2))=B1 at *
    generalize ag (au (a::l))=B0 at *
    simp only [aF,bV,bp,AV.mp,b7,Pl.mp,bH,bR];simp [iz,c3];refine aQ _ _ (I _ rfl) ⟨?_,?_,?_,?_,?_,?_,?_⟩ ?_;iterate 7 (· simp [hb,c3])
    simp;apply am<;>simp [hib,hb]
 rw [if_neg c3];have n3:(x.st==3)=false:=cI.2 c3;clear I;by_cases c4:x.st=4
 ·rw [if_pos c4];dsimp only;unfold fL;cases hx:x.out with
  |nil=>
   simp only [bQ,bE,bH,bR];simp only [aF,bV,bp,AV.mp,b7,Pl.mp,bH,bR];simp [iz,c4];apply am<;>simp [hib,hb,c4]
  |cons a l=>
   simp only [bQ,bE,bH,bR];generalize ag (au (a::l))=B0 at *
   simp only [aF,bV,bp,AV.mp,b7,Pl.mp,bH,bR];simp [iz,c4];apply am<;>simp [hib,hb,c4]
 rw [if_neg c4];have n4:(x.st==4)=false:=cI.2 c4;by_cases d1:r=34
 ·rw [if_pos d1];subst d1;dsimp only;unfold fL;cases hx:x.out with
  |nil=>
   simp only [bQ,bE,bH,bR];simp only [aF,bV,bp,AV.mp,b7,Pl.mp,bH,bR];simp [iz,n1,n2,n3,n4];apply am<;>simp [hib,hb]
  |cons a l=>
   simp only [bQ,bE,bH,bR];generalize ag (au (a::l))=B0 at *
   simp only [aF,bV,bp,AV.mp,b7,Pl.mp,bH,bR];simp [iz,n1,n2,n3,n4];apply am<;>simp [hib,hb]
 rw [if_neg d1];have m1:=ne 34 d1;by_cases d2:r=92
 ·rw [if_pos d2];subst d2;dsimp only;unfold fL;cases hx:x.out with
  |nil=>
   simp only [bQ,bE,bH,bR];simp only [aF,bV,bp,AV.mp,b7,Pl.mp,bH,bR];simp [iz,n1,n2,n3,n4];apply am<;>simp [hib,hb]
  |cons a l=>
   simp only [bQ,bE,bH,bR];generalize ag (au (a::l))=B0 at *
   simp only [aF,bV,bp,AV.mp,b7,Pl.mp,bH,bR];simp [iz,n1,n2,n3,n4];apply am<;>simp [hib,hb]
 rw [if_neg d2];have m2:=ne 92 d2;by_cases d3:r<32∨r=127
 ·rw [if_pos d3];dsimp only;have d4:r<32∨(¬r<32∧(r==127)=true):=by
   by_cases h:r<32
   ·exact .inl h
   ·exact .inr ⟨h,by rw [bP];omega⟩
  unfold fL;cases hx:x.out with
  |nil=>
   simp only [bQ,bE,bH,bR];simp only [aF,bV,bp,AV.mp,b7,Pl.mp,bH,bR];rcases d4 with d4|⟨d4,d5⟩
   ·simp [iz,n1,n2,n3,n4,m1,m2,d4];apply am<;>simp [hib,hb]
   ·simp [iz,n1,n2,n3,n4,m1,m2,d4,d5];apply am<;>simp [hib,hb]
  |cons a l=>
   simp only [bQ,bE,bH,bR];generalize ag (au (a::l))=B0 at *
   simp only [aF,bV,bp,AV.mp,b7,Pl.mp,bH,bR];rcases d4 with d4|⟨d4,d5⟩
   ·simp [iz,n1,n2,n3,n4,m1,m2,d4];apply am<;>simp [hib,hb]
   ·simp [iz,n1,n2,n3,n4,m1,m2,d4,d5];apply am<;>simp [hib,hb]
 rw [if_neg d3];have d4: ¬r<32:=fun h=>d3 (.inl h)
 have d5:=ne 127 (fun h=>d3 (.inr h));obtain ⟨q,rfl⟩: ∃q:Nat,r=q:=⟨r.toNat,by omega⟩;have W:=fun (c0:AV) (hc0:c0= .nilT (.up b) 260 5∨c0= .ptr (.up b) 0) (e:Nat) (he:(Id.up b).isNw e=false)=>oT (d:=e) (b:= .up b) hb he mZ hc0 [i6 x.st,i3 x.n,i6 x.c] (au x.out) q hr (by unfold ee at hr;omega) (by omega)
 dsimp only;unfold fL;rw [jH,jI];cases hx:x.out with
 |nil=>
  rw [hx] at W;have W:=W _ (.inl rfl);rw [show au []=[] from rfl] at W ⊢;simp only [bR] at W ⊢;rw [show ag []=[] from rfl] at W;generalize ag (cX q)=B at *
  simp only [bQ,bE];simp only [aF,bV,bp,AV.mp,b7,Pl.mp,bH,bR];simp [iz,n1,n2,n3,n4,m1,m2,d4,d5];refine aQ _ _ (W _ rfl) ⟨?_,?_,?_,?_,?_,?_,?_⟩ ?_;iterate 7 (· simp [hb])
  simp;apply am<;>simp [hib,hb]
 |cons a l=>
  rw [hx] at W;have W:=W _ (.inr rfl);generalize ag (au (a::l)++cX q)=B at *
  simp only [bQ,bE];generalize ag (au (a::l))=B0 at *
  simp only [aF,bV,bp,AV.mp,b7,Pl.mp,bH,bR];simp [iz,n1,n2,n3,n4,m1,m2,d4,d5];refine aQ _ _ (W _ rfl) ⟨?_,?_,?_,?_,?_,?_,?_⟩ ?_;iterate 7 (· simp [hb])
  simp;apply am<;>simp [hib,hb]
def eD (x:Rd):List Int→Rd×Bool
 |[]=>(x,true)
 |r::l=>if (fj x r).2=true then eD (fj x r).1 l else ((fj x r).1,false)
def LZ:Rd:=⟨[],0,0,0⟩
def BW (l:List Int):List UInt8×Int:=
 if dJ l=false∨l.head?≠some 34 then ([],5)
 else if (eD LZ l.tail).2=false then ([],5)
 else if (eD LZ l.tail).1.st≠4 then ([],5)
 else if 120<(eD LZ l.tail).1.out.length then ([],9)
 else (au (eD LZ l.tail).1.out,0)
structure Fc (x:Rd) (i:Nat):Prop where
 o:x.out.length≤i
 c:x.c≤6
 n:x.n<16^x.c
 k: ∀r∈x.out,ug r
theorem sD {r:Int} (h:ee r):ug r:=by
 unfold ee at h;right;omega
theorem zx {l:List Int} {q:Int} (h: ∀r∈l,ug r) (hq:ug q): ∀r∈l++[q],ug r:=by
 intro r hr;rw [iB,oZ] at hr;rcases hr with hr|rfl
 ·exact h r hr
 ·exact hq
theorem Fc.step {x:Rd} {i:Nat} (h:Fc x i) {r:Int} (hr:ee r) (w:Nat) (hw:1≤w):Fc (fj x r).1 (i+w):=by
 obtain ⟨h1,h2,h3,h4⟩:=h;have same: ∀y:Rd,y.out=x.out→y.c=x.c→y.n=x.n→Fc y (i+w):=fun y a b c=>⟨by rw [a];omega,by rw [b];exact h2,by rw [c,b];exact h3,by rw [a];exact h4⟩
 have more: ∀(y:Rd) q,y.out=x.out++[q]→ug q→y.c=x.c→y.n=x.n→Fc y (i+w):=fun y q a hq b c=>⟨by rw [a,cG];simp;omega,by rw [b];exact h2,by rw [c,b];exact h3,by rw [a];exact zx h4 hq⟩
 unfold fj;by_cases c1:x.st=1
 ·rw [if_pos c1];unfold lq;by_cases d1:r=34∨r=92
  ·rw [if_pos d1];exact more _ r rfl (sD hr) rfl rfl
  rw [if_neg d1];by_cases d2:r=110
  ·rw [if_pos d2];exact more _ 10 rfl (by right;omega) rfl rfl
  rw [if_neg d2];by_cases d3:r=116
  ·rw [if_pos d3];exact more _ 9 rfl (by right;omega) rfl rfl
  rw [if_neg d3];by_cases d4:r=117
  ·rw [if_pos d4];exact same _ rfl rfl rfl
  ·rw [if_neg d4];exact same _ rfl rfl rfl
 rw [if_neg c1];by_cases c2:x.st=2
 ·rw [if_pos c2];exact ⟨by dsimp only;omega,Nat.zero_le _,by simp,h4⟩
 rw [if_neg c2];by_cases c3:x.st=3
 ·rw [if_pos c3];unfold fv;by_cases d1:0≤nv r∧x.c<6
  ·rw [if_pos d1];have hx:=DU r;refine ⟨by dsimp only;omega,by dsimp only;omega,?_,h4⟩;dsimp only;rw [EI];omega
  rw [if_neg d1];by_cases d2:r≠125∨x.c=0∨jp x.n=false
  ·rw [if_pos d2];exact same _ rfl rfl rfl
  ·rw [if_neg d2];refine more _ x.n rfl (sD ((ub _).1 ?_)) rfl rfl;cases hv:jp (x.n:Int)
   ·exact absurd (.inr (.inr hv)) d2
   ·rfl
 rw [if_neg c3];by_cases c4:x.st=4
 ·rw [if_pos c4];exact same _ rfl rfl rfl
 rw [if_neg c4];by_cases d1:r=34
 ·rw [if_pos d1];exact same _ rfl rfl rfl
 rw [if_neg d1];by_cases d2:r=92
 ·rw [if_pos d2];exact same _ rfl rfl rfl
 rw [if_neg d2];by_cases d3:r<32∨r=127
 ·rw [if_pos d3];exact same _ rfl rfl rfl
 ·rw [if_neg d3];exact more _ r rfl (sD hr) rfl rfl
theorem py (t:List UInt8):ai (34::t) 0=34::ai t 0:=by
 have h:=vO (r:=34) (by right;omega) t;have e:jn 34=[34]:=by decide
 rw [e] at h;have h2:=nj [34] t t.length 0 (by omega);rw [aW (by simp),show (34::t)=[34]++t from rfl,h];simp only [em,vZ,mM,rI] at h2 ⊢;rw [h2]
theorem uz (s:List UInt8) (h:(ak s 0).1=34):aX s 0=34:=by
 have ff: ∀n r0 least,128≤least→(bG s 0 n r0 least).1=34→False:=by
  intro n r0 least hl e;unfold bG at e;split at e
  ·rename_i c;rw [aE] at c
   have:=iv c.2
   dsimp only at e;omega
  ·dsimp only at e;omega
 unfold ak at h;simp only at h;split at h
 ·dsimp only at h;omega
 ·split at h
  ·exact (ff _ _ _ (by omega) h).elim
  ·split at h
   ·exact (ff _ _ _ (by omega) h).elim
   ·split at h
    ·exact (ff _ _ _ (by omega) h).elim
    ·dsimp only at h;omega
theorem wR (s:List UInt8):Lib.hasPrefix s [34]=decide ((ai s 0).head?=some 34):=by
 cases s with
 |nil=>rw [aH (by simp)];rfl
 |cons b t=>
  by_cases c:b=34
  ·subst c;rw [py];simp [Lib.hasPrefix]
  ·have h1:Lib.hasPrefix (b::t) [34]=false:=by
    unfold Lib.hasPrefix;show ((34:UInt8)==b&&([]:List UInt8).isPrefixOf t)=false;rw [cI.2 (fun h=>c h.symm),iR]
   rw [h1,aW (by simp)];symm;rw [decide_eq_false_iff_not];intro h;have h:(ak (b::t) 0).1=34:=by simpa using h
   have:=uz (b::t) h
   apply c;have hb:aX (b::t) 0=b.toNat:=rfl;rw [hb] at this;exact Og.1 (by rw [this];rfl)
theorem Hr {l:List Int} (h:dJ l=true): ∀r∈l,r≠ -1:=by
 intro r hr e;unfold dJ at h
 have:=AO (gE.1 h r hr)
 omega
theorem sE {d:Nat} {b:Id} (hit:b.isIt=false) (hnwb:b.isNw d=false) {c0:AV} (rest:List AV) (l:List UInt8) (h0:l≠[]):
  cB Tryz.prog gl 40 d ⟨[.ptr b 0],[(b,c0:: .sl (ag l)::rest)],[(.b b 1,bk 5)]⟩ ⟨.str l,[(b,c0:: .sl (ag l)::rest)],[]⟩:=
 rR (L:={ax with}) eC (by kernel_rfl) (by kernel_rfl) hit hnwb (rest:=rest) l h0
theorem vt {d:Nat} {b:Id} (hit:b.isIt=false) (hnwb:b.isNw d=false) {c0:AV} (rest:List AV):
  cB Tryz.prog gl 40 d ⟨[.ptr b 0],[(b,c0:: .nils::rest)],[]⟩ ⟨.str [],[(b,c0:: .nils::rest)],[]⟩:=
 uT (L:={ax with}) eC (by kernel_rfl) (by kernel_rfl) hit hnwb (rest:=rest)
theorem sF (r:Int) (l:List Int):au (r::l)≠[]:=by
 intro h
 have:=Ak r
 have e:(au (r::l)).length=0:=by rw [h];rfl
 rw [au,cG] at e;omega
theorem my (s:List UInt8) (hl:s.length≤200000):Sp Tryz.prog gl 196 [.str s] (.tup [.str (BW (ai s 0)).1,i6 (BW (ai s 0)).2]):=by
 refine Sf rfl rfl ?_;have CP:=E9 s [34];have GO:=ng s (by omega);rw [wR] at CP;unfold BW;by_cases c1:(ai s 0).head?=some 34
 ·rw [io c1] at CP;cases hg:dJ (ai s 0)
  ·rw [hg] at GO;rw [if_pos (.inl rfl)];generalize Lib.trimPrefix s [34]=t at *
   simp [JR];apply ab CP;simp;apply ab GO;simp
  ·rw [hg] at GO;rw [if_neg (by rintro (h|h);cases h;exact h c1)];obtain ⟨t,ht⟩: ∃t,s=34::t:=by
    have:=wR s
    rw [io c1] at this;cases s with
    |nil=>cases this
    |cons b t=>
     unfold Lib.hasPrefix at this;have h2:((34:UInt8)==b&&([]:List UInt8).isPrefixOf t)=true:=this;rw [aE,bP] at h2;exact ⟨t,by rw [h2.1]⟩
   have et:Lib.trimPrefix s [34]=t:=by
    unfold Lib.trimPrefix;rw [wR,io c1,if_pos rfl,ht];rfl
   have er:(ai s 0).tail=ai t 0:=by rw [ht,py];rfl
   have hok: ∀r∈ai t 0,ee r:=by
    intro r hr;have h1:=Hr hg r (by rw [ht,py];exact List.mem_cons_of_mem _ hr);have h2:=fE t t.length 0 (by omega) r hr;unfold ee;rcases h2 with h2|h2
    ·exact absurd h2 h1
    ·omega
   have htl:t.length≤200000:=by rw [ht] at hl;simp at hl;omega
   rw [et] at CP;rw [er];clear er et ht hg c1;obtain ⟨R,hR⟩: ∃R,R=eD LZ (ai t 0):=⟨_,rfl⟩;rw [←hR];simp [JR];apply ab CP;simp;apply ab GO;simp;refine aP (α:=Rd×Nat) (fun y=>⟨[(6,.ptr (.n 23) 0),(25,.itp 25)],[(.n 23,fL (.n 23) y.1),(.it 25,[.itr t y.2])],bE (.n 23) y.1.out⟩)
    (fun y=>Fc y.1 y.2∧y.2≤t.length∧eD y.1 (ai t y.2)=R∧ ∀r∈ai t y.2,ee r) (fun y=>t.length - y.2) ?_ (LZ,0) ?_ ?_
   ·rintro K ⟨x,i⟩ hK ⟨h1,h2,h3,h4⟩;simp only at h1 h2 h3 h4;by_cases g:i<t.length
    ·have sr:=oI t i g;have sp:=bI t i;have sw:=gQ t i g;rw [aW g] at h3 h4;have hv:=h4 (ak t i).1 (by simp);have e65:kz (ak t i).1=(ak t i).1:=by unfold kz;rw [if_neg];unfold ee at hv;omega
     rw [e65] at sr;have T:=fun (e:Nat) (he:(Id.n 23).isNw e=false)=>zw x (by have:=h1.o;omega) h1.c h1.n (ak t i).1 hv e (.n 23) rfl he
     have ok:=h1.step hv (ak t i).2 sp;have fin:eD (fj x (ak t i).1).1 (ai t (i+(ak t i).2))=R→ ∀σ',dL σ' ⟨[(6,.ptr (.n 23) 0),(25,.itp 25)],[(.n 23,fL (.n 23) (fj x (ak t i).1).1),(.it 25,[.itr t (i+(ak t i).2)])],bE (.n 23) (fj x (ak t i).1).1.out⟩→K σ':=
      fun hh σ' hσ=>hK ((fj x (ak t i).1).1,i+(ak t i).2) σ' ⟨ok,sw,hh,fun r hr=>h4 r (List.mem_cons_of_mem _ hr)⟩ (by simp only;omega) hσ
     rw [eD] at h3;clear hK hR ok h4 hv;generalize (ak t i).1=r at *
     generalize (ak t i).2=w at *
     generalize (fj x r).2=okk at *
     generalize (fj x r).1=y at *
     cases okk
     ·rw [if_neg (by decide)] at h3;subst h3;dsimp only;rw [if_pos rfl];clear fin;unfold fL at *
      cases hx:x.out with
      |nil=>
       rw [hx] at T;cases hy:y.out with
       |nil=>
        rw [hy] at T;simp only [bQ,bE,bH,bR] at T ⊢;simp [g,sr];refine aB _ _ (T _ rfl) ?_;simp
       |cons a2 l2=>
        rw [hy] at T;simp only [bQ,bE,bH,bR] at T ⊢;generalize ag (au (a2::l2))=B1 at *
        simp [g,sr];refine aB _ _ (T _ rfl) ?_;simp
      |cons a l=>
       rw [hx] at T;cases hy:y.out with
       |nil=>
        rw [hy] at T;simp only [bQ,bE,bH,bR] at T ⊢;generalize ag (au (a::l))=B0 at *
        simp [g,sr];refine aB _ _ (T _ rfl) ?_;simp
       |cons a2 l2=>
        rw [hy] at T;simp only [bQ,bE,bH,bR] at T ⊢;generalize ag (au (a2::l2))=B1 at *
        generalize ag (au (a::l))=B0 at *
        simp [g,sr];refine aB _ _ (T _ rfl) ?_;simp
     ·rw [if_pos rfl] at h3;have fin:=fin h3;clear h3;generalize (if R.2=false then _ else _:List UInt8×Int)=res;unfold fL at *
      cases hx:x.out with
      |nil=>
       rw [hx] at T;cases hy:y.out with
       |nil=>
        rw [hy] at T fin;simp only [bQ,bE,bH,bR] at T fin ⊢;simp [g,sr];refine aB _ _ (T _ rfl) ?_;simp;refine fin _ ?_;apply ae<;>simp
       |cons a2 l2=>
        rw [hy] at T fin;simp only [bQ,bE,bH,bR] at T fin ⊢;generalize ag (au (a2::l2))=B1 at *
        simp [g,sr];refine aB _ _ (T _ rfl) ?_;simp;refine fin _ ?_;apply ae<;>simp
      |cons a l=>
       rw [hx] at T;cases hy:y.out with
       |nil=>
        rw [hy] at T fin;simp only [bQ,bE,bH,bR] at T fin ⊢;generalize ag (au (a::l))=B0 at *
        simp [g,sr];refine aB _ _ (T _ rfl) ?_;simp;refine fin _ ?_;apply ae<;>simp
       |cons a2 l2=>
        rw [hy] at T fin;simp only [bQ,bE,bH,bR] at T fin ⊢;generalize ag (au (a2::l2))=B1 at *
        generalize ag (au (a::l))=B0 at *
        simp [g,sr];refine aB _ _ (T _ rfl) ?_;simp;refine fin _ ?_;apply ae<;>simp
    ·rw [aH g,eD] at h3;subst h3;dsimp only;rw [if_neg (by decide)];clear hK;have tl:=jP x.out;have ol:=h1.o;have TC:=ly (au x.out) (by omega);rw [dS x.out h1.k] at TC;unfold fL;by_cases c4:x.st=4
     ·rw [if_pos c4];have c4':(x.st !=4)=false:=by rw [c4];rfl
      by_cases c5:120<x.out.length
      ·rw [if_pos c5];have c5':(120:Int)<x.out.length:=by omega
       cases hx:x.out with
       |nil=>rw [hx] at c5;simp at c5
       |cons a l=>
        have S:=fun (e:Nat) (he:(Id.n 23).isNw e=false)=>sE (d:=e) (b:= .n 23) rfl he (c0:= .ptr (.n 23) 0) [i6 x.st,i3 x.n,i6 x.c] (au (a::l)) (sF a l)
        rw [hx] at TC c5 c5';simp only [bQ,bE,bH,bR];generalize (a::l).length=n at *
        generalize au (a::l)=T at *
        generalize ag T=B0 at *
        simp [g];refine aB _ _ (S _ rfl) ?_;simp [c4,c4'];apply ab TC;simp [c5,c5']
      ·rw [if_neg c5];have c5': ¬(120:Int)<x.out.length:=by omega
       cases hx:x.out with
       |nil=>
        have S:=fun (e:Nat) (he:(Id.n 23).isNw e=false)=>vt (d:=e) (b:= .n 23) rfl he (c0:= .nilT (.n 23) 260 5) [i6 x.st,i3 x.n,i6 x.c]
        rw [hx] at TC c5';rw [show au []=[] from rfl] at TC ⊢;simp only [bQ,bE,bH,bR];simp [g];refine aB _ _ (S _ rfl) ?_;simp [c4,c4'];apply ab TC;simp
       |cons a l=>
        have S:=fun (e:Nat) (he:(Id.n 23).isNw e=false)=>sE (d:=e) (b:= .n 23) rfl he (c0:= .ptr (.n 23) 0) [i6 x.st,i3 x.n,i6 x.c] (au (a::l)) (sF a l)
        rw [hx] at TC c5 c5';simp only [bQ,bE,bH,bR];generalize (a::l).length=n at *
        generalize au (a::l)=T at *
        generalize ag T=B0 at *
        simp [g];refine aB _ _ (S _ rfl) ?_;simp [c4,c4'];apply ab TC;simp [c5,c5']
     ·rw [if_neg c4];have c4':(x.st !=4)=true:=bne_iff_ne.2 c4;have c4'':(x.st==4)=false:=cI.2 c4;cases hx:x.out with
      |nil=>
       have S:=fun (e:Nat) (he:(Id.n 23).isNw e=false)=>vt (d:=e) (b:= .n 23) rfl he (c0:= .nilT (.n 23) 260 5) [i6 x.st,i3 x.n,i6 x.c]
       simp only [bQ,bE,bH,bR];simp [g];refine aB _ _ (S _ rfl) ?_;simp [c4,c4',c4'']
      |cons a l=>
       have S:=fun (e:Nat) (he:(Id.n 23).isNw e=false)=>sE (d:=e) (b:= .n 23) rfl he (c0:= .ptr (.n 23) 0) [i6 x.st,i3 x.n,i6 x.c] (au (a::l)) (sF a l)
       simp only [bQ,bE,bH,bR];generalize au (a::l)=T at *
       generalize ag T=B0 at *
       simp [g];refine aB _ _ (S _ rfl) ?_;simp [c4,c4',c4'']
   ·exact ⟨⟨iA _,iA _,by decide,by intro r hr;cases hr⟩,iA _,hR.symm,hok⟩
   ·apply ae<;>simp [fL,bQ,bE,LZ]
 ·rw [jd c1] at CP;rw [if_pos (.inr c1)];generalize Lib.trimPrefix s [34]=t at *
  simp [JR];apply ab CP;simp
def sU (w:List UInt8):List UInt8×Int:=BW (ai w 0)
theorem oa {r:Int} (h:wthn r=true):ug r∧r≠ -1:=by
 unfold wthn bB cT at h;simp only [EE,kO] at h;unfold ug;omega
theorem oc {k:Int} {q:Nat×Int} {c:Int} (h:bZ k q= .e c):c≠0:=by
 unfold bZ at h;split at h
 ·cases h
 ·cases h;assumption
theorem Uh (w:List UInt8) (c:Int) (h:sV w= .e c):c≠0:=by
 unfold sV at h;split at h
 ·split at h
  ·cases h
  ·cases h;decide
 ·split at h
  ·exact oc h
  ·split at h
   ·exact oc h
   ·split at h
    ·exact oc h
    ·exact oc h
theorem Px (m:List Int) (h0:m≠[]) (hw: ∀r∈m,wthn r=true):rV m=sV (au m):=by
 have hr:=dS m (fun r hr=>(oa (hw r hr)).1);have hpos:0<(au m).length:=by
  by_cases g:0<(au m).length
  ·exact g
  ·rw [aH g] at hr;exact absurd hr.symm h0
 have hv:vR (au m)=m.headD 0:=by
  unfold vR;rw [if_neg (fun e=>by rw [e] at hpos;cases hpos)];rw [aW hpos] at hr;cases m with
  |nil=>exact absurd rfl h0
  |cons r t=>
   injection hr with h1 h2;rw [h1,List.headD_cons];unfold kz;rw [if_neg (oa (hw r (by simp))).2]
 unfold rV sV;rw [hv];cases hd:cT (m.headD 0)
 ·rw [if_pos (Or.inr rfl),if_pos rfl]
 ·rw [if_neg (by rintro (h|h);exact h0 h;cases h),if_neg (by decide)];unfold Dd;generalize au m=w at *
  have e1:iO w=w.all aC:=by
   unfold iO;rw [io hpos,Bool.and_true]
  have e2:gS w [37]=true↔aX w (w.length - 1)=37:=by
   rw [tZ];constructor
   ·exact fun h=>h.2
   ·exact fun h=>⟨hpos,h⟩
  rw [e1,N8,AD];by_cases c1:w.all aC=true
  ·rw [if_pos c1,if_pos c1]
  ·rw [if_neg c1,if_neg c1];by_cases c2:aX w (w.length - 1)=37
   ·rw [if_pos c2,if_pos (e2.2 c2)]
   ·rw [if_neg c2,if_neg (fun h=>c2 (e2.1 h))]
theorem Ui:FZ sV sU rV BW:=⟨fun _=>rfl,Px,Uh⟩
def fk (s:List UInt8):TR:=C4 rV sU s
theorem Fd {s:List UInt8} (h:40000<s.length):fk s=⟨[],9,1,1⟩:=by
 unfold fk C4;rw [if_pos h]
theorem BX (s:List UInt8) (h:40000<s.length):Sp Tryz.prog gl 47 [.str s] (fk s).av:=by
 refine UF rfl rfl ?_;have B:=fun (e:Nat) (he:(Id.n 10).isNw e=false)=>gP s ⟨[],0,0,0,0,1,1,0,0,0⟩ 0 0 e (.n 10) rfl he
 have hB:Sc.begin ⟨[],0,0,0,0,1,1,0,0,0⟩ 0 0=xU:=rfl;rw [hB] at B;rw [Fd h];have hl':(40000:Int)<s.length:=by omega
 have W:=fun (e:Nat) (he:(Id.n 10).isNw e=false)=>eG s xU 9 e (.n 10) rfl he
 unfold fw Sc.wrong xU at *
 simp only [xQ] at B W;unfold TR.av;simp [PZ];refine aB _ _ (B _ rfl) ?_;simp [h,hl'];refine aB _ _ (W _ rfl) ?_;simp
theorem Fe (s:List UInt8):Sp Tryz.prog gl 47 [.str s] (fk s).av:=by
 by_cases h:40000<s.length
 ·exact BX s h
 ·have:=oJ sV sU s (fun w hw=>my w (by omega)) (fun w hw=>qF w (by omega))
  rw [Jk Ui s] at this;exact this
theorem Ff (VR:List Int→TV) (U:List UInt8→List UInt8×Int) (l:List Int) (P:List (Int×Int)) (f k:Nat) (out:List Tk) (h:l[k]?=none):bL VR U l P (f+1) k out=⟨out++[⟨0,[],0,(P.getD l.length (0,0)).1,(P.getD l.length (0,0)).2⟩],0,0,0⟩:=by
 rw [bL,h]
theorem Hs (s:List UInt8): ∀n i,s.length - i≤n→i≤s.length→Wk s i (ai s i) s.length
 |0,i,h,hi=>by
  rw [aH (by omega)];show i=s.length;omega
 |n+1,i,h,hi=>by
  by_cases g:i<s.length
  ·rw [aW g]
   have:=bI s i
   exact ⟨g,rfl,Hs s n _ (by omega) (gQ s i g)⟩
  ·rw [aH g];show i=s.length;omega
theorem lr (s:List UInt8) (h: ∀r∈ai s 0,r≠ -1):au (ai s 0)=s:=by
 have:=xx s (ai s 0) 0 s.length (eI _) (Hs s s.length 0 (by omega) (iA _)) h
 rw [qJ,A7] at this;exact this.symm
end Go.Ai
