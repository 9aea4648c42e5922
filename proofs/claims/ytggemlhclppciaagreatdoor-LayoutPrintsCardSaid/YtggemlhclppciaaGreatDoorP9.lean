/- P9: a part of the proof. Conditions: as each theorem says. -/
import Derived.Test.YtggemlhclppciaaGreatDoorP8
set_option maxHeartbeats 4000000
set_option linter.unusedSimpArgs false
set_option linter.unusedVariables false
set_option maxRecDepth 20000
namespace Go.Ai
open Go.Proofs
def nB:List UInt8:=[119,100,104,109,115]
theorem N7 (j:Nat): ∀b∈nB.drop j,b.toNat<128:=fun b hb=>by
 have: ∀b∈nB,b.toNat<128:=by decide
 exact this b (List.mem_of_mem_drop hb)
theorem F8 {r:Int} (h:dC r=5):r≠119∧r≠100∧r≠104∧r≠109∧r≠115:=by
 unfold dC at h;refine ⟨?_,?_,?_,?_,?_⟩<;>rintro rfl<;>revert h<;>decide
theorem Jv (j:Nat) (hj:j≤5) (r:Int) (h0:0≤r):LB (nB.drop j) r=if j≤dC r∧dC r<5 then ((dC r - j:Nat):Int) else -1:=by
 by_cases h:dC r=5
 ·have n:=F8 h;rw [h,if_neg (by omega)];unfold LB;split
  ·rename_i c;refine oQ _ _ fun b hb=>?_
   have hb:=List.mem_of_mem_drop hb;have t:(UInt8.ofNat r.toNat).toNat=r.toNat:=by rw [UInt8.toNat_ofNat'];omega
   intro e;rw [←e] at t;simp [nB] at hb;rcases hb with rfl|rfl|rfl|rfl|rfl<;>(simp at t;omega)
  ·rfl
 ·have hr:r=119∨r=100∨r=104∨r=109∨r=115:=by
   unfold dC at h;by_cases h1:r=119
   ·exact .inl h1
   by_cases h2:r=100
   ·exact .inr (.inl h2)
   by_cases h3:r=104
   ·exact .inr (.inr (.inl h3))
   by_cases h4:r=109
   ·exact .inr (.inr (.inr (.inl h4)))
   by_cases h5:r=115
   ·exact .inr (.inr (.inr (.inr h5)))
   rw [if_neg h1,if_neg h2,if_neg h3,if_neg h4,if_neg h5] at h;exact absurd rfl h
  have hj:j=0∨j=1∨j=2∨j=3∨j=4∨j=5:=by omega
  rcases hr with rfl|rfl|rfl|rfl|rfl<;>rcases hj with rfl|rfl|rfl|rfl|rfl|rfl<;>decide
def LC (sum p:Nat) (dg:Bool) (left:List UInt8) (far:Bool):List AV:=[i6 sum,i6 p,.bool dg,.str left,.bool far]
theorem C9 (n sum p:Nat) (dg:Bool) (left:List UInt8) (far:Bool) (d:Nat) (b:Id) (hb:b.isIt=false) (hbd:b.isNw d=false):
  cB Tryz.prog gl 218 d ⟨[.ptr b 0,i6 n],[(b,LC sum p dg left far)],[]⟩ ⟨i6 (min n 253402300800:Nat),[(b,LC sum p dg left (far||decide (253402300799<n)))],[]⟩:=by
 refine So rfl ?_;have hib:=aV hbd;unfold LC;simp only [aF,bV,bp,AV.mp,b7,Pl.mp];by_cases c:253402300799<n
 ·have c':(253402300799:Int)<n:=by omega
  have e:((min n 253402300800:Nat):Int)=253402300800:=by omega
  rw [io c,Bool.or_true,e];simp [My,c,c'];apply am<;>simp [hib,hb]
 ·have c': ¬(253402300799:Int)<n:=by omega
  have e:((min n 253402300800:Nat):Int)=n:=by omega
  rw [jd c,MA,e];simp [My,c,c'];apply am<;>simp [hib,hb]
structure Sx where
 sum:Nat
 p:Nat
 dg:Bool
 j:Nat
 far:Bool
def Sx.box (x:Sx):List AV:=LC x.sum x.p x.dg (nB.drop x.j) x.far
def Sx.take (x:Sx) (r:Int):Sx×Bool:=
 if cT r=true then ({x with p:=min (x.p*10+(r - 48).toNat) 253402300800,dg:=true,far:=x.far||decide (253402300799<x.p*10+(r - 48).toNat)},true)
 else if dC r<x.j∨dC r=5∨x.dg=false then (x,false)
 else (⟨min (x.sum+min (x.p*aY r) 253402300800) 253402300800,0,false,dC r+1,(x.far||decide (253402300799<x.p*aY r))||decide (253402300799<x.sum+min (x.p*aY r) 253402300800)⟩,true)
structure Jw (x:Sx):Prop where
 s:x.sum≤253402300800
 p:x.p≤253402300800
 j:x.j≤5
theorem Jw.step {x:Sx} (h:Jw x) (r:Int):Jw (x.take r).1:=by
 have h1:=h.s;have h2:=h.p;have h3:=h.j;have u5:dC r≤5:=by
  have:=xM r
  omega
 unfold Sx.take;split
 ·exact ⟨h1,Nat.min_le_right _ _,h3⟩
 ·split
  ·exact h
  ·rename_i c;exact ⟨Nat.min_le_right _ _,iA _,by simp only;omega⟩
theorem AG (x:Sx) (h:Jw x) (r:Int) (hr:Oq r) (d:Nat) (b:Id) (hb:b.isIt=false) (hbd:b.isNw d=false):
  cB Tryz.prog gl 195 d ⟨[.ptr b 0,i3 r],[(b,x.box)],[]⟩ ⟨.bool (x.take r).2,[(b,(x.take r).1.box)],[]⟩:=by
 refine Se rfl ?_;have hib:=aV hbd;have hs:=h.s;have hp:=h.p;have hj:=h.j;obtain ⟨sum,p,dg,j,far⟩:=x;simp only at hs hp hj;have h0:0≤r:=by rcases hr with h|h<;>omega
 unfold Sx.take Sx.box;dsimp only;have R:=Ju (nB.drop j) (by rw [uk];simp [nB];omega) (N7 j) r hr;have HE:=fun (n sum p:Nat) (dg:Bool) (left:List UInt8) (far:Bool) (e:Nat)=>C9 n sum p dg left far e (.up b) hb
 unfold LC at *
 cases hd:cT r
 ·rw [if_neg (by decide)];have d0: ¬(48≤r∧r≤57):=fun q=>by unfold cT at hd;rw [io q] at hd;cases hd
  have IU:=Jv j hj r h0;have U:=gD r;have ul:=Jl r;have wl:nB.length=5:=rfl;rw [IU] at R;by_cases c1:dC r<j∨dC r=5∨dg=false
  ·rw [if_pos c1];by_cases c2:j≤dC r∧dC r<5
   ·have hdg:dg=false:=by
     rcases c1 with c|c|c
     ·omega
     ·omega
     ·exact c
    subst hdg;rw [if_pos c2] at R;generalize dC r - j=q at *
    generalize nB.drop j=left at *
    have q0: ¬(q:Int)<0:=by omega
    clear IU c1 c2 HE;simp only [aF,bV,bp,AV.mp,b7,Pl.mp];by_cases d1:48≤r
    ·have d2: ¬r≤57:=by omega
     simp [xX,d1,d2];apply ab R;simp [q0];apply am<;>simp [hib,hb]
    ·simp [xX,d1];apply ab R;simp [q0];apply am<;>simp [hib,hb]
   ·rw [if_neg c2] at R;generalize nB.drop j=left at *
    clear IU c1 c2 HE;simp only [aF,bV,bp,AV.mp,b7,Pl.mp];by_cases d1:48≤r
    ·have d2: ¬r≤57:=by omega
     simp [xX,d1,d2];apply ab R;simp;apply am<;>simp [hib,hb]
    ·simp [xX,d1];apply ab R;simp;apply am<;>simp [hib,hb]
  rw [if_neg c1];have c2:j≤dC r∧dC r<5:=by
   have:=xM r
   omega
  have hdg:dg=true:=by
   cases dg
   ·exact absurd (.inr (.inr rfl)) c1
   ·rfl
  subst hdg;rw [if_pos c2] at R;have hdr:(nB.drop j).drop (dC r - j+1)=nB.drop (dC r+1):=by
   rw [List.drop_drop];congr 1
   omega
  have hll:(nB.drop j).length=5 - j:=by rw [uk,wl]
  obtain ⟨q,hq⟩: ∃q,q=dC r - j:=⟨_,rfl⟩;have qb:q+1≤(nB.drop j).length:=by omega
  rw [←hq] at R hdr;have a0:p*aY r≤253402300800*604800:=Nat.mul_le_mul hp ul;have w1:IntKind.i64.wrap ((p:Int)*(aY r:Int))=((p*aY r:Nat):Int):=by
   rw [←Int.natCast_mul,aj]<;>omega
  have HA:=HE (p*aY r) sum p true (nB.drop j) far;have w2:IntKind.i64.wrap ((sum:Int)+((min (p*aY r) 253402300800:Nat):Int))=((sum+min (p*aY r) 253402300800:Nat):Int):=by
   rw [aj]<;>omega
  have HB:=HE (sum+min (p*aY r) 253402300800) sum p true (nB.drop j) (far||decide (253402300799<p*aY r));generalize decide (253402300799<sum+min (p*aY r) 253402300800)=f2 at *
  generalize decide (253402300799<p*aY r)=f1 at *
  generalize min (sum+min (p*aY r) 253402300800) 253402300800=s2 at *
  generalize sum+min (p*aY r) 253402300800=s1 at *
  generalize min (p*aY r) 253402300800=a1 at *
  generalize p*aY r=a at *
  generalize aY r=un at *
  generalize nB.drop (dC r+1)=left2 at *
  generalize nB.drop j=left at *
  have q0: ¬(q:Int)<0:=by omega
  have q1:(0:Int)≤((q+1:Nat):Int):=by omega
  have q2:((q+1:Nat):Int)≤left.length:=by omega
  have q3:((q+1:Nat):Int).toNat=q+1:=by omega
  have t1:IntKind.i64.wrap ((q:Int)+1)=((q+1:Nat):Int):=by rw [aj]<;>omega
  generalize ((q+1:Nat):Int)=m at *
  clear IU c1 c2 hq a0;simp only [aF,bV,bp,AV.mp,b7,Pl.mp];by_cases d1:48≤r
  ·have d2: ¬r≤57:=by omega
   simp [xX,d1,d2];apply ab R;simp [q0];apply ab U;simp [w1];refine ka _ _ (HA _ rfl) ⟨?_,?_,?_,?_,?_,?_,?_⟩ ⟨?_,?_,?_⟩ ?_;iterate 10 (· simp [Pl.isB,Pl.isF,hb])
   simp [w2];refine ka _ _ (HB _ rfl) ⟨?_,?_,?_,?_,?_,?_,?_⟩ ⟨?_,?_,?_⟩ ?_;iterate 10 (· simp [Pl.isB,Pl.isF,hb])
   simp [t1,q1,q2,q3,hdr];apply am<;>simp [hib,hb]
  ·simp [xX,d1];apply ab R;simp [q0];apply ab U;simp [w1];refine ka _ _ (HA _ rfl) ⟨?_,?_,?_,?_,?_,?_,?_⟩ ⟨?_,?_,?_⟩ ?_;iterate 10 (· simp [Pl.isB,Pl.isF,hb])
   simp [w2];refine ka _ _ (HB _ rfl) ⟨?_,?_,?_,?_,?_,?_,?_⟩ ⟨?_,?_,?_⟩ ?_;iterate 10 (· simp [Pl.isB,Pl.isF,hb])
   simp [t1,q1,q2,q3,hdr];apply am<;>simp [hib,hb]
 ·rw [if_pos rfl];have d0:48≤r∧r≤57:=by unfold cT at hd;exact AO hd
  clear R;obtain ⟨k,hk⟩: ∃k:Nat,r=k+48:=⟨(r - 48).toNat,by omega⟩;have w1:IntKind.i64.wrap ((p:Int)*10)=(p*10:Nat):=by rw [aj]<;>omega
  have w2:IntKind.i32.wrap (r - 48)=k:=by rw [aR]<;>omega
  have w3:IntKind.i64.wrap (k:Int)=k:=by rw [aj]<;>omega
  have w4:IntKind.i64.wrap (((p*10:Nat):Int)+k)=(p*10+k:Nat):=by rw [aj]<;>omega
  rw [show (r - 48).toNat=k by omega];have HE:=HE (p*10+k) sum p dg (nB.drop j) far;clear hk;generalize p*10+k=z at *
  generalize nB.drop j=left at *
  generalize ((p*10:Nat):Int)=y at *
  simp only [aF,bV,bp,AV.mp,b7,Pl.mp];simp [xX,d0.1,d0.2,w1,w2,w3,w4];refine aQ _ _ (HE _ rfl) ⟨?_,?_,?_,?_,?_,?_,?_⟩ ?_;iterate 7 (· simp [hb])
  simp;apply am<;>simp [hib,hb]
def qE:List Int→Sx→Option Sx
 |[],x=>some x
 |r::l,x=>if (x.take r).2=true then qE l (x.take r).1 else none
def EA:Option Sx→Nat×Int
 |none=>(0,5)
 |some x=>if x.dg=true then (0,5) else if x.far=true then (0,8) else (x.sum,0)
theorem pV: ∀(l:List Int) (x:Sx),EA (qE l x)=Lz l x.sum x.p x.dg x.j x.far
 |[],x=>rfl
 |r::l,x=>by
  rw [qE,Lz];unfold Sx.take;by_cases c:cT r=true
  ·rw [if_pos c,if_pos c];dsimp only;rw [if_pos rfl,pV l]
  ·rw [if_neg c,if_neg c];by_cases c2:dC r<x.j∨dC r=5∨x.dg=false
   ·rw [if_pos c2,if_pos c2];rfl
   ·rw [if_neg c2,if_neg c2];dsimp only;rw [if_pos rfl,pV l]
theorem Jy (x:Sx) (r:Int):x.take (kz r)=x.take r:=by
 unfold kz;split
 ·rename_i c;subst c;unfold Sx.take;rw [show cT 65533=false from rfl,show cT (-1)=false from rfl,if_neg Bool.false_ne_true,if_neg Bool.false_ne_true,show dC 65533=5 from rfl,show dC (-1)=5 from rfl,if_pos (Or.inr (Or.inl rfl)),if_pos (Or.inr (Or.inl rfl))]
 ·rfl
theorem Jz (s:List UInt8) (i:Nat):Oq (kz (ak s i).1):=by
 have h:=lX s i;unfold kz Oq;rcases h with h|⟨h1,h2,h3⟩
 ·rw [if_pos h];omega
 ·rw [if_neg (by omega)];omega
theorem Da (s:List UInt8) (hl:s.length≤1000000):Sp Tryz.prog gl 149 [.str s] (.tup [i6 (kH s).1,i6 (kH s).2]):=by
 refine RQ rfl rfl ?_;unfold kH;by_cases e:s=[]
 ·subst e;rw [if_pos rfl];simp [Mn];refine aP (α:=Nat) (fun i=>⟨[(0,.str []),(4,.ptr (.n 8) 0),(10,.itp 10)],[(.n 8,[i6 0,i6 0,.bool false,.str [119,100,104,109,115],.bool false]),(.it 10,[.itr [] 0])],[]⟩) (fun i=>True) (fun i=>1) ?_ 0 ?_ ?_
  ·rintro K i hK _;clear hK;simp
  ·exact True.intro
  ·apply ae<;>simp
 rw [if_neg e];have en:(s==[])=false:=cI.2 e;obtain ⟨R,hR⟩: ∃R,R=qE (ai s 0) ⟨0,0,false,0,false⟩:=⟨_,rfl⟩;have hR2:=pV (ai s 0) ⟨0,0,false,0,false⟩;rw [←hR] at hR2;rw [←hR2];clear hR2;simp [Mn];refine aP (α:=Nat×Sx) (fun y=>⟨[(0,.str s),(4,.ptr (.n 8) 0),(10,.itp 10)],[(.n 8,y.2.box),(.it 10,[.itr s y.1])],[]⟩)
  (fun y=>y.1≤s.length∧Jw y.2∧qE (ai s y.1) y.2=R) (fun y=>s.length - y.1) ?_ (0,⟨0,0,false,0,false⟩) ?_ ?_
 ·rintro K ⟨i,x⟩ hK ⟨h1,h2,h3⟩;simp only at h1 h2 h3;by_cases g:i<s.length
  ·rw [aW g,qE] at h3;have sr:=oI s i g;have sp:=bI s i;have sw:=gQ s i g;have T:=fun (e:Nat) (he:(Id.n 8).isNw e=false)=>AG x h2 (kz (ak s i).1) (Jz s i) e (.n 8) rfl he
   have so:=h2.step (ak s i).1;rw [Jy] at T;have bx0:x.box.length=5:=rfl;have bx1:ba x.box=[]:=rfl;have by0:(x.take (ak s i).1).1.box.length=5:=rfl;have by1:ba (x.take (ak s i).1).1.box=[]:=rfl;have fin:qE (ai s (i+(ak s i).2)) (x.take (ak s i).1).1=R→ ∀σ',dL σ' ⟨[(0,.str s),(4,.ptr (.n 8) 0),(10,.itp 10)],[(.n 8,(x.take (ak s i).1).1.box),(.it 10,[.itr s (i+(ak s i).2)])],[]⟩→K σ':=
    fun hh σ' hσ=>hK (i+(ak s i).2,(x.take (ak s i).1).1) σ' ⟨sw,so,hh⟩ (by simp only;omega) hσ
   clear hK hR so;generalize (x.take (ak s i).1).2=ok at *
   generalize (x.take (ak s i).1).1=y at *
   generalize kz (ak s i).1=r at *
   generalize (ak s i).2=w at *
   cases ok
   ·rw [if_neg (by decide)] at h3;subst h3;clear fin;unfold Sx.box LC at *
    simp [g,sr,EA];refine aB _ _ (T _ rfl) ?_;simp
   ·rw [if_pos rfl] at h3;have fin:=fin h3;clear h3;generalize EA R=Q at *
    unfold Sx.box LC at *
    simp [g,sr];refine aB _ _ (T _ rfl) ?_;simp;refine fin _ ?_;apply ae<;>simp
  ·rw [aH g,qE] at h3;subst h3;clear hK hR;unfold EA;dsimp only;obtain ⟨sum,p,dg,j,far⟩:=x;unfold Sx.box LC;dsimp only;cases dg
   ·rw [if_neg (by decide)];cases far
    ·rw [if_neg (by decide)];simp [g,e,en]
    ·rw [if_pos rfl];simp [g,e,en]
   ·rw [if_pos rfl];simp [g,e,en]
 ·exact ⟨iA _,⟨by simp,by simp,by simp⟩,hR.symm⟩
 ·apply ae<;>simp [Sx.box,LC,nB]
def jT (h:Nat×Bool) (t:Nat×Bool):Nat×Int:=
 if h.2=false∨t.2=false then (0,5) else if 100<h.1∨(h.1=100∧0<t.1) then (0,8) else ((h.1*10000%4294967296+t.1)%4294967296,0)
def JA (s:List UInt8):Nat×Int:=
 if gS s [37]=false then (0,5)
 else if ((dT s [37]).takeWhile (bW 46)).length<(dT s [37]).length then
  jT (fF ((dT s [37]).takeWhile (bW 46))) ((xI (ai ((dT s [37]).drop (((dT s [37]).takeWhile (bW 46)).length+1)) 0) 4).1,
   (xI (ai ((dT s [37]).drop (((dT s [37]).takeWhile (bW 46)).length+1)) 0) 4).2&&!gS ((dT s [37]).drop (((dT s [37]).takeWhile (bW 46)).length+1)) [48])
 else jT (fF (dT s [37])) (0,true)
def LD (b:List UInt8) (d:Nat):Nat:=kG b d*10000+kG (b.drop (d+1)) 4
def JB (s b:List UInt8) (d:Nat):Nat×Int:=
 if (b.take d).all aC=false∨(b.drop (d+1)).all aC=false then (0,5)
 else if (d<b.length∧(b.length - 1 - d<1∨4<b.length - 1 - d∨aX s (b.length - 1)=48))∨d=0∨(aX s 0=48∧1<d) then (0,5)
 else if 3<d then (0,8)
 else if 1000000<LD b d then (0,8) else (LD b d,0)
def JC (s:List UInt8):Nat×Int:=
 if s.length<2∨aX s (s.length - 1)≠37 then (0,5)
 else JB s (s.take (s.length - 1)) ((s.take (s.length - 1)).takeWhile (bW 46)).length
theorem lY (l:List UInt8): ∀i,i≤l.length→kG l i=aL (l.take i)
 |0,_=>by rw [kG,JG];rfl
 |i+1,h=>by
  have g:i<l.length:=by omega
  rw [kG,lY l i (by omega),Jm g,Dg g,gA]
theorem EB (l:List UInt8): ∀j,kG l (l.length+j)=aL l*10^j
 |0=>by rw [rI,lY l _ (eI _),qJ];simp
 |j+1=>by
  rw [←EH,kG,EB l j,xG (by omega),EI];rw [rI,LG 10,Nat.mul_assoc]
theorem tZ (s:List UInt8) (c:UInt8):gS s [c]=true↔0<s.length∧aX s (s.length - 1)=c.toNat:=by
 unfold gS;rw [aE,kO,uc,bP];constructor
 ·rintro ⟨h1,h2⟩;refine ⟨h1,?_⟩;have g:s.length - 1<s.length:=by omega
  rw [oU g] at h2;injection h2 with h2 _;rw [jk g,h2]
 ·rintro ⟨h1,h2⟩;refine ⟨h1,?_⟩;have g:s.length - 1<s.length:=by omega
  rw [jk g] at h2;rw [oU g,Og.1 h2,ui (by omega)]
theorem lZ (h:List UInt8):bJ h=true↔h≠[]∧h.all aC=true∧ ¬(aX h 0=48∧1<h.length):=by
 unfold bJ;cases h with
 |nil=>simp
 |cons a t=>
  have e:aX (a::t) 0=a.toNat:=rfl;rw [e];have q:(a !=48)=true↔a.toNat≠48:=by
   rw [bne_iff_ne];constructor
   ·intro h1 h2;exact h1 (Og.1 h2)
   ·intro h1 h2;exact h1 (by rw [h2];rfl)
  rw [aE,aE,EE,List.headD_cons,q,bP];simp only [List.isEmpty_cons,Bool.not_false,true_and,em];constructor
  ·rintro ⟨h1,h2⟩;exact ⟨by simp,h1,by omega⟩
  ·rintro ⟨_,h1,h2⟩;exact ⟨h1,by omega⟩
theorem Db (h:List UInt8) (hh:bJ h=false):fF h=(0,false):=by
 unfold fF;rw [hh,if_neg (by decide)]
theorem Dc (h:List UInt8) (hh:bJ h=true) (hl:3<h.length):fF h=(101,true):=by
 have:=(lZ h).1 hh
 unfold fF;rw [if_pos hh,jc h h.length 0 (by omega) (by omega) this.2.1,if_pos (by omega)]
theorem F9 (h:List UInt8) (hh:bJ h=true) (hl: ¬3<h.length):fF h=(min (aL h) 101,true):=by
 have:=(lZ h).1 hh
 unfold fF;rw [if_pos hh,jc h h.length 0 (by omega) (by omega) this.2.1,if_neg (by omega),Jo h h.length this.2.1 this.1 (eI _) (by omega),Nat.sub_self];simp
theorem Ga (s:List UInt8) (c:UInt8):(s.takeWhile (bW c)).length≤s.length:=(List.takeWhile_prefix _).length_le
theorem LE (s b:List UInt8) (hb:b=s.take (s.length - 1)) (h2:2≤s.length):
  (if (b.takeWhile (bW 46)).length<b.length then jT (fF (b.takeWhile (bW 46))) ((xI (ai (b.drop ((b.takeWhile (bW 46)).length+1)) 0) 4).1,(xI (ai (b.drop ((b.takeWhile (bW 46)).length+1)) 0) 4).2&&!gS (b.drop ((b.takeWhile (bW 46)).length+1)) [48])
   else jT (fF b) (0,true))=JB s b (b.takeWhile (bW 46)).length:=by
 have bl:b.length=s.length - 1:=by rw [hb,rH];omega
 have tw:=tW 46 b;have tl:=Ga b 46;have b0:aX b 0=aX s 0:=by rw [hb];exact oG (by omega)
 have bn:aX b (b.length - 1)=aX s (b.length - 1):=by
  have e:b.length - 1<s.length - 1:=by omega
  have:=oG (s:=s) (j:=s.length - 1) (q:=b.length - 1) e
  rw [←hb] at this;exact this
 clear hb;obtain ⟨d,hd⟩: ∃d,d=(b.takeWhile (bW 46)).length:=⟨_,rfl⟩;rw [←hd] at tw tl ⊢;rw [←tw];clear hd tw;have tkl:(b.take d).length=d:=by rw [rH];omega
 have dl:(b.drop (d+1)).length=b.length - (d+1):=uk;have t0:0<d→aX (b.take d) 0=aX s 0:=fun h=>by rw [oG h,b0]
 have dn:d+1<b.length→aX (b.drop (d+1)) ((b.drop (d+1)).length - 1)=aX s (b.length - 1):=fun h=>by
  rw [Al,dl,show d+1+(b.length - (d+1) - 1)=b.length - 1 by omega,bn]
 have v1:=lY b d tl;have ok:=lZ (b.take d);have ne:b.take d≠[]↔0<d:=by
  rw [Ne,←List.length_eq_zero_iff,tkl];omega
 rw [ne,tkl] at ok;unfold JB LD;rw [v1];have WB:=Db (b.take d);have WF:=Dc (b.take d);have WO:=F9 (b.take d);rw [tkl] at WF WO;have tot:b.take d=b∨d<b.length:=by
  by_cases g:d<b.length
  · exact .inr g
  · left;rw [List.take_of_length_le (by omega)]
 have V4:(b.drop (d+1)).all aC=true→(b.drop (d+1)).length≤4→kG (b.drop (d+1)) 4=aL (b.drop (d+1))*10^(4 - (b.drop (d+1)).length)∧kG (b.drop (d+1)) 4<10000:=fun h h'=>by
  refine ⟨?_,?_⟩
  · have:=EB (b.drop (d+1)) (4 - (b.drop (d+1)).length)
    rw [←this];congr 1
    omega
  · refine C6 _ (fun i=>?_) 4;by_cases e:b.drop (d+1)=[]
    ·rw [xG (by rw [e];simp)];omega
    ·refine Ey ?_ i;unfold iO;rw [h,ib,kO];exact xO.2 e
 have u3:bJ (b.take d)=true→ ¬3<d→aL (b.take d)<1000:=fun h h'=>by
  have:=tA (b.take d) (ok.1 h).2.1
  rw [tkl] at this;exact vX this (show 10^d≤1000 from by
    obtain rfl|rfl|rfl|rfl:d=0∨d=1∨d=2∨d=3:=by omega
    all_goals decide)
 have PB:=Lw (b.drop (d+1)) 4;have PO:=Jo (b.drop (d+1)) 4;have SB:=tZ (b.drop (d+1)) 48;rw [show (48:UInt8).toNat=48 from rfl] at SB;rw [dl] at SB PB PO V4;by_cases g:d<b.length
 ·rw [if_pos g];clear tot;cases ha:(b.take d).all aC
  · have:bJ (b.take d)=false:=by
     cases hk:bJ (b.take d)
     ·rfl
     ·have:=(ok.1 hk).2.1
      rw [ha] at this;cases this
    rw [WB this,if_pos (.inl rfl)];rfl
  cases hb2:(b.drop (d+1)).all aC
  · rw [PB (.inl hb2),if_pos (.inr rfl)];unfold jT;rw [if_pos (.inr rfl)]
  rw [if_neg (by rintro (h|h)<;>cases h)];rw [hb2] at V4 PO;have bad:((xI (ai (b.drop (d+1)) 0) 4).2&&!gS (b.drop (d+1)) [48])=false↔(b.length - 1 - d<1∨4<b.length - 1 - d∨aX s (b.length - 1)=48):=by
    by_cases e1:b.length - (d+1)=0
    ·have:b.drop (d+1)=[]:=AN (by rw [dl];exact e1)
     rw [PB (.inr (.inl this))];simp only [iR,true_iff];left;omega
    by_cases e2:4<b.length - (d+1)
    ·rw [PB (.inr (.inr e2))];simp only [iR,true_iff];right;left;omega
    rw [PO rfl (fun e=>e1 (by rw [←dl,e];rfl)) (by omega) (by omega)];simp only [ib];have dn:=dn (by omega);rw [dl] at dn;rw [dn] at SB;cases hs:gS (b.drop (d+1)) [48]
    ·simp only [Bool.not_false];constructor
     ·intro h;cases h
     ·rintro (h|h|h)
      ·omega
      ·omega
      ·have:=SB.2 ⟨by omega,h⟩
       rw [hs] at this;cases this
    ·simp only [Bool.not_true,true_iff]
     have:=SB.1 hs
     omega
  by_cases c1:((d<b.length∧(b.length - 1 - d<1∨4<b.length - 1 - d∨aX s (b.length - 1)=48))∨d=0∨(aX s 0=48∧1<d))
  · rw [if_pos c1];unfold jT;rw [if_pos];rcases c1 with ⟨_,h⟩|h|⟨h,h'⟩
    ·right;exact bad.2 h
    ·left;rw [WB];cases hk:bJ (b.take d)
     ·rfl
     ·have:=(ok.1 hk).1;omega
    ·left;rw [WB];cases hk:bJ (b.take d)
     ·rfl
     ·have:=(ok.1 hk).2.2
      rw [t0 (by omega)] at this;exact absurd ⟨h,h'⟩ this
  rw [if_neg c1];have hd0:0<d:=by omega
  have hk:bJ (b.take d)=true:=ok.2 ⟨hd0,ha,by rw [t0 hd0];omega⟩;have hg: ¬(b.length - 1 - d<1∨4<b.length - 1 - d∨aX s (b.length - 1)=48):=fun h=>c1 (.inl ⟨g,h⟩)
  have ht:((xI (ai (b.drop (d+1)) 0) 4).2&&!gS (b.drop (d+1)) [48])=true:=by
    cases hq:((xI (ai (b.drop (d+1)) 0) 4).2&&!gS (b.drop (d+1)) [48])
    ·exact absurd (bad.1 hq) hg
    ·rfl
  rw [ht];have v4:=V4 rfl (by omega);have ne2:b.drop (d+1)≠[]:=fun e=>by
    have:(b.drop (d+1)).length=0:=by rw [e];rfl
    omega
  rw [PO rfl ne2 (by omega) (by omega),←v4.1];have v5:=v4.2;generalize kG (b.drop (d+1)) 4=m at *
  by_cases c3:3<d
  · rw [WF hk c3,if_pos c3];rfl
  · rw [WO hk c3,if_neg c3];have u3:=u3 hk c3;generalize aL (b.take d)=q at *
    unfold jT;dsimp only;rw [if_neg (by rintro (h|h)<;>cases h)];by_cases c4:1000000<q*10000+m
    ·rw [if_pos c4,if_pos (by omega)]
    ·rw [if_neg c4,if_neg (by omega),show min q 101=q by omega,nE (show q*10000<4294967296 by omega),nE (by omega)]
 ·rw [if_neg g];have tot:b.take d=b:=by
    rcases tot with h|h
    ·exact h
    ·exact absurd h g
  have dnil:b.drop (d+1)=[]:=ui (by omega);rw [dnil] at V4 ⊢;have m0:kG ([]:List UInt8) 4=0:=by decide
  rw [m0,rI];rw [tot] at ok WB WF WO u3 ⊢;cases ha:b.all aC
  · have:bJ b=false:=by
     cases hk:bJ b
     ·rfl
     ·have:=(ok.1 hk).2.1
      rw [ha] at this;cases this
    rw [WB this,if_pos (.inl rfl)];rfl
  rw [if_neg (by rintro (h|h);cases h;exact absurd h (by decide))];by_cases c1:((d<b.length∧(b.length - 1 - d<1∨4<b.length - 1 - d∨aX s (b.length - 1)=48))∨d=0∨(aX s 0=48∧1<d))
  · rw [if_pos c1];unfold jT;rw [if_pos];left;rcases c1 with ⟨h,_⟩|h|⟨h,h'⟩
    ·exact absurd h g
    ·rw [WB];cases hk:bJ b
     ·rfl
     ·have:=(ok.1 hk).1;omega
    ·rw [WB];cases hk:bJ b
     ·rfl
     ·have:=(ok.1 hk).2.2
      rw [b0] at this;exact absurd ⟨h,h'⟩ this
  rw [if_neg c1];have hd0:0<d:=by omega
  have hk:bJ b=true:=ok.2 ⟨hd0,ha,by rw [b0];omega⟩;by_cases c3:3<d
  · rw [WF hk c3,if_pos c3];rfl
  · rw [WO hk c3,if_neg c3];have u3:=u3 hk c3;generalize aL b=q at *
    unfold jT;dsimp only;rw [if_neg (by rintro (h|h)<;>cases h)];by_cases c4:1000000<q*10000
    ·rw [if_pos c4,if_pos (by omega)]
    ·rw [if_neg c4,if_neg (by omega),show min q 101=q by omega,nE (show q*10000<4294967296 by omega),rI,nE (by omega)]
theorem N8 (s:List UInt8):JA s=JC s:=by
 unfold JA JC;have S:=tZ s 37;rw [show (37:UInt8).toNat=37 from rfl] at S;cases hs:gS s [37]
 ·rw [if_pos rfl,if_pos];by_cases h:s.length<2
  ·exact .inl h
  ·right;intro e
   have:=S.2 ⟨by omega,e⟩
   rw [hs] at this;cases this
 ·rw [if_neg (by decide)];have h:=S.1 hs;have hc:dT s [37]=s.take (s.length - 1):=by
   unfold dT;rw [if_pos hs];rfl
  rw [hc];by_cases h2:s.length<2
  ·rw [if_pos (show s.length<2∨aX s (s.length - 1)≠37 from .inl h2)];have e:s.take (s.length - 1)=[]:=by rw [show s.length - 1=0 by omega,JG]
   rw [e];decide
  ·rw [if_neg (show ¬(s.length<2∨aX s (s.length - 1)≠37) from by rintro (h'|h');exact h2 h';exact h' h.2)];exact LE s _ rfl (by omega)
theorem Gc (s t:List UInt8):(dT s t).length≤s.length:=by
 unfold dT;split
 ·rw [rH];omega
 ·exact eI _
theorem AH (s:List UInt8) (hl:s.length≤1000000):Sp Tryz.prog gl 146 [.str s] (.tup [.int .u32 (JA s).1,i6 (JA s).2]):=by
 refine RK rfl rfl ?_;have CS:=Ar s [37] hl (by simp);have bl:=Gc s [37];unfold JA;generalize dT s [37]=b at *
 have hb:b.length≤1000000:=by omega
 cases hs:gS s [37]
 ·rw [hs] at CS;rw [if_pos rfl];clear bl;simp [nD];apply ab CS;simp
 rw [hs] at CS;rw [if_neg (by decide)];have CB:=tX 46 b hb;unfold vT at CB;by_cases g:(b.takeWhile (bW 46)).length<b.length
 ·rw [if_pos g] at CB ⊢;have W:=tV (b.takeWhile (bW 46)) (by omega);have PN:=oP (b.drop ((b.takeWhile (bW 46)).length+1)) (by rw [uk];omega) 4 (by omega);have HS:=oO (b.drop ((b.takeWhile (bW 46)).length+1)) [48] (by rw [uk];omega) (by simp);clear g hb bl hs;generalize b.drop ((b.takeWhile (bW 46)).length+1)=tl at *
  generalize b.takeWhile (bW 46)=hd at *
  generalize fF hd=wh at *
  generalize xI (ai tl 0) 4=q at *
  generalize gS tl [48]=sb at *
  obtain ⟨n,o⟩:=wh;obtain ⟨m,i⟩:=q;unfold jT;dsimp only at W PN ⊢;cases o
  ·rw [if_pos (.inl rfl)];cases i
   ·simp [nD];apply ab CS;simp;apply ab CB;simp;apply ab W;simp;apply ab PN;simp
   ·simp [nD];apply ab CS;simp;apply ab CB;simp;apply ab W;simp;apply ab PN;simp;apply ab HS;simp
  cases i
  ·rw [if_pos (.inr rfl)];simp [nD];apply ab CS;simp;apply ab CB;simp;apply ab W;simp;apply ab PN;simp
  cases sb
  rotate_left
  ·rw [if_pos (.inr rfl)];simp [nD];apply ab CS;simp;apply ab CB;simp;apply ab W;simp;apply ab PN;simp;apply ab HS;simp
  rw [if_neg (by rintro (h|h)<;>cases h)];have w1:IntKind.u32.wrap ((n:Int)*10000)=((n*10000%4294967296:Nat):Int):=by
   rw [gy];omega
  have w2:IntKind.u32.wrap (((n*10000%4294967296:Nat):Int)+(m:Int))=(((n*10000%4294967296+m)%4294967296:Nat):Int):=by
   rw [gy];omega
  generalize (n*10000%4294967296+m)%4294967296=z at *
  generalize ((n*10000%4294967296:Nat):Int)=y at *
  by_cases c1:100<n
  ·have c1':(100:Int)<n:=by omega
   rw [if_pos (.inl c1)];simp [nD];apply ab CS;simp;apply ab CB;simp;apply ab W;simp;apply ab PN;simp;apply ab HS;simp [c1,c1']
  have c1': ¬(100:Int)<n:=by omega
  by_cases c2:n=100
  ·subst c2;have w1':IntKind.u32.wrap 1000000=y:=by rw [←w1];rfl
   by_cases c3:0<m
   ·have c3':(0:Int)<m:=by omega
    rw [if_pos (.inr ⟨rfl,c3⟩)];simp [nD];apply ab CS;simp;apply ab CB;simp;apply ab W;simp;apply ab PN;simp;apply ab HS;simp [c3,c3']
   ·have c3': ¬(0:Int)<m:=by omega
    rw [if_neg (by omega)];simp [nD];apply ab CS;simp;apply ab CB;simp;apply ab W;simp;apply ab PN;simp;apply ab HS;simp [c3,c3',w1',w2]
  ·have c2':((n:Int)==100)=false:=cI.2 (by omega);rw [if_neg (by omega)];simp [nD];apply ab CS;simp;apply ab CB;simp;apply ab W;simp;apply ab PN;simp;apply ab HS;simp [c1,c1',c2,c2',w1,w2]
 ·rw [if_neg g] at CB ⊢;have W:=tV b hb;clear g hb bl hs;generalize fF b=wh at *
  obtain ⟨n,o⟩:=wh;unfold jT;dsimp only at W ⊢;cases o
  ·rw [if_pos (.inl rfl)];simp [nD];apply ab CS;simp;apply ab CB;simp;apply ab W;simp
  rw [if_neg (by rintro (h|h)<;>cases h)];have w1:IntKind.u32.wrap ((n:Int)*10000)=((n*10000%4294967296:Nat):Int):=by
   rw [gy];omega
  have w2:IntKind.u32.wrap ((n*10000%4294967296:Nat):Int)=(((n*10000%4294967296+0)%4294967296:Nat):Int):=by
   rw [gy];omega
  generalize (n*10000%4294967296+0)%4294967296=z at *
  generalize ((n*10000%4294967296:Nat):Int)=y at *
  by_cases c1:100<n
  ·have c1':(100:Int)<n:=by omega
   rw [if_pos (.inl c1)];simp [nD];apply ab CS;simp;apply ab CB;simp;apply ab W;simp [c1,c1']
  have c1': ¬(100:Int)<n:=by omega
  rw [if_neg (by omega)];by_cases c2:n=100
  ·subst c2;have w1':IntKind.u32.wrap 1000000=y:=by rw [←w1];rfl
   simp [nD];apply ab CS;simp;apply ab CB;simp;apply ab W;simp [w1',w2]
  ·have c2':((n:Int)==100)=false:=cI.2 (by omega);simp [nD];apply ab CS;simp;apply ab CB;simp;apply ab W;simp [c1,c1',c2,c2',w1,w2]
def qP (c:UInt8) (s:List UInt8):Bool:=decide ((s.takeWhile (bW c)).length<s.length)
theorem Gd (s:List UInt8):Sp Tryz.prog gl 191 [.str s,.str [46]] (i6 (Lib.indexByte s 46)):=by
 refine R9 rfl rfl ?_;have IX:=vS s 46;generalize Lib.indexByte s 46=k at *
 simp [OT];apply ab IX;simp
theorem Ge (s:List UInt8):Sp Tryz.prog gl 147 [.str s,.str [46]] (.bool (qP 46 s)):=by
 refine RM rfl rfl ?_;have IX:=Gd s;have e:=Az 46 s;have hb:qP 46 s=decide (0≤Lib.indexByte s 46):=by
  unfold qP;rw [e];split
  ·rename_i h;rw [io h,io (by omega)]
  ·rename_i h;rw [jd h,jd (by omega)]
 rw [hb];clear hb e;generalize Lib.indexByte s 46=k at *
 simp [OK];apply ab IX;simp
theorem N9 (s:List UInt8):(JA s).1<4294967296:=by
 have h: ∀a b,(jT a b).1<4294967296:=fun a b=>by
  unfold jT;split
  ·simp
  ·split
   ·simp
   ·exact Nat.mod_lt _ (by decide)
 unfold JA;split
 ·simp
 ·split
  ·exact h _ _
  ·exact h _ _
theorem ua: ∀(l:List UInt8) (dg:Bool) (n la sm:Nat) (fr:Bool),sm≤253402300799→(xE l dg n la sm fr).1≤253402300799
 |[],dg,n,la,sm,fr,h=>by
  rw [xE];split
  ·simp
  ·split
   ·simp
   ·exact h
 |c::l,dg,n,la,sm,fr,h=>by
  rw [xE];split
  ·exact ua l _ _ _ _ _ h
  ·split
   ·simp
   ·split
    ·exact ua l _ _ _ _ _ h
    ·split
     ·exact ua l _ _ _ _ _ (by omega)
     ·exact ua l _ _ _ _ _ (by omega)
theorem JD (s:List UInt8):(kH s).1≤253402300799:=by
 rw [AD];unfold vQ;split
 ·simp
 ·exact ua _ _ _ _ _ _ (by omega)
theorem oS (v:TV):dY v.av=some v.av:=by cases v<;>simp [TV.av]
def vR (w:List UInt8):Int:=if w=[] then 32 else kz (ak w 0).1
def sV (w:List UInt8):TV:=
 if cT (vR w)=false then (if du w=true then .t 1 w 0 else .e 5)
 else if w.all aC=true then bZ 3 (kA w)
 else if gS w [37]=true then bZ 5 (JA w)
 else if qP 46 w=true then bZ 4 (C5 (w.takeWhile (bW 46)) (w.drop ((w.takeWhile (bW 46)).length+1)))
 else bZ 6 (kH w)
theorem qF (w:List UInt8) (hl:w.length≤900000):Sp Tryz.prog gl 109 [.str w] (sV w).av:=by
 refine Rk rfl rfl ?_;have D:=qy (vR w);have NM:=nf w hl;have TR:=nr w (by omega);have TN:=pU w;have NU:=oN w (by omega);have HS:=oO w [37] (by omega) (by simp);have PP:=AH w (by omega);have CC:=Ge w;have SP:=Da w (by omega);have FA:=fun h=>xL w (by omega) h
 have pl:=N9 w;have sl:=JD w;have T5:=nq 5 (JA w).1 (JA w).2;have T6:=nq 6 (kH w).1 (kH w).2;have T3:=nq 3 (kA w).1 0;have hb:qP 46 w=true→(w.takeWhile (bW 46)).length<w.length:=fun h=>by unfold qP at h;exact AO h
 unfold sV;generalize bZ 4 (C5 (w.takeWhile (bW 46)) (w.drop ((w.takeWhile (bW 46)).length+1)))=f4 at *
 generalize qP 46 w=has at *
 generalize gS w [37]=suf at *
 generalize Lib.trimS w [48,49,50,51,52,53,54,55,56,57]=tr at *
 generalize JA w=q5 at *
 generalize kH w=q6 at *
 generalize kA w=q3 at *
 generalize du w=nm at *
 obtain ⟨n5,e5⟩:=q5;obtain ⟨n6,e6⟩:=q6;obtain ⟨n3,e3⟩:=q3;dsimp only at PP SP T5 T6 T3 pl sl;have w5:IntKind.u64.wrap (n5:Int)=n5:=by rw [a6]<;>omega
 have w6:IntKind.u64.wrap (n6:Int)=n6:=by rw [a6]<;>omega
 obtain ⟨R,hR⟩: ∃R:TV,R=if cT (vR w)=false then (if nm=true then .t 1 w 0 else .e 5)
  else if w.all aC=true then bZ 3 (n3,e3)
  else if suf=true then bZ 5 (n5,e5)
  else if has=true then f4
  else bZ 6 (n6,e6):=⟨_,rfl⟩
 rw [←hR];have i3w:IntKind.i32.wrap 32=32:=by decide
 simp [OD];refine aP (α:=Nat) (fun _=>⟨[(0,.str w),(2,.nili),(3,i3 32),(13,.itp 13)],[(.it 13,[.itr w 0])],[]⟩) (fun _=>True) (fun _=>1) ?_ 0 trivial ?_
 ·rintro K _ hK _;clear hK;by_cases e:w=[]
  ·have ev:vR w=32:=if_pos e;subst e;rw [ev] at D hR;rw [show cT 32=false from rfl] at D hR;rw [if_pos rfl] at hR;clear T3 T5 T6 FA SP CC PP HS NU TR;cases nm
   ·rw [if_neg (by decide)] at hR;subst hR;unfold TV.av;simp;apply ab D;simp;apply ab NM;simp
   ·rw [if_pos rfl] at hR;subst hR;unfold TV.av;simp;apply ab D;simp;apply ab NM;simp;apply ab D;simp
  have g:0<w.length:=xO.2 e;have ev:vR w=kz (ak w 0).1:=if_neg e;have sr:=oI w 0 g;rw [←ev] at sr;clear ev;generalize vR w=r at *
  generalize (ak w 0).2=wd at *
  cases hd:cT r
  ·rw [hd] at D hR;rw [if_pos rfl] at hR;clear T3 T5 T6 FA SP CC PP HS NU TR;cases nm
   ·rw [if_neg (by decide)] at hR;subst hR;unfold TV.av;simp [g,sr];apply ab D;simp;apply ab NM;simp
   ·rw [if_pos rfl] at hR;subst hR;unfold TV.av;simp [g,sr];apply ab D;simp;apply ab NM;simp;apply ab D;simp
  rw [hd] at D hR;rw [if_neg (by decide)] at hR;clear NM;cases ha:w.all aC
  ·rw [ha] at TN hR;have k1:(tr==[])=false:=TN;have k2: ¬tr=[]:=fun h=>by rw [h] at TN;cases TN
   have k3:tr.isEmpty=false:=by rw [List.isEmpty_eq_false_iff];exact k2
   rw [if_neg (by decide)] at hR;clear T3 NU;cases suf
   ·rw [if_neg (by decide)] at hR;clear T5 PP;cases has
    ·rw [if_neg (by decide)] at hR;subst hR;have hsh:=oS (bZ 6 (n6,e6));generalize (bZ 6 (n6,e6)).av=out at *
     clear FA;simp [g,sr];apply ab D;simp;apply ab D;simp;apply ab TR;simp [k1,k2,k3];apply ab HS;simp;apply ab CC;simp;apply ab SP;simp [w6];refine aB _ _ ((T6.h)) ?_;simp [hsh]
    ·rw [if_pos rfl] at hR;subst hR;have FA:=FA (hb rfl);have hsh:=oS R;generalize R.av=out at *
     clear T6 SP;simp [g,sr];apply ab D;simp;apply ab D;simp;apply ab TR;simp [k1,k2,k3];apply ab HS;simp;apply ab CC;simp;refine aB _ _ ((FA.h)) ?_;simp [hsh]
   ·rw [if_pos rfl] at hR;subst hR;have hsh:=oS (bZ 5 (n5,e5));generalize (bZ 5 (n5,e5)).av=out at *
    clear FA T6 SP CC;simp [g,sr];apply ab D;simp;apply ab D;simp;apply ab TR;simp [k1,k2,k3];apply ab HS;simp;apply ab PP;simp [w5];refine aB _ _ ((T5.h)) ?_;simp [hsh]
  ·rw [ha] at TN hR;have k2:tr=[]:=by simpa using TN
   subst k2;rw [if_pos rfl] at hR;subst hR;clear FA T6 SP CC T5 PP HS;unfold Ls at NU;dsimp only at NU;by_cases c3:e3=0
   ·subst c3;rw [if_pos rfl] at NU;have hsh:=oS (bZ 3 (n3,0));generalize (bZ 3 (n3,0)).av=out at *
    simp [g,sr];apply ab D;simp;apply ab D;simp;apply ab TR;simp;refine aB _ _ ((NU.h)) ?_;simp;refine aB _ _ ((T3.h)) ?_;simp [hsh]
   ·rw [if_neg c3] at NU;have et:(bZ 3 (n3,e3))= .e e3:=by unfold bZ;rw [if_neg c3]
    rw [et];unfold TV.av;clear T3;simp [g,sr];apply ab D;simp;apply ab D;simp;apply ab TR;simp;refine aB _ _ ((NU.h)) ?_;simp;refine aB _ _ ((NU.h)) ?_;simp
 ·apply ae<;>simp
def Dd (s:List UInt8):TV:=
 if iO s=true then bZ 3 (kA s)
 else if aX s (s.length - 1)=37 then bZ 5 (JC s)
 else if qP 46 s=true then bZ 4 (C5 (s.takeWhile (bW 46)) (s.drop ((s.takeWhile (bW 46)).length+1)))
 else bZ 6 (vQ s)
def rV (m:List Int):TV:=
 if m=[]∨cT (m.headD 0)=false then (if du (au m)=true then .t 1 (au m) 0 else .e 5)
 else Dd (au m)
open Go.Shelf
def nu:Ren:={
 f:=fun x=>match x with
  |168=>124
  |242=>164
  |278=>198
  |n=>bh.f n
 t:=fun x=>match x with
  |21=>21
  |46=>173
  |51=>39
  |n=>bh.t n
 g:=fun x=>x}
set_option maxRecDepth 100000 in
theorem Oa:Lays.n168 Tryz.prog nu where
 mixed:=ax.mixed
 f168:=Eq.trans Tryz.func124 (congrArg some (show Tryz.f124=Body.n168 nu by kernel_rfl))
 f240:=Eq.trans Tryz.func133 (congrArg some (show Tryz.f133=Body.n240 nu by kernel_rfl))
 f242:=Eq.trans Tryz.func164 (congrArg some (show Tryz.f164=Body.n242 nu by kernel_rfl))
 f276:=Eq.trans Tryz.func175 (congrArg some (show Tryz.f175=Body.n276 nu by kernel_rfl))
 f278:=Eq.trans Tryz.func198 (congrArg some (show Tryz.f198=Body.n278 nu by kernel_rfl))
 t0:=ax.t0
 a0:=ax.a0
 z0:=ax.z0
 v0:=ax.v0
 t3:=ax.t3
 a3:=ax.a3
 z3:=ax.z3
 v3:=ax.v3
 t4:=ax.t4
 a4:=ax.a4
 z4:=ax.z4
 v4:=ax.v4
 t5:=eC.t5
 a5:=eC.a5
 z5:=eC.z5
 v5:=eC.v5
 t9:=ax.t9
 a9:=ax.a9
 z9:=ax.z9
 v9:=ax.v9
 t20:=ax.t20
 a20:=ax.a20
 z20:=ax.z20
 v20:=ax.v20
 t21:=Tryz.underlying21
 a21:=Tryz.isAgg21
 z21:=Tryz.sizeOf21
 v21:=Tryz.zeroValue21
 t37:=ax.t37
 a37:=ax.a37
 z37:=ax.z37
 v37:=ax.v37
 t46:=Tryz.underlying173
 a46:=Tryz.isAgg173
 z46:=Tryz.sizeOf173
 v46:=Tryz.zeroValue173
 t51:=Tryz.underlying39
 a51:=Tryz.isAgg39
 z51:=Tryz.sizeOf39
 v51:=Tryz.zeroValue39
 t70:=ax.t70
 a70:=ax.a70
 z70:=ax.z70
 v70:=ax.v70
 t72:=ax.t72
 a72:=ax.a72
 z72:=ax.z72
 v72:=ax.v72
 t75:=ax.t75
 a75:=ax.a75
 z75:=ax.z75
 v75:=ax.v75
 t164:=ax.t164
 a164:=ax.a164
 z164:=ax.z164
 v164:=ax.v164
theorem Ob:Builder.Extra Tryz.prog nu where
 sizeBuilder:=by kernel_rfl
 liesBuilder:=by kernel_rfl
 t5:=Tryz.underlying5
 a5:=Tryz.isAgg5
 z5:=Tryz.sizeOf5
 v5:=Tryz.zeroValue5
 infoByte:=by kernel_rfl
 cellsByte:=by kernel_rfl
 sizeByte:=by kernel_rfl
 neB5:=by decide
theorem De (r:Nat) (h:r≤1114111):ee (r:Int)→Lib.byteCells (cX r)=Lib.runeCells (r:Int):=by
 intro hr;have b8: ∀n:Nat,n<256→((UInt8.ofNat n).toNat:Int)=n:=fun n hn=>by rw [UInt8.toNat_ofNat_of_lt' (by simpa using hn)]
 unfold cX Lib.byteCells Lib.runeCells;by_cases c1:r<128
 ·rw [if_pos c1,Lib.encodeRuneZ_one (by omega) (by omega)];simp only [iP,xQ,b8 r (by omega)]
 rw [if_neg c1];by_cases c2:r<2048
 ·rw [if_pos c2,Lib.encodeRuneZ_two (by omega) (by omega)];simp only [iP,xQ,b8 (192+r / 64) (by omega),b8 (128+r%64) (by omega)];rfl
 rw [if_neg c2];by_cases c3:r<65536
 ·rw [if_pos c3,Lib.encodeRuneZ_three (by rcases hr with h|h<;>omega)];simp only [iP,xQ,b8 (224+r / 4096) (by omega),b8 (128+r / 64%64) (by omega),b8 (128+r%64) (by omega)];rfl
 rw [if_neg c3,Lib.encodeRuneZ_four (by omega) (by omega)];simp only [iP,xQ,b8 (240+r / 262144) (by omega),b8 (128+r / 4096%64) (by omega),b8 (128+r / 64%64) (by omega),b8 (128+r%64) (by omega)];rfl
theorem oT {d:Nat} {b:Id} (hit:b.isIt=false) (hnwb:b.isNw d=false) {T n:Nat} (hT:hZ Tryz.prog 69 T n) {c0:AV} (hc0:c0= .nilT b T n∨c0= .ptr b 0) (rest:List AV) (l:List UInt8) (r:Nat) (hr:ee (r:Int)) (h:r≤1114111) (hl:l.length+4≤140737488355328):
  cB Tryz.prog gl 124 d ⟨[.ptr b 0,.int .i32 r],[(b,c0:: .sl (ag l)::rest)],[(.b b 1,bk 5)]⟩ ⟨.tup [.int .i64 (cX r).length,.undef],[(b,.ptr b 0:: .sl (ag (l++cX r))::rest)],[(.b b 1,bk 5)]⟩:=
 GU Oa Ob (by kernel_rfl) (by kernel_rfl) hit hnwb (T:=T) (n:=n) (hc0.imp (fun h=>⟨h,hT⟩) id) (rest:=rest) l (cX r) r hr (De r h hr) hl
def nv (r:Int):Int:=if cT r=true then r - 48 else if 97≤r∧r≤102 then r - 87 else -1
theorem Gf (r:Int):Sp Tryz.prog gl 247 [i3 r] (i3 (nv r)):=by
 refine Sz rfl rfl ?_;have D:=i7 r;unfold nv;cases hd:cT r
 ·rw [hd] at D;rw [if_neg (by decide)];by_cases c1:97≤r
  ·by_cases c2:r≤102
   ·rw [if_pos ⟨c1,c2⟩];have t1:IntKind.i32.wrap (r - 97)=r - 97:=by rw [aR]<;>omega
    have t2:IntKind.i32.wrap (r - 97+10)=r - 87:=by rw [aR]<;>omega
    simp [GG];apply ab D;simp [c1,c2,t1,t2]
   ·rw [if_neg (fun h=>c2 h.2)];simp [GG];apply ab D;simp [c1,c2]
  ·rw [if_neg (fun h=>c1 h.1)];simp [GG];apply ab D;simp [c1]
 ·rw [hd] at D;rw [if_pos rfl];have hh:48≤r∧r≤57:=by unfold cT at hd;exact AO hd
  have t1:IntKind.i32.wrap (r - 48)=r - 48:=by rw [aR]<;>omega
  simp [GG];apply ab D;simp [t1]
def jp (r:Int):Bool:=decide (0≤r∧r<55296)||decide (57343<r∧r≤1114111)
theorem ub (r:Int):jp r=true↔ee r:=by
 unfold jp ee;rw [EE,kO,kO]
theorem Df (r:Int):Sp Tryz.prog gl 239 [i3 r] (.bool (jp r)):=by
 refine O7 rfl rfl ?_;unfold jp;by_cases d1:0≤r
 ·by_cases d2:r<55296
  ·simp [xY,d1,d2]
  ·by_cases c1:57343<r
   ·by_cases c2:r≤1114111
    ·simp [xY,d1,d2,c1,c2]
    ·simp [xY,d1,d2,c1,c2]
   ·simp [xY,d1,d2,c1]
 ·have d2: ¬57343<r:=by omega
  simp [xY,d1,d2]
end Go.Ai
