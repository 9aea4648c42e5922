/- P5: a part of the proof. Conditions: as each theorem says. -/
import Derived.Test.YtojgeamhdkphaaaGreatDoorP4
import Derived.Test.YtojgeamhdkphaaaGreatDoorLib10
import Derived.Shelf.Strings.BuilderK
import Derived.Shelf.Strings.SlTrimAscii
import Derived.Shelf.Lays
import Derived.Shelf.LaysM
import Derived.Shelf.Small.Wraps
import Derived.Shelf.Strings.BuilderX
import Derived.Shelf.Strings.SplitCore
import Derived.Shelf.Unicode.ValidAny
set_option linter.unusedSimpArgs false
set_option linter.unusedVariables false
set_option maxRecDepth 20000
namespace Go.Ai
open Go.Proofs
theorem HK {n:Int} (h1: -2147483648<=n) (h2:n<2147483648):IntKind.i32.wrap n=n:=by
 have e1:(2:Int)^32=4294967296:=by decide
 have e2:(2:Int)^(32 - 1)=2147483648:=by decide
 have:IntKind.i32.wrap n=if (true&&decide (n%2^32>=2^(32 - 1)))=true then n%2^32 - 2^32 else n%2^32:=rfl
 rw[this];simp only[e1,e2,iX,nL];split<;>omega
theorem wU (r:List UInt8) (a:Nat):a<=r.foldl (fun a b=>10*a+(b.toNat - 48)) a:=by
 induction r generalizing a with
 |nil=>exact gp _
 |cons x r ih=>simp only[List.foldl_cons];exact jH (by omega) (ih _)
theorem tZ (s:List UInt8) (i:Nat):bj (s.take i)<=bj s:=by
 have h:=wU (s.drop i) (bj (s.take i))
 have:bj s=(s.drop i).foldl (fun a b=>10*a+(b.toNat - 48)) (bj (s.take i)):=by
  unfold bj;rw[<-List.foldl_append,IQ]
 omega
theorem Bz (s:List UInt8) (hl:s.length<=1000000):Sp Tryz.prog gl 124 [.str s] (.tup [wide (iL s).1,i6 (iL s).2]):=by
 refine PM rfl rfl ?_;have e0:wide 0= .agg [u 0,u 0]:=rfl;have D:=wS s hl;cases hok:eY s with
 |false=>
  rw[hok] at D;rw[Ep hok,e0];simp[K9];refine aZ _ D ?_;simp
 |true=>
  rw[hok] at D;have hall:s.all bF=true:=by
   unfold eY at hok;simp only[aL] at hok;exact hok.1.2
  have res:iL s=if bj s<340282366920938463463374607431768211456 then (bj s,0) else (0,3):=by unfold iL;rw[if_pos hok]
  have rbad: ¬bj s<340282366920938463463374607431768211456->AV.tup [wide (iL s).1,i6 (iL s).2]= .tup [.agg [u 0,u 0],i6 3]:=fun h=>by rw[res,if_neg h,e0];rfl
  have rgood:bj s<340282366920938463463374607431768211456->AV.tup [wide (iL s).1,i6 (iL s).2]= .tup [wide (bj s),i6 0]:=fun h=>by rw[res,if_pos h];rfl
  clear res;generalize AV.tup [wide (iL s).1,i6 (iL s).2]=R at*;simp[K9];refine aZ _ D ?_;simp;refine aY (α:=Nat) (fun i=>⟨[(0,.str s),(2,.ptr (.n 2) 0),(4,.ptr (.n 4) 0),(14,.itp 14)],[(.n 2,[u 0,u 0]),(.n 4,[u (bj (s.take i) / 18446744073709551616),u (bj (s.take i)%18446744073709551616)]),(.it 14,[.itr s i])],[]⟩)
   (fun i=>i<=s.length/\bj (s.take i)<340282366920938463463374607431768211456) (fun i=>s.length - i) ?_ 0 ?_ ?_
  ·rintro K i hK ⟨h1,h3⟩;by_cases g:i<s.length
   ·have hd:bF s[i]=true:=iW.1 hall _ (o9 g);simp only[bF,nL] at hd;have ut:=By s i g;have ul:=tZ s (i+1);have r:=C9 g (by omega);have fin:bj (s.take (i+1))<340282366920938463463374607431768211456-> ∀σ',fx σ' ⟨[(0,.str s),(2,.ptr (.n 2) 0),(4,.ptr (.n 4) 0),(14,.itp 14)],[(.n 2,[u 0,u 0]),(.n 4,[u (bj (s.take (i+1)) / 18446744073709551616),u (bj (s.take (i+1))%18446744073709551616)]),(.it 14,[.itr s (i+1)])],[]⟩->K σ':=
     fun h σ' hσ=>hK (i+1) σ' ⟨by omega,h⟩ (by omega) hσ
    generalize bj (s.take (i+1))=n2,bj (s.take i)=n1 at*;obtain ⟨x,hsx⟩: ∃x,s[i]=x:=⟨_,rfl⟩;simp only[hsx] at hd ut r;obtain ⟨dg,hdg⟩: ∃dg,dg=x.toNat - 48:=⟨_,rfl⟩;rw[<-hdg] at ut;have w1:IntKind.i32.wrap ((x.toNat:Int) - 48)=dg:=by rw[HK]<;>omega
    have w2:IntKind.u64.wrap (dg:Int)=dg:=by rw[eU]<;>omega
    have M:=Bv n1 10 h3 (by omega);clear hK rgood;by_cases o1:n1*10<340282366920938463463374607431768211456
    ·rw[if_pos o1] at M;have A:=p0 (n1*10) dg o1 (by omega);have wd:wide dg= .agg [u 0,u dg]:=by unfold wide;rw[Nat.div_eq_of_lt (by omega),Mo (by omega)]
     rw[wd] at A;have en:n1*10+dg=n2:=by omega
     rw[en] at A;by_cases o2:n2<340282366920938463463374607431768211456
     ·rw[if_pos o2] at A;have fin:=fin o2;unfold wide at M A;clear ut en ul rbad h3 o1 o2 hdg;generalize n1*10 / 18446744073709551616=a1,n1*10%18446744073709551616=a2,n1 / 18446744073709551616=b1,n1%18446744073709551616=b2,n2 / 18446744073709551616=d1,n2%18446744073709551616=d2 at*;simp[g,r];refine aZ _ M ?_;simp;rw[w1,w2];refine aZ _ A ?_;simp;refine fin _ ?_;apply aj<;>simp
     ·rw[if_neg o2] at A
      have:=rbad (by omega)
      subst this;unfold wide at M A;clear ut en ul rbad h3 o1 o2 hdg fin;generalize n1*10 / 18446744073709551616=a1,n1*10%18446744073709551616=a2,n1 / 18446744073709551616=b1,n1%18446744073709551616=b2 at*;simp[g,r];refine aZ _ M ?_;simp;rw[w1,w2];refine aZ _ A ?_;simp
    ·rw[if_neg o1] at M
     have:=rbad (by omega)
     subst this;unfold wide at M;clear ut ul rbad h3 o1 hdg fin;generalize n1 / 18446744073709551616=b1,n1%18446744073709551616=b2 at*;simp[g,r];refine aZ _ M ?_;simp
   ·obtain rfl:i=s.length:=by omega
    rw[pr] at h3 ⊢
    have:=rgood h3
    subst this;unfold wide;clear hK rbad rgood;generalize bj s / 18446744073709551616=a1,bj s%18446744073709551616=a2 at*;simp
  ·simp[bj]
  ·apply aj<;>simp[bj]
def ma (s:List UInt8):Nat×Int:=if eY s=true then (if bj s<18446744073709551616 then (bj s,0) else (0,8)) else (0,5)
theorem Er (s:List UInt8):(eY s=false/\iL s=(0,5)/\ma s=(0,5))\/(eY s=true/\bj s<18446744073709551616/\iL s=(bj s,0)/\ma s=(bj s,0))\/
  (eY s=true/\18446744073709551616<=bj s/\bj s<340282366920938463463374607431768211456/\iL s=(bj s,0)/\ma s=(0,8))\/(iL s=(0,3)/\ma s=(0,8)):=by
 unfold iL ma;by_cases c:eY s=true
 ·by_cases c1:bj s<18446744073709551616
  ·right;left;refine ⟨c,c1,?_,?_⟩
   ·rw[if_pos c,if_pos (by omega)]
   ·rw[if_pos c,if_pos c1]
  ·by_cases c2:bj s<340282366920938463463374607431768211456
   ·right;right;left;refine ⟨c,by omega,c2,?_,?_⟩
    ·rw[if_pos c,if_pos c2]
    ·rw[if_pos c,if_neg c1]
   ·right;right;right;refine ⟨?_,?_⟩
    ·rw[if_pos c,if_neg c2]
    ·rw[if_pos c,if_neg c1]
 ·left;have c':eY s=false:=by simpa using c
  refine ⟨c',?_,?_⟩
  ·rw[if_neg c]
  ·rw[if_neg c]
def J2 (q:Nat×Int):AV:=if q.2=0 then .ifc 56 (u q.1) else .ifc 37 (i6 q.2)
theorem oR (s:List UInt8) (hl:s.length<=1000000):Sp Tryz.prog gl 100 [.str s] (J2 (ma s)):=by
 refine PD rfl rfl ?_;have R:=Bz s hl;unfold J2;rcases Er s with ⟨_,h1,h2⟩|⟨_,h0,h1,h2⟩|⟨_,h0,h3,h1,h2⟩|⟨h1,h2⟩
 ·rw[h1] at R;rw[h2,if_neg (by decide)];unfold wide at R;simp[E7];apply ab R;simp
 ·rw[h1] at R;rw[h2,if_pos rfl];unfold wide at R;have e1:bj s / 18446744073709551616=0:=Nat.div_eq_of_lt h0;have e2:bj s%18446744073709551616=bj s:=Mo h0;simp only[e1,e2] at R;generalize bj s=n at*;simp[E7];apply ab R;simp
 ·rw[h1] at R;rw[h2,if_neg (by decide)];unfold wide at R;obtain ⟨hi,e1⟩: ∃hi,hi=bj s / 18446744073709551616:=⟨_,rfl⟩;have e2:0<hi:=by omega
  have e2':(0:Int)<hi:=by omega
  dsimp only at R;rw[<-e1] at R;generalize bj s%18446744073709551616=lo at*;clear e1 h0 h3 h1 h2;simp[E7];apply ab R;simp[e2,e2']
 ·rw[h1] at R;rw[h2,if_neg (by decide)];unfold wide at R;simp[E7];apply ab R;simp
def di (k:Int) (q:Nat×Int):TV:=if q.2=0 then .t k [] q.1 else .e q.2
theorem nH (k:Int) (n:Nat) (e:Int):Sp Tryz.prog gl 101 [i6 k,u n,i6 e] (di k (n,e)).av:=by
 refine PE rfl rfl ?_;unfold di;by_cases c:e=0
 ·subst c;rw[if_pos rfl];unfold TV.av;simp[K6]
 ·have c1:(e !=0)=true:=bne_iff_ne.2 c;have c2:(e==0)=false:=bJ.2 c;rw[if_neg c];unfold TV.av;simp[K6,c1,c2,c]
def wV (s:List UInt8):Bool:=s.all bF&&decide (0<s.length)
def bX (r:Int):Nat:=if r=119 then 604800 else if r=100 then 86400 else if r=104 then 3600 else if r=109 then 60 else if r=115 then 1 else 0
theorem HL (r:Int):bX r<=604800:=by
 unfold bX;repeat' split
 all_goals omega
theorem BA (r:Int):Sp Tryz.prog gl 155 [i3 r] (i6 (bX r)):=by
 refine Qb rfl rfl ?_;unfold bX;have ne: ∀z:Int,¬r=z->(r==z)=false:=fun z h=>bJ.2 h
 by_cases c1:r=119
 ·subst c1;simp[Al]
 rw[if_neg c1];by_cases c2:r=100
 ·subst c2;simp[Al]
 rw[if_neg c2];by_cases c3:r=104
 ·subst c3;simp[Al]
 rw[if_neg c3];by_cases c4:r=109
 ·subst c4;simp[Al]
 rw[if_neg c4];by_cases c5:r=115
 ·subst c5;simp[Al]
 rw[if_neg c5];simp[Al,c1,c2,c3,c4,c5,ne _ c1,ne _ c2,ne _ c3,ne _ c4,ne _ c5]
def EZ:List UInt8->Bool->Nat->Nat->Nat->Bool->Nat×Int
 |[],dg,n,la,sm,fr=>if dg=true then (0,5) else if fr=true then (0,8) else (sm,0)
 |c::l,dg,n,la,sm,fr=>
  if bF c=true then EZ l true (if n<=253402300799 then 10*n+(c.toNat - 48) else n) la sm fr
  else if dg=false\/bX c.toNat=0\/la<=bX c.toNat then (0,5)
  else if 253402300799 / bX c.toNat<n then EZ l false 0 (bX c.toNat) sm true
  else if 253402300799<sm+n*bX c.toNat then EZ l false 0 (bX c.toNat) 0 true
  else EZ l false 0 (bX c.toNat) (sm+n*bX c.toNat) fr
def Da (s:List UInt8):Nat×Int:=if s=[] then (0,5) else EZ s false 0 1000000 0 false
def mb (s t:List UInt8):Bool:=decide (t.length<=s.length)&&(s.drop (s.length - t.length)==t)
theorem qA (s t:List UInt8) (hl:s.length<=1000000) (ht:t.length<=1000000):Sp Tryz.prog gl 125 [.str s,.str t] (.bool (mb s t)):=by
 refine PO rfl rfl ?_;unfold mb;by_cases g:t.length<=s.length
 ·have g':(t.length:Int)<=s.length:=by omega
  have w:IntKind.i64.wrap ((s.length:Int) - (t.length:Int))=(s.length - t.length:Nat):=by rw[ay]<;>omega
  have gm:s.length - t.length<=s.length:=Nat.sub_le _ _;rw[jm g,iX];generalize s.length - t.length=m at*;simp[La,g,g',w,gm]
 ·have g': ¬(t.length:Int)<=s.length:=by omega
  rw[ik g,jC];simp[La,g,g']
theorem oS (s t:List UInt8) (hl:s.length<=1000000) (ht:t.length<=1000000):Sp Tryz.prog gl 102 [.str s,.str t] (.bool (mb s t)):=by
 refine PF rfl rfl ?_;have H:=qA s t hl ht;generalize mb s t=b at*;simp[MM];apply ab H;simp
def dY (s t:List UInt8):List UInt8:=if mb s t=true then s.take (s.length - t.length) else s
theorem wW (s t:List UInt8) (hl:s.length<=1000000) (ht:t.length<=1000000):Sp Tryz.prog gl 145 [.str s,.str t] (.tup [.str (dY s t),.bool (mb s t)]):=by
 refine P4 rfl rfl ?_;have H:=qA s t hl ht;have k:mb s t=true->t.length<=s.length:=fun h=>by
  unfold mb at h;rw[aL,IM] at h;exact h.1
 unfold dY;have w:t.length<=s.length->IntKind.i64.wrap ((s.length:Int) - (t.length:Int))=(s.length - t.length:Nat):=fun h=>by rw[ay]<;>omega
 have gm:s.length - t.length<=s.length:=Nat.sub_le _ _;cases hb:mb s t
 ·rw[hb] at H;simp[Ld];apply ab H;simp
 ·rw[hb] at H;have w':=w (k hb);generalize s.length - t.length=m at*;simp[Ld];apply ab H;simp[w',gm]
theorem zG (s t:List UInt8) (hl:s.length<=1000000) (ht:t.length<=1000000):Sp Tryz.prog gl 126 [.str s,.str t] (.tup [.str (dY s t),.bool (mb s t)]):=by
 refine PQ rfl rfl ?_;have H:=wW s t hl ht;generalize dY s t=a,mb s t=b at*;simp[MP];apply ab H;simp
theorem zH (s:List UInt8) (hl:s.length<=1000000):Sp Tryz.prog gl 147 [.str s] (i6 (aC s 0).length):=by
 refine P6 rfl rfl ?_;obtain ⟨R,hR⟩: ∃R,R=(aC s 0).length:=⟨_,rfl⟩;rw[<-hR];simp[MY];refine aY (α:=Nat×Nat) (fun x=>⟨[(2,i6 x.2),(4,.itp 4)],[(.it 4,[.itr s x.1])],[]⟩)
  (fun x=>x.2<=x.1/\x.1<=s.length/\x.2+(aC s x.1).length=R) (fun x=>s.length - x.1) ?_ (0,0) ?_ ?_
 ·rintro K ⟨i,n⟩ hK ⟨h1,h2,h3⟩;simp only at h1 h2 h3;by_cases g:i<s.length
  ·rw[bW g,jG] at h3;have sr:=hY s i g;have sl:=kN s i g;have sp:=cX s i;have t1:IntKind.i64.wrap ((n:Int)+1)=(n+1:Nat):=by rw[ay]<;>omega
   have fin: ∀σ',fx σ' ⟨[(2,i6 (n+1:Nat)),(4,.itp 4)],[(.it 4,[.itr s (i+(ax s i).2)])],[]⟩->K σ':=
    fun σ' hσ=>hK (i+(ax s i).2,n+1) σ' ⟨by simp only;omega,sl,by simp only;omega⟩ (by simp only;omega) hσ
   clear hK hR h3;by_cases hb:(ax s i).1= -1
   ·rw[if_pos hb] at sr;rw[sO s i hb] at fin;clear sl sp;simp[g,sr];refine fin _ ?_;apply aj<;>simp[t1]
   ·rw[if_neg hb] at sr;have esr:(ax s i)=((ax s i).1,(ax s i).2):=rfl;rw[esr] at sr;clear esr hb sl sp;generalize (ax s i).1=r,(ax s i).2=w at*;simp[g,sr];refine fin _ ?_;apply aj<;>simp[t1]
  ·rw[bp g] at h3;have h3':n=R:=by simpa using h3
   subst h3';clear hK;simp[g]
 ·exact ⟨gp _,gN _,by simp only;omega⟩
 ·apply aj<;>simp
def IC (l:List UInt8) (i:Nat):Nat:=match l[i]? with |some b=>b.toNat - 48|none=>0
def BB (l:List UInt8):Nat->Nat
 |0=>0
 |i+1=>10*BB l i+IC l i
def HM (hd tail:List UInt8):Nat×Int:=
 if wV tail=false\/3<tail.length then (0,5)
 else if (ma hd).2≠0 then (0,(ma hd).2)
 else if (18446744073709551615 - BB tail 3) / 1000<(ma hd).1 then (0,8)
 else (1000*(ma hd).1+BB tail 3,0)
theorem J3 (s:List UInt8):(ma s).1<18446744073709551616:=by
 unfold ma;repeat' split
 all_goals first|assumption|omega
theorem L7 {l:List UInt8} {i:Nat} (h:i<l.length):IC l i=l[i].toNat - 48:=by
 unfold IC;rw[vy h]
theorem J4 {l:List UInt8} {i:Nat} (h: ¬i<l.length):IC l i=0:=by
 unfold IC;rw[IS (by omega)]
theorem HN (l:List UInt8) (h: ∀i,IC l i<=9): ∀i,BB l i<10^i
 |0=>Nat.one_pos
 |i+1=>by
  have h1:=HN l h i;have h2:=h i;rw[BB,Nat.pow_succ];omega
theorem J5 {l:List UInt8} (h:wV l=true) (i:Nat):IC l i<=9:=by
 by_cases g:i<l.length
 ·rw[L7 g];unfold wV at h;rw[aL] at h
  have:=iW.1 h.1 _ (o9 g)
  unfold bF at this;rw[IM] at this;omega
 ·rw[J4 g];omega
def zI:List Int->Nat->Option Nat
 |[],n=>some n
 |r::l,n=>if 48<=r/\r<=57 then zI l ((n*10%4294967296+(r - 48).toNat)%4294967296) else none
def Es:Nat->Nat->Nat
 |0,n=>n
 |k+1,n=>Es k (n*10%4294967296)
def ID (l:List Int) (most:Nat):Nat×Bool:=
 match zI l 0 with
 |none=>(0,false)
 |some n=>if l=[]\/most<l.length then (0,false) else (Es (most - l.length) n,true)
def zJ (e:Bool) (n:Option Nat) (m:Int):Nat×Bool:=
 match n with
 |none=>(0,false)
 |some n=>if e=true\/m<0 then (0,false) else (Es m.toNat n,true)
theorem oT (s:List UInt8) (hl:s.length<=1000000) (most:Nat) (hm:most<=1000000):
  Sp Tryz.prog gl 129 [.str s,i6 most] (.tup [.int .u32 (ID (aC s 0) most).1,.bool (ID (aC s 0) most).2]):=by
 refine PV rfl rfl ?_;obtain ⟨R,hR⟩: ∃R,R=ID (aC s 0) most:=⟨_,rfl⟩;rw[<-hR];have hR2:zJ (s==[]) (zI (aC s 0) 0) ((most:Int) - (aC s 0).length)=R:=by
  rw[hR];unfold ID zJ;cases zI (aC s 0) 0 with
  |none=>rfl
  |some n=>
   dsimp only;have e1:(s==[])=true↔aC s 0=[]:=by
    rw[cY];constructor
    ·rintro rfl;exact bp (by simp)
    ·intro h;by_cases g:0<s.length
     ·rw[bW g] at h;cases h
     ·exact IN (by omega)
   have e2:(most:Int) - (aC s 0).length<0↔most<(aC s 0).length:=by omega
   have e3:((most:Int) - (aC s 0).length).toNat=most - (aC s 0).length:=by omega
   simp only[e1,e2,e3]
 clear hR;simp[MQ];refine aY (α:=Nat×Nat×Int) (fun x=>⟨[(0,.str s),(1,i6 x.2.2),(6,.int .u32 x.2.1),(10,.itp 10)],[(.it 10,[.itr s x.1])],[]⟩)
  (fun x=>x.1<=s.length/\x.2.1<4294967296/\(most:Int) - x.1<=x.2.2/\x.2.2<=most/\zJ (s==[]) (zI (aC s x.1) x.2.1) (x.2.2 - (aC s x.1).length)=R) (fun x=>s.length - x.1) ?_ (0,0,(most:Int)) ?_ ?_
 ·rintro K ⟨i,n,m⟩ hK ⟨h1,h2,h3,h4,h5⟩;simp only at h1 h2 h3 h4 h5;by_cases g:i<s.length
  ·rw[bW g,zI,jG] at h5;have sr:=hY s i g;have sl:=kN s i g;have sp:=cX s i;have t1:IntKind.i64.wrap (m - 1)=m - 1:=by rw[ay]<;>omega
   have fin: ∀n':Nat,n'<4294967296->zJ (s==[]) (zI (aC s (i+(ax s i).2)) n') (m - 1 - (aC s (i+(ax s i).2)).length)=R->
     ∀σ',fx σ' ⟨[(0,.str s),(1,i6 (m - 1)),(6,.int .u32 n'),(10,.itp 10)],[(.it 10,[.itr s (i+(ax s i).2)])],[]⟩->K σ':=
    fun n' a1 a2 σ' hσ=>hK (i+(ax s i).2,n',m - 1) σ' ⟨sl,a1,by simp only;omega,by simp only;omega,a2⟩ (by simp only;omega) hσ
   rw[show m - ((aC s (i+(ax s i).2)).length+1:Nat)=m - 1 - (aC s (i+(ax s i).2)).length by omega] at h5;clear hK hR2;by_cases hb:(ax s i).1= -1
   ·rw[if_pos hb] at sr;rw[hb,if_neg (by omega)] at h5;have h5':R=(0,false):=by rw[<-h5];rfl
    subst h5';clear sl sp fin h5;simp[g,sr]
   ·rw[if_neg hb] at sr;have esr:(ax s i)=((ax s i).1,(ax s i).2):=rfl;rw[esr] at sr;clear esr hb sl sp;generalize (ax s i).1=r,(ax s i).2=w at*;by_cases d1:48<=r
    ·by_cases d2:r<=57
     ·rw[if_pos ⟨d1,d2⟩] at h5;have f:=fin _ (Nat.mod_lt _ (by decide)) h5;clear fin h5;have d1': ¬r<48:=by omega
      have d2': ¬57<r:=by omega
      have w1:IntKind.i32.wrap (r - 48)=r - 48:=by rw[cN]<;>omega
      have w2:IntKind.u32.wrap (r - 48)=r - 48:=by rw[rN]<;>omega
      have w3:IntKind.u32.wrap (IntKind.u32.wrap ((n:Int)*10)+(r - 48))=(((n*10%4294967296+(r - 48).toNat)%4294967296:Nat):Int):=by
       rw[gV,gV];omega
      generalize (n*10%4294967296+(r - 48).toNat)%4294967296=n' at*;simp[g,sr,d1',d2',w1,w2,w3];refine f _ ?_;apply aj<;>simp[t1,w1,w2,w3]
     ·rw[if_neg (by omega)] at h5;have h5':R=(0,false):=by rw[<-h5];rfl
      subst h5';have d1': ¬r<48:=by omega
      have d2':57<r:=by omega
      clear fin h5;simp[g,sr,d1',d2']
    ·rw[if_neg (by omega)] at h5;have h5':R=(0,false):=by rw[<-h5];rfl
     subst h5';have d1':r<48:=by omega
     clear fin h5;simp[g,sr,d1']
  ·rw[bp g,zI] at h5;clear hK hR2;have lb:((([]:List Int).length:Nat):Int)=0:=rfl;rw[lb,Int.sub_zero] at h5;unfold zJ at h5;dsimp only at h5;by_cases e:s=[]
   ·subst e;rw[if_pos (Or.inl (show (([]:List UInt8)==[])=true from rfl))] at h5;subst h5;simp[g]
   have en:(s==[])=false:=bJ.2 e;by_cases mn:m<0
   ·rw[if_pos (Or.inr mn)] at h5;subst h5;simp[g,e,en,mn]
   rw[if_neg (by rw[en];rintro (h|h);cases h;exact mn h)] at h5;simp[g,e,en,mn];obtain ⟨M,rfl⟩: ∃M:Nat,m=M:=⟨m.toNat,by omega⟩;rw[Int.toNat_natCast] at h5;refine aY (α:=Nat×Nat) (fun x=>⟨[(1,i6 x.1),(6,.int .u32 x.2)],[],[]⟩) (fun x=>x.1<=M/\x.2<4294967296/\(Es x.1 x.2,true)=R) (fun x=>x.1) ?_ (M,n) ?_ ?_
   ·rintro K ⟨k,q⟩ hK ⟨k1,k2,k3⟩;simp only at k1 k2 k3;cases k with
    |zero=>
     rw[Es] at k3;subst k3;clear hK;simp
    |succ k=>
     rw[Es] at k3;have t1:IntKind.i64.wrap (((k+1:Nat):Int) - 1)=k:=by rw[ay]<;>omega
     have w3:IntKind.u32.wrap ((q:Int)*10)=((q*10%4294967296:Nat):Int):=by
      rw[gV];omega
     have f:=fun σ' hσ=>hK (k,q*10%4294967296) σ' ⟨by simp only;omega,Nat.mod_lt _ (by decide),k3⟩ (by simp only;omega) hσ
     have k0:(0:Int)<((k+1:Nat):Int):=by omega
     clear hK k3;generalize q*10%4294967296=q',hkk:((k+1:Nat):Int)=kk at*;simp[k0,w3];refine f _ ?_;apply aj<;>simp[t1,w3]
   ·exact ⟨gp _,h2,h5⟩
   ·apply aj<;>simp
 ·exact ⟨gN _,by simp only;omega,by simp only;omega,by simp only;omega,hR2⟩
 ·apply aj<;>simp
theorem p4 (s:List UInt8) (i:Nat) (h:i<s.length):(s[i].toNat<128/\ax s i=((s[i].toNat:Int),1))\/(128<=s[i].toNat/\((ax s i).1<0\/128<=(ax s i).1)):=by
 by_cases c:s[i].toNat<128
 ·left;refine ⟨c,?_⟩;unfold ax;simp only[rZ h];rw[if_pos c]
 ·right;refine ⟨by omega,?_⟩;by_cases p:(ax s i).1<0\/128<=(ax s i).1
  ·exact p
  ·have:=zF (s:=s) (i:=i) rfl (by omega) (by omega)
   rw[rZ h] at this;omega
theorem uU (b:UInt8):bF b=true↔48<=b.toNat/\b.toNat<=57:=by
 unfold bF;rw[IM]
open Go.Shelf
def aP:Ren:={
 f:=fun x=>match x with
  |160=>99
  |232=>118
  |231=>117
  |227=>119
  |234=>121
  |233=>120
  |236=>123
  |235=>122
  |228=>139
  |271=>142
  |151=>141
  |197=>140
  |120=>164
  |152=>154
  |260=>163
  |137=>175
  |119=>176
  |224=>167
  |225=>166
  |217=>165
  |266=>182
  |n=>n
 t:=fun x=>match x with
  |9=>9
  |4=>4
  |3=>3
  |5=>5
  |117=>176
  |116=>175
  |0=>0
  |124=>179
  |21=>21
  |105=>210
  |46=>208
  |119=>204
  |139=>207
  |138=>206
  |n=>n
 g:=fun x=>match x with
  |3=>0
  |4=>1
  |n=>n}
set_option maxRecDepth 100000 in
theorem zK:Lays.n160 Tryz.prog aP where
 mixed:=by kernel_rfl
 f119:=Eq.trans Tryz.func176 (congrArg some (show Tryz.f176=Body.n119 aP by kernel_rfl))
 f120:=Eq.trans Tryz.func164 (congrArg some (show Tryz.f164=Body.n120 aP by kernel_rfl))
 f137:=Eq.trans Tryz.func175 (congrArg some (show Tryz.f175=Body.n137 aP by kernel_rfl))
 f151:=Eq.trans Tryz.func141 (congrArg some (show Tryz.f141=Body.n151 aP by kernel_rfl))
 f152:=Eq.trans Tryz.func154 (congrArg some (show Tryz.f154=Body.n152 aP by kernel_rfl))
 f160:=Eq.trans Tryz.func99 (congrArg some (show Tryz.f99=Body.n160 aP by kernel_rfl))
 f197:=Eq.trans Tryz.func140 (congrArg some (show Tryz.f140=Body.n197 aP by kernel_rfl))
 f217:=Eq.trans Tryz.func165 (congrArg some (show Tryz.f165=Body.n217 aP by kernel_rfl))
 f224:=Eq.trans Tryz.func167 (congrArg some (show Tryz.f167=Body.n224 aP by kernel_rfl))
 f225:=Eq.trans Tryz.func166 (congrArg some (show Tryz.f166=Body.n225 aP by kernel_rfl))
 f227:=Eq.trans Tryz.func119 (congrArg some (show Tryz.f119=Body.n227 aP by kernel_rfl))
 f228:=Eq.trans Tryz.func139 (congrArg some (show Tryz.f139=Body.n228 aP by kernel_rfl))
 f231:=Eq.trans Tryz.func117 (congrArg some (show Tryz.f117=Body.n231 aP by kernel_rfl))
 f232:=Eq.trans Tryz.func118 (congrArg some (show Tryz.f118=Body.n232 aP by kernel_rfl))
 f233:=Eq.trans Tryz.func120 (congrArg some (show Tryz.f120=Body.n233 aP by kernel_rfl))
 f234:=Eq.trans Tryz.func121 (congrArg some (show Tryz.f121=Body.n234 aP by kernel_rfl))
 f235:=Eq.trans Tryz.func122 (congrArg some (show Tryz.f122=Body.n235 aP by kernel_rfl))
 f236:=Eq.trans Tryz.func123 (congrArg some (show Tryz.f123=Body.n236 aP by kernel_rfl))
 f260:=Eq.trans Tryz.func163 (congrArg some (show Tryz.f163=Body.n260 aP by kernel_rfl))
 f266:=Eq.trans Tryz.func182 (congrArg some (show Tryz.f182=Body.n266 aP by kernel_rfl))
 f271:=Eq.trans Tryz.func142 (congrArg some (show Tryz.f142=Body.n271 aP by kernel_rfl))
 t0:=Tryz.underlying0
 a0:=Tryz.isAgg0
 z0:=Tryz.sizeOf0
 v0:=Tryz.zeroValue0
 t3:=Tryz.underlying3
 a3:=Tryz.isAgg3
 z3:=Tryz.sizeOf3
 v3:=Tryz.zeroValue3
 t4:=Tryz.underlying4
 a4:=Tryz.isAgg4
 z4:=Tryz.sizeOf4
 v4:=Tryz.zeroValue4
 t5:=Tryz.underlying5
 a5:=Tryz.isAgg5
 z5:=Tryz.sizeOf5
 v5:=Tryz.zeroValue5
 t9:=Tryz.underlying9
 a9:=Tryz.isAgg9
 z9:=Tryz.sizeOf9
 v9:=Tryz.zeroValue9
 t21:=Tryz.underlying21
 a21:=Tryz.isAgg21
 z21:=Tryz.sizeOf21
 v21:=Tryz.zeroValue21
 t46:=Tryz.underlying208
 a46:=Tryz.isAgg208
 z46:=Tryz.sizeOf208
 v46:=Tryz.zeroValue208
 t105:=Tryz.underlying210
 a105:=Tryz.isAgg210
 z105:=Tryz.sizeOf210
 v105:=Tryz.zeroValue210
 t116:=Tryz.underlying175
 a116:=Tryz.isAgg175
 z116:=Tryz.sizeOf175
 t117:=Tryz.underlying176
 a117:=Tryz.isAgg176
 z117:=Tryz.sizeOf176
 v117:=Tryz.zeroValue176
 t119:=Tryz.underlying204
 a119:=Tryz.isAgg204
 z119:=Tryz.sizeOf204
 t124:=Tryz.underlying179
 a124:=Tryz.isAgg179
 z124:=Tryz.sizeOf179
 v124:=Tryz.zeroValue179
 t138:=Tryz.underlying206
 a138:=Tryz.isAgg206
 z138:=Tryz.sizeOf206
 v138:=Tryz.zeroValue206
 t139:=Tryz.underlying207
 a139:=Tryz.isAgg207
 z139:=Tryz.sizeOf207
 v139:=Tryz.zeroValue207
 g3:=by kernel_rfl
 g4:=by kernel_rfl
def j9:Ren:={
 f:=fun x=>match x with
  |196=>116
  |259=>138
  |n=>n
 t:=fun x=>match x with
  |9=>9
  |4=>4
  |3=>3
  |5=>5
  |12=>12
  |119=>204
  |0=>0
  |46=>208
  |139=>207
  |138=>206
  |53=>56
  |n=>n
 g:=fun x=>match x with
  |3=>0
  |4=>1
  |n=>n}
set_option maxRecDepth 100000 in
theorem Et:Lays.n196 Tryz.prog j9 where
 mixed:=by kernel_rfl
 f196:=Eq.trans Tryz.func116 (congrArg some (show Tryz.f116=Body.n196 j9 by kernel_rfl))
 f259:=Eq.trans Tryz.func138 (congrArg some (show Tryz.f138=Body.n259 j9 by kernel_rfl))
 t0:=Tryz.underlying0
 a0:=Tryz.isAgg0
 z0:=Tryz.sizeOf0
 v0:=Tryz.zeroValue0
 t3:=Tryz.underlying3
 a3:=Tryz.isAgg3
 z3:=Tryz.sizeOf3
 v3:=Tryz.zeroValue3
 t4:=Tryz.underlying4
 a4:=Tryz.isAgg4
 z4:=Tryz.sizeOf4
 v4:=Tryz.zeroValue4
 t5:=Tryz.underlying5
 a5:=Tryz.isAgg5
 z5:=Tryz.sizeOf5
 v5:=Tryz.zeroValue5
 t9:=Tryz.underlying9
 a9:=Tryz.isAgg9
 z9:=Tryz.sizeOf9
 v9:=Tryz.zeroValue9
 t12:=Tryz.underlying12
 a12:=Tryz.isAgg12
 z12:=Tryz.sizeOf12
 v12:=Tryz.zeroValue12
 t46:=Tryz.underlying208
 a46:=Tryz.isAgg208
 z46:=Tryz.sizeOf208
 v46:=Tryz.zeroValue208
 t53:=Tryz.underlying56
 a53:=Tryz.isAgg56
 z53:=Tryz.sizeOf56
 v53:=Tryz.zeroValue56
 t119:=Tryz.underlying204
 a119:=Tryz.isAgg204
 z119:=Tryz.sizeOf204
 t138:=Tryz.underlying206
 a138:=Tryz.isAgg206
 z138:=Tryz.sizeOf206
 v138:=Tryz.zeroValue206
 t139:=Tryz.underlying207
 a139:=Tryz.isAgg207
 z139:=Tryz.sizeOf207
 v139:=Tryz.zeroValue207
 g3:=by kernel_rfl
 g4:=by kernel_rfl
def je:Ren:={
 f:=fun x=>match x with
  |103=>156
  |210=>177
  |206=>187
  |n=>n
 t:=fun x=>match x with
  |9=>9
  |4=>4
  |24=>184
  |3=>3
  |n=>n
 g:=fun x=>x}
set_option maxRecDepth 100000 in
theorem HO:Lays.n103 Tryz.prog je where
 mixed:=by kernel_rfl
 f103:=Eq.trans Tryz.func156 (congrArg some (show Tryz.f156=Body.n103 je by kernel_rfl))
 f206:=Eq.trans Tryz.func187 (congrArg some (show Tryz.f187=Body.n206 je by kernel_rfl))
 f210:=Eq.trans Tryz.func177 (congrArg some (show Tryz.f177=Body.n210 je by kernel_rfl))
 t3:=Tryz.underlying3
 a3:=Tryz.isAgg3
 z3:=Tryz.sizeOf3
 v3:=Tryz.zeroValue3
 t4:=Tryz.underlying4
 a4:=Tryz.isAgg4
 z4:=Tryz.sizeOf4
 v4:=Tryz.zeroValue4
 t9:=Tryz.underlying9
 a9:=Tryz.isAgg9
 z9:=Tryz.sizeOf9
 v9:=Tryz.zeroValue9
 t24:=Tryz.underlying184
 a24:=Tryz.isAgg184
 z24:=Tryz.sizeOf184
 v24:=Tryz.zeroValue184
structure J6 (P:Program) (ρ:Ren):Prop where
 mixed:P.follows .mixedOrders=true
 f240:P.funcs[ρ.f 240]?=some (Body.n240 ρ)
 f276:P.funcs[ρ.f 276]?=some (Body.n276 ρ)
 t0:P.underlying (ρ.t 0)=some (TypeDesc.tuple #[])
 a0: ∀w,(isAgg (ρ.t 0)).run P w= .ok false w
 z0: ∀w,(Go.sizeOf (ρ.t 0)).run P w= .ok 1 w
 v0: ∀w,(zeroValue (ρ.t 0)).run P w= .ok (Value.tuple #[]) w
 t3:P.underlying (ρ.t 3)=some (TypeDesc.int IntKind.i64)
 a3: ∀w,(isAgg (ρ.t 3)).run P w= .ok false w
 z3: ∀w,(Go.sizeOf (ρ.t 3)).run P w= .ok 1 w
 v3: ∀w,(zeroValue (ρ.t 3)).run P w= .ok (Value.int IntKind.i64 0) w
 t4:P.underlying (ρ.t 4)=some (TypeDesc.bool)
 a4: ∀w,(isAgg (ρ.t 4)).run P w= .ok false w
 z4: ∀w,(Go.sizeOf (ρ.t 4)).run P w= .ok 1 w
 v4: ∀w,(zeroValue (ρ.t 4)).run P w= .ok (Value.bool false) w
 t9:P.underlying (ρ.t 9)=some (TypeDesc.string)
 a9: ∀w,(isAgg (ρ.t 9)).run P w= .ok false w
 z9: ∀w,(Go.sizeOf (ρ.t 9)).run P w= .ok 1 w
 v9: ∀w,(zeroValue (ρ.t 9)).run P w= .ok (Value.string {data:= #[]}) w
 t20:P.underlying (ρ.t 20)=some (TypeDesc.interface #[])
 a20: ∀w,(isAgg (ρ.t 20)).run P w= .ok false w
 z20: ∀w,(Go.sizeOf (ρ.t 20)).run P w= .ok 1 w
 v20: ∀w,(zeroValue (ρ.t 20)).run P w= .ok (Value.nilIface) w
 t37:P.underlying (ρ.t 37)=some (TypeDesc.slice (ρ.t 5))
 a37: ∀w,(isAgg (ρ.t 37)).run P w= .ok false w
 z37: ∀w,(Go.sizeOf (ρ.t 37)).run P w= .ok 1 w
 v37: ∀w,(zeroValue (ρ.t 37)).run P w= .ok (Value.slice none 0 0) w
 t70:P.underlying (ρ.t 70)=some (TypeDesc.pointer (ρ.t 72))
 a70: ∀w,(isAgg (ρ.t 70)).run P w= .ok false w
 z70: ∀w,(Go.sizeOf (ρ.t 70)).run P w= .ok 1 w
 v70: ∀w,(zeroValue (ρ.t 70)).run P w= .ok (Value.pointer none) w
 t72:P.underlying (ρ.t 72)=some (TypeDesc.struct #[{name:= "addr",type:=ρ.t 70,offset:=0,embedded:=false,tag:= "",pkgPath:= "strings",byteOffset:=0},{name:= "buf",type:=ρ.t 37,offset:=1,embedded:=false,tag:= "",pkgPath:= "strings",byteOffset:=8}])
 a72: ∀w,(isAgg (ρ.t 72)).run P w= .ok true w
 z72: ∀w,(Go.sizeOf (ρ.t 72)).run P w= .ok 2 w
 v72: ∀w,(zeroValue (ρ.t 72)).run P w= .ok (Value.agg #[Value.pointer none,Value.slice none 0 0]) w
 t75:P.underlying (ρ.t 75)=some (TypeDesc.interface #[("Error",ρ.t 80)])
 a75: ∀w,(isAgg (ρ.t 75)).run P w= .ok false w
 z75: ∀w,(Go.sizeOf (ρ.t 75)).run P w= .ok 1 w
 v75: ∀w,(zeroValue (ρ.t 75)).run P w= .ok (Value.nilIface) w
 t164:P.underlying (ρ.t 164)=some (TypeDesc.unsafePointer)
 a164: ∀w,(isAgg (ρ.t 164)).run P w= .ok false w
 z164: ∀w,(Go.sizeOf (ρ.t 164)).run P w= .ok 1 w
 v164: ∀w,(zeroValue (ρ.t 164)).run P w= .ok (Value.pointer none) w
 f169:P.funcs[ρ.f 169]?=some (Body.n169 ρ)
 t127:P.underlying (ρ.t 127)=some (TypeDesc.pointer (ρ.t 5))
 a127: ∀w,(isAgg (ρ.t 127)).run P w= .ok false w
 z127: ∀w,(Go.sizeOf (ρ.t 127)).run P w= .ok 1 w
 v127: ∀w,(zeroValue (ρ.t 127)).run P w= .ok (Value.pointer none) w
def eA:Ren:={
 f:=fun x=>match x with
  |169=>158
  |240=>189
  |276=>192
  |n=>n
 t:=fun x=>match x with
  |0=>0
  |3=>3
  |4=>4
  |5=>5
  |9=>9
  |20=>20
  |37=>201
  |70=>222
  |72=>224
  |75=>193
  |76=>241
  |80=>227
  |127=>243
  |164=>256
  |n=>n
 g:=fun x=>x}
set_option maxRecDepth 100000 in
theorem aJ:J6 Tryz.prog eA where
 mixed:=by kernel_rfl
 f240:=Eq.trans Tryz.func189 (congrArg some (show Tryz.f189=Body.n240 eA by kernel_rfl))
 f276:=Eq.trans Tryz.func192 (congrArg some (show Tryz.f192=Body.n276 eA by kernel_rfl))
 t0:=Tryz.underlying0
 a0:=Tryz.isAgg0
 z0:=Tryz.sizeOf0
 v0:=Tryz.zeroValue0
 t3:=Tryz.underlying3
 a3:=Tryz.isAgg3
 z3:=Tryz.sizeOf3
 v3:=Tryz.zeroValue3
 t4:=Tryz.underlying4
 a4:=Tryz.isAgg4
 z4:=Tryz.sizeOf4
 v4:=Tryz.zeroValue4
 t9:=Tryz.underlying9
 a9:=Tryz.isAgg9
 z9:=Tryz.sizeOf9
 v9:=Tryz.zeroValue9
 t20:=Tryz.underlying20
 a20:=Tryz.isAgg20
 z20:=Tryz.sizeOf20
 v20:=Tryz.zeroValue20
 t37:=Tryz.underlying201
 a37:=Tryz.isAgg201
 z37:=Tryz.sizeOf201
 v37:=Tryz.zeroValue201
 t70:=Tryz.underlying222
 a70:=Tryz.isAgg222
 z70:=Tryz.sizeOf222
 v70:=Tryz.zeroValue222
 t72:=Tryz.underlying224
 a72:=Tryz.isAgg224
 z72:=Tryz.sizeOf224
 v72:=Tryz.zeroValue224
 t75:=Tryz.underlying193
 a75:=Tryz.isAgg193
 z75:=Tryz.sizeOf193
 v75:=Tryz.zeroValue193
 t164:=Tryz.underlying256
 a164:=Tryz.isAgg256
 z164:=Tryz.sizeOf256
 v164:=Tryz.zeroValue256
 f169:=Eq.trans Tryz.func158 (congrArg some (show Tryz.f158=Body.n169 eA by kernel_rfl))
 t127:=Tryz.underlying243
 a127:=Tryz.isAgg243
 z127:=Tryz.sizeOf243
 v127:=Tryz.zeroValue243
theorem p5:Builder.Extra Tryz.prog eA where
 sizeBuilder:=by kernel_rfl
 liesBuilder:=by kernel_rfl
 t5:=Tryz.underlying5
 a5:=Tryz.isAgg5
 z5:=Tryz.sizeOf5
 v5:=Tryz.zeroValue5
 infoByte:=by kernel_rfl
 cellsByte:=by kernel_rfl
 sizeByte:=by kernel_rfl
 neB5:=by decide
end Go.Ai
