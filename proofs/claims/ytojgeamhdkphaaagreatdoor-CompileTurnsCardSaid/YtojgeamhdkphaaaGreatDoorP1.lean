/- P1: a part of the proof. Conditions: as each theorem says. -/
import Derived.Test.YtojgeamhdkphaaaGreatDoorCode
import Derived.Laws.Bits64b
set_option linter.unusedSimpArgs false
set_option linter.unusedVariables false
set_option maxRecDepth 20000
namespace Go.Ai
open Go.Proofs
abbrev u (n:Nat):AV:= .int .u64 n
def wide (n:Nat):AV:= .agg [u (n / 18446744073709551616),u (n%18446744073709551616)]
abbrev i6 (n:Int):AV:= .int .i64 n

theorem Sy (x:Int):x.fdiv (2^min 32 IntKind.u64.bits)=x / 4294967296:=by
 have:(2:Int)^min 32 IntKind.u64.bits=4294967296:=by decide
 rw[this];exact Int.fdiv_eq_ediv_of_nonneg _ (by decide)
theorem By (n:Int) (h1:0<=n) (h2:n<18446744073709551616):bits BinOp.and IntKind.u64 n 4294967295=n%4294967296:=by
 obtain ⟨m,rfl⟩:=Int.eq_ofNat_of_zero_le h1
 have:=bits_and_u64_nat m 4294967295 (by omega) (by omega)
 rw[show ((4294967295:Nat):Int)=4294967295 from rfl] at this;rw[this,show (4294967295:Nat)=2^32 - 1 from rfl,Nat.and_two_pow_sub_one_eq_mod];omega
theorem J8 (x1 x0 y1 y0:Int) (h1:0<=x1) (h2:x1<4294967296) (h3:0<=x0) (h4:x0<4294967296) (h5:0<=y1) (h6:y1<4294967296) (h7:0<=y0) (h8:y0<4294967296):
  ((x1*y1%18446744073709551616+(x1*y0%18446744073709551616+x0*y0%18446744073709551616 / 4294967296)%18446744073709551616 / 4294967296)%18446744073709551616+
   ((x1*y0%18446744073709551616+x0*y0%18446744073709551616 / 4294967296)%18446744073709551616%4294967296+x0*y1%18446744073709551616)%18446744073709551616 / 4294967296)%18446744073709551616
   =(x1*4294967296+x0)*(y1*4294967296+y0) / 18446744073709551616:=by
 have e:(x1*4294967296+x0)*(y1*4294967296+y0)=x1*y1*18446744073709551616+(x1*y0+x0*y1)*4294967296+x0*y0:=by
  simp only[Int.add_mul,Int.mul_add]
  have:x1*4294967296*(y1*4294967296)=x1*y1*18446744073709551616:=by
   rw[show (18446744073709551616:Int)=4294967296*4294967296 from rfl];ac_rfl
  rw[this,show x1*4294967296*y0=x1*y0*4294967296 by ac_rfl,show x0*(y1*4294967296)=x0*y1*4294967296 by ac_rfl];omega
 rw[e];have b: ∀a c:Int,0<=a->a<4294967296->0<=c->c<4294967296->0<=a*c/\a*c<=18446744065119617025:=fun a c ha hb hc hd=>by
  refine ⟨Int.mul_nonneg ha hc,?_⟩
  have:=Int.mul_le_mul (show a<=4294967295 by omega) (show c<=4294967295 by omega) hc (by decide)
  simpa using this
 have b1:=b x1 y1 h1 h2 h5 h6;have b2:=b x1 y0 h1 h2 h7 h8;have b3:=b x0 y1 h3 h4 h5 h6;have b4:=b x0 y0 h3 h4 h7 h8;generalize x1*y1=p,x1*y0=q,x0*y1=r,x0*y0=s at*;omega
theorem OC (x y:Nat) (hx:x<18446744073709551616) (hy:y<18446744073709551616):Sp Tryz.prog gl 152 [u x,u y] (.tup [u (x*y / 18446744073709551616),u (x*y%18446744073709551616)]):=by
 refine QW rfl rfl ?_;simp[N2];have wm: ∀n:Int,0<=n%18446744073709551616/\n%18446744073709551616<18446744073709551616:=fun n=>by omega
 rw[By x (by omega) (by omega),By y (by omega) (by omega)];simp only[Sy,Ec];rw[By _ (wm _).1 (wm _).2]
 have:=J8 (x / 4294967296) (x%4294967296) (y / 4294967296) (y%4294967296) (by omega) (by omega) (by omega) (by omega) (by omega) (by omega) (by omega) (by omega)
 refine ⟨?_,trivial⟩;rw[this];congr 2<;>omega
theorem na (x y:Nat) (hx:x<18446744073709551616) (hy:y<18446744073709551616):Sp Tryz.prog gl 133 [u x,u y] (wide (x*y)):=by
 refine QM rfl rfl ?_;simp[NW];refine bK _ (OC x y hx hy) ?_;simp[wide]
structure Tk where
 k:Int
 t:List UInt8
 n:Nat
 ln:Int
 co:Int
 deriving DecidableEq
def Tk.row (x:Tk):List AV:=[i6 x.k,.str x.t,u x.n,i6 x.ln,i6 x.co]
inductive It where
 |mk (n:List UInt8) (ws:List Tk) (b:Bool) (ks:List It) (ln co:Int)
mutual
def It.row:It->List AV
 | .mk n ws b ks ln co=>[.str n,.sl (ws.map Tk.row),.bool b,.sl (ab ks),i6 ln,i6 co]
def ab:List It->List (List AV)
 |[]=>[]
 |x::r=>x.row::ab r
end
theorem jg: ∀a b:List It,ab (a++b)=ab a++ab b
 |[],b=>rfl
 |x::a,b=>by rw[cB,ab,ab,jg a b,cB]
theorem bQ: ∀a:List It,(ab a).length=a.length
 |[]=>rfl
 |x::a=>by rw[ab,e7,e7,bQ a]
theorem jJ: ∀a:List It,∀r∈ab a,r.length=6
 |[],r,h=>by cases h
 | .mk n ws b ks ln co::a,r,h=>by
  rw[ab,nH] at h;rcases h with rfl|h
  ·rw[It.row];rfl
  ·exact jJ a r h
mutual
def jh:It->Nat
 | .mk _ _ _ ks _ _=>1+bJ ks
def bJ:List It->Nat
 |[]=>0
 |x::r=>jh x+bJ r
end
mutual
def pp:It->Nat
 | .mk _ _ _ ks _ _=>1+f8 ks
def f8:List It->Nat
 |[]=>0
 |x::r=>max (pp x) (f8 r)
end
mutual
def P5:It->Prop
 | .mk _ ws b ks _ _=>ws.length<=6/\(∀w∈ws,1<=w.k/\w.k<=6)/\(b=false->ks=[])/\NB ks
def NB:List It->Prop
 |[]=>True
 |x::r=>P5 x/\NB r
end
theorem iP: ∀(L:List It) (i:Nat) (h:i<L.length) (h2:i<(ab L).length),(ab L)[i]=L[i].row
 |x::L,0,h,h2=>rfl
 |x::L,i+1,h,h2=>by
  simp only[ab,List.getElem_cons_succ];exact iP L i _ _
theorem wo: ∀ {L:List It} {x:It},x∈L->jh x<=bJ L
 |y::L,x,h=>by
  rw[bJ];rcases nH.1 h with rfl|h
  ·omega
  ·have:=wo h;omega
theorem kL: ∀L:List It,L.length<=bJ L
 |[]=>jq _
 | .mk n ws b ks ln co::L=>by
  have:=kL L
  rw[bJ,jh,e7];omega
theorem J9 (s:List UInt8) (i:Nat) (h:i<s.length):(ByteArray.mk s.toArray).get! i=s[i]:=by
 simp[ByteArray.get!,getElem!_pos,h]
def bF (s:List UInt8) (j:Nat):Nat:=match s[j]? with |some b=>b.toNat|none=>0
def fC (s:List UInt8) (j:Nat):Bool:=decide (128<=bF s j/\bF s j<=191)
def rv (s:List UInt8) (i r0:Nat):Nat->Nat
 |0=>r0
 |k+1=>64*rv s i r0 k+(bF s (i+(k+1)) - 128)
def mO (s:List UInt8) (i:Nat):Nat->Bool
 |0=>true
 |k+1=>mO s i k&&fC s (i+(k+1))
def dX (least r:Nat):Bool:=decide (least<=r/\r<=1114111/\ ¬(55296<=r/\r<57344))
def cD (s:List UInt8) (i n r0 least:Nat):Int×Nat:=if mO s i n&&dX least (rv s i r0 n) then ((rv s i r0 n:Nat),n+1) else (-1,1)
def aq (s:List UInt8) (i:Nat):Int×Nat:=
 let b:=bF s i
 if b<128 then (b,1) else if 192<=b/\b<224 then cD s i 1 (b - 192) 128 else if 224<=b/\b<240 then cD s i 2 (b - 224) 2048 else if 240<=b/\b<248 then cD s i 3 (b - 240) 65536 else (-1,1)
theorem pq {s:List UInt8} {i:Nat} (h:i<s.length):bF s i=s[i].toNat:=by unfold bF;rw[uk h]
theorem lP (s:List UInt8) (i:Nat):bF s i<256:=by
 unfold bF;split
 ·rename_i b _;exact b.toNat_lt
 ·omega
theorem Ka {s:List UInt8} {i:Nat} (h: ¬i<s.length):bF s i=0:=by unfold bF;rw[Ga (by omega)]
theorem Bz (s:List UInt8) (i r0 least:Nat):cD s i 1 r0 least=if fC s (i+1)&&dX least (64*r0+(bF s (i+1) - 128)) then (((64*r0+(bF s (i+1) - 128):Nat):Int),2) else (-1,1):=rfl
theorem BA (s:List UInt8) (i r0 least:Nat):cD s i 2 r0 least=if (fC s (i+1)&&fC s (i+2))&&dX least (64*(64*r0+(bF s (i+1) - 128))+(bF s (i+2) - 128)) then (((64*(64*r0+(bF s (i+1) - 128))+(bF s (i+2) - 128):Nat):Int),3) else (-1,1):=rfl
theorem BB (s:List UInt8) (i r0 least:Nat):cD s i 3 r0 least=if ((fC s (i+1)&&fC s (i+2))&&fC s (i+3))&&dX least (64*(64*(64*r0+(bF s (i+1) - 128))+(bF s (i+2) - 128))+(bF s (i+3) - 128)) then (((64*(64*(64*r0+(bF s (i+1) - 128))+(bF s (i+2) - 128))+(bF s (i+3) - 128):Nat):Int),4) else (-1,1):=rfl
theorem pr (s:List UInt8) (i n r0 least:Nat):1<=(cD s i n r0 least).2:=by unfold cD;split<;>simp
theorem cN (s:List UInt8) (i:Nat):1<=(aq s i).2:=by
 unfold aq;simp only;split
 ·simp
 ·split
  ·exact pr ..
  ·split
   ·exact pr ..
   ·split
    ·exact pr ..
    ·simp
def ay (s:List UInt8) (i:Nat):List Int:=if h:i<s.length then (aq s i).1::ay s (i+(aq s i).2) else []
termination_by s.length - i
decreasing_by have:=cN s i;omega
theorem bp {s:List UInt8} {i:Nat} (h:i<s.length):ay s i=(aq s i).1::ay s (i+(aq s i).2):=by rw[ay,dif_pos h]
theorem aS {s:List UInt8} {i:Nat} (h: ¬i<s.length):ay s i=[]:=by rw[ay,dif_neg h]
theorem gN {s:List UInt8} {j:Nat} (h:j<s.length):((ByteArray.mk s.toArray).get! j).toNat=bF s j:=by rw[J9 s j h,pq h]
theorem hY {s:List UInt8} {j:Nat}:fC s j=true↔j<s.length/\bF s j / 64=2:=by
 unfold fC;rw[qu];constructor
 ·intro h;rcases Nat.lt_or_ge j s.length with h1|h1
  ·exact ⟨h1,by omega⟩
  ·rw[Ka (by omega)] at h;omega
 ·intro h;omega
theorem gp (s:List UInt8) (i:Nat) (h:i<s.length):dW s i=(if (aq s i).1= -1 then (65533,1) else aq s i):=by
 have hb:(ByteArray.mk s.toArray).size=s.length:=by simp[ByteArray.size]
 have c: ∀k,(decide (i+k<(ByteArray.mk s.toArray).size)&&((ByteArray.mk s.toArray).get! (i+k)).toNat / 64==2)=fC s (i+k):=by
  intro k;rw[Bool.eq_iff_iff,hY,hb];simp only[aJ,qu,cI];constructor
  ·rintro ⟨h1,h2⟩;rw[gN h1] at h2;exact ⟨h1,h2⟩
  ·rintro ⟨h1,h2⟩;rw[gN h1];exact ⟨h1,h2⟩
 have e0:((ByteArray.mk s.toArray).get! (i+0)).toNat=bF s i:=gN (by omega);have bl:=lP s i;unfold dW Utf8.decode;simp only[e0,c,Utf8.runeError];unfold aq;simp only;by_cases h1:bF s i<128
 ·have h2: ¬((bF s i:Nat):Int)= -1:=by omega
  simp only[h1,if_true,h2,if_false]
 ·simp only[h1,if_false];have d1:(bF s i / 32==6)=decide (192<=bF s i/\bF s i<224):=by rw[Bool.eq_iff_iff];simp;omega
  have d2:(bF s i / 16==14)=decide (224<=bF s i/\bF s i<240):=by rw[Bool.eq_iff_iff];simp;omega
  have d3:(bF s i / 8==30)=decide (240<=bF s i/\bF s i<248):=by rw[Bool.eq_iff_iff];simp;omega
  rw[d1,d2,d3];by_cases r1:192<=bF s i/\bF s i<224
  ·have r2: ¬(224<=bF s i/\bF s i<240):=by omega
   have r3: ¬(240<=bF s i/\bF s i<248):=by omega
   simp only[r1,r2,r3,and_self,decide_true,decide_false,nC,qp,if_true,if_false,tK];rw[Bz];cases c1:fC s (i+1)
   ·simp
   ·obtain ⟨l1,q1⟩:=hY.1 c1;simp only[if_true,nC,gN l1];have b1:=lP s (i+1);generalize bF s (i+1)=y,bF s i=x at*;by_cases z:dX 128 (64*(x - 192)+(y - 128))=true
    ·have zz:=z;unfold dX at zz;rw[qu] at zz;have e:x%32*64+y%64=64*(x - 192)+(y - 128):=by omega
     simp only[z,e,if_true];rw[if_neg (show ¬((64*(x - 192)+(y - 128):Nat):Int)= -1 by omega),if_pos (by omega)]
    ·have zz:=z;unfold dX at zz;rw[qu] at zz;have hz: ¬(x%32*64+y%64>=128):=by omega
     simp only[z,hz,tK,if_false];simp
  ·by_cases r2:224<=bF s i/\bF s i<240
   ·have r3: ¬(240<=bF s i/\bF s i<248):=by omega
    simp only[r1,r2,r3,and_self,decide_true,decide_false,nC,qp,if_true,if_false,tK];rw[BA];cases c1:fC s (i+1)
    ·simp
    ·cases c2:fC s (i+2)
     ·simp
     ·obtain ⟨l1,q1⟩:=hY.1 c1;obtain ⟨l2,q2⟩:=hY.1 c2;simp only[if_true,nC,Bool.and_self,gN l1,gN l2];have b1:=lP s (i+1);have b2:=lP s (i+2);try rw[gN l2]
      generalize bF s (i+2)=w,bF s (i+1)=y,bF s i=x at*;by_cases z:dX 2048 (64*(64*(x - 224)+(y - 128))+(w - 128))=true
      ·have zz:=z;unfold dX at zz;rw[qu] at zz;have e:x%16*4096+y%64*64+w%64=64*(64*(x - 224)+(y - 128))+(w - 128):=by omega
       simp only[z,e,if_true];rw[if_neg (show ¬((64*(64*(x - 224)+(y - 128))+(w - 128):Nat):Int)= -1 by omega),if_pos (by simp[Utf8.valid];omega)]
      ·have zz:=z;unfold dX at zz;rw[qu] at zz;have hz:(decide (x%16*4096+y%64*64+w%64>=2048)&&Utf8.valid ((x%16*4096+y%64*64+w%64:Nat):Int))=false:=by
        rw[Q7];simp[Utf8.valid];omega
       simp only[z,hz,tK,if_false];simp
   ·by_cases r3:240<=bF s i/\bF s i<248
    ·simp only[r1,r2,r3,and_self,decide_true,decide_false,nC,qp,if_true,if_false,tK];rw[BB];cases c1:fC s (i+1)
     ·simp
     ·cases c2:fC s (i+2)
      ·simp
      ·cases c3:fC s (i+3)
       ·simp
       ·obtain ⟨l1,q1⟩:=hY.1 c1;obtain ⟨l2,q2⟩:=hY.1 c2;obtain ⟨l3,q3⟩:=hY.1 c3;simp only[if_true,nC,Bool.and_self,gN l1];have b1:=lP s (i+1);have b2:=lP s (i+2);have b3:=lP s (i+3);try simp only[gN l2,gN l3]
        generalize bF s (i+3)=t,bF s (i+2)=w,bF s (i+1)=y,bF s i=x at*;by_cases z:dX 65536 (64*(64*(64*(x - 240)+(y - 128))+(w - 128))+(t - 128))=true
        ·have zz:=z;unfold dX at zz;rw[qu] at zz;have e:x%8*262144+y%64*4096+w%64*64+t%64=64*(64*(64*(x - 240)+(y - 128))+(w - 128))+(t - 128):=by omega
         simp only[z,e,if_true];rw[if_neg (show ¬((64*(64*(64*(x - 240)+(y - 128))+(w - 128))+(t - 128):Nat):Int)= -1 by omega),if_pos (by simp[Utf8.valid];omega)]
        ·have zz:=z;unfold dX at zz;rw[qu] at zz;have hz:(decide (x%8*262144+y%64*4096+w%64*64+t%64>=65536)&&Utf8.valid ((x%8*262144+y%64*4096+w%64*64+t%64:Nat):Int))=false:=by
          rw[Q7];simp[Utf8.valid];omega
         simp only[z,hz,tK,if_false];simp
    ·simp[r1,r2,r3]
abbrev i3 (n:Int):AV:= .int .i32 n
theorem gq {n:Int} (h1: -2147483648<=n) (h2:n<2147483648):IntKind.i32.wrap n=n:=by
 have e1:(2:Int)^32=4294967296:=by decide
 have e2:(2:Int)^(32 - 1)=2147483648:=by decide
 have:IntKind.i32.wrap n=if (true&&decide (n%2^32>=2^(32 - 1)))=true then n%2^32 - 2^32 else n%2^32:=rfl
 rw[this];simp only[e1,e2,nC,qu];split<;>omega
def AC.part:List Nat->AC->AC
 |[],c=>c
 |0::p,.sq a _=>a.part p
 |1::p,.sq _ b=>b.part p
 |2::p,.bl _ a=>a.part p
 |2::p,.lp a=>a.part p
 |_,c=>c
theorem zb {s:List UInt8} {i:Nat} (h:i<s.length):i+(aq s i).2<=s.length+3:=by
 have hF: ∀n r0 least,n<=3->(cD s i n r0 least).2<=4:=by
  intro n r0 least hn;unfold cD;split
  ·simp only;omega
  ·simp
 have h1:=hF 1 (bF s i - 192) 128 (by omega);have h2:=hF 2 (bF s i - 224) 2048 (by omega);have h3:=hF 3 (bF s i - 240) 65536 (by omega);unfold aq;simp only;split
 ·simp only;omega
 ·split
  ·omega
  ·split
   ·omega
   ·split
    ·omega
    ·simp only;omega
theorem LI {a b:Int} (h:a<=b):decide (a<=b)=true:=mI h
theorem LJ {a b:Int} (h:b<a):decide (a<=b)=false:=lm (by omega)
theorem LK {a b:Int} (h:a<b):decide (a<b)=true:=mI h
theorem LL {a b:Int} (h:b<=a):decide (a<b)=false:=lm (by omega)
theorem G7 {a b:Int} (h:a=b):(a==b)=true:=by rw[cI];exact h
theorem G8 {a b:Int} (h:a<b\/b<a):(a==b)=false:=by rw[cH];omega
theorem LM {a b:Int} (h:a<b\/b<a):(a !=b)=true:=by rw[bne_iff_ne];omega
theorem LN {a b:Int} (h:a=b):(a !=b)=false:=by simp[h]
def cR (r:Int):Bool:=decide ((97<=r/\r<=122)\/(65<=r/\r<=90)\/(192<=r/\r<=591/\r≠215/\r≠247)\/(880<=r/\r<=1279))
def ep (r:Int):Bool:=decide (48<=r/\r<=57)
theorem wq (r:Int):(r<65/\cR r=false)\/(65<=r/\r<=90/\cR r=true)\/(90<r/\r<97/\cR r=false)\/(97<=r/\r<=122/\cR r=true)\/(122<r/\r<192/\cR r=false)\/
  (192<=r/\r<215/\cR r=true)\/(r=215/\cR r=false)\/(215<r/\r<247/\cR r=true)\/(r=247/\cR r=false)\/(247<r/\r<=591/\cR r=true)\/
  (591<r/\r<880/\cR r=false)\/(880<=r/\r<=1279/\cR r=true)\/(1279<r/\cR r=false):=by
 unfold cR;simp only[qu,decide_eq_false_iff_not];omega
theorem iG (r:Int):Sp Tryz.prog gl 71 [i3 r] (.bool (cR r)):=by
 refine U6 rfl rfl ?_;rcases wq r with ⟨h1,h2⟩|⟨h1,h2,h3⟩|⟨h1,h2,h3⟩|⟨h1,h2,h3⟩|⟨h1,h2,h3⟩|⟨h1,h2,h3⟩|⟨h1,h3⟩|⟨h1,h2,h3⟩|⟨h1,h3⟩|⟨h1,h2,h3⟩|⟨h1,h2,h3⟩|⟨h1,h2,h3⟩|⟨h1,h3⟩
 ·rw[h2];simp (disch:=omega) [Qp,LI,LJ,LK,LL,G7,G8,LM,LN]
 all_goals (rw[h3];simp (disch:=omega) [Qp,LI,LJ,LK,LL,G7,G8,LM,LN])
theorem jw (r:Int):Sp Tryz.prog gl 72 [i3 r] (.bool (ep r)):=by
 refine U7 rfl rfl ?_;unfold ep;by_cases h1:48<=r
 ·simp[Qq,h1]
 ·simp[Qq,h1]
def gu:Nat->Int->List Int->Bool
 |n,last,[]=>decide (0<n/\n<=24)&&(cR last||ep last)
 |n,last,r::l=>(cR r||(decide (n≠0)&&(ep r||r==95||r==45)))&&gu (n+1) r l
def dx (s:List UInt8):Bool:=gu 0 32 (ay s 0)
theorem nb (s:List UInt8) (hl:s.length<=900000):Sp Tryz.prog gl 42 [.str s] (.bool (dx s)):=by
 refine UE rfl rfl ?_;obtain ⟨R,hR⟩: ∃R,R=dx s:=⟨_,rfl⟩;rw[<-hR];unfold dx at hR;simp[Tm];refine cP (α:=Nat×Nat×Int) (fun x=>⟨[(0,.str s),(3,i6 x.2.1),(4,i3 x.2.2),(9,.itp 9)],[(.it 9,[.itr s x.1])],[]⟩)
  (fun x=>x.2.1<=x.1/\(x.2.1=0↔x.1=0)/\gu x.2.1 x.2.2 (ay s x.1)=R/\x.1<=s.length+3) (fun x=>s.length+4 - x.1) ?_ (0,0,32) ?_ ?_
 ·rintro K ⟨i,n,last⟩ hK ⟨h1,h2,h3,h4⟩;simp only at h1 h2 h3 h4;by_cases g:i<s.length
  ·rw[bp g] at h3;simp only[gu] at h3;have sr:=gp s i g;have sl:=zb g;have sp:=cN s i;have fin:gu (n+1) (aq s i).1 (ay s (i+(aq s i).2))=R-> ∀σ',il σ' ⟨[(0,.str s),(3,i6 (n+1:Nat)),(4,i3 (aq s i).1),(9,.itp 9)],[(.it 9,[.itr s (i+(aq s i).2)])],[]⟩->K σ':=
    fun hh σ' hσ=>hK (i+(aq s i).2,n+1,(aq s i).1) σ' ⟨by simp only;omega,by simp only;omega,hh,by simp only;omega⟩ (by simp only;omega) hσ
   have t1:IntKind.i64.wrap ((n:Int)+1)=(n+1:Nat):=by rw[aL]<;>omega
   clear hK hR;by_cases hb:(aq s i).1= -1
   ·rw[if_pos hb] at sr;rw[hb] at h3
    have:R=false:=by
     rw[<-h3]
     have:(cR (-1)||(decide (n≠0)&&(ep (-1)||(-1:Int)==95||(-1:Int)==45)))=false:=by cases decide (n≠0)<;>rfl
     rw[this];rfl
    subst this;have L1:=iG 65533;have D1:=jw 65533;rw[show cR 65533=false from rfl] at L1;rw[show ep 65533=false from rfl] at D1;clear h3 fin;by_cases hi:i=0
    ·subst hi;simp[g,sr];refine bK _ L1 ?_;simp
    ·have hi':0<i:=by omega
     simp[g,sr];refine bK _ L1 ?_;simp[hi'];refine bK _ D1 ?_;simp
   ·rw[if_neg hb] at sr;have L1:=iG (aq s i).1;have D1:=jw (aq s i).1;have esr:(aq s i)=((aq s i).1,(aq s i).2):=rfl;rw[esr] at sr;generalize gu (n+1) (aq s i).1 (ay s (i+(aq s i).2))=R2 at*;clear esr hb;generalize (aq s i).1=r,(aq s i).2=w at*;have hn0:decide (n≠0)=decide (0<i):=by rw[Bool.eq_iff_iff];simp;omega
    rw[hn0] at h3;cases hlt:cR r
    ·rw[hlt] at h3 L1;by_cases hi:0<i
     ·cases hd:ep r
      ·rw[hd] at h3 D1;by_cases e1:r=95
       ·have:=fin (by rw[<-h3];simp[hi,e1])
        simp (disch:=omega) [g,sr,G7,G8,e1];rw[e1] at L1 D1;refine bK _ L1 ?_;simp[hi];refine bK _ D1 ?_;simp;refine this _ (aC ?_ ?_ ?_ ?_ ?_ ?_)<;>simp[t1,e1]
       ·by_cases e2:r=45
        ·have:=fin (by rw[<-h3];simp[hi,e2])
         simp (disch:=omega) [g,sr,e2];rw[e2] at L1 D1;refine bK _ L1 ?_;simp[hi];refine bK _ D1 ?_;simp;refine this _ (aC ?_ ?_ ?_ ?_ ?_ ?_)<;>simp[t1,e2]
        ·have b1:(r==95)=false:=by rw[cH];exact e1
         have b2:(r==45)=false:=by rw[cH];exact e2
         have:R=false:=by rw[<-h3,b1,b2];simp
         subst this;simp[g,sr];refine bK _ L1 ?_;simp[hi];refine bK _ D1 ?_;simp[b1,b2]
      ·rw[hd] at h3 D1
       have:=fin (by rw[<-h3];simp[hi])
       simp[g,sr];refine bK _ L1 ?_;simp[hi];refine bK _ D1 ?_;simp;refine this _ (aC ?_ ?_ ?_ ?_ ?_ ?_)<;>simp[t1]
     ·have:R=false:=by rw[<-h3];simp[hi]
      subst this;simp[g,sr];refine bK _ L1 ?_;simp[hi]
    ·rw[hlt] at h3 L1
     have:=fin (by rw[<-h3];simp)
     simp[g,sr];refine bK _ L1 ?_;simp;refine this _ (aC ?_ ?_ ?_ ?_ ?_ ?_)<;>simp[t1]
  ·rw[aS g] at h3;simp only[gu] at h3;have L1:=iG last;have D1:=jw last;clear hK hR h2;by_cases n0:0<n
   ·by_cases n1:n<=24
    ·have n1':(n:Int)<=24:=by omega
     rw[mI (show 0<n/\n<=24 from ⟨n0,n1⟩),nC] at h3;cases hlt:cR last
     ·rw[hlt,Bool.false_or] at h3;rw[hlt] at L1;rw[h3] at D1;simp[g,n0,n1'];refine bK _ L1 ?_;simp;refine bK _ D1 ?_;simp
     ·rw[hlt] at h3 L1
      have:R=true:=by rw[<-h3];rfl
      subst this;simp[g,n0,n1'];refine bK _ L1 ?_;simp
    ·have n1': ¬(n:Int)<=24:=by omega
     rw[lm (show ¬(0<n/\n<=24) by omega)] at h3;subst h3;simp[g,n0,n1']
   ·rw[lm (show ¬(0<n/\n<=24) by omega)] at h3;subst h3;simp[g,n0]
 ·exact ⟨eR _,by simp,hR.symm,by simp⟩
 ·apply aC<;>simp
theorem rW: ∀(l:List Int) (n:Nat) (last:Int),24<n+l.length->gu n last l=false
 |[],n,last,h=>by
  simp only[gu];rw[lm (show ¬(0<n/\n<=24) by simp at h;omega)];rfl
 |r::l,n,last,h=>by
  simp only[gu];rw[rW l (n+1) r (by simp at h;omega)];simp
structure Lb where
 n:List UInt8
 t:List UInt8
 deriving DecidableEq
structure Ru where
 n:List UInt8
 p:Bool
 l:Int
 s:Int
 f:Nat
 w:Int
 k:Int
 deriving DecidableEq
structure Gl where
 n:List UInt8
 t:Nat
 g:Int
 a:Int
 o:Int
 c:Int
 lb:List Lb
 ru:List Ru
 deriving DecidableEq
structure Cf where
 gs:List Gl
 r:Int
 v:Int
 i:Int
 x:Int
 y:Int
def Lb.row (x:Lb):List AV:=[.str x.n,.str x.t]
def Ru.row (x:Ru):List AV:=[.str x.n,.bool x.p,i6 x.l,i6 x.s,u x.f,i6 x.w,i6 x.k]
def Gl.row (x:Gl):List AV:=[.str x.n,.int .u32 x.t,i6 x.g,i6 x.a,i6 x.o,i6 x.c,.sl (x.lb.map Lb.row),.sl (x.ru.map Ru.row)]
def Cf.row (x:Cf):List AV:=[.sl (x.gs.map Gl.row),i6 x.r,i6 x.v,i6 x.i,i6 x.x,i6 x.y]
def bump (l:List (List UInt8×Nat)) (n:List UInt8):List (List UInt8×Nat):=match l with
 |[]=>[(n,1)]
 |(m,c)::r=>if n=m then (m,c+1)::r else (m,c)::bump r n
def mg:List UInt8:=[111,98,106,101,99,116,105,118,101]
def tX:List UInt8:=[110,111,116,105,102,121]
def jx:List UInt8:=[116,97,114,103,101,116]
def iq:List UInt8:=[103,114,97,105,110]
def kM:List UInt8:=[108,97,116,101]
def jN:List UInt8:=[114,111,108,108,105,110,103]
def kN:List UInt8:=[99,97,108,101,110,100,97,114]
def pt:List UInt8:=[108,97,98,101,108]
def dU:List UInt8:=[114,117,108,101]
def j8:List UInt8:=[108,111,110,103]
def j9:List UInt8:=[115,104,111,114,116]
def ij:List UInt8:=[102,97,99,116,111,114]
def nf:List UInt8:=[102,111,114]
def ng:List UInt8:=[107,101,101,112]
def mz:List UInt8:=[114,111,111,109]
def mA:List UInt8:=[114,101,115,101,114,118,101]
def mB:List UInt8:=[102,105,114,115,116]
def mE:List UInt8:=[99,97,112]
def nh:List UInt8:=[114,101,112,101,97,116]
def zc:List UInt8:=[109,111,110,116,104]
def FX:List UInt8:=[113,117,97,114,116,101,114]
def wv:List UInt8:=[112,97,103,101]
def MC:List UInt8:=[116,105,99,107,101,116]
def It.nm:It->List UInt8
 | .mk n _ _ _ _ _=>n
def It.ws:It->List Tk
 | .mk _ ws _ _ _ _=>ws
def It.bk:It->Bool
 | .mk _ _ b _ _ _=>b
def It.kd:It->List It
 | .mk _ _ _ ks _ _=>ks
def It.pl:It->Int×Int
 | .mk _ _ _ _ l c=>(l,c)
structure pu where
 nm:List UInt8
 ks:List Int
 bl:Bool
 mo:Nat
 lo:Nat
 hi:Nat
def gv (w:Nat):List pu:=
 if w=0 then [⟨mg,[1],true,6,0,0⟩,⟨tX,[],true,1,0,0⟩]
 else if w=1 then [⟨jx,[5],false,1,1,999999⟩,⟨iq,[6],false,1,1,86400⟩,⟨kM,[6],false,1,0,86400⟩,⟨jN,[6],false,1,1,34560000⟩,⟨kN,[1],false,1,0,0⟩,⟨pt,[1,2],false,4,0,0⟩,⟨dU,[1,1],true,4,0,0⟩]
 else if w=2 then [⟨j8,[6],false,1,1,34560000⟩,⟨j9,[6],false,1,1,34560000⟩,⟨ij,[4],false,1,1,1000000⟩,⟨nf,[6],false,1,0,604800⟩,⟨ng,[6],false,1,0,604800⟩]
 else [⟨mz,[3],false,1,1,64⟩,⟨mA,[3],false,1,0,64⟩,⟨mB,[6],false,1,1,86400⟩,⟨mE,[6],false,1,1,604800⟩,⟨nh,[6],false,1,0,2592000⟩]
def bV (w:Nat) (n:List UInt8):Option pu:=(gv w).find? fun p=>p.nm==n
def iH (p:pu):List Int->List Tk->Bool
 |[],[]=>true
 |k::r,t::s=>(t.k==k||(p.nm==ij&&t.k==3))&&iH p r s
 |_,_=>false
def w0 (ws:List Tk):List UInt8:=(ws.headD ⟨0,[],0,0,0⟩).t
def w1 (ws:List Tk):List UInt8:=(ws.tail.headD ⟨0,[],0,0,0⟩).t
def cE (p:pu) (x:It):Bool:=(x.bk==p.bl)&&(iH p p.ks x.ws&&((p.nm !=kN||(w0 x.ws==zc||w0 x.ws==FX))&&(p.nm !=dU||(w1 x.ws==wv||w1 x.ws==MC))))
def ir (x:It):Nat:=match x.ws with
 |[]=>0
 |t::_=>if x.nm=ij/\t.k=3 then (if 1000000<t.n then t.n else 1000*t.n) else t.n
def qz (C:List It) (n:List UInt8):Nat:=(C.filter fun y=>y.nm==n).length
def aX (w:Nat) (C:List It) (x:It):Int:=match bV w x.nm with
 |none=>7
 |some p=>if cE p x=false then 6 else if C.any (fun y=>y.nm==x.nm&&(p.mo==1||w0 y.ws==w0 x.ws))=true then 18 else if p.mo<=qz C x.nm then 9 else if p.mo=1/\(ir x<p.lo\/p.hi<ir x) then 8 else 0
def bR (n:List UInt8):Nat:=if n=mg then 1 else if n=dU then 2 else if n=tX then 3 else 0
def ai:List It->List UInt8->Nat->Nat
 |[],_,d=>d
 |y::r,n,d=>if y.nm=n then ir y else ai r n d
def gx (C:List It) (n:List UInt8):Bool:=C.any fun y=>y.nm==n
structure Ft where
 e:Int
 l:Int
 c:Int
def Ft.row (x:Ft):List AV:=[i6 x.e,i6 x.l,i6 x.c]
def It.ft (e:Int) (x:It):Ft:=⟨e,x.pl.1,x.pl.2⟩
abbrev Lk:=Nat->List It->List It×List Ft
def gz (lk:Lk) (grain:Nat) (k:List It):List Ft:=k.flatMap fun y=>if y.nm=dU/\(ai (lk 2 y.kd).1 j8 0%grain≠0\/ai (lk 2 y.kd).1 j9 0%grain≠0) then [y.ft 8] else []
def cV (lk:Lk) (i:Nat) (x:It) (k:List It):List Ft:=
 if i=1 then (if gx k jx=false\/gx k dU=false then [x.ft 6] else [])++(gz lk (ai k iq 60) k++(if ai k jN 0%ai k iq 60≠0 then [x.ft 8] else []))
 else if i=2 then (if gx k j8=false\/gx k j9=false\/gx k ij=false then [x.ft 6] else if ai k j8 0<ai k j9 0 then [x.ft 8] else [])
 else if i=3 then (if ai k mz 16<ai k mA 0\/ai k mE 300<ai k mB 10 then [x.ft 8] else [])
 else []
def aB (lk:Lk) (w:Nat) (s:List It×List Ft) (x:It):List It×List Ft:=
 if aX w s.1 x≠0 then (s.1,s.2++[x.ft (aX w s.1 x)])
 else if bR x.nm=0 then (s.1++[x],s.2)
 else (s.1++[x],s.2++((lk (bR x.nm) x.kd).2++cV lk (bR x.nm) x (lk (bR x.nm) x.kd).1))
def au:Nat->Lk
 |0=>fun _ _=>([],[])
 |f+1=>fun w L=>L.foldl (aB (au f) w) ([],[])
def fi (k:List It):Int:=k.foldl (fun c y=>if y.nm=kN then (if w0 y.ws=zc then 1 else 2) else c) 0
def dY (k:List It):List Lb:=k.flatMap fun y=>if y.nm=pt then [⟨w0 y.ws,w1 y.ws⟩] else []
def tY (lk:Lk) (y:It):Ru:=⟨w0 y.ws,w1 y.ws==wv,ai (lk 2 y.kd).1 j8 0,ai (lk 2 y.kd).1 j9 0,ai (lk 2 y.kd).1 ij 0,ai (lk 2 y.kd).1 nf 0,ai (lk 2 y.kd).1 ng 0⟩
def dy (lk:Lk) (k:List It):List Ru:=k.flatMap fun y=>if y.nm=dU then [tY lk y] else []
def li (lk:Lk) (x:It):Gl:=let k:=(lk 1 x.kd).1
 ⟨w0 x.ws,ai k jx 0,ai k iq 60,ai k kM 0,ai k jN 0,fi k,dY k,dy lk k⟩
def b9 (lk:Lk) (C:List It):List Gl:=C.flatMap fun y=>if y.nm=mg then [li lk y] else []
def lQ (lk:Lk) (C:List It):List It:=C.foldl (fun n y=>if y.nm=mg then n else (lk 3 y.kd).1) []
def zd (lk:Lk) (C:List It):Cf:=let n:=lQ lk C
 ⟨b9 lk C,ai n mz 16,ai n mA 0,ai n mB 10,ai n mE 300,ai n nh 0⟩
def NC:Cf:=⟨[],0,0,0,0,0⟩
def eD (f:Nat) (right:Bool) (L:List It):Cf×List Ft:=
 if right=false then (NC,[⟨6,0,0⟩])
 else if (au f 0 L).2≠[] then (NC,(au f 0 L).2)
 else (zd (au f) (au f 0 L).1,[])
def aI {α:Type} (mk:α->MK) (l:List (α×Nat)):List (MK×MK):=l.map fun p=>(mk p.1,.i .i64 p.2)
def ek {α:Type} [DecidableEq α] (l:List (α×Nat)) (n:α):List (α×Nat):=match l with
 |[]=>[(n,1)]
 |(m,c)::r=>if n=m then (m,c+1)::r else (m,c)::ek r n
structure G9 {α:Type} (l:List (α×Nat)) (s:List α):Prop where
 mem: ∀n,n∈l.map Prod.fst↔n∈s
 le: ∀p∈l,1<=p.2/\p.2<=s.length
theorem mh {α:Type} [DecidableEq α] (n x:α): ∀l:List (α×Nat),x∈(ek l n).map Prod.fst↔x=n\/x∈l.map Prod.fst
 |[]=>by simp[ek]
 |(m,c)::r=>by
  simp only[ek];split
  ·rename_i h;subst h;simp
  ·rename_i h;simp only[fZ,nH,mh n x r];constructor
   ·rintro (h|h|h)
    ·exact .inr (.inl h)
    ·exact .inl h
    ·exact .inr (.inr h)
   ·rintro (h|h|h)
    ·exact .inr (.inl h)
    ·exact .inl h
    ·exact .inr (.inr h)
theorem ze {α:Type} [DecidableEq α] (n:α) (N:Nat): ∀l:List (α×Nat),(∀p∈l,1<=p.2/\p.2<=N)-> ∀p∈ek l n,1<=p.2/\p.2<=N+1
 |[],_,p,hp=>by simp only[ek,FI] at hp;subst hp;simp
 |(m,c)::r,h,p,hp=>by
  simp only[ek] at hp;have h1:=h (m,c) (by simp);simp only at h1;split at hp
  ·rcases nH.1 hp with rfl|hp
   ·simp only;omega
   ·have:=h p (by simp[hp]);omega
  ·rcases nH.1 hp with rfl|hp
   ·simp only;omega
   ·exact ze n N r (fun q hq=>h q (by simp[hq])) p hp
theorem G9.nil {α:Type}:G9 ([]:List (α×Nat)) []:=⟨by simp,by simp⟩
theorem G9.bump {α:Type} [DecidableEq α] {l:List (α×Nat)} {s:List α} (h:G9 l s) (n:α):G9 (ek l n) (s++[n]):=by
 refine ⟨fun x=>?_,fun p hp=>?_⟩
 ·rw[mh,h.mem,jD,FI];exact Or.comm
 ·rw[fT];exact ze n s.length l h.le p hp
theorem uR {α:Type} [DecidableEq α] (mk:α->MK) (hs: ∀a b:α,MK.same (mk a) (mk b)=some (decide (a=b))) (n:α): ∀(l:List (α×Nat)) (i:Nat),
  (n∉l.map Prod.fst/\gW (mk n) (aI mk l) i=some none/\aI mk (ek l n)=aI mk l++[(mk n,.i .i64 1)]/\
   gW (mk n) (aI mk l++[(mk n,.i .i64 1)]) i=some (some (i+l.length,.i .i64 1)))\/
  ∃j c,(n,c)∈l/\gW (mk n) (aI mk l) i=some (some (i+j,.i .i64 (c:Nat)))/\tQ (aI mk l) j (.i .i64 ((c+1:Nat):Int))=aI mk (ek l n)/\
   gW (mk n) (aI mk (ek l n)) i=some (some (i+j,.i .i64 ((c+1:Nat):Int)))
 |[],i=> .inl ⟨by simp,rfl,rfl,by simp[aI,gW,hs]⟩
 |(m,c)::r,i=>by
  have e:aI mk ((m,c)::r)=(mk m,.i .i64 c)::aI mk r:=rfl;rw[e];simp only[gW,hs,ek,cB];by_cases h:n=m
  ·subst h;refine .inr ⟨0,c,by simp,?_,?_,?_⟩
   ·simp
   ·rw[if_pos rfl];rfl
   ·rw[if_pos rfl];simp[aI,gW,hs]
  ·rw[lm h,if_neg h];have e2:aI mk ((m,c)::ek r n)=(mk m,.i .i64 c)::aI mk (ek r n):=rfl;rw[e2];simp only[gW,hs,lm h];rcases uR mk hs n r (i+1) with ⟨h0,h1,h2,h3⟩|⟨j,c',h0,h1,h2,h3⟩
   ·refine .inl ⟨by simp only[fZ,nH];exact fun e=>e.elim h h0,h1,by rw[h2],?_⟩;simp only[h3,e7];rw[show i+1+r.length=i+(r.length+1) by omega]
   ·refine .inr ⟨j+1,c',by simp[h0],?_,?_,?_⟩
    ·simp only[h1];rw[show i+1+j=i+(j+1) by omega]
    ·show tQ _ (j+1) _=(mk m,MK.i .i64 (c:Int))::aI mk (ek r n);rw[<-h2];rfl
    ·simp only[h3];rw[show i+1+j=i+(j+1) by omega]
def kS (s:List UInt8):MK:= .s s
theorem Kb (a b:List UInt8):MK.same (kS a) (kS b)=some (decide (a=b)):=by
 simp only[kS,MK.same];by_cases h:a=b<;>simp[h]
def aA (s:List (List UInt8)):List (List UInt8×Nat):=s.foldl ek []
theorem BC (s:List (List UInt8)) (n:List UInt8):aA (s++[n])=ek (aA s) n:=by
 unfold aA;rw[List.foldl_append];rfl
theorem uS {α:Type} [DecidableEq α] (n:α) (f:α->Nat): ∀l:List (α×Nat),(l.map Prod.fst).Nodup->(∀p∈l,p.2=f p.1)->(n∉l.map Prod.fst->f n=0)->
  ((ek l n).map Prod.fst).Nodup/\ ∀p∈ek l n,p.2=f p.1+(if p.1=n then 1 else 0)
 |[],_,_,h0=>by
  have:=h0 (by simp)
  refine ⟨by simp[ek],fun p hp=>?_⟩;simp only[ek,FI] at hp;subst hp;simp[this]
 |(m,c)::r,hn,hv,h0=>by
  rw[fZ,Np] at hn;have hm:=hv (m,c) (by simp);simp only at hm;rw[ek];by_cases e:n=m
  ·subst e;rw[if_pos rfl];refine ⟨by rw[fZ,Np];exact hn,fun p hp=>?_⟩;rcases nH.1 hp with rfl|hp
   ·simp[hm]
   ·have hne:p.1≠n:=fun e=>hn.1 (oY.2 ⟨p,hp,e⟩)
    rw[if_neg hne,hv p (by simp[hp])];rfl
  ·rw[if_neg e];obtain ⟨i1,i2⟩:=uS n f r hn.2 (fun p hp=>hv p (by simp[hp])) (fun h=>h0 (by
    rw[fZ,nH];rintro (g|g)
    ·exact e g
    ·exact h g))
   refine ⟨?_,fun p hp=>?_⟩
   ·rw[fZ,Np];refine ⟨fun hm2=>?_,i1⟩;rcases (mh n m r).1 hm2 with g|g
    ·exact e g.symm
    ·exact hn.1 g
   ·rcases nH.1 hp with rfl|hp
    ·rw[if_neg (fun g=>e g.symm)];exact hm
    ·exact i2 p hp
def uT (l:List (List UInt8×Nat)) (s:List (List UInt8)):Prop:=(l.map Prod.fst).Nodup/\(∀p∈l,p.2=s.count p.1)/\(∀n,n∈l.map Prod.fst↔n∈s)
theorem uT.bump {l:List (List UInt8×Nat)} {s:List (List UInt8)} (h:uT l s) (n:List UInt8):uT (ek l n) (s++[n]):=by
 obtain ⟨h1,h2,h3⟩:=h;obtain ⟨g1,g2⟩:=uS n (fun x=>s.count x) l h1 h2 (fun h=>List.count_eq_zero.2 (fun g=>h ((h3 n).2 g)));refine ⟨g1,fun p hp=>?_,fun x=>?_⟩
 ·rw[g2 p hp,List.count_append,List.count_singleton];by_cases e:p.1=n
  ·rw[if_pos e,if_pos (by rw[e];simp)]
  ·rw[if_neg e,if_neg (by simpa using fun g=>e g.symm)]
 ·rw[mh,h3,jD,FI];exact Or.comm
theorem C9: ∀(t:List (List UInt8)) (l:List (List UInt8×Nat)) (s:List (List UInt8)),uT l s->uT (t.foldl ek l) (s++t)
 |[],l,s,h=>by rw[xJ];exact h
 |n::t,l,s,h=>by
  have:=C9 t _ _ (h.bump n)
  rw[xv] at this;exact this
theorem Ha (s:List (List UInt8)):uT (aA s) s:=C9 s [] [] ⟨by simp,by simp,by simp⟩
theorem fD (s:List (List UInt8)) (n:List UInt8):
  (s.count n=0/\gW (kS n) (aI kS (aA s)) 0=some none/\aI kS (aA (s++[n]))=aI kS (aA s)++[(kS n,.i .i64 1)]/\gW (kS n) (aI kS (aA s)++[(kS n,.i .i64 1)]) 0=some (some ((aA s).length,.i .i64 1)))\/
  ∃j,0<s.count n/\gW (kS n) (aI kS (aA s)) 0=some (some (j,.i .i64 (s.count n:Nat)))/\tQ (aI kS (aA s)) j (.i .i64 ((s.count n+1:Nat):Int))=aI kS (aA (s++[n])):=by
 obtain ⟨h1,h2,h3⟩:=Ha s;rw[BC];rcases uR kS Kb n (aA s) 0 with ⟨a,b,c,d⟩|⟨j,c,a,b,d,e⟩
 ·rw[l5] at d;exact .inl ⟨List.count_eq_zero.2 (fun g=>a ((h3 n).2 g)),b,c,d⟩
 ·have hc:=h2 (n,c) a;simp only at hc;subst hc;refine .inr ⟨j,List.count_pos_iff.2 ((h3 n).1 (oY.2 ⟨_,a,rfl⟩)),?_,d⟩;rw[l5] at b;exact b
def lR (n:List UInt8):Bool:=n==mg||(n==pt||n==dU)
def de (n w:List UInt8):List UInt8:=n++32::w
def lj (y:It):List (List UInt8):=if lR y.nm=true then [de y.nm (w0 y.ws),y.nm] else [y.nm]
def am (C:List It):List (List UInt8):=C.flatMap lj
theorem kO (C:List It) (x:It):am (C++[x])=am C++lj x:=by simp[am]
theorem zf: ∀ {a b c d:List UInt8},(32:UInt8)∉a->(32:UInt8)∉c->a++32::b=c++32::d->a=c/\b=d
 |[],b,[],d,_,_,h=>by simpa using h
 |[],b,x::c,d,_,hc,h=>by
  simp only[cL,cB,List.cons.injEq] at h;exact absurd (by simp[h.1]) hc
 |x::a,b,[],d,ha,_,h=>by
  simp only[cL,cB,List.cons.injEq] at h;exact absurd (by simp[h.1]) ha
 |x::a,b,y::c,d,ha,hc,h=>by
  simp only[cB,List.cons.injEq] at h;simp only[nH,not_or] at ha hc;obtain ⟨e1,e2⟩:=zf ha.2 hc.2 h.2;exact ⟨by rw[h.1,e1],e2⟩
theorem Da (n w:List UInt8):(32:UInt8)∈de n w:=by simp[de]
theorem qI (n:List UInt8) (hn:(32:UInt8)∉n): ∀C:List It,(am C).count n=qz C n
 |[]=>rfl
 |y::C=>by
  have ih:=qI n hn C;have e:am (y::C)=lj y++am C:=by simp[am]
  rw[e,List.count_append,ih];unfold qz;rw[List.filter_cons];have hf:de y.nm (w0 y.ws)≠n:=fun g=>hn (by rw[<-g];exact Da _ _)
  have one:(lj y).count n=if y.nm=n then 1 else 0:=by
   unfold lj;split
   ·rw[List.count_cons,List.count_singleton,if_neg (show ¬(de y.nm (w0 y.ws)==n)=true by simpa using hf)];simp
   ·rw[List.count_singleton];simp
  rw[one];by_cases g:y.nm=n
  ·rw[if_pos g,if_pos (by simpa using g),e7];omega
  ·rw[if_neg g,if_neg (by simpa using g)];omega
theorem uU (n w:List UInt8) (hn:(32:UInt8)∉n) (hm:lR n=true): ∀C:List It,(∀y∈C,(32:UInt8)∉y.nm)->(am C).count (de n w)=(C.filter fun y=>y.nm==n&&w0 y.ws==w).length
 |[],_=>rfl
 |y::C,h=>by
  have ih:=uU n w hn hm C fun z hz=>h z (by simp[hz])
  have hy:=h y (by simp);have e:am (y::C)=lj y++am C:=by simp[am]
  rw[e,List.count_append,ih,List.filter_cons];have hf:y.nm≠de n w:=fun g=>hy (by rw[g];exact Da _ _)
  have one:(lj y).count (de n w)=if y.nm=n/\w0 y.ws=w then 1 else 0:=by
   unfold lj;split
   ·rw[List.count_cons,List.count_singleton,if_neg (show ¬(y.nm==de n w)=true by simpa using hf),l5];by_cases g:y.nm=n/\w0 y.ws=w
    ·rw[if_pos g,if_pos (by rw[g.1,g.2];simp)]
    ·rw[if_neg g,if_neg];intro q;exact g (zf hy hn (cI.1 q))
   ·rename_i hk;rw[List.count_singleton,if_neg (show ¬(y.nm==de n w)=true by simpa using hf),if_neg];rintro ⟨g,_⟩;exact hk (by rw[g];exact hm)
  rw[one];by_cases g:y.nm=n/\w0 y.ws=w
  ·rw[if_pos g,if_pos (by simp[g.1,g.2]),e7];omega
  ·rw[if_neg g,if_neg (by simpa using g)];omega
theorem rX {α:Type} (p:α->Bool) (C:List α):(C.filter p).length=0↔C.any p=false:=by
 rw[List.length_eq_zero_iff,List.filter_eq_nil_iff,List.any_eq_false]
end Go.Ai
