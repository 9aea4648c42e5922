/- P1: a part of the proof. Conditions: as each theorem says. -/
import Derived.Test.YtojgeamhdkphaaaGreatDoorCode
import Derived.Laws.Bits64b
set_option linter.unusedSimpArgs false
set_option linter.unusedVariables false
set_option maxRecDepth 20000
namespace Go.Ai
open Go.Proofs
abbrev u (n:Nat):AV:= .int .u64 n
def wide (n:Nat):AV:= .agg [u (n / 18446744073709551616),u (n%18446744073709551616)]
abbrev i6 (n:Int):AV:= .int .i64 n

theorem RA (x:Int):x.fdiv (2^min 32 IntKind.u64.bits)=x / 4294967296:=by
 have:(2:Int)^min 32 IntKind.u64.bits=4294967296:=by decide
 rw[this];exact Int.fdiv_eq_ediv_of_nonneg _ (by decide)
theorem Bc (n:Int) (h1:0<=n) (h2:n<18446744073709551616):bits BinOp.and IntKind.u64 n 4294967295=n%4294967296:=by
 obtain ⟨m,rfl⟩:=Int.eq_ofNat_of_zero_le h1
 have:=bits_and_u64_nat m 4294967295 (by omega) (by omega)
 rw[show ((4294967295:Nat):Int)=4294967295 from rfl] at this;rw[this,show (4294967295:Nat)=2^32 - 1 from rfl,Nat.and_two_pow_sub_one_eq_mod];omega
theorem Jt (x1 x0 y1 y0:Int) (h1:0<=x1) (h2:x1<4294967296) (h3:0<=x0) (h4:x0<4294967296) (h5:0<=y1) (h6:y1<4294967296) (h7:0<=y0) (h8:y0<4294967296):
  ((x1*y1%18446744073709551616+(x1*y0%18446744073709551616+x0*y0%18446744073709551616 / 4294967296)%18446744073709551616 / 4294967296)%18446744073709551616+
   ((x1*y0%18446744073709551616+x0*y0%18446744073709551616 / 4294967296)%18446744073709551616%4294967296+x0*y1%18446744073709551616)%18446744073709551616 / 4294967296)%18446744073709551616
   =(x1*4294967296+x0)*(y1*4294967296+y0) / 18446744073709551616:=by
 have e:(x1*4294967296+x0)*(y1*4294967296+y0)=x1*y1*18446744073709551616+(x1*y0+x0*y1)*4294967296+x0*y0:=by
  simp only[Int.add_mul,Int.mul_add]
  have:x1*4294967296*(y1*4294967296)=x1*y1*18446744073709551616:=by
   rw[show (18446744073709551616:Int)=4294967296*4294967296 from rfl];ac_rfl
  rw[this,show x1*4294967296*y0=x1*y0*4294967296 by ac_rfl,show x0*(y1*4294967296)=x0*y1*4294967296 by ac_rfl];omega
 rw[e];have b: ∀a c:Int,0<=a->a<4294967296->0<=c->c<4294967296->0<=a*c/\a*c<=18446744065119617025:=fun a c ha hb hc hd=>by
  refine ⟨Int.mul_nonneg ha hc,?_⟩
  have:=Int.mul_le_mul (show a<=4294967295 by omega) (show c<=4294967295 by omega) hc (by decide)
  simpa using this
 have b1:=b x1 y1 h1 h2 h5 h6;have b2:=b x1 y0 h1 h2 h7 h8;have b3:=b x0 y1 h3 h4 h5 h6;have b4:=b x0 y0 h3 h4 h7 h8;generalize x1*y1=p,x1*y0=q,x0*y1=r,x0*y0=s at*;omega
theorem Nx (x y:Nat) (hx:x<18446744073709551616) (hy:y<18446744073709551616):Sp Tryz.prog gl 152 [u x,u y] (.tup [u (x*y / 18446744073709551616),u (x*y%18446744073709551616)]):=by
 refine P8 rfl rfl ?_;simp[M1];have wm: ∀n:Int,0<=n%18446744073709551616/\n%18446744073709551616<18446744073709551616:=fun n=>by omega
 rw[Bc x (by omega) (by omega),Bc y (by omega) (by omega)];simp only[RA,DM];rw[Bc _ (wm _).1 (wm _).2]
 have:=Jt (x / 4294967296) (x%4294967296) (y / 4294967296) (y%4294967296) (by omega) (by omega) (by omega) (by omega) (by omega) (by omega) (by omega) (by omega)
 refine ⟨?_,trivial⟩;rw[this];congr 2<;>omega
theorem nn (x y:Nat) (hx:x<18446744073709551616) (hy:y<18446744073709551616):Sp Tryz.prog gl 133 [u x,u y] (wide (x*y)):=by
 refine PZ rfl rfl ?_;simp[MV];refine aZ _ (Nx x y hx hy) ?_;simp[wide]
structure Tk where
 k:Int
 t:List UInt8
 n:Nat
 ln:Int
 co:Int
 deriving DecidableEq
def Tk.row (x:Tk):List AV:=[i6 x.k,.str x.t,u x.n,i6 x.ln,i6 x.co]
inductive It where
 |mk (n:List UInt8) (ws:List Tk) (b:Bool) (ks:List It) (ln co:Int)
mutual
def It.row:It->List AV
 | .mk n ws b ks ln co=>[.str n,.sl (ws.map Tk.row),.bool b,.sl (ae ks),i6 ln,i6 co]
def ae:List It->List (List AV)
 |[]=>[]
 |x::r=>x.row::ae r
end
theorem nq: ∀a b:List It,ae (a++b)=ae a++ae b
 |[],b=>rfl
 |x::a,b=>by rw[cT,ae,ae,nq a b,cT]
theorem a8: ∀a:List It,(ae a).length=a.length
 |[]=>rfl
 |x::a=>by rw[ae,jG,jG,a8 a]
theorem nr: ∀a:List It,∀r∈ae a,r.length=6
 |[],r,h=>by cases h
 | .mk n ws b ks ln co::a,r,h=>by
  rw[ae,o8] at h;rcases h with rfl|h
  ·rw[It.row];rfl
  ·exact nr a r h
mutual
def iU:It->Nat
 | .mk _ _ _ ks _ _=>1+bg ks
def bg:List It->Nat
 |[]=>0
 |x::r=>iU x+bg r
end
mutual
def mR:It->Nat
 | .mk _ _ _ ks _ _=>1+dz ks
def dz:List It->Nat
 |[]=>0
 |x::r=>max (mR x) (dz r)
end
theorem rY: ∀a b:List It,bg (a++b)=bg a+bg b
 |[],b=>by rw[bg,dB,mm]
 |x::a,b=>by rw[cT,bg,bg,rY a b,Fb]
theorem yX: ∀a b:List It,dz (a++b)=max (dz a) (dz b)
 |[],b=>by rw[dz,dB,Nat.zero_max]
 |x::a,b=>by rw[cT,dz,dz,yX a b,Nat.max_assoc]
theorem cp: ∀(L:List It) (i:Nat) (h:i<L.length) (h2:i<(ae L).length),(ae L)[i]=L[i].row
 |x::L,0,h,h2=>rfl
 |x::L,i+1,h,h2=>by
  simp only[ae,List.getElem_cons_succ];exact cp L i _ _
theorem jO: ∀ {L:List It} {x:It},x∈L->iU x<=bg L
 |y::L,x,h=>by
  rw[bg];rcases o8.1 h with rfl|h
  ·omega
  ·have:=jO h;omega
theorem pN (L:List It) (i:Nat):bg (L.take i)<=bg L:=by
 have:=rY (L.take i) (L.drop i)
 rw[IQ] at this;omega
theorem fm: ∀L:List It,L.length<=bg L
 |[]=>gN _
 | .mk n ws b ks ln co::L=>by
  have:=fm L
  rw[bg,iU,jG];omega
theorem Ju (s:List UInt8) (i:Nat) (h:i<s.length):(ByteArray.mk s.toArray).get! i=s[i]:=by
 simp[ByteArray.get!,getElem!_pos,h]
def cF (s:List UInt8) (j:Nat):Nat:=match s[j]? with |some b=>b.toNat|none=>0
def gE (s:List UInt8) (j:Nat):Bool:=decide (128<=cF s j/\cF s j<=191)
def rv (s:List UInt8) (i r0:Nat):Nat->Nat
 |0=>r0
 |k+1=>64*rv s i r0 k+(cF s (i+(k+1)) - 128)
def gQ (s:List UInt8) (i:Nat):Nat->Bool
 |0=>true
 |k+1=>gQ s i k&&gE s (i+(k+1))
def dc (least r:Nat):Bool:=decide (least<=r/\r<=1114111/\ ¬(55296<=r/\r<57344))
def cB (s:List UInt8) (i n r0 least:Nat):Int×Nat:=if gQ s i n&&dc least (rv s i r0 n) then ((rv s i r0 n:Nat),n+1) else (-1,1)
def ax (s:List UInt8) (i:Nat):Int×Nat:=
 let b:=cF s i
 if b<128 then (b,1) else if 192<=b/\b<224 then cB s i 1 (b - 192) 128 else if 224<=b/\b<240 then cB s i 2 (b - 224) 2048 else if 240<=b/\b<248 then cB s i 3 (b - 240) 65536 else (-1,1)
theorem rZ {s:List UInt8} {i:Nat} (h:i<s.length):cF s i=s[i].toNat:=by unfold cF;rw[vy h]
theorem jy (s:List UInt8) (i:Nat):cF s i<256:=by
 unfold cF;split
 ·rename_i b _;exact b.toNat_lt
 ·omega
theorem CF {s:List UInt8} {i:Nat} (h: ¬i<s.length):cF s i=0:=by unfold cF;rw[IS (by omega)]
theorem Ge (s:List UInt8) (i r0 least:Nat):cB s i 1 r0 least=if gE s (i+1)&&dc least (64*r0+(cF s (i+1) - 128)) then (((64*r0+(cF s (i+1) - 128):Nat):Int),2) else (-1,1):=rfl
theorem Gf (s:List UInt8) (i r0 least:Nat):cB s i 2 r0 least=if (gE s (i+1)&&gE s (i+2))&&dc least (64*(64*r0+(cF s (i+1) - 128))+(cF s (i+2) - 128)) then (((64*(64*r0+(cF s (i+1) - 128))+(cF s (i+2) - 128):Nat):Int),3) else (-1,1):=rfl
theorem Gg (s:List UInt8) (i r0 least:Nat):cB s i 3 r0 least=if ((gE s (i+1)&&gE s (i+2))&&gE s (i+3))&&dc least (64*(64*(64*r0+(cF s (i+1) - 128))+(cF s (i+2) - 128))+(cF s (i+3) - 128)) then (((64*(64*(64*r0+(cF s (i+1) - 128))+(cF s (i+2) - 128))+(cF s (i+3) - 128):Nat):Int),4) else (-1,1):=rfl
theorem pO (s:List UInt8) (i n r0 least:Nat):1<=(cB s i n r0 least).2:=by unfold cB;split<;>simp
theorem cX (s:List UInt8) (i:Nat):1<=(ax s i).2:=by
 unfold ax;simp only;split
 ·simp
 ·split
  ·exact pO ..
  ·split
   ·exact pO ..
   ·split
    ·exact pO ..
    ·simp
def aC (s:List UInt8) (i:Nat):List Int:=if h:i<s.length then (ax s i).1::aC s (i+(ax s i).2) else []
termination_by s.length - i
decreasing_by have:=cX s i;omega
theorem bW {s:List UInt8} {i:Nat} (h:i<s.length):aC s i=(ax s i).1::aC s (i+(ax s i).2):=by rw[aC,dif_pos h]
theorem bp {s:List UInt8} {i:Nat} (h: ¬i<s.length):aC s i=[]:=by rw[aC,dif_neg h]
theorem io {s:List UInt8} {j:Nat} (h:j<s.length):((ByteArray.mk s.toArray).get! j).toNat=cF s j:=by rw[Ju s j h,rZ h]
theorem iH {s:List UInt8} {j:Nat}:gE s j=true↔j<s.length/\cF s j / 64=2:=by
 unfold gE;rw[nL];constructor
 ·intro h;rcases Nat.lt_or_ge j s.length with h1|h1
  ·exact ⟨h1,by omega⟩
  ·rw[CF (by omega)] at h;omega
 ·intro h;omega
theorem hY (s:List UInt8) (i:Nat) (h:i<s.length):eF s i=(if (ax s i).1= -1 then (65533,1) else ax s i):=by
 have hb:(ByteArray.mk s.toArray).size=s.length:=by simp[ByteArray.size]
 have c: ∀k,(decide (i+k<(ByteArray.mk s.toArray).size)&&((ByteArray.mk s.toArray).get! (i+k)).toNat / 64==2)=gE s (i+k):=by
  intro k;rw[Bool.eq_iff_iff,iH,hb];simp only[aL,nL,cY];constructor
  ·rintro ⟨h1,h2⟩;rw[io h1] at h2;exact ⟨h1,h2⟩
  ·rintro ⟨h1,h2⟩;rw[io h1];exact ⟨h1,h2⟩
 have e0:((ByteArray.mk s.toArray).get! (i+0)).toNat=cF s i:=io (by omega);have bl:=jy s i;unfold eF Utf8.decode;simp only[e0,c,Utf8.runeError];unfold ax;simp only;by_cases h1:cF s i<128
 ·have h2: ¬((cF s i:Nat):Int)= -1:=by omega
  simp only[h1,if_true,h2,if_false]
 ·simp only[h1,if_false];have d1:(cF s i / 32==6)=decide (192<=cF s i/\cF s i<224):=by rw[Bool.eq_iff_iff];simp;omega
  have d2:(cF s i / 16==14)=decide (224<=cF s i/\cF s i<240):=by rw[Bool.eq_iff_iff];simp;omega
  have d3:(cF s i / 8==30)=decide (240<=cF s i/\cF s i<248):=by rw[Bool.eq_iff_iff];simp;omega
  rw[d1,d2,d3];by_cases r1:192<=cF s i/\cF s i<224
  ·have r2: ¬(224<=cF s i/\cF s i<240):=by omega
   have r3: ¬(240<=cF s i/\cF s i<248):=by omega
   simp only[r1,r2,r3,and_self,decide_true,decide_false,iX,jC,if_true,if_false,tL];rw[Ge];cases c1:gE s (i+1)
   ·simp
   ·obtain ⟨l1,q1⟩:=iH.1 c1;simp only[if_true,iX,io l1];have b1:=jy s (i+1);generalize cF s (i+1)=y,cF s i=x at*;by_cases z:dc 128 (64*(x - 192)+(y - 128))=true
    ·have zz:=z;unfold dc at zz;rw[nL] at zz;have e:x%32*64+y%64=64*(x - 192)+(y - 128):=by omega
     simp only[z,e,if_true];rw[if_neg (show ¬((64*(x - 192)+(y - 128):Nat):Int)= -1 by omega),if_pos (by omega)]
    ·have zz:=z;unfold dc at zz;rw[nL] at zz;have hz: ¬(x%32*64+y%64>=128):=by omega
     simp only[z,hz,tL,if_false];simp
  ·by_cases r2:224<=cF s i/\cF s i<240
   ·have r3: ¬(240<=cF s i/\cF s i<248):=by omega
    simp only[r1,r2,r3,and_self,decide_true,decide_false,iX,jC,if_true,if_false,tL];rw[Gf];cases c1:gE s (i+1)
    ·simp
    ·cases c2:gE s (i+2)
     ·simp
     ·obtain ⟨l1,q1⟩:=iH.1 c1;obtain ⟨l2,q2⟩:=iH.1 c2;simp only[if_true,iX,Bool.and_self,io l1,io l2];have b1:=jy s (i+1);have b2:=jy s (i+2);try rw[io l2]
      generalize cF s (i+2)=w,cF s (i+1)=y,cF s i=x at*;by_cases z:dc 2048 (64*(64*(x - 224)+(y - 128))+(w - 128))=true
      ·have zz:=z;unfold dc at zz;rw[nL] at zz;have e:x%16*4096+y%64*64+w%64=64*(64*(x - 224)+(y - 128))+(w - 128):=by omega
       simp only[z,e,if_true];rw[if_neg (show ¬((64*(64*(x - 224)+(y - 128))+(w - 128):Nat):Int)= -1 by omega),if_pos (by simp[Utf8.valid];omega)]
      ·have zz:=z;unfold dc at zz;rw[nL] at zz;have hz:(decide (x%16*4096+y%64*64+w%64>=2048)&&Utf8.valid ((x%16*4096+y%64*64+w%64:Nat):Int))=false:=by
        rw[Of];simp[Utf8.valid];omega
       simp only[z,hz,tL,if_false];simp
   ·by_cases r3:240<=cF s i/\cF s i<248
    ·simp only[r1,r2,r3,and_self,decide_true,decide_false,iX,jC,if_true,if_false,tL];rw[Gg];cases c1:gE s (i+1)
     ·simp
     ·cases c2:gE s (i+2)
      ·simp
      ·cases c3:gE s (i+3)
       ·simp
       ·obtain ⟨l1,q1⟩:=iH.1 c1;obtain ⟨l2,q2⟩:=iH.1 c2;obtain ⟨l3,q3⟩:=iH.1 c3;simp only[if_true,iX,Bool.and_self,io l1];have b1:=jy s (i+1);have b2:=jy s (i+2);have b3:=jy s (i+3);try simp only[io l2,io l3]
        generalize cF s (i+3)=t,cF s (i+2)=w,cF s (i+1)=y,cF s i=x at*;by_cases z:dc 65536 (64*(64*(64*(x - 240)+(y - 128))+(w - 128))+(t - 128))=true
        ·have zz:=z;unfold dc at zz;rw[nL] at zz;have e:x%8*262144+y%64*4096+w%64*64+t%64=64*(64*(64*(x - 240)+(y - 128))+(w - 128))+(t - 128):=by omega
         simp only[z,e,if_true];rw[if_neg (show ¬((64*(64*(64*(x - 240)+(y - 128))+(w - 128))+(t - 128):Nat):Int)= -1 by omega),if_pos (by simp[Utf8.valid];omega)]
        ·have zz:=z;unfold dc at zz;rw[nL] at zz;have hz:(decide (x%8*262144+y%64*4096+w%64*64+t%64>=65536)&&Utf8.valid ((x%8*262144+y%64*4096+w%64*64+t%64:Nat):Int))=false:=by
          rw[Of];simp[Utf8.valid];omega
         simp only[z,hz,tL,if_false];simp
    ·simp[r1,r2,r3]
abbrev i3 (n:Int):AV:= .int .i32 n
def bP (l:List Int):List (List AV):=l.map fun r=>[i3 r]
theorem mZ (l:List Int) (r:Int):bP (l++[r])=bP l++[[i3 r]]:=by simp[bP]
theorem i9 (l:List Int):(bP l).length=l.length:=by simp[bP]
theorem oz (l:List Int): ∀r∈bP l,r.length=1:=by
 intro r hr;obtain ⟨m,_,rfl⟩:=nM.1 hr;rfl
theorem cN {n:Int} (h1: -2147483648<=n) (h2:n<2147483648):IntKind.i32.wrap n=n:=by
 have e1:(2:Int)^32=4294967296:=by decide
 have e2:(2:Int)^(32 - 1)=2147483648:=by decide
 have:IntKind.i32.wrap n=if (true&&decide (n%2^32>=2^(32 - 1)))=true then n%2^32 - 2^32 else n%2^32:=rfl
 rw[this];simp only[e1,e2,iX,nL];split<;>omega
theorem yY {s:List UInt8} {i:Nat}: ∀ {n k:Nat},k<=n->gQ s i n=true->gQ s i k=true
 |0,k,h,hc=>by rw[show k=0 by omega];rfl
 |n+1,k,h,hc=>by
  simp only[gQ,aL] at hc;by_cases e:k=n+1
  ·rw[e];simp only[gQ,hc,Bool.and_self]
  ·exact yY (by omega) hc.1
theorem Gh (s:List UInt8) (i r0:Nat) (h0:r0<32):rv s i r0 0<32/\rv s i r0 1<2048+128/\rv s i r0 2<139264+128/\rv s i r0 3<8921088+128:=by
 have b1:=jy s (i+1);have b2:=jy s (i+2);have b3:=jy s (i+3);have e1:rv s i r0 1=64*r0+(cF s (i+1) - 128):=rfl;have e2:rv s i r0 2=64*rv s i r0 1+(cF s (i+2) - 128):=rfl;have e3:rv s i r0 3=64*rv s i r0 2+(cF s (i+3) - 128):=rfl;have e0:rv s i r0 0=r0:=rfl;omega
theorem Bd {s:List UInt8} {i:Nat} {out:List Int} {R:List Int} (h:i<s.length) (hR:out++aC s i=R):(out++[(ax s i).1])++aC s (i+(ax s i).2)=R:=by
 rw[<-hR,bW h];simp
def AC.part:List Nat->AC->AC
 |[],c=>c
 |0::p,.sq a _=>a.part p
 |1::p,.sq _ b=>b.part p
 |2::p,.bl _ a=>a.part p
 |2::p,.lp a=>a.part p
 |_,c=>c
def AC.cutIn:List Nat->AC->AC->AC
 |[],T,_=>T
 |0::p,T,.sq a b=> .sq (AC.cutIn p T a) b
 |1::p,T,.sq a b=> .sq a (AC.cutIn p T b)
 |2::p,T,.bl i a=> .bl i (AC.cutIn p T a)
 |2::p,T,.lp a=> .lp (AC.cutIn p T a)
 |_,_,c=>c
def LE:AC:=AC.part [1,1,1,0,2,2,1,2,1,1,1,1] IJ
def O4:AC:=AC.part [1,1] LE
def r7 (ok:Bool) (n r least:Nat):Int×Nat:=if ok&&dc least r then ((r:Int),n+1) else (-1,1)
theorem Gi (s:List UInt8) (i n r least:Nat) (ok:Bool) (out:List Int) (hi:i<=1000000) (hn:n<=3) (ho:out.length<=1000000) (Q:AE->St->Prop)
  (hQ: ∀e,e= .n\/e= .x 1-> ∀σ',fx σ' ⟨[(0,.str s),(3,.sl (bP (out++[(r7 ok n r least).1]))),(4,i6 (i+(r7 ok n r least).2:Nat))],[],[(.s 3,1)]⟩->Q e σ')
  (e:List (Nat×AV)) (h0:lk e 0= .str s) (h3:lk e 3= .sl (bP out)) (h4:lk e 4=i6 i) (h5:lk e 5=i3 r) (h6:lk e 6=i6 n) (h7:lk e 7=i3 least) (h8:lk e 8= .bool ok):
  em (bh Tryz.prog gl) O4 Q ⟨e,[],[(.s 3,1)]⟩:=by
 have hlim:iQ=140737488355328:=rfl;have ec:O4=AC.part [1,1] (AC.part [1,1,1,0,2,2,1,2,1,1,1,1] IJ):=rfl;rw[ec];simp only[IJ,AC.part];have one:=oz out;have rl:=i9 out;have t1:IntKind.i64.wrap ((i:Int)+1)=(i+1:Nat):=by rw[ay]<;>omega
 have t3:IntKind.i64.wrap ((i:Int)+1+n)=(i:Int)+(n+1):=by rw[ay]<;>omega
 have hw:(out.length+1)*4<=140737488355328:=by omega
 rw[mZ] at hQ;generalize bP out=L at*;have bad:dc least r=false\/ok=false->r7 ok n r least=(-1,1):=by
  intro h;unfold r7;rcases h with h|h<;>simp[h]
 have good:dc least r=true->ok=true->r7 ok n r least=((r:Int),n+1):=by
  intro h h';unfold r7;simp[h,h']
 generalize r7 ok n r least=res at*;have hb:dc least r=false\/ok=false-> ∀e,e= .n\/e= .x 1-> ∀σ',fx σ' ⟨[(0,.str s),(3,.sl (L++[[i3 (-1)]])),(4,i6 (i+1:Nat))],[],[(.s 3,1)]⟩->Q e σ':=by
  intro h
  have:=bad h
  subst this;exact hQ
 cases ok with
 |false=>
  have hb:=hb (.inr rfl);clear hQ bad good;simp[h8,h3,hlim,rl,h4];refine ⟨hw,one,hb _ (.inr rfl) _ (aj ?_ ?_ ?_ ?_ ?_ ?_)⟩<;>simp[h0,t1]
 |true=>
  by_cases z:dc least r=true
  ·have:=good z rfl
   subst this;clear hb bad good;unfold dc at z;rw[nL] at z;have z1: ¬r<least:=by omega
   have z1': ¬(r:Int)<least:=by omega
   have z2: ¬(1114111:Int)<r:=by omega
   by_cases z3:(55296:Int)<=r
   ·have z4: ¬(r:Int)<57344:=by omega
    simp[h8,h5,h7,z1,z1',z2,z3,z4,h3,hlim,rl,h4,h6];refine ⟨hw,one,hQ _ (.inl rfl) _ (aj ?_ ?_ ?_ ?_ ?_ ?_)⟩<;>simp[h0,t1,t3]
   ·simp[h8,h5,h7,z1,z1',z2,z3,h3,hlim,rl,h4,h6];refine ⟨hw,one,hQ _ (.inl rfl) _ (aj ?_ ?_ ?_ ?_ ?_ ?_)⟩<;>simp[h0,t1,t3]
  ·have hb:=hb (.inl (by simpa using z));clear hQ bad good;unfold dc at z;rw[nL] at z;by_cases z1:r<least
   ·have z1':(r:Int)<least:=by omega
    simp[h8,h5,h7,z1,z1',h3,hlim,rl,h4,h6];refine ⟨hw,one,hb _ (.inr rfl) _ (aj ?_ ?_ ?_ ?_ ?_ ?_)⟩<;>simp[h0,t1]
   ·have z1': ¬(r:Int)<least:=by omega
    by_cases z2:(1114111:Int)<r
    ·simp[h8,h5,h7,z1,z1',z2,h3,hlim,rl,h4,h6];refine ⟨hw,one,hb _ (.inr rfl) _ (aj ?_ ?_ ?_ ?_ ?_ ?_)⟩<;>simp[h0,t1]
    ·have z3:(55296:Int)<=r:=by omega
     have z4:(r:Int)<57344:=by omega
     simp[h8,h5,h7,z1,z1',z2,z3,z4,h3,hlim,rl,h4,h6];refine ⟨hw,one,hb _ (.inr rfl) _ (aj ?_ ?_ ?_ ?_ ?_ ?_)⟩<;>simp[h0,t1]
def m3 (s:List UInt8) (i n r0 least:Nat):Int×Nat:=if n=0 then (-1,1) else cB s i n r0 least
theorem Gj (s:List UInt8) (i n r0 least:Nat) (out:List Int) (hi:i<=1000000) (hn:n<=3) (h32:n=0\/r0<32) (ho:out.length<=1000000) (hsl:s.length<=1000000) (Q:AE->St->Prop)
  (hQ: ∀e,e= .n\/e= .x 1-> ∀σ',fx σ' ⟨[(0,.str s),(3,.sl (bP (out++[(m3 s i n r0 least).1]))),(4,i6 (i+(m3 s i n r0 least).2:Nat))],[],[(.s 3,1)]⟩->Q e σ')
  (e:List (Nat×AV)) (h0:lk e 0= .str s) (h3:lk e 3= .sl (bP out)) (h4:lk e 4=i6 i) (h5:lk e 5=i3 r0) (h6:lk e 6=i6 n) (h7:lk e 7=i3 least):
  em (bh Tryz.prog gl) LE Q ⟨e,[],[(.s 3,1)]⟩:=by
 have ec:LE=AC.cutIn [1,1] O4 LE:=rfl;rw[ec];have U:=Gi s i n;generalize O4=t at U ⊢;have eT:LE=AC.part [1,1,1,0,2,2,1,2,1,1,1,1] IJ:=rfl;rw[eT];simp only[IJ,AC.part,AC.cutIn];have good:n≠0->gQ s i n=true-> ∀e,lk e 0= .str s->lk e 3= .sl (bP out)->lk e 4=i6 i->lk e 5=i3 (rv s i r0 n)->lk e 6=i6 n->lk e 7=i3 least->lk e 8= .bool true->em (bh Tryz.prog gl) t Q ⟨e,[],[(.s 3,1)]⟩:=by
  intro hn0 hc e g0 g3 g4 g5 g6 g7 g8;refine U (rv s i r0 n) least true out hi hn ho Q ?_ e g0 g3 g4 g5 g6 g7 g8;have er:r7 true n (rv s i r0 n) least=m3 s i n r0 least:=by
   unfold r7 m3 cB;rw[if_neg hn0,hc]
  rw[er];exact hQ
 have bad: ∀r,(n=0\/gQ s i n=false)-> ∀e,lk e 0= .str s->lk e 3= .sl (bP out)->lk e 4=i6 i->lk e 5=i3 (r:Nat)->lk e 6=i6 n->lk e 7=i3 least->lk e 8= .bool false->em (bh Tryz.prog gl) t Q ⟨e,[],[(.s 3,1)]⟩:=by
  intro r hc e g0 g3 g4 g5 g6 g7 g8;refine U r least false out hi hn ho Q ?_ e g0 g3 g4 g5 g6 g7 g8;have er:r7 false n r least=m3 s i n r0 least:=by
   unfold r7 m3 cB;rcases hc with rfl|hc
   ·rw[if_pos rfl];rfl
   ·by_cases h:n=0
    ·rw[if_pos h];rfl
    ·rw[if_neg h,hc];rfl
  rw[er];exact hQ
 clear U hQ;generalize bP out=L at*;have hn0:(0:Int)<n↔n≠0:=by omega
 have hok:decide ((0:Int)<n)=decide (n≠0):=by rw[Bool.eq_iff_iff];simp;omega
 simp[h6];refine aY (α:=Nat) (fun k=>⟨[(0,.str s),(3,.sl L),(4,i6 i),(5,i3 (rv s i r0 k)),(6,i6 n),(7,i3 least),(8,.bool (decide (0<n))),(9,i6 (k+1:Nat))],[],[(.s 3,1)]⟩)
  (fun k=>k<=n/\gQ s i k=true) (fun k=>n - k) ?_ 0 ?_ ?_
 ·rintro K k hK ⟨h1,h2⟩;by_cases g:k<n
  ·have gI:(k:Int)+1<=n:=by omega
   have t1:IntKind.i64.wrap ((i:Int)+((k:Int)+1))=(i+(k+1):Nat):=by rw[ay]<;>omega
   have t2:IntKind.i64.wrap ((k:Int)+1+1)=(k+1+1:Nat):=by rw[ay]<;>omega
   have fin:gE s (i+(k+1))=true-> ∀σ',fx σ' ⟨[(0,.str s),(3,.sl L),(4,i6 i),(5,i3 (rv s i r0 (k+1))),(6,i6 n),(7,i3 least),(8,.bool (decide (0<n))),(9,i6 (k+1+1:Nat))],[],[(.s 3,1)]⟩->K σ':=
    fun hc σ' hσ=>hK (k+1) σ' ⟨by omega,by simp only[gQ,h2,hc,Bool.and_self]⟩ (by omega) hσ
   have badk:gE s (i+(k+1))=false->gQ s i n=false:=fun hc=>by
    rw[Of];intro h
    have:=yY (show k+1<=n by omega) h
    simp only[gQ,hc,Qi] at this;cases this
   by_cases l1:i+(k+1)<s.length
   ·have l1': ¬((s.length:Int)<=(i:Int)+((k:Int)+1)):=by omega
    have tn:((i:Int)+((k:Int)+1)).toNat=i+(k+1):=by omega
    have tp:(0:Int)<=(i:Int)+((k:Int)+1):=by omega
    have hb:=rZ l1;have rvs:rv s i r0 (k+1)=64*rv s i r0 k+(cF s (i+(k+1)) - 128):=rfl;have hcd:gE s (i+(k+1))=decide (128<=cF s (i+(k+1))/\cF s (i+(k+1))<=191):=rfl;have rk:rv s i r0 k<139264+128:=by
     obtain ⟨b0,b1,b2,b3⟩:=Gh s i r0 (h32.resolve_left (by omega));rcases (by omega:k=0\/k=1\/k=2) with rfl|rfl|rfl<;>omega
    rw[rvs] at fin;obtain ⟨x,hx⟩: ∃x,s[i+(k+1)]=x:=⟨_,rfl⟩;rw[hx] at hb;rw[hb] at hcd fin;clear hb rvs hK;generalize rv s i r0 k=r at*;by_cases x1:(x.toNat:Int)<128
    ·have bb:=bad r (.inr (badk (by rw[hcd,decide_eq_false_iff_not];omega)));clear fin bad good badk;simp[gI,t1,l1,l1',tn,tp,hx,x1];refine bb _ ?_ ?_ ?_ ?_ ?_ ?_ ?_<;>simp
    ·by_cases x2:(191:Int)<x.toNat
     ·have bb:=bad r (.inr (badk (by rw[hcd,decide_eq_false_iff_not];omega)));clear fin bad good badk;simp[gI,t1,l1,l1',tn,tp,hx,x1,x2];refine bb _ ?_ ?_ ?_ ?_ ?_ ?_ ?_<;>simp
     ·have fin:=fin (by rw[hcd,nL];omega);have w1:IntKind.i32.wrap (64*(r:Int))=(64*r:Nat):=by rw[cN]<;>omega
      have w2:IntKind.i32.wrap (x.toNat:Int)=x.toNat:=by rw[cN]<;>omega
      have w3:IntKind.i32.wrap (((64*r:Nat):Int)+x.toNat)=(64*r+x.toNat:Nat):=by rw[cN]<;>omega
      have w4:IntKind.i32.wrap (((64*r+x.toNat:Nat):Int) - 128)=(64*r+(x.toNat - 128):Nat):=by rw[cN]<;>omega
      clear bad good badk hcd;generalize 64*r+(x.toNat - 128)=r',64*r+x.toNat=r2 at*;generalize 64*r=r1 at*;simp[gI,t1,l1,l1',tn,tp,hx,x1,x2];refine fin _ (aj ?_ ?_ ?_ ?_ ?_ ?_)<;>simp[w1,w2,w3,w4,t2]
   ·have l1':((s.length:Int)<=((i+(k+1):Nat):Int)):=by omega
    have hb:=CF l1;have hcd:gE s (i+(k+1))=decide (128<=cF s (i+(k+1))/\cF s (i+(k+1))<=191):=rfl;have bb:=bad (rv s i r0 k) (.inr (badk (by rw[hcd,hb];rfl)));clear fin bad good badk hK;generalize rv s i r0 k=r at*;have l1n:(s.length:Int)<=(i:Int)+((k:Int)+1):=by omega
    simp[gI,t1,l1,l1',l1n];refine bb _ ?_ ?_ ?_ ?_ ?_ ?_ ?_<;>simp
  ·obtain rfl:k=n:=by omega
   have gI: ¬(k:Int)+1<=k:=by omega
   clear hK;by_cases hz:k=0
   ·have bb:=bad (rv s i r0 k) (.inl hz);clear bad good;generalize rv s i r0 k=r at*;simp[gI];refine bb _ ?_ ?_ ?_ ?_ ?_ ?_ ?_<;>simp[hz]
   ·have gg:=good hz h2;clear bad good;have hz':0<k:=by omega
    generalize rv s i r0 k=r at*;simp[gI];refine gg _ ?_ ?_ ?_ ?_ ?_ ?_ ?_<;>simp[hz']
 ·exact ⟨gN _,rfl⟩
 ·apply aj<;>simp[h0,h3,h4,h5,h6,h7,show rv s i r0 0=r0 from rfl]
theorem nu (s:List UInt8): ∀(n i:Nat),s.length - i<=n->(aC s i).length<=n
 |0,i,h=>by rw[bp (by omega)];simp
 |n+1,i,h=>by
  by_cases hi:i<s.length
  ·rw[bW hi]
   have:=cX s i
   have:=nu s n (i+(ax s i).2) (by omega)
   simp only[jG];omega
  ·rw[bp hi];simp
theorem r9 {s:List UInt8} {i:Nat} (h:i<s.length):i+(ax s i).2<=s.length+3:=by
 have hF: ∀n r0 least,n<=3->(cB s i n r0 least).2<=4:=by
  intro n r0 least hn;unfold cB;split
  ·simp only;omega
  ·simp
 have h1:=hF 1 (cF s i - 192) 128 (by omega);have h2:=hF 2 (cF s i - 224) 2048 (by omega);have h3:=hF 3 (cF s i - 240) 65536 (by omega);unfold ax;simp only;split
 ·simp only;omega
 ·split
  ·omega
  ·split
   ·omega
   ·split
    ·omega
    ·simp only;omega
theorem ny (s:List UInt8) (hl:s.length<=900000):Sp Tryz.prog gl 65 [.str s] (.sl (bP (aC s 0))):=by
 refine UK rfl rfl ?_;have hlim:iQ=140737488355328:=rfl;have ec:IJ=AC.cutIn [1,1,1,0,2,2,1,2,1,1,1,1] LE IJ:=rfl;rw[ec];have T:=fun i n r0 least out=>Gj s i n r0 least out
 generalize LE=t at T ⊢;simp only[IJ,AC.cutIn];obtain ⟨R,hR⟩: ∃R,aC s 0=R:=⟨_,rfl⟩;rw[hR];simp;refine aY (α:=Nat×List Int) (fun x=>⟨[(0,.str s),(3,.sl (bP x.2)),(4,i6 x.1)],[],[(.s 3,1)]⟩)
  (fun x=>x.1<=s.length+3/\x.2.length<=x.1/\x.2++aC s x.1=R) (fun x=>s.length+4 - x.1) ?_ (0,[]) ?_ ?_
 ·rintro K ⟨i,out⟩ hK ⟨h1,h2,h3⟩;simp only at h1 h2 h3;by_cases g:i<s.length
  ·have st:=Bd g h3;have sl:=r9 g;have sp:=cX s i;have fin: ∀σ',fx σ' ⟨[(0,.str s),(3,.sl (bP (out++[(ax s i).1]))),(4,i6 (i+(ax s i).2:Nat))],[],[(.s 3,1)]⟩->K σ':=
    fun σ' hσ=>hK (i+(ax s i).2,out++[(ax s i).1]) σ' ⟨by simp only;omega,by simp only[gJ,jG,vz];omega,st⟩ (by simp only;omega) hσ
   have hb:=rZ g;have hx255:=jy s i;have er:ax s i=(if cF s i<128 then ((cF s i:Int),1) else if 192<=cF s i/\cF s i<224 then cB s i 1 (cF s i - 192) 128 else if 224<=cF s i/\cF s i<240 then cB s i 2 (cF s i - 224) 2048 else if 240<=cF s i/\cF s i<248 then cB s i 3 (cF s i - 240) 65536 else (-1,1)):=rfl;rw[hb] at er hx255;obtain ⟨y,hy⟩: ∃y,s[i]=y:=⟨_,rfl⟩;rw[hy] at er hx255;have w0:IntKind.i32.wrap (y.toNat:Int)=y.toNat:=by rw[cN]<;>omega
   have T':=fun n r0 least hn h32 Q=>T i n r0 least out (by omega) hn h32 (by omega) (by omega) Q
   have one:=oz out;have rl:=i9 out;have hw:(out.length+1)*4<=140737488355328:=by omega
   clear hK st hb T h3 sl sp;by_cases x1:(y.toNat:Int)<128
   ·have x1n:y.toNat<128:=by omega
    rw[if_pos x1n] at er;rw[er] at fin;have t1:IntKind.i64.wrap ((i:Int)+1)=(i+1:Nat):=by rw[ay]<;>omega
    simp only[mZ] at fin;clear er;generalize bP out=L at*;simp[g,hy,w0,x1,hlim,rl];refine ⟨hw,one,fin _ (aj ?_ ?_ ?_ ?_ ?_ ?_)⟩<;>simp[t1]
   ·have x1n: ¬y.toNat<128:=by omega
    rw[if_neg x1n] at er;by_cases c1:(192:Int)<=y.toNat/\(y.toNat:Int)<224
    ·have c1n:192<=y.toNat/\y.toNat<224:=by omega
     rw[if_pos c1n] at er;have eg:m3 s i 1 (y.toNat - 192) 128=ax s i:=by rw[er];rfl
     have T':=T' 1 (y.toNat - 192) 128 (by omega) (.inr (by omega));rw[eg] at T';have w1:IntKind.i32.wrap ((y.toNat:Int) - 192)=(y.toNat - 192:Nat):=by rw[cN]<;>omega
     clear er eg;generalize (ax s i).1=s1,(ax s i).2=s2 at*;simp[g,hy,w0,x1,c1.1,c1.2];refine T' _ ?_ _ ?_ ?_ ?_ ?_ ?_ ?_
     ·rintro e (rfl|rfl) σ' hσ
      ·simp;exact fin _ hσ
      ·simp;exact fin _ hσ
     all_goals simp[w1]
    ·have c1n: ¬(192<=y.toNat/\y.toNat<224):=by omega
     rw[if_neg c1n] at er;by_cases c2:(224:Int)<=y.toNat/\(y.toNat:Int)<240
     ·have c2n:224<=y.toNat/\y.toNat<240:=by omega
      rw[if_pos c2n] at er;have eg:m3 s i 2 (y.toNat - 224) 2048=ax s i:=by rw[er];rfl
      have T':=T' 2 (y.toNat - 224) 2048 (by omega) (.inr (by omega));rw[eg] at T';have w1:IntKind.i32.wrap ((y.toNat:Int) - 224)=(y.toNat - 224:Nat):=by rw[cN]<;>omega
      have c3:(192:Int)<=y.toNat:=by omega
      have c4: ¬(y.toNat:Int)<224:=by omega
      clear er eg;generalize (ax s i).1=s1,(ax s i).2=s2 at*;simp[g,hy,w0,x1,c2.1,c2.2,c3,c4];refine T' _ ?_ _ ?_ ?_ ?_ ?_ ?_ ?_
      ·rintro e (rfl|rfl) σ' hσ
       ·simp;exact fin _ hσ
       ·simp;exact fin _ hσ
      all_goals simp[w1]
     ·have c2n: ¬(224<=y.toNat/\y.toNat<240):=by omega
      rw[if_neg c2n] at er;by_cases c5:(240:Int)<=y.toNat/\(y.toNat:Int)<248
      ·have c5n:240<=y.toNat/\y.toNat<248:=by omega
       rw[if_pos c5n] at er;have eg:m3 s i 3 (y.toNat - 240) 65536=ax s i:=by rw[er];rfl
       have T':=T' 3 (y.toNat - 240) 65536 (by omega) (.inr (by omega));rw[eg] at T';have w1:IntKind.i32.wrap ((y.toNat:Int) - 240)=(y.toNat - 240:Nat):=by rw[cN]<;>omega
       have c3:(192:Int)<=y.toNat:=by omega
       have c4: ¬(y.toNat:Int)<224:=by omega
       have c6:(224:Int)<=y.toNat:=by omega
       have c7: ¬(y.toNat:Int)<240:=by omega
       clear er eg;generalize (ax s i).1=s1,(ax s i).2=s2 at*;simp[g,hy,w0,x1,c5.1,c5.2,c3,c4,c6,c7];refine T' _ ?_ _ ?_ ?_ ?_ ?_ ?_ ?_
       ·rintro e (rfl|rfl) σ' hσ
        ·simp;exact fin _ hσ
        ·simp;exact fin _ hσ
       all_goals simp[w1]
      ·have c5n: ¬(240<=y.toNat/\y.toNat<248):=by omega
       rw[if_neg c5n] at er;have T':=T' 0 y.toNat 0 (by omega) (.inl rfl);have eg:m3 s i 0 y.toNat 0=ax s i:=by rw[er];rfl
       rw[eg] at T';have hx:y.toNat<192\/248<=y.toNat:=by omega
       clear er eg;generalize (ax s i).1=s1,(ax s i).2=s2 at*;rcases hx with hx|hx
       ·have c3: ¬(192:Int)<=y.toNat:=by omega
        have c4: ¬(224:Int)<=y.toNat:=by omega
        have c6: ¬(240:Int)<=y.toNat:=by omega
        simp[g,hy,w0,x1,c3,c4,c6];refine T' _ ?_ _ ?_ ?_ ?_ ?_ ?_ ?_
        ·rintro e (rfl|rfl) σ' hσ
         ·simp;exact fin _ hσ
         ·simp;exact fin _ hσ
        all_goals simp
       ·have c3:(192:Int)<=y.toNat:=by omega
        have c4: ¬(y.toNat:Int)<224:=by omega
        have c6:(224:Int)<=y.toNat:=by omega
        have c7: ¬(y.toNat:Int)<240:=by omega
        have c8:(240:Int)<=y.toNat:=by omega
        have c9: ¬(y.toNat:Int)<248:=by omega
        simp[g,hy,w0,x1,c3,c4,c6,c7,c8,c9];refine T' _ ?_ _ ?_ ?_ ?_ ?_ ?_ ?_
        ·rintro e (rfl|rfl) σ' hσ
         ·simp;exact fin _ hσ
         ·simp;exact fin _ hσ
        all_goals simp
  ·have ro:=bp g;rw[ro,BV] at h3;subst h3;clear hK T ro;simp[g]
 ·exact ⟨gN _,gp _,by simpa using hR⟩
 ·apply aj<;>simp[bP]
theorem CG {a b:Int} (h:a<=b):decide (a<=b)=true:=jm h
theorem CH {a b:Int} (h:b<a):decide (a<=b)=false:=ik (by omega)
theorem CI {a b:Int} (h:a<b):decide (a<b)=true:=jm h
theorem CJ {a b:Int} (h:b<=a):decide (a<b)=false:=ik (by omega)
theorem yZ {a b:Int} (h:a=b):(a==b)=true:=by rw[cY];exact h
theorem y4 {a b:Int} (h:a<b\/b<a):(a==b)=false:=by rw[bJ];omega
theorem CK {a b:Int} (h:a<b\/b<a):(a !=b)=true:=by rw[bne_iff_ne];omega
theorem CL {a b:Int} (h:a=b):(a !=b)=false:=by simp[h]
def cC (r:Int):Bool:=decide ((97<=r/\r<=122)\/(65<=r/\r<=90)\/(192<=r/\r<=591/\r≠215/\r≠247)\/(880<=r/\r<=1279))
def eu (r:Int):Bool:=decide (48<=r/\r<=57)
theorem oA (r:Int):(r<65/\cC r=false)\/(65<=r/\r<=90/\cC r=true)\/(90<r/\r<97/\cC r=false)\/(97<=r/\r<=122/\cC r=true)\/(122<r/\r<192/\cC r=false)\/
  (192<=r/\r<215/\cC r=true)\/(r=215/\cC r=false)\/(215<r/\r<247/\cC r=true)\/(r=247/\cC r=false)\/(247<r/\r<=591/\cC r=true)\/
  (591<r/\r<880/\cC r=false)\/(880<=r/\r<=1279/\cC r=true)\/(1279<r/\cC r=false):=by
 unfold cC;simp only[nL,decide_eq_false_iff_not];omega
theorem oB (r:Int):Sp Tryz.prog gl 95 [i3 r] (.bool (cC r)):=by
 refine U9 rfl rfl ?_;rcases oA r with ⟨h1,h2⟩|⟨h1,h2,h3⟩|⟨h1,h2,h3⟩|⟨h1,h2,h3⟩|⟨h1,h2,h3⟩|⟨h1,h2,h3⟩|⟨h1,h3⟩|⟨h1,h2,h3⟩|⟨h1,h3⟩|⟨h1,h2,h3⟩|⟨h1,h2,h3⟩|⟨h1,h2,h3⟩|⟨h1,h3⟩
 ·rw[h2];simp (disch:=omega) [PB,CG,CH,CI,CJ,yZ,y4,CK,CL]
 all_goals (rw[h3];simp (disch:=omega) [PB,CG,CH,CI,CJ,yZ,y4,CK,CL])
theorem ja (r:Int):Sp Tryz.prog gl 71 [i3 r] (.bool (cC r)):=by
 refine UO rfl rfl ?_;rcases oA r with ⟨h1,h2⟩|⟨h1,h2,h3⟩|⟨h1,h2,h3⟩|⟨h1,h2,h3⟩|⟨h1,h2,h3⟩|⟨h1,h2,h3⟩|⟨h1,h3⟩|⟨h1,h2,h3⟩|⟨h1,h3⟩|⟨h1,h2,h3⟩|⟨h1,h2,h3⟩|⟨h1,h2,h3⟩|⟨h1,h3⟩
 ·rw[h2];simp (disch:=omega) [Pv,CG,CH,CI,CJ,yZ,y4,CK,CL]
 all_goals (rw[h3];simp (disch:=omega) [Pv,CG,CH,CI,CJ,yZ,y4,CK,CL])
theorem jP (r:Int):Sp Tryz.prog gl 72 [i3 r] (.bool (eu r)):=by
 refine UP rfl rfl ?_;unfold eu;by_cases h1:48<=r
 ·simp[Pw,h1]
 ·simp[Pw,h1]
def eH:Nat->Int->List Int->Bool
 |n,last,[]=>decide (0<n/\n<=24)&&(cC last||eu last)
 |n,last,r::l=>(cC r||(decide (n≠0)&&(eu r||r==95||r==45)))&&eH (n+1) r l
def dH (s:List UInt8):Bool:=eH 0 32 (aC s 0)
theorem nA (s:List UInt8) (hl:s.length<=900000):Sp Tryz.prog gl 42 [.str s] (.bool (dH s)):=by
 refine Uj rfl rfl ?_;obtain ⟨R,hR⟩: ∃R,R=dH s:=⟨_,rfl⟩;rw[<-hR];unfold dH at hR;simp[Ss];refine aY (α:=Nat×Nat×Int) (fun x=>⟨[(0,.str s),(3,i6 x.2.1),(4,i3 x.2.2),(9,.itp 9)],[(.it 9,[.itr s x.1])],[]⟩)
  (fun x=>x.2.1<=x.1/\(x.2.1=0↔x.1=0)/\eH x.2.1 x.2.2 (aC s x.1)=R/\x.1<=s.length+3) (fun x=>s.length+4 - x.1) ?_ (0,0,32) ?_ ?_
 ·rintro K ⟨i,n,last⟩ hK ⟨h1,h2,h3,h4⟩;simp only at h1 h2 h3 h4;by_cases g:i<s.length
  ·rw[bW g] at h3;simp only[eH] at h3;have sr:=hY s i g;have sl:=r9 g;have sp:=cX s i;have fin:eH (n+1) (ax s i).1 (aC s (i+(ax s i).2))=R-> ∀σ',fx σ' ⟨[(0,.str s),(3,i6 (n+1:Nat)),(4,i3 (ax s i).1),(9,.itp 9)],[(.it 9,[.itr s (i+(ax s i).2)])],[]⟩->K σ':=
    fun hh σ' hσ=>hK (i+(ax s i).2,n+1,(ax s i).1) σ' ⟨by simp only;omega,by simp only;omega,hh,by simp only;omega⟩ (by simp only;omega) hσ
   have t1:IntKind.i64.wrap ((n:Int)+1)=(n+1:Nat):=by rw[ay]<;>omega
   clear hK hR;by_cases hb:(ax s i).1= -1
   ·rw[if_pos hb] at sr;rw[hb] at h3
    have:R=false:=by
     rw[<-h3]
     have:(cC (-1)||(decide (n≠0)&&(eu (-1)||(-1:Int)==95||(-1:Int)==45)))=false:=by cases decide (n≠0)<;>rfl
     rw[this];rfl
    subst this;have L1:=ja 65533;have D1:=jP 65533;rw[show cC 65533=false from rfl] at L1;rw[show eu 65533=false from rfl] at D1;clear h3 fin;by_cases hi:i=0
    ·subst hi;simp[g,sr];refine aZ _ L1 ?_;simp
    ·have hi':0<i:=by omega
     simp[g,sr];refine aZ _ L1 ?_;simp[hi'];refine aZ _ D1 ?_;simp
   ·rw[if_neg hb] at sr;have L1:=ja (ax s i).1;have D1:=jP (ax s i).1;have esr:(ax s i)=((ax s i).1,(ax s i).2):=rfl;rw[esr] at sr;generalize eH (n+1) (ax s i).1 (aC s (i+(ax s i).2))=R2 at*;clear esr hb;generalize (ax s i).1=r,(ax s i).2=w at*;have hn0:decide (n≠0)=decide (0<i):=by rw[Bool.eq_iff_iff];simp;omega
    rw[hn0] at h3;cases hlt:cC r
    ·rw[hlt] at h3 L1;by_cases hi:0<i
     ·cases hd:eu r
      ·rw[hd] at h3 D1;by_cases e1:r=95
       ·have:=fin (by rw[<-h3];simp[hi,e1])
        simp (disch:=omega) [g,sr,yZ,y4,e1];rw[e1] at L1 D1;refine aZ _ L1 ?_;simp[hi];refine aZ _ D1 ?_;simp;refine this _ (aj ?_ ?_ ?_ ?_ ?_ ?_)<;>simp[t1,e1]
       ·by_cases e2:r=45
        ·have:=fin (by rw[<-h3];simp[hi,e2])
         simp (disch:=omega) [g,sr,e2];rw[e2] at L1 D1;refine aZ _ L1 ?_;simp[hi];refine aZ _ D1 ?_;simp;refine this _ (aj ?_ ?_ ?_ ?_ ?_ ?_)<;>simp[t1,e2]
        ·have b1:(r==95)=false:=by rw[bJ];exact e1
         have b2:(r==45)=false:=by rw[bJ];exact e2
         have:R=false:=by rw[<-h3,b1,b2];simp
         subst this;simp[g,sr];refine aZ _ L1 ?_;simp[hi];refine aZ _ D1 ?_;simp[b1,b2]
      ·rw[hd] at h3 D1
       have:=fin (by rw[<-h3];simp[hi])
       simp[g,sr];refine aZ _ L1 ?_;simp[hi];refine aZ _ D1 ?_;simp;refine this _ (aj ?_ ?_ ?_ ?_ ?_ ?_)<;>simp[t1]
     ·have:R=false:=by rw[<-h3];simp[hi]
      subst this;simp[g,sr];refine aZ _ L1 ?_;simp[hi]
    ·rw[hlt] at h3 L1
     have:=fin (by rw[<-h3];simp)
     simp[g,sr];refine aZ _ L1 ?_;simp;refine this _ (aj ?_ ?_ ?_ ?_ ?_ ?_)<;>simp[t1]
  ·rw[bp g] at h3;simp only[eH] at h3;have L1:=ja last;have D1:=jP last;clear hK hR h2;by_cases n0:0<n
   ·by_cases n1:n<=24
    ·have n1':(n:Int)<=24:=by omega
     rw[jm (show 0<n/\n<=24 from ⟨n0,n1⟩),iX] at h3;cases hlt:cC last
     ·rw[hlt,Bool.false_or] at h3;rw[hlt] at L1;rw[h3] at D1;simp[g,n0,n1'];refine aZ _ L1 ?_;simp;refine aZ _ D1 ?_;simp
     ·rw[hlt] at h3 L1
      have:R=true:=by rw[<-h3];rfl
      subst this;simp[g,n0,n1'];refine aZ _ L1 ?_;simp
    ·have n1': ¬(n:Int)<=24:=by omega
     rw[ik (show ¬(0<n/\n<=24) by omega)] at h3;subst h3;simp[g,n0,n1']
   ·rw[ik (show ¬(0<n/\n<=24) by omega)] at h3;subst h3;simp[g,n0]
 ·exact ⟨gp _,by simp,hR.symm,by simp⟩
 ·apply aj<;>simp
structure Sc where
 out:List Tk
 st:Int
 sa:Nat
 fl:Int
 fc:Int
 al:Int
 ac:Int
 cd:Int
 xl:Int
 xc:Int
def fU (s:List UInt8) (x:Sc):List AV:=[.str s,.sl (x.out.map Tk.row),i6 x.st,i6 x.sa,i6 x.fl,i6 x.fc,i6 x.al,i6 x.ac,i6 x.cd,i6 x.xl,i6 x.xc]
def Sc.begin (x:Sc) (i:Nat) (st:Int):Sc:={x with sa:=i,st:=st,fl:=x.al,fc:=x.ac}
def Sc.wrong (x:Sc) (e:Int):Sc:={x with cd:=e,xl:=x.fl,xc:=x.fc}
inductive TV where
 |e (c:Int)
 |t (k:Int) (w:List UInt8) (n:Nat)
def TV.av:TV->AV
 | .e c=> .ifc 37 (i6 c)
 | .t k w n=> .ifc 94 (.agg [i6 k,.str w,u n,i6 0,i6 0])
def TV.ok:TV->Bool
 | .e _=>false
 | .t _ _ _=>true
def Sc.add (x:Sc):TV->Sc
 | .e c=>x.wrong c
 | .t k w n=>{x with out:=x.out++[⟨k,w,n,x.fl,x.fc⟩],st:=0}
theorem vY (l:List Tk): ∀r∈l.map Tk.row,r.length=5:=by
 intro r hr;obtain ⟨_,_,rfl⟩:=nM.1 hr;rfl
theorem jQ (s:List UInt8) (x:Sc) (i:Nat) (st:Int) (d:Nat) (b:Id) (hb:b.isIt=false) (hbd:b.isNw d=false):
  bh Tryz.prog gl 58 d ⟨[.ptr b 0,i6 i,i6 st],[(b,fU s x)],[(.b b 1,5)]⟩ ⟨.tup [],[(b,fU s (x.begin i st))],[(.b b 1,5)]⟩:=by
 refine UB rfl ?_;have hib:=ai hbd;unfold fU Sc.begin;generalize x.out.map Tk.row=L at*;simp only[aw,aW,aO,AV.mp,aX,Pl.mp];simp[SR];apply am<;>simp[hib,hb]
theorem gn (s:List UInt8) (x:Sc) (e:Int) (d:Nat) (b:Id) (hb:b.isIt=false) (hbd:b.isNw d=false):
  bh Tryz.prog gl 59 d ⟨[.ptr b 0,i6 e],[(b,fU s x)],[(.b b 1,5)]⟩ ⟨.bool false,[(b,fU s (x.wrong e))],[(.b b 1,5)]⟩:=by
 refine UC rfl ?_;have hib:=ai hbd;unfold fU Sc.wrong;generalize x.out.map Tk.row=L at*;simp only[aw,aW,aO,AV.mp,aX,Pl.mp];simp[SS];apply am<;>simp[hib,hb]
theorem jg (s:List UInt8) (x:Sc) (hl:x.out.length<=1000000) (v:TV) (d:Nat) (b:Id) (hb:b.isIt=false) (hbd:b.isNw d=false):
  bh Tryz.prog gl 84 d ⟨[.ptr b 0,v.av],[(b,fU s x)],[(.b b 1,5)]⟩ ⟨.bool v.ok,[(b,fU s (x.add v))],[(.b b 1,5)]⟩:=by
 refine U3 rfl ?_;have hib:=ai hbd;have hlim:iQ=140737488355328:=rfl;cases v with
 |e c=>
  have W:=fun e=>gn s x c e (.up b) hb
  unfold fU Sc.wrong at W;unfold fU Sc.add Sc.wrong TV.av TV.ok;generalize x.out.map Tk.row=L at*;simp only[aw,aW,aO,AV.mp,aX,Pl.mp];simp[Pz];refine aF _ _ (W _ rfl) (by constructor<;>simp[hb]) ?_
  simp;apply am<;>simp[hib,hb]
 |t k w n=>
  have h5:=vY x.out;have hll:((x.out.map Tk.row).length+1)*48<=140737488355328:=by simp;omega
  have he:(x.out++[(⟨k,w,n,x.fl,x.fc⟩:Tk)]).map Tk.row=x.out.map Tk.row++[[i6 k,.str w,u n,i6 x.fl,i6 x.fc]]:=by simp[Tk.row]
  unfold fU Sc.add TV.av TV.ok;simp only[he];clear he;generalize x.out.map Tk.row=L at*;simp only[aw,aW,aO,AV.mp,aX,Pl.mp];simp[Pz,hlim];refine ⟨hll,h5,?_⟩;apply am<;>simp[hib,hb]
def uL:List Tk->List Tk
 |_::y::r=>y::r
 |l=>l
def qv (l:List Tk) (n:Nat):List AV:=[.sl (l.map Tk.row),i6 n]
theorem sd (t:Tk) (r:List Tk) (n:Nat) (d:Nat) (b:Id) (hb:b.isIt=false) (hbd:b.isNw d=false):
  bh Tryz.prog gl 62 d ⟨[.ptr b 0],[(b,qv (t::r) n)],[]⟩ ⟨.agg t.row,[(b,qv (uL (t::r)) n)],[]⟩:=by
 refine UF rfl ?_;have hib:=ai hbd;obtain ⟨k,s,m,ln,co⟩:=t;cases r with
 |nil=>
  simp only[uL,qv,gL,lS,Tk.row,aw,aW,aO,AV.mp,aX,Pl.mp];simp[Pq];apply am<;>simp[hib,hb]
 |cons y r=>
  simp only[uL,qv,gL,lS,Tk.row,aw,aW,aO,AV.mp,aX,Pl.mp];have h1:=vY r;have hl:(1:Int)<((List.map Tk.row r).length:Int)+1+1:=by omega
  generalize List.map Tk.row r=L at*;have hk:((L.length:Int)+1+1).toNat=L.length+1+1:=by omega
  have hg:(1:Int)<=(L.length:Int)+1+1:=by omega
  simp[Pq,hl,hk];refine ⟨hg,h1,?_⟩;apply am<;>simp[hib,hb]
def vZ (c:Int) (t:Tk):AV:= .ifc 41 (.agg [i6 c,i6 t.ln,i6 t.co])
theorem se (c:Int) (t:Tk) (d:Nat):dK Tryz.prog gl 63 d ⟨[i6 c,.agg t.row],[],[]⟩ ⟨vZ c t,[],[]⟩:=by
 refine UH rfl ?_;obtain ⟨k,s,m,ln,co⟩:=t;simp only[Tk.row,vZ,aw,aW,aO,AV.mp,aX,Pl.mp];simp[Ps];refine ⟨rfl,by simp,?_⟩;constructor<;>simp
inductive Pr (α:Type) where
 |ok (a:α) (l:List Tk) (n:Nat)
 |th (c:Int) (t:Tk) (l:List Tk) (n:Nat)
 |no
mutual
def pL:Nat->Nat->Int->List It->List Tk->Nat->Pr (List It)
 |0,_,_,_,_,_=> .no
 |_+1,_,_,_,[],_=> .no
 |f+1,d,e,out,t::r,n=>
  if t.k=e then .ok out (uL (t::r)) n
  else if t.k≠1 then .th 6 t (uL (t::r)) n
  else if 4<d then .th 19 t (uL (t::r)) n
  else if n=300 then .th 9 t (uL (t::r)) n
  else match pI f d t.t t.ln t.co [] (uL (t::r)) (n+1) with
   | .ok x l' n'=>pL f d e (out++[x]) l' n'
   | .th c t l' n'=> .th c t l' n'
   | .no=> .no
def pI:Nat->Nat->List UInt8->Int->Int->List Tk->List Tk->Nat->Pr It
 |0,_,_,_,_,_,_,_=> .no
 |_+1,_,_,_,_,_,[],_=> .no
 |f+1,d,nm,ln,co,ws,t::r,n=>
  if t.k=9 then .ok (.mk nm ws false [] ln co) (uL (t::r)) n
  else if t.k=7 then match pL f (d+1) 8 [] (uL (t::r)) n with
   | .ok ks l' n'=> .ok (.mk nm ws true ks ln co) l' n'
   | .th c t l' n'=> .th c t l' n'
   | .no=> .no
  else if t.k<1\/6<t.k then .th 6 t (uL (t::r)) n
  else if ws.length=6 then .th 9 t (uL (t::r)) n
  else pI f d nm ln co (ws++[t]) (uL (t::r)) n
end
theorem KT: ∀f:Nat,(∀d e out l n o l' n',pL f d e out l n= .ok o l' n'->n<=300->out.length<=n->n<=n'/\n'<=300/\o.length<=n')/\(∀d nm ln co ws l n x l' n',pI f d nm ln co ws l n= .ok x l' n'->n<=300->n<=n'/\n'<=300)
 |0=>⟨fun d e out l n o l' n' h _ _=>by simp[pL] at h,fun d nm ln co ws l n x l' n' h _=>by simp[pI] at h⟩
 |f+1=>by
  obtain ⟨ihL,ihI⟩:=KT f;refine ⟨fun d e out l n o l' n' h hn ho=>?_,fun d nm ln co ws l n x l' n' h hn=>?_⟩
  ·cases l with
   |nil=>simp[pL] at h
   |cons t r=>
    rw[pL] at h;split at h
    ·cases h;exact ⟨gp _,hn,ho⟩
    split at h
    ·cases h
    split at h
    ·cases h
    split at h
    ·cases h
    rename_i c4;split at h
    ·rename_i x l2 n2 he;have h1:=ihI _ _ _ _ _ _ _ _ _ _ he (by omega);have h2:=ihL _ _ _ _ _ _ _ _ h h1.2 (by rw[gJ,EO];omega);exact ⟨by omega,h2.2⟩
    ·cases h
    ·cases h
  ·cases l with
   |nil=>simp[pI] at h
   |cons t r=>
    rw[pI] at h;split at h
    ·cases h;exact ⟨gp _,hn⟩
    split at h
    ·split at h
     ·rename_i ks l2 n2 he;cases h
      have:=ihL _ _ _ _ _ _ _ _ he hn (gN _)
      exact ⟨this.1,this.2.1⟩
     ·cases h
     ·cases h
    split at h
    ·cases h
    split at h
    ·cases h
    exact ihI _ _ _ _ _ _ _ _ _ _ h hn
end Go.Ai
