/- P2: a part of the proof. Conditions: as each theorem says. -/
import Derived.Test.YtggemlhclppciaaGreatDoorP1
import Derived.Lib.TrimUEq
import Derived.Lib.ValidU
import Derived.Lib.MapLaws
set_option linter.unusedSimpArgs false
set_option linter.unusedVariables false
set_option maxRecDepth 20000
namespace Go.Ai
open Go.Proofs
theorem H6 (s:List UInt8) (i:Nat) (h:i<s.length):(ByteArray.mk s.toArray).get! i=s[i]:=by
 simp [ByteArray.get!,getElem!_pos,h]
def aS (s:List UInt8) (j:Nat):Nat:=match s[j]? with |some b=>b.toNat|none=>0
def eB (s:List UInt8) (j:Nat):Bool:=decide (128≤aS s j∧aS s j≤191)
def rv (s:List UInt8) (i r0:Nat):Nat→Nat
 |0=>r0
 |k+1=>64*rv s i r0 k+(aS s (i+(k+1)) - 128)
def kZ (s:List UInt8) (i:Nat):Nat→Bool
 |0=>true
 |k+1=>kZ s i k&&eB s (i+(k+1))
def dj (least r:Nat):Bool:=decide (least≤r∧r≤1114111∧ ¬(55296≤r∧r<57344))
def bR (s:List UInt8) (i n r0 least:Nat):Int×Nat:=if kZ s i n&&dj least (rv s i r0 n) then ((rv s i r0 n:Nat),n+1) else (-1,1)
def ah (s:List UInt8) (i:Nat):Int×Nat:=
 let b:=aS s i
 if b<128 then (b,1) else if 192≤b∧b<224 then bR s i 1 (b - 192) 128 else if 224≤b∧b<240 then bR s i 2 (b - 224) 2048 else if 240≤b∧b<248 then bR s i 3 (b - 240) 65536 else (-1,1)
theorem kb {s:List UInt8} {i:Nat} (h:i<s.length):aS s i=s[i].toNat:=by unfold aS;rw [rC h]
theorem kd (s:List UInt8) (i:Nat):aS s i<256:=by
 unfold aS;split
 ·rename_i b _;exact b.toNat_lt
 ·omega
theorem H7 {s:List UInt8} {i:Nat} (h: ¬i<s.length):aS s i=0:=by unfold aS;rw [Di (by omega)]
theorem zP (s:List UInt8) (i r0 least:Nat):bR s i 1 r0 least=if eB s (i+1)&&dj least (64*r0+(aS s (i+1) - 128)) then (((64*r0+(aS s (i+1) - 128):Nat):Int),2) else (-1,1):=rfl
theorem zQ (s:List UInt8) (i r0 least:Nat):bR s i 2 r0 least=if (eB s (i+1)&&eB s (i+2))&&dj least (64*(64*r0+(aS s (i+1) - 128))+(aS s (i+2) - 128)) then (((64*(64*r0+(aS s (i+1) - 128))+(aS s (i+2) - 128):Nat):Int),3) else (-1,1):=rfl
theorem zR (s:List UInt8) (i r0 least:Nat):bR s i 3 r0 least=if ((eB s (i+1)&&eB s (i+2))&&eB s (i+3))&&dj least (64*(64*(64*r0+(aS s (i+1) - 128))+(aS s (i+2) - 128))+(aS s (i+3) - 128)) then (((64*(64*(64*r0+(aS s (i+1) - 128))+(aS s (i+2) - 128))+(aS s (i+3) - 128):Nat):Int),4) else (-1,1):=rfl
theorem nS (s:List UInt8) (i n r0 least:Nat):1≤(bR s i n r0 least).2:=by unfold bR;split<;>simp
theorem bA (s:List UInt8) (i:Nat):1≤(ah s i).2:=by
 unfold ah;simp only;split
 ·simp
 ·split
  ·exact nS ..
  ·split
   ·exact nS ..
   ·split
    ·exact nS ..
    ·simp
def ag (s:List UInt8) (i:Nat):List Int:=if h:i<s.length then (ah s i).1::ag s (i+(ah s i).2) else []
termination_by s.length - i
decreasing_by have:=bA s i;omega
theorem aQ {s:List UInt8} {i:Nat} (h:i<s.length):ag s i=(ah s i).1::ag s (i+(ah s i).2):=by rw [ag,dif_pos h]
theorem aD {s:List UInt8} {i:Nat} (h: ¬i<s.length):ag s i=[]:=by rw [ag,dif_neg h]
theorem fy {s:List UInt8} {j:Nat} (h:j<s.length):((ByteArray.mk s.toArray).get! j).toNat=aS s j:=by rw [H6 s j h,kb h]
theorem fJ {s:List UInt8} {j:Nat}:eB s j=true↔j<s.length∧aS s j / 64=2:=by
 unfold eB;rw [rD];constructor
 ·intro h;rcases Nat.lt_or_ge j s.length with h1|h1
  ·exact ⟨h1,by omega⟩
  ·rw [H7 (by omega)] at h;omega
 ·intro h;omega
theorem cg (s:List UInt8) (i:Nat) (h:i<s.length):bD s i=(if (ah s i).1= -1 then (65533,1) else ah s i):=by
 have hb:(ByteArray.mk s.toArray).size=s.length:=by simp [ByteArray.size]
 have c: ∀k,(decide (i+k<(ByteArray.mk s.toArray).size)&&((ByteArray.mk s.toArray).get! (i+k)).toNat / 64==2)=eB s (i+k):=by
  intro k;rw [Bool.eq_iff_iff,fJ,hb];simp only [aC,rD,bP];constructor
  ·rintro ⟨h1,h2⟩;rw [fy h1] at h2;exact ⟨h1,h2⟩
  ·rintro ⟨h1,h2⟩;rw [fy h1];exact ⟨h1,h2⟩
 have e0:((ByteArray.mk s.toArray).get! (i+0)).toNat=aS s i:=fy (by omega);have bl:=kd s i;unfold bD Utf8.decode;simp only [e0,c,Utf8.runeError];unfold ah;simp only;by_cases h1:aS s i<128
 ·have h2: ¬((aS s i:Nat):Int)= -1:=by omega
  simp only [h1,if_true,h2,if_false]
 ·simp only [h1,if_false];have d1:(aS s i / 32==6)=decide (192≤aS s i∧aS s i<224):=by rw [Bool.eq_iff_iff];simp;omega
  have d2:(aS s i / 16==14)=decide (224≤aS s i∧aS s i<240):=by rw [Bool.eq_iff_iff];simp;omega
  have d3:(aS s i / 8==30)=decide (240≤aS s i∧aS s i<248):=by rw [Bool.eq_iff_iff];simp;omega
  rw [d1,d2,d3];by_cases r1:192≤aS s i∧aS s i<224
  ·have r2: ¬(224≤aS s i∧aS s i<240):=by omega
   have r3: ¬(240≤aS s i∧aS s i<248):=by omega
   simp only [r1,r2,r3,and_self,decide_true,decide_false,kL,lQ,if_true,if_false,rK];rw [zP];cases c1:eB s (i+1)
   ·simp
   ·obtain ⟨l1,q1⟩:=fJ.1 c1;simp only [if_true,kL,fy l1];have b1:=kd s (i+1);generalize aS s (i+1)=y at *
    generalize aS s i=x at *
    by_cases z:dj 128 (64*(x - 192)+(y - 128))=true
    ·have zz:=z;unfold dj at zz;rw [rD] at zz;have e:x%32*64+y%64=64*(x - 192)+(y - 128):=by omega
     simp only [z,e,if_true];rw [if_neg (show ¬((64*(x - 192)+(y - 128):Nat):Int)= -1 by omega),if_pos (by omega)]
    ·have zz:=z;unfold dj at zz;rw [rD] at zz;have hz: ¬(x%32*64+y%64≥128):=by omega
     simp only [z,hz,rK,if_false];simp
  ·by_cases r2:224≤aS s i∧aS s i<240
   ·have r3: ¬(240≤aS s i∧aS s i<248):=by omega
    simp only [r1,r2,r3,and_self,decide_true,decide_false,kL,lQ,if_true,if_false,rK];rw [zQ];cases c1:eB s (i+1)
    ·simp
    ·cases c2:eB s (i+2)
     ·simp
     ·obtain ⟨l1,q1⟩:=fJ.1 c1;obtain ⟨l2,q2⟩:=fJ.1 c2;simp only [if_true,kL,Bool.and_self,fy l1,fy l2];have b1:=kd s (i+1);have b2:=kd s (i+2);try rw [fy l2]
      generalize aS s (i+2)=w at *
      generalize aS s (i+1)=y at *
      generalize aS s i=x at *
      by_cases z:dj 2048 (64*(64*(x - 224)+(y - 128))+(w - 128))=true
      ·have zz:=z;unfold dj at zz;rw [rD] at zz;have e:x%16*4096+y%64*64+w%64=64*(64*(x - 224)+(y - 128))+(w - 128):=by omega
       simp only [z,e,if_true];rw [if_neg (show ¬((64*(64*(x - 224)+(y - 128))+(w - 128):Nat):Int)= -1 by omega),if_pos (by simp [Utf8.valid];omega)]
      ·have zz:=z;unfold dj at zz;rw [rD] at zz;have hz:(decide (x%16*4096+y%64*64+w%64≥2048)&&Utf8.valid ((x%16*4096+y%64*64+w%64:Nat):Int))=false:=by
        rw [Oq];simp [Utf8.valid];omega
       simp only [z,hz,rK,if_false];simp
   ·by_cases r3:240≤aS s i∧aS s i<248
    ·simp only [r1,r2,r3,and_self,decide_true,decide_false,kL,lQ,if_true,if_false,rK];rw [zR];cases c1:eB s (i+1)
     ·simp
     ·cases c2:eB s (i+2)
      ·simp
      ·cases c3:eB s (i+3)
       ·simp
       ·obtain ⟨l1,q1⟩:=fJ.1 c1;obtain ⟨l2,q2⟩:=fJ.1 c2;obtain ⟨l3,q3⟩:=fJ.1 c3;simp only [if_true,kL,Bool.and_self,fy l1];have b1:=kd s (i+1);have b2:=kd s (i+2);have b3:=kd s (i+3);try simp only [fy l2,fy l3]
        generalize aS s (i+3)=t at *
        generalize aS s (i+2)=w at *
        generalize aS s (i+1)=y at *
        generalize aS s i=x at *
        by_cases z:dj 65536 (64*(64*(64*(x - 240)+(y - 128))+(w - 128))+(t - 128))=true
        ·have zz:=z;unfold dj at zz;rw [rD] at zz;have e:x%8*262144+y%64*4096+w%64*64+t%64=64*(64*(64*(x - 240)+(y - 128))+(w - 128))+(t - 128):=by omega
         simp only [z,e,if_true];rw [if_neg (show ¬((64*(64*(64*(x - 240)+(y - 128))+(w - 128))+(t - 128):Nat):Int)= -1 by omega),if_pos (by simp [Utf8.valid];omega)]
        ·have zz:=z;unfold dj at zz;rw [rD] at zz;have hz:(decide (x%8*262144+y%64*4096+w%64*64+t%64≥65536)&&Utf8.valid ((x%8*262144+y%64*4096+w%64*64+t%64:Nat):Int))=false:=by
          rw [Oq];simp [Utf8.valid];omega
         simp only [z,hz,rK,if_false];simp
    ·simp [r1,r2,r3]
abbrev i3 (n:Int):AV:= .int .i32 n
theorem fk {n:Int} (h1: -2147483648≤n) (h2:n<2147483648):IntKind.i32.wrap n=n:=by
 have e1:(2:Int)^32=4294967296:=by decide
 have e2:(2:Int)^(32 - 1)=2147483648:=by decide
 have:IntKind.i32.wrap n=if (true&&decide (n%2^32≥2^(32 - 1)))=true then n%2^32 - 2^32 else n%2^32:=rfl
 rw [this];simp only [e1,e2,kL,rD];split<;>omega
def AC.part:List Nat→AC→AC
 |[],c=>c
 |0::p,.sq a _=>a.part p
 |1::p,.sq _ b=>b.part p
 |2::p,.bl _ a=>a.part p
 |2::p,.lp a=>a.part p
 |_,c=>c
theorem qK (s:List UInt8): ∀(n i:Nat),s.length - i≤n→(ag s i).length≤n
 |0,i,h=>by rw [aD (by omega)];simp
 |n+1,i,h=>by
  by_cases hi:i<s.length
  ·rw [aQ hi]
   have:=bA s i
   have:=qK s n (i+(ah s i).2) (by omega)
   simp only [dT];omega
  ·rw [aD hi];simp
theorem xg {s:List UInt8} {i:Nat} (h:i<s.length):i+(ah s i).2≤s.length+3:=by
 have hF: ∀n r0 least,n≤3→(bR s i n r0 least).2≤4:=by
  intro n r0 least hn;unfold bR;split
  ·simp only;omega
  ·simp
 have h1:=hF 1 (aS s i - 192) 128 (by omega);have h2:=hF 2 (aS s i - 224) 2048 (by omega);have h3:=hF 3 (aS s i - 240) 65536 (by omega);unfold ah;simp only;split
 ·simp only;omega
 ·split
  ·omega
  ·split
   ·omega
   ·split
    ·omega
    ·simp only;omega
theorem IY {a b:Int} (h:a≤b):decide (a≤b)=true:=jE h
theorem IZ {a b:Int} (h:b<a):decide (a≤b)=false:=oV (by omega)
theorem I3 {a b:Int} (h:a<b):decide (a<b)=true:=jE h
theorem I4 {a b:Int} (h:b≤a):decide (a<b)=false:=oV (by omega)
theorem E6 {a b:Int} (h:a=b):(a==b)=true:=by rw [bP];exact h
theorem E7 {a b:Int} (h:a<b∨b<a):(a==b)=false:=by rw [dh];omega
theorem I5 {a b:Int} (h:a<b∨b<a):(a !=b)=true:=by rw [bne_iff_ne];omega
theorem I6 {a b:Int} (h:a=b):(a !=b)=false:=by simp [h]
def bN (r:Int):Bool:=decide ((97≤r∧r≤122)∨(65≤r∧r≤90)∨(192≤r∧r≤591∧r≠215∧r≠247)∨(880≤r∧r≤1279))
def cJ (r:Int):Bool:=decide (48≤r∧r≤57)
theorem mJ (r:Int):(r<65∧bN r=false)∨(65≤r∧r≤90∧bN r=true)∨(90<r∧r<97∧bN r=false)∨(97≤r∧r≤122∧bN r=true)∨(122<r∧r<192∧bN r=false)∨
  (192≤r∧r<215∧bN r=true)∨(r=215∧bN r=false)∨(215<r∧r<247∧bN r=true)∨(r=247∧bN r=false)∨(247<r∧r≤591∧bN r=true)∨
  (591<r∧r<880∧bN r=false)∨(880≤r∧r≤1279∧bN r=true)∨(1279<r∧bN r=false):=by
 unfold bN;simp only [rD,decide_eq_false_iff_not];omega
theorem gc (r:Int):Sp Tryz.prog gl 67 [i3 r] (.bool (bN r)):=by
 refine QR rfl rfl ?_;rcases mJ r with ⟨h1,h2⟩|⟨h1,h2,h3⟩|⟨h1,h2,h3⟩|⟨h1,h2,h3⟩|⟨h1,h2,h3⟩|⟨h1,h2,h3⟩|⟨h1,h3⟩|⟨h1,h2,h3⟩|⟨h1,h3⟩|⟨h1,h2,h3⟩|⟨h1,h2,h3⟩|⟨h1,h2,h3⟩|⟨h1,h3⟩
 ·rw [h2];simp (disch:=omega) [Nl,IY,IZ,I3,I4,E6,E7,I5,I6]
 all_goals (rw [h3];simp (disch:=omega) [Nl,IY,IZ,I3,I4,E6,E7,I5,I6])
theorem ib (r:Int):Sp Tryz.prog gl 68 [i3 r] (.bool (cJ r)):=by
 refine QS rfl rfl ?_;unfold cJ;by_cases h1:48≤r
 ·simp [Nm,h1]
 ·simp [Nm,h1]
def dF:Nat→Int→List Int→Bool
 |n,last,[]=>decide (0<n∧n≤24)&&(bN last||cJ last)
 |n,last,r::l=>(bN r||(decide (n≠0)&&(cJ r||r==95||r==45)))&&dF (n+1) r l
def dy (s:List UInt8):Bool:=dF 0 32 (ag s 0)
theorem ly (s:List UInt8) (hl:s.length≤900000):Sp Tryz.prog gl 43 [.str s] (.bool (dy s)):=by
 refine QI rfl rfl ?_;obtain ⟨R,hR⟩: ∃R,R=dy s:=⟨_,rfl⟩;rw [←hR];unfold dy at hR;simp [P4];refine bT (α:=Nat×Nat×Int) (fun x=>⟨[(0,.str s),(3,i6 x.2.1),(4,i3 x.2.2),(9,.itp 9)],[(.it 9,[.itr s x.1])],[]⟩)
  (fun x=>x.2.1≤x.1∧(x.2.1=0↔x.1=0)∧dF x.2.1 x.2.2 (ag s x.1)=R∧x.1≤s.length+3) (fun x=>s.length+4 - x.1) ?_ (0,0,32) ?_ ?_
 ·rintro K ⟨i,n,last⟩ hK ⟨h1,h2,h3,h4⟩;simp only at h1 h2 h3 h4;by_cases g:i<s.length
  ·rw [aQ g] at h3;simp only [dF] at h3;have sr:=cg s i g;have sl:=xg g;have sp:=bA s i;have fin:dF (n+1) (ah s i).1 (ag s (i+(ah s i).2))=R→ ∀σ',e7 σ' ⟨[(0,.str s),(3,i6 (n+1:Nat)),(4,i3 (ah s i).1),(9,.itp 9)],[(.it 9,[.itr s (i+(ah s i).2)])],[]⟩→K σ':=
    fun hh σ' hσ=>hK (i+(ah s i).2,n+1,(ah s i).1) σ' ⟨by simp only;omega,by simp only;omega,hh,by simp only;omega⟩ (by simp only;omega) hσ
   have t1:IntKind.i64.wrap ((n:Int)+1)=(n+1:Nat):=by rw [an]<;>omega
   clear hK hR;by_cases hb:(ah s i).1= -1
   ·rw [if_pos hb] at sr;rw [hb] at h3
    have:R=false:=by
     rw [←h3]
     have:(bN (-1)||(decide (n≠0)&&(cJ (-1)||(-1:Int)==95||(-1:Int)==45)))=false:=by cases decide (n≠0)<;>rfl
     rw [this];rfl
    subst this;have L1:=gc 65533;have D1:=ib 65533;rw [show bN 65533=false from rfl] at L1;rw [show cJ 65533=false from rfl] at D1;clear h3 fin;by_cases hi:i=0
    ·subst hi;simp [g,sr];refine aT _ L1 ?_;simp
    ·have hi':0<i:=by omega
     simp [g,sr];refine aT _ L1 ?_;simp [hi'];refine aT _ D1 ?_;simp
   ·rw [if_neg hb] at sr;have L1:=gc (ah s i).1;have D1:=ib (ah s i).1;have esr:(ah s i)=((ah s i).1,(ah s i).2):=rfl;rw [esr] at sr;generalize dF (n+1) (ah s i).1 (ag s (i+(ah s i).2))=R2 at *
    clear esr hb;generalize (ah s i).1=r at *
    generalize (ah s i).2=w at *
    have hn0:decide (n≠0)=decide (0<i):=by rw [Bool.eq_iff_iff];simp;omega
    rw [hn0] at h3;cases hlt:bN r
    ·rw [hlt] at h3 L1;by_cases hi:0<i
     ·cases hd:cJ r
      ·rw [hd] at h3 D1;by_cases e1:r=95
       ·have:=fin (by rw [←h3];simp [hi,e1])
        simp (disch:=omega) [g,sr,E6,E7,e1];rw [e1] at L1 D1;refine aT _ L1 ?_;simp [hi];refine aT _ D1 ?_;simp;refine this _ (am ?_ ?_ ?_ ?_ ?_ ?_)<;>simp [t1,e1]
       ·by_cases e2:r=45
        ·have:=fin (by rw [←h3];simp [hi,e2])
         simp (disch:=omega) [g,sr,e2];rw [e2] at L1 D1;refine aT _ L1 ?_;simp [hi];refine aT _ D1 ?_;simp;refine this _ (am ?_ ?_ ?_ ?_ ?_ ?_)<;>simp [t1,e2]
        ·have b1:(r==95)=false:=by rw [dh];exact e1
         have b2:(r==45)=false:=by rw [dh];exact e2
         have:R=false:=by rw [←h3,b1,b2];simp
         subst this;simp [g,sr];refine aT _ L1 ?_;simp [hi];refine aT _ D1 ?_;simp [b1,b2]
      ·rw [hd] at h3 D1
       have:=fin (by rw [←h3];simp [hi])
       simp [g,sr];refine aT _ L1 ?_;simp [hi];refine aT _ D1 ?_;simp;refine this _ (am ?_ ?_ ?_ ?_ ?_ ?_)<;>simp [t1]
     ·have:R=false:=by rw [←h3];simp [hi]
      subst this;simp [g,sr];refine aT _ L1 ?_;simp [hi]
    ·rw [hlt] at h3 L1
     have:=fin (by rw [←h3];simp)
     simp [g,sr];refine aT _ L1 ?_;simp;refine this _ (am ?_ ?_ ?_ ?_ ?_ ?_)<;>simp [t1]
  ·rw [aD g] at h3;simp only [dF] at h3;have L1:=gc last;have D1:=ib last;clear hK hR h2;by_cases n0:0<n
   ·by_cases n1:n≤24
    ·have n1':(n:Int)≤24:=by omega
     rw [jE (show 0<n∧n≤24 from ⟨n0,n1⟩),kL] at h3;cases hlt:bN last
     ·rw [hlt,Bool.false_or] at h3;rw [hlt] at L1;rw [h3] at D1;simp [g,n0,n1'];refine aT _ L1 ?_;simp;refine aT _ D1 ?_;simp
     ·rw [hlt] at h3 L1
      have:R=true:=by rw [←h3];rfl
      subst this;simp [g,n0,n1'];refine aT _ L1 ?_;simp
    ·have n1': ¬(n:Int)≤24:=by omega
     rw [oV (show ¬(0<n∧n≤24) by omega)] at h3;subst h3;simp [g,n0,n1']
   ·rw [oV (show ¬(0<n∧n≤24) by omega)] at h3;subst h3;simp [g,n0]
 ·exact ⟨eV _,by simp,hR.symm,by simp⟩
 ·apply am<;>simp
theorem qL: ∀(l:List Int) (n:Nat) (last:Int),24<n+l.length→dF n last l=false
 |[],n,last,h=>by
  simp only [dF];rw [oV (show ¬(0<n∧n≤24) by simp at h;omega)];rfl
 |r::l,n,last,h=>by
  simp only [dF];rw [qL l (n+1) r (by simp at h;omega)];simp
structure Lb where
 n:List UInt8
 t:List UInt8
 deriving DecidableEq
structure Ru where
 n:List UInt8
 p:Bool
 l:Int
 s:Int
 f:Nat
 w:Int
 k:Int
 deriving DecidableEq
structure Gl where
 n:List UInt8
 t:Nat
 g:Int
 a:Int
 o:Int
 c:Int
 lb:List Lb
 ru:List Ru
 deriving DecidableEq
structure Cf where
 gs:List Gl
 r:Int
 v:Int
 i:Int
 x:Int
 y:Int
def Lb.row (x:Lb):List AV:=[.str x.n,.str x.t]
def Ru.row (x:Ru):List AV:=[.str x.n,.bool x.p,i6 x.l,i6 x.s,u x.f,i6 x.w,i6 x.k]
def Gl.row (x:Gl):List AV:=[.str x.n,.int .u32 x.t,i6 x.g,i6 x.a,i6 x.o,i6 x.c,.sl (x.lb.map Lb.row),.sl (x.ru.map Ru.row)]
def Cf.row (x:Cf):List AV:=[.sl (x.gs.map Gl.row),i6 x.r,i6 x.v,i6 x.i,i6 x.x,i6 x.y]
theorem CI (s:List UInt8) (i n r0 least:Nat) (h:(bR s i n r0 least).1= -1):(bR s i n r0 least).2=1:=by
 unfold bR at h ⊢;split
 ·rename_i hc;rw [if_pos hc] at h;simp only at h;omega
 ·rfl
theorem CJ (s:List UInt8) (i:Nat) (h:(ah s i).1= -1):(ah s i).2=1:=by
 unfold ah at h ⊢;simp only at h ⊢;repeat' split
 all_goals first
  |rfl
  |(simp_all;done)
  |(simp_all;exact CI _ _ _ _ _ (by assumption))
theorem nT (s:List UInt8) (i n r0 least:Nat) (hn:1≤n) (h:(bR s i n r0 least).1≠ -1):(bR s i n r0 least).2≠1:=by
 unfold bR at h ⊢;split
 ·simp only;omega
 ·rename_i hc;rw [if_neg hc] at h;exact absurd rfl h
theorem CK (s:List UInt8) (i:Nat) (h:(ah s i).1≠ -1) (h1:(ah s i).2=1):(ah s i).1<128:=by
 by_cases hb:aS s i<128
 ·unfold ah;simp only [hb,if_true];omega
 ·exfalso;unfold ah at h h1;simp only [hb,if_false] at h h1;split at h
  ·rename_i q;rw [if_pos q] at h1;exact nT _ _ _ _ _ (by omega) h h1
  ·rename_i q;rw [if_neg q] at h1;split at h
   ·rename_i q;rw [if_pos q] at h1;exact nT _ _ _ _ _ (by omega) h h1
   ·rename_i q;rw [if_neg q] at h1;split at h
    ·rename_i q;rw [if_pos q] at h1;exact nT _ _ _ _ _ (by omega) h h1
    ·exact absurd rfl h
theorem Ko (s:List UInt8) (i:Nat) (h:i<s.length):(bD s i).2=(ah s i).2:=by
 rw [cg s i h];split
 ·rename_i hb;rw [CJ s i hb]
 ·rfl
def dQ (l:List Int):Bool:=l.all fun r=>decide (0≤r)
theorem E8 (s:List UInt8) (i n r0 least:Nat):(bR s i n r0 least).1= -1∨0≤(bR s i n r0 least).1:=by
 unfold bR;split
 ·right;simp only;omega
 ·left;rfl
theorem E9 (s:List UInt8) (i:Nat):(ah s i).1= -1∨0≤(ah s i).1:=by
 unfold ah;simp only;repeat' split
 all_goals first
  |exact E8 _ _ _ _ _
  |(left;rfl)
  |(right;simp only;omega)
theorem zS (s:List UInt8) (i:Nat):bD s i=(((Lib.decodeL (s.drop i)).1:Int),(Lib.decodeL (s.drop i)).2):=by
 have:=Lib.decodeL_drop ⟨s.toArray⟩ i
 simp only at this;rw [this];rfl
theorem Bp (s:List UInt8): ∀(n i:Nat),s.length - i≤n→Lib.validGoD n (s.drop i)=dQ (ag s i)
 |0,i,h=>by
  rw [aD (by omega)];rfl
 |n+1,i,h=>by
  by_cases g:i<s.length
  ·have hne:s.drop i≠[]:=by
    intro e
    have:=congrArg List.length e
    rw [sn] at this;simp at this;omega
   have sr:=cg s i g;have da:=zS s i;rw [da] at sr;simp only [Lib.validGoD,if_neg hne];rw [aQ g];have pos:=bA s i;by_cases hb:(ah s i).1= -1
   ·rw [if_pos hb] at sr;simp only [gQ] at sr;rw [if_pos ⟨by omega,sr.2⟩];simp [dQ,hb]
   ·rw [if_neg hb] at sr;have e1:((Lib.decodeL (s.drop i)).1:Int)=(ah s i).1:=congrArg Prod.fst sr;have e2:(Lib.decodeL (s.drop i)).2=(ah s i).2:=congrArg Prod.snd sr;rw [if_neg (by
     rintro ⟨q1,q2⟩
     have:=CK s i hb (by omega)
     omega)]
    rw [List.drop_drop,e2,Bp s n (i+(ah s i).2) (by omega)];have h0:0≤(ah s i).1:=by rcases E9 s i with h|h;exact absurd h hb;exact h
    simp [dQ,h0]
  ·have e:s.drop i=[]:=Aq (by omega);simp only [Lib.validGoD,e,if_true];rw [aD g];rfl
theorem xh (s:List UInt8):Lib.validD s=dQ (ag s 0):=by
 have:=Bp s s.length 0 (by omega)
 rwa [Gz] at this
theorem ke (s:List UInt8) (hl:s.length≤900000):Sp Tryz.prog gl 86 [.str s] (i6 (ag s 0).length):=by
 refine Q4 rfl rfl ?_;obtain ⟨R,hR⟩: ∃R,R=(ag s 0).length:=⟨_,rfl⟩;rw [←hR];simp [Qj];refine bT (α:=Nat×Nat) (fun x=>⟨[(3,i6 x.2),(5,.itp 5)],[(.it 5,[.itr s x.1])],[]⟩)
  (fun x=>x.2≤x.1∧x.2+(ag s x.1).length=R∧x.1≤s.length+3) (fun x=>s.length+4 - x.1) ?_ (0,0) ?_ ?_
 ·rintro K ⟨i,n⟩ hK ⟨h1,h2,h3⟩;simp only at h1 h2 h3;by_cases g:i<s.length
  ·rw [aQ g] at h2;simp only [dT] at h2;have sw:=Ko s i g;have sl:=xg g;have sp:=bA s i;have fin: ∀σ',e7 σ' ⟨[(3,i6 (n+1:Nat)),(5,.itp 5)],[(.it 5,[.itr s (i+(ah s i).2)])],[]⟩→K σ':=
    fun σ' hσ=>hK (i+(ah s i).2,n+1) σ' ⟨by simp only;omega,by simp only;omega,by simp only;omega⟩ (by simp only;omega) hσ
   have t1:IntKind.i64.wrap ((n:Int)+1)=(n+1:Nat):=by rw [an]<;>omega
   clear hK hR h2;simp [g,sw];refine fin _ (am ?_ ?_ ?_ ?_ ?_ ?_)<;>simp [t1]
  ·rw [aD g] at h2
   have:n=R:=by simpa using h2
   subst this;simp [g]
 ·exact ⟨eV _,by simp [hR],by simp⟩
 ·apply am<;>simp
theorem Fa:List.lookup 0 gl=some ((List.range 256).map fun c=>Value.int .u8 (Lib.firstT c)):=by kernel_rfl
theorem tC:List.lookup 1 gl=some ((List.range 32).map fun c=>Value.int .u8 (if c%2=0 then Lib.accLo (c / 2) else Lib.accHi (c / 2))):=by kernel_rfl
theorem CL {w:World} (h: ∀i us,List.lookup i gl=some us→ ∀(o:Nat) (u:Value),us[o]?=some u→w.cell? ⟨i,o,none⟩=some u):Lib.Utf8Tabs 0 1 w:=by
 refine ⟨fun c hc=>?_,fun i hi=>⟨?_,?_⟩⟩
 ·exact h _ _ Fa c _ (by simp [hc])
 ·refine h _ _ tC (2*i) _ ?_;have h1:2*i<32:=by omega
  have h2:2*i%2=0:=by omega
  have h3:2*i / 2=i:=by omega
  simp [h1,h2,h3]
 ·refine h _ _ tC (2*i+1) _ ?_;have h1:2*i+1<32:=by omega
  have h2: ¬(2*i+1)%2=0:=by omega
  have h3:(2*i+1) / 2=i:=by omega
  simp only [vm,List.getElem?_range h1,Option.map_some,if_neg h2,h3]
theorem zT (s:List UInt8) (hl:s.length≤900000):Sp Tryz.prog gl 123 [.str s] (.bool (Lib.validD s)):=by
 refine jO Tryz.func123 (by kernel_rfl) (by kernel_rfl) ?_;intro S gb w vs hvs hag hgl;simp only [aa,PR] at hvs;obtain ⟨_,_,rfl,rfl,rfl⟩:=hvs;have hs:(ByteArray.mk s.toArray).size≤9223372036854775807:=by
  have:(ByteArray.mk s.toArray).size=s.length:=rfl
  omega
 exact (Any.utf8_ValidString Cd ⟨s.toArray⟩ w hs (CL hgl)).mono fun e w' ⟨he,hw⟩=>⟨_,he,hw,by simp [PR]⟩
theorem lz (s:List UInt8) (hl:s.length≤900000):Sp Tryz.prog gl 85 [.str s] (.bool (dQ (ag s 0))):=by
 refine Q3 rfl rfl ?_;have V:=zT s hl;rw [xh] at V;generalize dQ (ag s 0)=b at *
 simp [Qi];apply ab V;simp
def iw (k:Int) (s:List UInt8) (n:Nat):Bool:=
 if k=1 then dy s&&decide (n=0)
 else if k=2 then dQ (ag s 0)&&(decide ((ag s 0).length≤120)&&decide (n=0))
 else if k=3∨k=4 then s==[]
 else if k=5 then (s==[])&&decide (n≤1000000)
 else if k=6 then (s==[])&&decide (n≤253402300799)
 else if k=0∨k=7∨k=8∨k=9 then (s==[])&&decide (n=0)
 else false
def gv (k:Int) (s:List UInt8) (n:Nat) (l c:Int):AV:= .agg [i6 k,.str s,u n,i6 l,i6 c]
theorem Fb (s:List UInt8) (n:Nat) (l c:Int) (hl:s.length≤900000):Sp Tryz.prog gl 66 [gv 1 s n l c] (.bool (dy s&&decide (n=0))):=by
 refine DB rfl rfl ?_;have NM:=ly s hl;unfold gv;cases hb:dy s
 ·rw [hb] at NM;rw [lQ];simp [k9];apply ab NM;simp
 ·rw [hb] at NM;rw [kL];by_cases n0:n=0
  ·subst n0;rw [jE (rfl:(0:Nat)=0)];simp [k9];apply ab NM;simp
  ·have n1:((n:Int)==0)=false:=dh.2 (by omega);have n2: ¬(n:Int)=0:=by omega
   rw [oV n0];simp [k9];apply ab NM;simp [n1,n2]
theorem Fc (s:List UInt8) (n:Nat) (l c:Int) (hl:s.length≤900000):Sp Tryz.prog gl 66 [gv 2 s n l c] (.bool (dQ (ag s 0)&&(decide ((ag s 0).length≤120)&&decide (n=0)))):=by
 refine DB rfl rfl ?_;have GD:=lz s hl;have RS:=ke s hl;unfold gv;generalize (ag s 0).length=rn at *
 cases hb:dQ (ag s 0)
 ·rw [hb] at GD;rw [lQ];simp [k9];apply ab GD;simp
 rw [hb] at GD;rw [kL];by_cases hr:rn≤120
 ·have hr':(rn:Int)≤120:=by omega
  rw [jE hr,kL];by_cases n0:n=0
  ·subst n0;rw [jE (rfl:(0:Nat)=0)];simp [k9];apply ab GD;simp;apply ab RS;simp [hr,hr']
  ·have n1:((n:Int)==0)=false:=dh.2 (by omega);have n2: ¬(n:Int)=0:=by omega
   rw [oV n0];simp [k9];apply ab GD;simp;apply ab RS;simp [hr,hr',n1,n2]
 ·have hr': ¬(rn:Int)≤120:=by omega
  rw [oV hr,lQ];simp [k9];apply ab GD;simp;apply ab RS;simp [hr,hr']
theorem Fd (k:Int) (hk:k=3) (s:List UInt8) (n:Nat) (l c:Int):Sp Tryz.prog gl 66 [gv k s n l c] (.bool (s==[])):=by
 refine DB rfl rfl ?_;unfold gv;have d1:(k==1)=false:=by subst hk;decide
 have d2:(k==2)=false:=by subst hk;decide
 have d3:(k==3)=true:=by subst hk;decide
 clear hk;by_cases e:s=[]
 ·subst e;rw [show (([]:List UInt8)==[])=true from rfl];simp [k9,d1,d2];refine uc (fun _=>?_) (fun h=>by rw [d3] at h;cases h);simp;refine uc (fun _=>?_) (fun h=>by rw [d3] at h;cases h);simp
 ·have en:(s==[])=false:=dh.2 e;rw [en];simp [k9,d1,d2];refine uc (fun _=>?_) (fun h=>by rw [d3] at h;cases h);simp;refine uc (fun _=>?_) (fun h=>by rw [d3] at h;cases h);simp [e,en]
theorem Fe (k:Int) (hk:k=4) (s:List UInt8) (n:Nat) (l c:Int):Sp Tryz.prog gl 66 [gv k s n l c] (.bool (s==[])):=by
 refine DB rfl rfl ?_;unfold gv;have d1:(k==1)=false:=by subst hk;decide
 have d2:(k==2)=false:=by subst hk;decide
 have d3:(k==3)=false:=by subst hk;decide
 have d4:(k==4)=true:=by subst hk;decide
 clear hk;by_cases e:s=[]
 ·subst e;rw [show (([]:List UInt8)==[])=true from rfl];simp [k9,d1,d2,d3,d4]
 ·have en:(s==[])=false:=dh.2 e;rw [en];simp [k9,d1,d2,d3,d4,e,en]
theorem Ff (k:Int) (hk:k=5) (s:List UInt8) (n:Nat) (l c:Int):Sp Tryz.prog gl 66 [gv k s n l c] (.bool ((s==[])&&decide (n≤1000000))):=by
 refine DB rfl rfl ?_;unfold gv;have d1:(k==1)=false:=by subst hk;decide
 have d2:(k==2)=false:=by subst hk;decide
 have d3:(k==3)=false:=by subst hk;decide
 have d4:(k==4)=false:=by subst hk;decide
 have d5:(k==5)=true:=by subst hk;decide
 clear hk;by_cases e:s=[]
 ·subst e;rw [show (([]:List UInt8)==[])=true from rfl,kL];by_cases h:n≤1000000
  ·have h':(n:Int)≤1000000:=by omega
   rw [jE h];simp [k9,d1,d2,d3,d4,d5,h,h']
  ·have h': ¬(n:Int)≤1000000:=by omega
   rw [oV h];simp [k9,d1,d2,d3,d4,d5,h,h']
 ·have en:(s==[])=false:=dh.2 e;rw [en,lQ];simp [k9,d1,d2,d3,d4,d5,e,en]
theorem Fg (k:Int) (hk:k=6) (s:List UInt8) (n:Nat) (l c:Int):Sp Tryz.prog gl 66 [gv k s n l c] (.bool ((s==[])&&decide (n≤253402300799))):=by
 refine DB rfl rfl ?_;unfold gv;have d1:(k==1)=false:=by subst hk;decide
 have d2:(k==2)=false:=by subst hk;decide
 have d3:(k==3)=false:=by subst hk;decide
 have d4:(k==4)=false:=by subst hk;decide
 have d5:(k==5)=false:=by subst hk;decide
 have d6:(k==6)=true:=by subst hk;decide
 clear hk;by_cases e:s=[]
 ·subst e;rw [show (([]:List UInt8)==[])=true from rfl,kL];by_cases h:n≤253402300799
  ·have h':(n:Int)≤253402300799:=by omega
   rw [jE h];simp [k9,d1,d2,d3,d4,d5,d6,h,h']
  ·have h': ¬(n:Int)≤253402300799:=by omega
   rw [oV h];simp [k9,d1,d2,d3,d4,d5,d6,h,h']
 ·have en:(s==[])=false:=dh.2 e;rw [en,lQ];simp [k9,d1,d2,d3,d4,d5,d6,e,en]
theorem Fh (k:Int) (hk:k=0) (s:List UInt8) (n:Nat) (l c:Int):Sp Tryz.prog gl 66 [gv k s n l c] (.bool ((s==[])&&decide (n=0))):=by
 refine DB rfl rfl ?_;unfold gv;have d1:(k==1)=false:=by subst hk;decide
 have d2:(k==2)=false:=by subst hk;decide
 have d3:(k==3)=false:=by subst hk;decide
 have d4:(k==4)=false:=by subst hk;decide
 have d5:(k==5)=false:=by subst hk;decide
 have d6:(k==6)=false:=by subst hk;decide
 have d0:(k==0)=true:=by subst hk;decide
 clear hk;by_cases e:s=[]
 ·subst e;rw [show (([]:List UInt8)==[])=true from rfl,kL];by_cases n0:n=0
  ·subst n0;rw [jE (rfl:(0:Nat)=0)];simp [k9,d1,d2,d3,d4,d5,d6,d0]
  ·have n1:((n:Int)==0)=false:=dh.2 (by omega);have n2: ¬(n:Int)=0:=by omega
   rw [oV n0];simp [k9,d1,d2,d3,d4,d5,d6,d0,n1,n2]
 ·have en:(s==[])=false:=dh.2 e;rw [en,lQ];simp [k9,d1,d2,d3,d4,d5,d6,d0,e,en]
theorem Fi (k:Int) (hk:k=7) (s:List UInt8) (n:Nat) (l c:Int):Sp Tryz.prog gl 66 [gv k s n l c] (.bool ((s==[])&&decide (n=0))):=by
 refine DB rfl rfl ?_;unfold gv;have d1:(k==1)=false:=by subst hk;decide
 have d2:(k==2)=false:=by subst hk;decide
 have d3:(k==3)=false:=by subst hk;decide
 have d4:(k==4)=false:=by subst hk;decide
 have d5:(k==5)=false:=by subst hk;decide
 have d6:(k==6)=false:=by subst hk;decide
 have d0:(k==0)=false:=by subst hk;decide
 have d7:(k==7)=true:=by subst hk;decide
 clear hk;by_cases e:s=[]
 ·subst e;rw [show (([]:List UInt8)==[])=true from rfl,kL];by_cases n0:n=0
  ·subst n0;rw [jE (rfl:(0:Nat)=0)];simp [k9,d1,d2,d3,d4,d5,d6,d0,d7]
  ·have n1:((n:Int)==0)=false:=dh.2 (by omega);have n2: ¬(n:Int)=0:=by omega
   rw [oV n0];simp [k9,d1,d2,d3,d4,d5,d6,d0,d7,n1,n2]
 ·have en:(s==[])=false:=dh.2 e;rw [en,lQ];simp [k9,d1,d2,d3,d4,d5,d6,d0,d7,e,en]
theorem Fj (k:Int) (hk:k=8) (s:List UInt8) (n:Nat) (l c:Int):Sp Tryz.prog gl 66 [gv k s n l c] (.bool ((s==[])&&decide (n=0))):=by
 refine DB rfl rfl ?_;unfold gv;have d1:(k==1)=false:=by subst hk;decide
 have d2:(k==2)=false:=by subst hk;decide
 have d3:(k==3)=false:=by subst hk;decide
 have d4:(k==4)=false:=by subst hk;decide
 have d5:(k==5)=false:=by subst hk;decide
 have d6:(k==6)=false:=by subst hk;decide
 have d0:(k==0)=false:=by subst hk;decide
 have d7:(k==7)=false:=by subst hk;decide
 have d8:(k==8)=true:=by subst hk;decide
 clear hk;by_cases e:s=[]
 ·subst e;rw [show (([]:List UInt8)==[])=true from rfl,kL];by_cases n0:n=0
  ·subst n0;rw [jE (rfl:(0:Nat)=0)];simp [k9,d1,d2,d3,d4,d5,d6,d0,d7,d8]
  ·have n1:((n:Int)==0)=false:=dh.2 (by omega);have n2: ¬(n:Int)=0:=by omega
   rw [oV n0];simp [k9,d1,d2,d3,d4,d5,d6,d0,d7,d8,n1,n2]
 ·have en:(s==[])=false:=dh.2 e;rw [en,lQ];simp [k9,d1,d2,d3,d4,d5,d6,d0,d7,d8,e,en]
theorem Fk (k:Int) (hk:k=9) (s:List UInt8) (n:Nat) (l c:Int):Sp Tryz.prog gl 66 [gv k s n l c] (.bool ((s==[])&&decide (n=0))):=by
 refine DB rfl rfl ?_;unfold gv;have d1:(k==1)=false:=by subst hk;decide
 have d2:(k==2)=false:=by subst hk;decide
 have d3:(k==3)=false:=by subst hk;decide
 have d4:(k==4)=false:=by subst hk;decide
 have d5:(k==5)=false:=by subst hk;decide
 have d6:(k==6)=false:=by subst hk;decide
 have d0:(k==0)=false:=by subst hk;decide
 have d7:(k==7)=false:=by subst hk;decide
 have d8:(k==8)=false:=by subst hk;decide
 have d9:(k==9)=true:=by subst hk;decide
 clear hk;by_cases e:s=[]
 ·subst e;rw [show (([]:List UInt8)==[])=true from rfl,kL];by_cases n0:n=0
  ·subst n0;rw [jE (rfl:(0:Nat)=0)];simp [k9,d1,d2,d3,d4,d5,d6,d0,d7,d8,d9]
  ·have n1:((n:Int)==0)=false:=dh.2 (by omega);have n2: ¬(n:Int)=0:=by omega
   rw [oV n0];simp [k9,d1,d2,d3,d4,d5,d6,d0,d7,d8,d9,n1,n2]
 ·have en:(s==[])=false:=dh.2 e;rw [en,lQ];simp [k9,d1,d2,d3,d4,d5,d6,d0,d7,d8,d9,e,en]
theorem Fl (k:Int) (s:List UInt8) (n:Nat) (l c:Int) (h: ¬k=0∧ ¬k=1∧ ¬k=2∧ ¬k=3∧ ¬k=4∧ ¬k=5∧ ¬k=6∧ ¬k=7∧ ¬k=8∧ ¬k=9):Sp Tryz.prog gl 66 [gv k s n l c] (.bool false):=by
 refine DB rfl rfl ?_;unfold gv;obtain ⟨c0,c1,c2,c3,c4,c5,c6,c7,c8,c9⟩:=h;have ne: ∀z:Int,¬k=z→(k==z)=false:=fun z h=>dh.2 h
 have d0:=ne _ c0;have d1:=ne _ c1;have d2:=ne _ c2;have d3:=ne _ c3;have d4:=ne _ c4;have d5:=ne _ c5;have d6:=ne _ c6;have d7:=ne _ c7;have d8:=ne _ c8;have d9:=ne _ c9;simp [k9,d0,d1,d2,d3,d4,d5,d6,d7,d8,d9]
theorem bC (k:Int) (s:List UInt8) (n:Nat) (l c:Int) (hl:s.length≤900000):Sp Tryz.prog gl 66 [gv k s n l c] (.bool (iw k s n)):=by
 unfold iw;by_cases c1:k=1
 ·subst c1;rw [if_pos rfl];exact Fb s n l c hl
 rw [if_neg c1];by_cases c2:k=2
 ·subst c2;rw [if_pos rfl];exact Fc s n l c hl
 rw [if_neg c2];by_cases c3:k=3
 ·subst c3;rw [if_pos (.inl rfl)];exact Fd 3 rfl s n l c
 by_cases c4:k=4
 ·subst c4;rw [if_pos (.inr rfl)];exact Fe 4 rfl s n l c
 rw [if_neg (by rintro (h|h);exact c3 h;exact c4 h)];by_cases c5:k=5
 ·subst c5;rw [if_pos rfl];exact Ff 5 rfl s n l c
 rw [if_neg c5];by_cases c6:k=6
 ·subst c6;rw [if_pos rfl];exact Fg 6 rfl s n l c
 rw [if_neg c6];by_cases c0:k=0
 ·subst c0;rw [if_pos (.inl rfl)];exact Fh 0 rfl s n l c
 by_cases c7:k=7
 ·subst c7;rw [if_pos (.inr (.inl rfl))];exact Fi 7 rfl s n l c
 by_cases c8:k=8
 ·subst c8;rw [if_pos (.inr (.inr (.inl rfl)))];exact Fj 8 rfl s n l c
 by_cases c9:k=9
 ·subst c9;rw [if_pos (.inr (.inr (.inr rfl)))];exact Fk 9 rfl s n l c
 rw [if_neg (by rintro (h|h|h|h);exact c0 h;exact c7 h;exact c8 h;exact c9 h)];exact Fl k s n l c ⟨c0,c1,c2,c3,c4,c5,c6,c7,c8,c9⟩
def eT (t:Tk):Bool:=decide (1≤t.k)&&(decide (t.k≤6)&&iw t.k t.t t.n)
theorem Kp (t:Tk):AV.agg t.row=gv t.k t.t t.n t.ln t.co:=rfl
theorem zU (t:Tk) (hl:t.t.length≤900000):Sp Tryz.prog gl 42 [.agg t.row] (.bool (eT t)):=by
 refine QH rfl rfl ?_;have R:=bC t.k t.t t.n t.ln t.co hl;unfold eT;obtain ⟨k,s,n,l,c⟩:=t;simp only at R ⊢;unfold gv at R;unfold Tk.row;simp only;by_cases c1:(1:Int)≤k
 ·by_cases c2:k≤(6:Int)
  ·simp [Me,c1,c2];apply ab R;simp [c1,c2]
  ·simp [Me,c1,c2]
 ·simp [Me,c1]
theorem CM (t:Tk) (hl:t.t.length≤900000):Sp Tryz.prog gl 41 [.agg t.row] (.bool (!eT t)):=by
 refine QG rfl rfl ?_;have R:=zU t hl;generalize eT t=b at *
 unfold Tk.row at *
 simp [P3];apply ab R;simp
end Go.Ai
