/- P2: a part of the proof. Conditions: as each theorem says. -/
import Derived.Test.YtggemlhclppciaaGreatDoorP1
import Derived.Lib.TrimUEq
import Derived.Lib.ValidU
import Derived.Lib.MapLaws
set_option linter.unusedSimpArgs false
set_option linter.unusedVariables false
set_option maxRecDepth 20000
namespace Go.Ai
open Go.Proofs
theorem Lf (s:List UInt8) (i:Nat) (h:i<s.length):(ByteArray.mk s.toArray).get! i=s[i]:=by
 simp [ByteArray.get!,getElem!_pos,h]
def aX (s:List UInt8) (j:Nat):Nat:=match s[j]? with |some b=>b.toNat|none=>0
def eE (s:List UInt8) (j:Nat):Bool:=decide (128≤aX s j∧aX s j≤191)
def rv (s:List UInt8) (i r0:Nat):Nat→Nat
 |0=>r0
 |k+1=>64*rv s i r0 k+(aX s (i+(k+1)) - 128)
def fH (s:List UInt8) (i:Nat):Nat→Bool
 |0=>true
 |k+1=>fH s i k&&eE s (i+(k+1))
def cF (least r:Nat):Bool:=decide (least≤r∧r≤1114111∧ ¬(55296≤r∧r<57344))
def bG (s:List UInt8) (i n r0 least:Nat):Int×Nat:=if fH s i n&&cF least (rv s i r0 n) then ((rv s i r0 n:Nat),n+1) else (-1,1)
def ak (s:List UInt8) (i:Nat):Int×Nat:=
 let b:=aX s i
 if b<128 then (b,1) else if 192≤b∧b<224 then bG s i 1 (b - 192) 128 else if 224≤b∧b<240 then bG s i 2 (b - 224) 2048 else if 240≤b∧b<248 then bG s i 3 (b - 240) 65536 else (-1,1)
theorem jk {s:List UInt8} {i:Nat} (h:i<s.length):aX s i=s[i].toNat:=by unfold aX;rw [rG h]
theorem gY (s:List UInt8) (i:Nat):aX s i<256:=by
 unfold aX;split
 ·rename_i b _;exact b.toNat_lt
 ·omega
theorem Ef {s:List UInt8} {i:Nat} (h: ¬i<s.length):aX s i=0:=by unfold aX;rw [EG (by omega)]
theorem Cx (s:List UInt8) (i r0 least:Nat):bG s i 1 r0 least=if eE s (i+1)&&cF least (64*r0+(aX s (i+1) - 128)) then (((64*r0+(aX s (i+1) - 128):Nat):Int),2) else (-1,1):=rfl
theorem Cy (s:List UInt8) (i r0 least:Nat):bG s i 2 r0 least=if (eE s (i+1)&&eE s (i+2))&&cF least (64*(64*r0+(aX s (i+1) - 128))+(aX s (i+2) - 128)) then (((64*(64*r0+(aX s (i+1) - 128))+(aX s (i+2) - 128):Nat):Int),3) else (-1,1):=rfl
theorem Cz (s:List UInt8) (i r0 least:Nat):bG s i 3 r0 least=if ((eE s (i+1)&&eE s (i+2))&&eE s (i+3))&&cF least (64*(64*(64*r0+(aX s (i+1) - 128))+(aX s (i+2) - 128))+(aX s (i+3) - 128)) then (((64*(64*(64*r0+(aX s (i+1) - 128))+(aX s (i+2) - 128))+(aX s (i+3) - 128):Nat):Int),4) else (-1,1):=rfl
theorem pK (s:List UInt8) (i n r0 least:Nat):1≤(bG s i n r0 least).2:=by unfold bG;split<;>simp
theorem bI (s:List UInt8) (i:Nat):1≤(ak s i).2:=by
 unfold ak;simp only;split
 ·simp
 ·split
  ·exact pK ..
  ·split
   ·exact pK ..
   ·split
    ·exact pK ..
    ·simp
def ai (s:List UInt8) (i:Nat):List Int:=if h:i<s.length then (ak s i).1::ai s (i+(ak s i).2) else []
termination_by s.length - i
decreasing_by have:=bI s i;omega
theorem aW {s:List UInt8} {i:Nat} (h:i<s.length):ai s i=(ak s i).1::ai s (i+(ak s i).2):=by rw [ai,dif_pos h]
theorem aH {s:List UInt8} {i:Nat} (h: ¬i<s.length):ai s i=[]:=by rw [ai,dif_neg h]
theorem gF {s:List UInt8} {j:Nat} (h:j<s.length):((ByteArray.mk s.toArray).get! j).toNat=aX s j:=by rw [Lf s j h,jk h]
theorem gN {s:List UInt8} {j:Nat}:eE s j=true↔j<s.length∧aX s j / 64=2:=by
 unfold eE;rw [o5];constructor
 ·intro h;rcases Nat.lt_or_ge j s.length with h1|h1
  ·exact ⟨h1,by omega⟩
  ·rw [Ef (by omega)] at h;omega
 ·intro h;omega
theorem cS (s:List UInt8) (i:Nat) (h:i<s.length):bU s i=(if (ak s i).1= -1 then (65533,1) else ak s i):=by
 have hb:(ByteArray.mk s.toArray).size=s.length:=by simp [ByteArray.size]
 have c: ∀k,(decide (i+k<(ByteArray.mk s.toArray).size)&&((ByteArray.mk s.toArray).get! (i+k)).toNat / 64==2)=eE s (i+k):=by
  intro k;rw [Bool.eq_iff_iff,gN,hb];simp only [aE,o5,bP];constructor
  ·rintro ⟨h1,h2⟩;rw [gF h1] at h2;exact ⟨h1,h2⟩
  ·rintro ⟨h1,h2⟩;rw [gF h1];exact ⟨h1,h2⟩
 have e0:((ByteArray.mk s.toArray).get! (i+0)).toNat=aX s i:=gF (by omega);have bl:=gY s i;unfold bU Utf8.decode;simp only [e0,c,Utf8.runeError];unfold ak;simp only;by_cases h1:aX s i<128
 ·have h2: ¬((aX s i:Nat):Int)= -1:=by omega
  simp only [h1,if_true,h2,if_false]
 ·simp only [h1,if_false];have d1:(aX s i / 32==6)=decide (192≤aX s i∧aX s i<224):=by rw [Bool.eq_iff_iff];simp;omega
  have d2:(aX s i / 16==14)=decide (224≤aX s i∧aX s i<240):=by rw [Bool.eq_iff_iff];simp;omega
  have d3:(aX s i / 8==30)=decide (240≤aX s i∧aX s i<248):=by rw [Bool.eq_iff_iff];simp;omega
  rw [d1,d2,d3];by_cases r1:192≤aX s i∧aX s i<224
  ·have r2: ¬(224≤aX s i∧aX s i<240):=by omega
   have r3: ¬(240≤aX s i∧aX s i<248):=by omega
   simp only [r1,r2,r3,and_self,decide_true,decide_false,ib,iR,if_true,if_false,uj];rw [Cx];cases c1:eE s (i+1)
   ·simp
   ·obtain ⟨l1,q1⟩:=gN.1 c1;simp only [if_true,ib,gF l1];have b1:=gY s (i+1);generalize aX s (i+1)=y at *
    generalize aX s i=x at *
    by_cases z:cF 128 (64*(x - 192)+(y - 128))=true
    ·have zz:=z;unfold cF at zz;rw [o5] at zz;have e:x%32*64+y%64=64*(x - 192)+(y - 128):=by omega
     simp only [z,e,if_true];rw [if_neg (show ¬((64*(x - 192)+(y - 128):Nat):Int)= -1 by omega),if_pos (by omega)]
    ·have zz:=z;unfold cF at zz;rw [o5] at zz;have hz: ¬(x%32*64+y%64≥128):=by omega
     simp only [z,hz,uj,if_false];simp
  ·by_cases r2:224≤aX s i∧aX s i<240
   ·have r3: ¬(240≤aX s i∧aX s i<248):=by omega
    simp only [r1,r2,r3,and_self,decide_true,decide_false,ib,iR,if_true,if_false,uj];rw [Cy];cases c1:eE s (i+1)
    ·simp
    ·cases c2:eE s (i+2)
     ·simp
     ·obtain ⟨l1,q1⟩:=gN.1 c1;obtain ⟨l2,q2⟩:=gN.1 c2;simp only [if_true,ib,Bool.and_self,gF l1,gF l2];have b1:=gY s (i+1);have b2:=gY s (i+2);try rw [gF l2]
      generalize aX s (i+2)=w at *
      generalize aX s (i+1)=y at *
      generalize aX s i=x at *
      by_cases z:cF 2048 (64*(64*(x - 224)+(y - 128))+(w - 128))=true
      ·have zz:=z;unfold cF at zz;rw [o5] at zz;have e:x%16*4096+y%64*64+w%64=64*(64*(x - 224)+(y - 128))+(w - 128):=by omega
       simp only [z,e,if_true];rw [if_neg (show ¬((64*(64*(x - 224)+(y - 128))+(w - 128):Nat):Int)= -1 by omega),if_pos (by simp [Utf8.valid];omega)]
      ·have zz:=z;unfold cF at zz;rw [o5] at zz;have hz:(decide (x%16*4096+y%64*64+w%64≥2048)&&Utf8.valid ((x%16*4096+y%64*64+w%64:Nat):Int))=false:=by
        rw [P4];simp [Utf8.valid];omega
       simp only [z,hz,uj,if_false];simp
   ·by_cases r3:240≤aX s i∧aX s i<248
    ·simp only [r1,r2,r3,and_self,decide_true,decide_false,ib,iR,if_true,if_false,uj];rw [Cz];cases c1:eE s (i+1)
     ·simp
     ·cases c2:eE s (i+2)
      ·simp
      ·cases c3:eE s (i+3)
       ·simp
       ·obtain ⟨l1,q1⟩:=gN.1 c1;obtain ⟨l2,q2⟩:=gN.1 c2;obtain ⟨l3,q3⟩:=gN.1 c3;simp only [if_true,ib,Bool.and_self,gF l1];have b1:=gY s (i+1);have b2:=gY s (i+2);have b3:=gY s (i+3);try simp only [gF l2,gF l3]
        generalize aX s (i+3)=t at *
        generalize aX s (i+2)=w at *
        generalize aX s (i+1)=y at *
        generalize aX s i=x at *
        by_cases z:cF 65536 (64*(64*(64*(x - 240)+(y - 128))+(w - 128))+(t - 128))=true
        ·have zz:=z;unfold cF at zz;rw [o5] at zz;have e:x%8*262144+y%64*4096+w%64*64+t%64=64*(64*(64*(x - 240)+(y - 128))+(w - 128))+(t - 128):=by omega
         simp only [z,e,if_true];rw [if_neg (show ¬((64*(64*(64*(x - 240)+(y - 128))+(w - 128))+(t - 128):Nat):Int)= -1 by omega),if_pos (by simp [Utf8.valid];omega)]
        ·have zz:=z;unfold cF at zz;rw [o5] at zz;have hz:(decide (x%8*262144+y%64*4096+w%64*64+t%64≥65536)&&Utf8.valid ((x%8*262144+y%64*4096+w%64*64+t%64:Nat):Int))=false:=by
          rw [P4];simp [Utf8.valid];omega
         simp only [z,hz,uj,if_false];simp
    ·simp [r1,r2,r3]
abbrev i3 (n:Int):AV:= .int .i32 n
def a7 (l:List Int):List (List AV):=l.map fun r=>[i3 r]
theorem mz (l:List Int) (r:Int):a7 (l++[r])=a7 l++[[i3 r]]:=by simp [a7]
theorem fY (l:List Int):(a7 l).length=l.length:=by simp [a7]
theorem oB (l:List Int): ∀r∈a7 l,r.length=1:=by
 intro r hr;obtain ⟨m,_,rfl⟩:=vY.1 hr;rfl
theorem aR {n:Int} (h1: -2147483648≤n) (h2:n<2147483648):IntKind.i32.wrap n=n:=by
 have e1:(2:Int)^32=4294967296:=by decide
 have e2:(2:Int)^(32 - 1)=2147483648:=by decide
 have:IntKind.i32.wrap n=if (true&&decide (n%2^32≥2^(32 - 1)))=true then n%2^32 - 2^32 else n%2^32:=rfl
 rw [this];simp only [e1,e2,ib,o5];split<;>omega
theorem zY {s:List UInt8} {i:Nat}: ∀ {n k:Nat},k≤n→fH s i n=true→fH s i k=true
 |0,k,h,hc=>by rw [show k=0 by omega];rfl
 |n+1,k,h,hc=>by
  simp only [fH,aE] at hc;by_cases e:k=n+1
  ·rw [e];simp only [fH,hc,Bool.and_self]
  ·exact zY (by omega) hc.1
theorem Ir (s:List UInt8) (i r0:Nat) (h0:r0<32):rv s i r0 0<32∧rv s i r0 1<2048+128∧rv s i r0 2<139264+128∧rv s i r0 3<8921088+128:=by
 have b1:=gY s (i+1);have b2:=gY s (i+2);have b3:=gY s (i+3);have e1:rv s i r0 1=64*r0+(aX s (i+1) - 128):=rfl;have e2:rv s i r0 2=64*rv s i r0 1+(aX s (i+2) - 128):=rfl;have e3:rv s i r0 3=64*rv s i r0 2+(aX s (i+3) - 128):=rfl;have e0:rv s i r0 0=r0:=rfl;omega
theorem CA {s:List UInt8} {i:Nat} {out:List Int} {R:List Int} (h:i<s.length) (hR:out++ai s i=R):(out++[(ak s i).1])++ai s (i+(ak s i).2)=R:=by
 rw [←hR,aW h];simp
def AC.part:List Nat→AC→AC
 |[],c=>c
 |0::p,.sq a _=>a.part p
 |1::p,.sq _ b=>b.part p
 |2::p,.bl _ a=>a.part p
 |2::p,.lp a=>a.part p
 |_,c=>c
def AC.cutIn:List Nat→AC→AC→AC
 |[],T,_=>T
 |0::p,T,.sq a b=> .sq (AC.cutIn p T a) b
 |1::p,T,.sq a b=> .sq a (AC.cutIn p T b)
 |2::p,T,.bl i a=> .bl i (AC.cutIn p T a)
 |2::p,T,.lp a=> .lp (AC.cutIn p T a)
 |_,_,c=>c
def NP:AC:=AC.part [1,1,1,0,2,2,1,2,1,1,1,1] JN
def QQ:AC:=AC.part [1,1] NP
def s7 (ok:Bool) (n r least:Nat):Int×Nat:=if ok&&cF least r then ((r:Int),n+1) else (-1,1)
theorem Is (s:List UInt8) (i n r least:Nat) (ok:Bool) (out:List Int) (hi:i≤1000000) (hn:n≤3) (ho:out.length≤1000000) (Q:AE→St→Prop)
  (hQ: ∀e,e= .n∨e= .x 1→ ∀σ',dL σ' ⟨[(0,.str s),(3,.sl (a7 (out++[(s7 ok n r least).1]))),(4,i6 (i+(s7 ok n r least).2:Nat))],[],[(.s 3,1)]⟩→Q e σ')
  (e:List (Nat×AV)) (h0:lk e 0= .str s) (h3:lk e 3= .sl (a7 out)) (h4:lk e 4=i6 i) (h5:lk e 5=i3 r) (h6:lk e 6=i6 n) (h7:lk e 7=i3 least) (h8:lk e 8= .bool ok):
  dG (cB Tryz.prog gl) QQ Q ⟨e,[],[(.s 3,1)]⟩:=by
 have hlim:l8=140737488355328:=rfl;have ec:QQ=AC.part [1,1] (AC.part [1,1,1,0,2,2,1,2,1,1,1,1] JN):=rfl;rw [ec];simp only [JN,AC.part];have one:=oB out;have rl:=fY out;have t1:IntKind.i64.wrap ((i:Int)+1)=(i+1:Nat):=by rw [aj]<;>omega
 have t3:IntKind.i64.wrap ((i:Int)+1+n)=(i:Int)+(n+1):=by rw [aj]<;>omega
 have hw:(out.length+1)*4≤140737488355328:=by omega
 rw [mz] at hQ;generalize a7 out=L at *
 have bad:cF least r=false∨ok=false→s7 ok n r least=(-1,1):=by
  intro h;unfold s7;rcases h with h|h<;>simp [h]
 have good:cF least r=true→ok=true→s7 ok n r least=((r:Int),n+1):=by
  intro h h';unfold s7;simp [h,h']
 generalize s7 ok n r least=res at *
 have hb:cF least r=false∨ok=false→ ∀e,e= .n∨e= .x 1→ ∀σ',dL σ' ⟨[(0,.str s),(3,.sl (L++[[i3 (-1)]])),(4,i6 (i+1:Nat))],[],[(.s 3,1)]⟩→Q e σ':=by
  intro h
  have:=bad h
  subst this;exact hQ
 cases ok with
 |false=>
  have hb:=hb (.inr rfl);clear hQ bad good;simp [h8,h3,hlim,rl,h4];refine ⟨hw,one,hb _ (.inr rfl) _ (ae ?_ ?_ ?_ ?_ ?_ ?_)⟩<;>simp [h0,t1]
 |true=>
  by_cases z:cF least r=true
  ·have:=good z rfl
   subst this;clear hb bad good;unfold cF at z;rw [o5] at z;have z1: ¬r<least:=by omega
   have z1': ¬(r:Int)<least:=by omega
   have z2: ¬(1114111:Int)<r:=by omega
   by_cases z3:(55296:Int)≤r
   ·have z4: ¬(r:Int)<57344:=by omega
    simp [h8,h5,h7,z1,z1',z2,z3,z4,h3,hlim,rl,h4,h6];refine ⟨hw,one,hQ _ (.inl rfl) _ (ae ?_ ?_ ?_ ?_ ?_ ?_)⟩<;>simp [h0,t1,t3]
   ·simp [h8,h5,h7,z1,z1',z2,z3,h3,hlim,rl,h4,h6];refine ⟨hw,one,hQ _ (.inl rfl) _ (ae ?_ ?_ ?_ ?_ ?_ ?_)⟩<;>simp [h0,t1,t3]
  ·have hb:=hb (.inl (by simpa using z));clear hQ bad good;unfold cF at z;rw [o5] at z;by_cases z1:r<least
   ·have z1':(r:Int)<least:=by omega
    simp [h8,h5,h7,z1,z1',h3,hlim,rl,h4,h6];refine ⟨hw,one,hb _ (.inr rfl) _ (ae ?_ ?_ ?_ ?_ ?_ ?_)⟩<;>simp [h0,t1]
   ·have z1': ¬(r:Int)<least:=by omega
    by_cases z2:(1114111:Int)<r
    ·simp [h8,h5,h7,z1,z1',z2,h3,hlim,rl,h4,h6];refine ⟨hw,one,hb _ (.inr rfl) _ (ae ?_ ?_ ?_ ?_ ?_ ?_)⟩<;>simp [h0,t1]
    ·have z3:(55296:Int)≤r:=by omega
     have z4:(r:Int)<57344:=by omega
     simp [h8,h5,h7,z1,z1',z2,z3,z4,h3,hlim,rl,h4,h6];refine ⟨hw,one,hb _ (.inr rfl) _ (ae ?_ ?_ ?_ ?_ ?_ ?_)⟩<;>simp [h0,t1]
def mA (s:List UInt8) (i n r0 least:Nat):Int×Nat:=if n=0 then (-1,1) else bG s i n r0 least
theorem Iu (s:List UInt8) (i n r0 least:Nat) (out:List Int) (hi:i≤1000000) (hn:n≤3) (Ot:n=0∨r0<32) (ho:out.length≤1000000) (hsl:s.length≤1000000) (Q:AE→St→Prop)
  (hQ: ∀e,e= .n∨e= .x 1→ ∀σ',dL σ' ⟨[(0,.str s),(3,.sl (a7 (out++[(mA s i n r0 least).1]))),(4,i6 (i+(mA s i n r0 least).2:Nat))],[],[(.s 3,1)]⟩→Q e σ')
  (e:List (Nat×AV)) (h0:lk e 0= .str s) (h3:lk e 3= .sl (a7 out)) (h4:lk e 4=i6 i) (h5:lk e 5=i3 r0) (h6:lk e 6=i6 n) (h7:lk e 7=i3 least):
  dG (cB Tryz.prog gl) NP Q ⟨e,[],[(.s 3,1)]⟩:=by
 have ec:NP=AC.cutIn [1,1] QQ NP:=rfl;rw [ec];have U:=Is s i n;generalize QQ=t at U ⊢;have eT:NP=AC.part [1,1,1,0,2,2,1,2,1,1,1,1] JN:=rfl;rw [eT];simp only [JN,AC.part,AC.cutIn];have good:n≠0→fH s i n=true→ ∀e,lk e 0= .str s→lk e 3= .sl (a7 out)→lk e 4=i6 i→lk e 5=i3 (rv s i r0 n)→lk e 6=i6 n→lk e 7=i3 least→lk e 8= .bool true→dG (cB Tryz.prog gl) t Q ⟨e,[],[(.s 3,1)]⟩:=by
  intro hn0 hc e g0 g3 g4 g5 g6 g7 g8;refine U (rv s i r0 n) least true out hi hn ho Q ?_ e g0 g3 g4 g5 g6 g7 g8;have er:s7 true n (rv s i r0 n) least=mA s i n r0 least:=by
   unfold s7 mA bG;rw [if_neg hn0,hc]
  rw [er];exact hQ
 have bad: ∀r,(n=0∨fH s i n=false)→ ∀e,lk e 0= .str s→lk e 3= .sl (a7 out)→lk e 4=i6 i→lk e 5=i3 (r:Nat)→lk e 6=i6 n→lk e 7=i3 least→lk e 8= .bool false→dG (cB Tryz.prog gl) t Q ⟨e,[],[(.s 3,1)]⟩:=by
  intro r hc e g0 g3 g4 g5 g6 g7 g8;refine U r least false out hi hn ho Q ?_ e g0 g3 g4 g5 g6 g7 g8;have er:s7 false n r least=mA s i n r0 least:=by
   unfold s7 mA bG;rcases hc with rfl|hc
   ·rw [if_pos rfl];rfl
   ·by_cases h:n=0
    ·rw [if_pos h];rfl
    ·rw [if_neg h,hc];rfl
  rw [er];exact hQ
 clear U hQ;generalize a7 out=L at *
 have hn0:(0:Int)<n↔n≠0:=by omega
 have hok:decide ((0:Int)<n)=decide (n≠0):=by rw [Bool.eq_iff_iff];simp;omega
 simp [h6];refine aP (α:=Nat) (fun k=>⟨[(0,.str s),(3,.sl L),(4,i6 i),(5,i3 (rv s i r0 k)),(6,i6 n),(7,i3 least),(8,.bool (decide (0<n))),(9,i6 (k+1:Nat))],[],[(.s 3,1)]⟩)
  (fun k=>k≤n∧fH s i k=true) (fun k=>n - k) ?_ 0 ?_ ?_
 ·rintro K k hK ⟨h1,h2⟩;by_cases g:k<n
  ·have gI:(k:Int)+1≤n:=by omega
   have t1:IntKind.i64.wrap ((i:Int)+((k:Int)+1))=(i+(k+1):Nat):=by rw [aj]<;>omega
   have t2:IntKind.i64.wrap ((k:Int)+1+1)=(k+1+1:Nat):=by rw [aj]<;>omega
   have fin:eE s (i+(k+1))=true→ ∀σ',dL σ' ⟨[(0,.str s),(3,.sl L),(4,i6 i),(5,i3 (rv s i r0 (k+1))),(6,i6 n),(7,i3 least),(8,.bool (decide (0<n))),(9,i6 (k+1+1:Nat))],[],[(.s 3,1)]⟩→K σ':=
    fun hc σ' hσ=>hK (k+1) σ' ⟨by omega,by simp only [fH,h2,hc,Bool.and_self]⟩ (by omega) hσ
   have badk:eE s (i+(k+1))=false→fH s i n=false:=fun hc=>by
    rw [P4];intro h
    have:=zY (show k+1≤n by omega) h
    simp only [fH,hc,Mz] at this;cases this
   by_cases l1:i+(k+1)<s.length
   ·have l1': ¬((s.length:Int)≤(i:Int)+((k:Int)+1)):=by omega
    have tn:((i:Int)+((k:Int)+1)).toNat=i+(k+1):=by omega
    have tp:(0:Int)≤(i:Int)+((k:Int)+1):=by omega
    have hb:=jk l1;have rvs:rv s i r0 (k+1)=64*rv s i r0 k+(aX s (i+(k+1)) - 128):=rfl;have hcd:eE s (i+(k+1))=decide (128≤aX s (i+(k+1))∧aX s (i+(k+1))≤191):=rfl;have rk:rv s i r0 k<139264+128:=by
     obtain ⟨b0,b1,b2,b3⟩:=Ir s i r0 (Ot.resolve_left (by omega));rcases (by omega:k=0∨k=1∨k=2) with rfl|rfl|rfl<;>omega
    rw [rvs] at fin;obtain ⟨x,hx⟩: ∃x,s[i+(k+1)]=x:=⟨_,rfl⟩;rw [hx] at hb;rw [hb] at hcd fin;clear hb rvs hK;generalize rv s i r0 k=r at *
    by_cases x1:(x.toNat:Int)<128
    ·have bb:=bad r (.inr (badk (by rw [hcd,decide_eq_false_iff_not];omega)));clear fin bad good badk;simp [gI,t1,l1,l1',tn,tp,hx,x1];refine bb _ ?_ ?_ ?_ ?_ ?_ ?_ ?_<;>simp
    ·by_cases x2:(191:Int)<x.toNat
     ·have bb:=bad r (.inr (badk (by rw [hcd,decide_eq_false_iff_not];omega)));clear fin bad good badk;simp [gI,t1,l1,l1',tn,tp,hx,x1,x2];refine bb _ ?_ ?_ ?_ ?_ ?_ ?_ ?_<;>simp
     ·have fin:=fin (by rw [hcd,o5];omega);have w1:IntKind.i32.wrap (64*(r:Int))=(64*r:Nat):=by rw [aR]<;>omega
      have w2:IntKind.i32.wrap (x.toNat:Int)=x.toNat:=by rw [aR]<;>omega
      have w3:IntKind.i32.wrap (((64*r:Nat):Int)+x.toNat)=(64*r+x.toNat:Nat):=by rw [aR]<;>omega
      have w4:IntKind.i32.wrap (((64*r+x.toNat:Nat):Int) - 128)=(64*r+(x.toNat - 128):Nat):=by rw [aR]<;>omega
      clear bad good badk hcd;generalize 64*r+(x.toNat - 128)=r' at *
      generalize 64*r+x.toNat=r2 at *
      generalize 64*r=r1 at *
      simp [gI,t1,l1,l1',tn,tp,hx,x1,x2];refine fin _ (ae ?_ ?_ ?_ ?_ ?_ ?_)<;>simp [w1,w2,w3,w4,t2]
   ·have l1':((s.length:Int)≤((i+(k+1):Nat):Int)):=by omega
    have hb:=Ef l1;have hcd:eE s (i+(k+1))=decide (128≤aX s (i+(k+1))∧aX s (i+(k+1))≤191):=rfl;have bb:=bad (rv s i r0 k) (.inr (badk (by rw [hcd,hb];rfl)));clear fin bad good badk hK;generalize rv s i r0 k=r at *
    have l1n:(s.length:Int)≤(i:Int)+((k:Int)+1):=by omega
    simp [gI,t1,l1,l1',l1n];refine bb _ ?_ ?_ ?_ ?_ ?_ ?_ ?_<;>simp
  ·obtain rfl:k=n:=by omega
   have gI: ¬(k:Int)+1≤k:=by omega
   clear hK;by_cases hz:k=0
   ·have bb:=bad (rv s i r0 k) (.inl hz);clear bad good;generalize rv s i r0 k=r at *
    simp [gI];refine bb _ ?_ ?_ ?_ ?_ ?_ ?_ ?_<;>simp [hz]
   ·have gg:=good hz h2;clear bad good;have hz':0<k:=by omega
    generalize rv s i r0 k=r at *
    simp [gI];refine gg _ ?_ ?_ ?_ ?_ ?_ ?_ ?_<;>simp [hz']
 ·exact ⟨iA _,rfl⟩
 ·apply ae<;>simp [h0,h3,h4,h5,h6,h7,show rv s i r0 0=r0 from rfl]
theorem iL (s:List UInt8): ∀(n i:Nat),s.length - i≤n→(ai s i).length≤n
 |0,i,h=>by rw [aH (by omega)];simp
 |n+1,i,h=>by
  by_cases hi:i<s.length
  ·rw [aW hi]
   have:=bI s i
   have:=iL s n (i+(ak s i).2) (by omega)
   simp only [em];omega
  ·rw [aH hi];simp
theorem ti {s:List UInt8} {i:Nat} (h:i<s.length):i+(ak s i).2≤s.length+3:=by
 have hF: ∀n r0 least,n≤3→(bG s i n r0 least).2≤4:=by
  intro n r0 least hn;unfold bG;split
  ·simp only;omega
  ·simp
 have h1:=hF 1 (aX s i - 192) 128 (by omega);have h2:=hF 2 (aX s i - 224) 2048 (by omega);have h3:=hF 3 (aX s i - 240) 65536 (by omega);unfold ak;simp only;split
 ·simp only;omega
 ·split
  ·omega
  ·split
   ·omega
   ·split
    ·omega
    ·simp only;omega
theorem kr (s:List UInt8) (hl:s.length≤900000):Sp Tryz.prog gl 60 [.str s] (.sl (a7 (ai s 0))):=by
 refine Vw rfl rfl ?_;have hlim:l8=140737488355328:=rfl;have ec:JN=AC.cutIn [1,1,1,0,2,2,1,2,1,1,1,1] NP JN:=rfl;rw [ec];have T:=fun i n r0 least out=>Iu s i n r0 least out
 generalize NP=t at T ⊢;simp only [JN,AC.cutIn];obtain ⟨R,hR⟩: ∃R,ai s 0=R:=⟨_,rfl⟩;rw [hR];simp;refine aP (α:=Nat×List Int) (fun x=>⟨[(0,.str s),(3,.sl (a7 x.2)),(4,i6 x.1)],[],[(.s 3,1)]⟩)
  (fun x=>x.1≤s.length+3∧x.2.length≤x.1∧x.2++ai s x.1=R) (fun x=>s.length+4 - x.1) ?_ (0,[]) ?_ ?_
 ·rintro K ⟨i,out⟩ hK ⟨h1,h2,h3⟩;simp only at h1 h2 h3;by_cases g:i<s.length
  ·have st:=CA g h3;have sl:=ti g;have sp:=bI s i;have fin: ∀σ',dL σ' ⟨[(0,.str s),(3,.sl (a7 (out++[(ak s i).1]))),(4,i6 (i+(ak s i).2:Nat))],[],[(.s 3,1)]⟩→K σ':=
    fun σ' hσ=>hK (i+(ak s i).2,out++[(ak s i).1]) σ' ⟨by simp only;omega,by simp only [cG,em,vZ];omega,st⟩ (by simp only;omega) hσ
   have hb:=jk g;have hx255:=gY s i;have er:ak s i=(if aX s i<128 then ((aX s i:Int),1) else if 192≤aX s i∧aX s i<224 then bG s i 1 (aX s i - 192) 128 else if 224≤aX s i∧aX s i<240 then bG s i 2 (aX s i - 224) 2048 else if 240≤aX s i∧aX s i<248 then bG s i 3 (aX s i - 240) 65536 else (-1,1)):=rfl;rw [hb] at er hx255;obtain ⟨y,hy⟩: ∃y,s[i]=y:=⟨_,rfl⟩;rw [hy] at er hx255;have w0:IntKind.i32.wrap (y.toNat:Int)=y.toNat:=by rw [aR]<;>omega
   have T':=fun n r0 least hn Ot Q=>T i n r0 least out (by omega) hn Ot (by omega) (by omega) Q
   have one:=oB out;have rl:=fY out;have hw:(out.length+1)*4≤140737488355328:=by omega
   clear hK st hb T h3 sl sp;by_cases x1:(y.toNat:Int)<128
   ·have x1n:y.toNat<128:=by omega
    rw [if_pos x1n] at er;rw [er] at fin;have t1:IntKind.i64.wrap ((i:Int)+1)=(i+1:Nat):=by rw [aj]<;>omega
    simp only [mz] at fin;clear er;generalize a7 out=L at *
    simp [g,hy,w0,x1,hlim,rl];refine ⟨hw,one,fin _ (ae ?_ ?_ ?_ ?_ ?_ ?_)⟩<;>simp [t1]
   ·have x1n: ¬y.toNat<128:=by omega
    rw [if_neg x1n] at er;by_cases c1:(192:Int)≤y.toNat∧(y.toNat:Int)<224
    ·have c1n:192≤y.toNat∧y.toNat<224:=by omega
     rw [if_pos c1n] at er;have eg:mA s i 1 (y.toNat - 192) 128=ak s i:=by rw [er];rfl
     have T':=T' 1 (y.toNat - 192) 128 (by omega) (.inr (by omega));rw [eg] at T';have w1:IntKind.i32.wrap ((y.toNat:Int) - 192)=(y.toNat - 192:Nat):=by rw [aR]<;>omega
     clear er eg;generalize (ak s i).1=s1 at *
     generalize (ak s i).2=s2 at *
     simp [g,hy,w0,x1,c1.1,c1.2];refine T' _ ?_ _ ?_ ?_ ?_ ?_ ?_ ?_
     ·rintro e (rfl|rfl) σ' hσ
      ·simp;exact fin _ hσ
      ·simp;exact fin _ hσ
     all_goals simp [w1]
    ·have c1n: ¬(192≤y.toNat∧y.toNat<224):=by omega
     rw [if_neg c1n] at er;by_cases c2:(224:Int)≤y.toNat∧(y.toNat:Int)<240
     ·have c2n:224≤y.toNat∧y.toNat<240:=by omega
      rw [if_pos c2n] at er;have eg:mA s i 2 (y.toNat - 224) 2048=ak s i:=by rw [er];rfl
      have T':=T' 2 (y.toNat - 224) 2048 (by omega) (.inr (by omega));rw [eg] at T';have w1:IntKind.i32.wrap ((y.toNat:Int) - 224)=(y.toNat - 224:Nat):=by rw [aR]<;>omega
      have c3:(192:Int)≤y.toNat:=by omega
      have c4: ¬(y.toNat:Int)<224:=by omega
      clear er eg;generalize (ak s i).1=s1 at *
      generalize (ak s i).2=s2 at *
      simp [g,hy,w0,x1,c2.1,c2.2,c3,c4];refine T' _ ?_ _ ?_ ?_ ?_ ?_ ?_ ?_
      ·rintro e (rfl|rfl) σ' hσ
       ·simp;exact fin _ hσ
       ·simp;exact fin _ hσ
      all_goals simp [w1]
     ·have c2n: ¬(224≤y.toNat∧y.toNat<240):=by omega
      rw [if_neg c2n] at er;by_cases c5:(240:Int)≤y.toNat∧(y.toNat:Int)<248
      ·have c5n:240≤y.toNat∧y.toNat<248:=by omega
       rw [if_pos c5n] at er;have eg:mA s i 3 (y.toNat - 240) 65536=ak s i:=by rw [er];rfl
       have T':=T' 3 (y.toNat - 240) 65536 (by omega) (.inr (by omega));rw [eg] at T';have w1:IntKind.i32.wrap ((y.toNat:Int) - 240)=(y.toNat - 240:Nat):=by rw [aR]<;>omega
       have c3:(192:Int)≤y.toNat:=by omega
       have c4: ¬(y.toNat:Int)<224:=by omega
       have c6:(224:Int)≤y.toNat:=by omega
       have c7: ¬(y.toNat:Int)<240:=by omega
       clear er eg;generalize (ak s i).1=s1 at *
       generalize (ak s i).2=s2 at *
       simp [g,hy,w0,x1,c5.1,c5.2,c3,c4,c6,c7];refine T' _ ?_ _ ?_ ?_ ?_ ?_ ?_ ?_
       ·rintro e (rfl|rfl) σ' hσ
        ·simp;exact fin _ hσ
        ·simp;exact fin _ hσ
       all_goals simp [w1]
      ·have c5n: ¬(240≤y.toNat∧y.toNat<248):=by omega
       rw [if_neg c5n] at er;have T':=T' 0 y.toNat 0 (by omega) (.inl rfl);have eg:mA s i 0 y.toNat 0=ak s i:=by rw [er];rfl
       rw [eg] at T';have hx:y.toNat<192∨248≤y.toNat:=by omega
       clear er eg;generalize (ak s i).1=s1 at *
       generalize (ak s i).2=s2 at *
       rcases hx with hx|hx
       ·have c3: ¬(192:Int)≤y.toNat:=by omega
        have c4: ¬(224:Int)≤y.toNat:=by omega
        have c6: ¬(240:Int)≤y.toNat:=by omega
        simp [g,hy,w0,x1,c3,c4,c6];refine T' _ ?_ _ ?_ ?_ ?_ ?_ ?_ ?_
        ·rintro e (rfl|rfl) σ' hσ
         ·simp;exact fin _ hσ
         ·simp;exact fin _ hσ
        all_goals simp
       ·have c3:(192:Int)≤y.toNat:=by omega
        have c4: ¬(y.toNat:Int)<224:=by omega
        have c6:(224:Int)≤y.toNat:=by omega
        have c7: ¬(y.toNat:Int)<240:=by omega
        have c8:(240:Int)≤y.toNat:=by omega
        have c9: ¬(y.toNat:Int)<248:=by omega
        simp [g,hy,w0,x1,c3,c4,c6,c7,c8,c9];refine T' _ ?_ _ ?_ ?_ ?_ ?_ ?_ ?_
        ·rintro e (rfl|rfl) σ' hσ
         ·simp;exact fin _ hσ
         ·simp;exact fin _ hσ
        all_goals simp
  ·have ro:=aH g;rw [ro,nA] at h3;subst h3;clear hK T ro;simp [g]
 ·exact ⟨iA _,eI _,by simpa using hR⟩
 ·apply ae<;>simp [a7]
theorem Eg {a b:Int} (h:a≤b):decide (a≤b)=true:=io h
theorem Eh {a b:Int} (h:b<a):decide (a≤b)=false:=jd (by omega)
theorem Ei {a b:Int} (h:a<b):decide (a<b)=true:=io h
theorem Ej {a b:Int} (h:b≤a):decide (a<b)=false:=jd (by omega)
theorem zZ {a b:Int} (h:a=b):(a==b)=true:=by rw [bP];exact h
theorem z6 {a b:Int} (h:a<b∨b<a):(a==b)=false:=by rw [cI];omega
theorem Ek {a b:Int} (h:a<b∨b<a):(a !=b)=true:=by rw [bne_iff_ne];omega
theorem El {a b:Int} (h:a=b):(a !=b)=false:=by simp [h]
def bB (r:Int):Bool:=decide ((97≤r∧r≤122)∨(65≤r∧r≤90)∨(192≤r∧r≤591∧r≠215∧r≠247)∨(880≤r∧r≤1279))
def cT (r:Int):Bool:=decide (48≤r∧r≤57)
theorem kt (r:Int):(r<65∧bB r=false)∨(65≤r∧r≤90∧bB r=true)∨(90<r∧r<97∧bB r=false)∨(97≤r∧r≤122∧bB r=true)∨(122<r∧r<192∧bB r=false)∨
  (192≤r∧r<215∧bB r=true)∨(r=215∧bB r=false)∨(215<r∧r<247∧bB r=true)∨(r=247∧bB r=false)∨(247<r∧r≤591∧bB r=true)∨
  (591<r∧r<880∧bB r=false)∨(880≤r∧r≤1279∧bB r=true)∨(1279<r∧bB r=false):=by
 unfold bB;simp only [o5,decide_eq_false_iff_not];omega
theorem oC (r:Int):Sp Tryz.prog gl 91 [i3 r] (.bool (bB r)):=by
 refine VV rfl rfl ?_;rcases kt r with ⟨h1,h2⟩|⟨h1,h2,h3⟩|⟨h1,h2,h3⟩|⟨h1,h2,h3⟩|⟨h1,h2,h3⟩|⟨h1,h2,h3⟩|⟨h1,h3⟩|⟨h1,h2,h3⟩|⟨h1,h3⟩|⟨h1,h2,h3⟩|⟨h1,h2,h3⟩|⟨h1,h2,h3⟩|⟨h1,h3⟩
 ·rw [h2];simp (disch:=omega) [Q8,Eg,Eh,Ei,Ej,zZ,z6,Ek,El]
 all_goals (rw [h3];simp (disch:=omega) [Q8,Eg,Eh,Ei,Ej,zZ,z6,Ek,El])
theorem il (r:Int):Sp Tryz.prog gl 67 [i3 r] (.bool (bB r)):=by
 refine VB rfl rfl ?_;rcases kt r with ⟨h1,h2⟩|⟨h1,h2,h3⟩|⟨h1,h2,h3⟩|⟨h1,h2,h3⟩|⟨h1,h2,h3⟩|⟨h1,h2,h3⟩|⟨h1,h3⟩|⟨h1,h2,h3⟩|⟨h1,h3⟩|⟨h1,h2,h3⟩|⟨h1,h2,h3⟩|⟨h1,h2,h3⟩|⟨h1,h3⟩
 ·rw [h2];simp (disch:=omega) [Q3,Eg,Eh,Ei,Ej,zZ,z6,Ek,El]
 all_goals (rw [h3];simp (disch:=omega) [Q3,Eg,Eh,Ei,Ej,zZ,z6,Ek,El])
theorem i7 (r:Int):Sp Tryz.prog gl 68 [i3 r] (.bool (cT r)):=by
 refine VC rfl rfl ?_;unfold cT;by_cases h1:48≤r
 ·simp [Q4,h1]
 ·simp [Q4,h1]
def cO:Nat→Int→List Int→Bool
 |n,last,[]=>decide (0<n∧n≤24)&&(bB last||cT last)
 |n,last,r::l=>(bB r||(decide (n≠0)&&(cT r||r==95||r==45)))&&cO (n+1) r l
def du (s:List UInt8):Bool:=cO 0 32 (ai s 0)
theorem nf (s:List UInt8) (hl:s.length≤900000):Sp Tryz.prog gl 43 [.str s] (.bool (du s)):=by
 refine Vo rfl rfl ?_;obtain ⟨R,hR⟩: ∃R,R=du s:=⟨_,rfl⟩;rw [←hR];unfold du at hR;simp [UC];refine aP (α:=Nat×Nat×Int) (fun x=>⟨[(0,.str s),(3,i6 x.2.1),(4,i3 x.2.2),(9,.itp 9)],[(.it 9,[.itr s x.1])],[]⟩)
  (fun x=>x.2.1≤x.1∧(x.2.1=0↔x.1=0)∧cO x.2.1 x.2.2 (ai s x.1)=R∧x.1≤s.length+3) (fun x=>s.length+4 - x.1) ?_ (0,0,32) ?_ ?_
 ·rintro K ⟨i,n,last⟩ hK ⟨h1,h2,h3,h4⟩;simp only at h1 h2 h3 h4;by_cases g:i<s.length
  ·rw [aW g] at h3;simp only [cO] at h3;have sr:=cS s i g;have sl:=ti g;have sp:=bI s i;have fin:cO (n+1) (ak s i).1 (ai s (i+(ak s i).2))=R→ ∀σ',dL σ' ⟨[(0,.str s),(3,i6 (n+1:Nat)),(4,i3 (ak s i).1),(9,.itp 9)],[(.it 9,[.itr s (i+(ak s i).2)])],[]⟩→K σ':=
    fun hh σ' hσ=>hK (i+(ak s i).2,n+1,(ak s i).1) σ' ⟨by simp only;omega,by simp only;omega,hh,by simp only;omega⟩ (by simp only;omega) hσ
   have t1:IntKind.i64.wrap ((n:Int)+1)=(n+1:Nat):=by rw [aj]<;>omega
   clear hK hR;by_cases hb:(ak s i).1= -1
   ·rw [if_pos hb] at sr;rw [hb] at h3
    have:R=false:=by
     rw [←h3]
     have:(bB (-1)||(decide (n≠0)&&(cT (-1)||(-1:Int)==95||(-1:Int)==45)))=false:=by cases decide (n≠0)<;>rfl
     rw [this];rfl
    subst this;have L1:=il 65533;have D1:=i7 65533;rw [show bB 65533=false from rfl] at L1;rw [show cT 65533=false from rfl] at D1;clear h3 fin;by_cases hi:i=0
    ·subst hi;simp [g,sr];refine ay _ L1 ?_;simp
    ·have hi':0<i:=by omega
     simp [g,sr];refine ay _ L1 ?_;simp [hi'];refine ay _ D1 ?_;simp
   ·rw [if_neg hb] at sr;have L1:=il (ak s i).1;have D1:=i7 (ak s i).1;have esr:(ak s i)=((ak s i).1,(ak s i).2):=rfl;rw [esr] at sr;generalize cO (n+1) (ak s i).1 (ai s (i+(ak s i).2))=R2 at *
    clear esr hb;generalize (ak s i).1=r at *
    generalize (ak s i).2=w at *
    have hn0:decide (n≠0)=decide (0<i):=by rw [Bool.eq_iff_iff];simp;omega
    rw [hn0] at h3;cases hlt:bB r
    ·rw [hlt] at h3 L1;by_cases hi:0<i
     ·cases hd:cT r
      ·rw [hd] at h3 D1;by_cases e1:r=95
       ·have:=fin (by rw [←h3];simp [hi,e1])
        simp (disch:=omega) [g,sr,zZ,z6,e1];rw [e1] at L1 D1;refine ay _ L1 ?_;simp [hi];refine ay _ D1 ?_;simp;refine this _ (ae ?_ ?_ ?_ ?_ ?_ ?_)<;>simp [t1,e1]
       ·by_cases e2:r=45
        ·have:=fin (by rw [←h3];simp [hi,e2])
         simp (disch:=omega) [g,sr,e2];rw [e2] at L1 D1;refine ay _ L1 ?_;simp [hi];refine ay _ D1 ?_;simp;refine this _ (ae ?_ ?_ ?_ ?_ ?_ ?_)<;>simp [t1,e2]
        ·have b1:(r==95)=false:=by rw [cI];exact e1
         have b2:(r==45)=false:=by rw [cI];exact e2
         have:R=false:=by rw [←h3,b1,b2];simp
         subst this;simp [g,sr];refine ay _ L1 ?_;simp [hi];refine ay _ D1 ?_;simp [b1,b2]
      ·rw [hd] at h3 D1
       have:=fin (by rw [←h3];simp [hi])
       simp [g,sr];refine ay _ L1 ?_;simp [hi];refine ay _ D1 ?_;simp;refine this _ (ae ?_ ?_ ?_ ?_ ?_ ?_)<;>simp [t1]
     ·have:R=false:=by rw [←h3];simp [hi]
      subst this;simp [g,sr];refine ay _ L1 ?_;simp [hi]
    ·rw [hlt] at h3 L1
     have:=fin (by rw [←h3];simp)
     simp [g,sr];refine ay _ L1 ?_;simp;refine this _ (ae ?_ ?_ ?_ ?_ ?_ ?_)<;>simp [t1]
  ·rw [aH g] at h3;simp only [cO] at h3;have L1:=il last;have D1:=i7 last;clear hK hR h2;by_cases n0:0<n
   ·by_cases n1:n≤24
    ·have n1':(n:Int)≤24:=by omega
     rw [io (show 0<n∧n≤24 from ⟨n0,n1⟩),ib] at h3;cases hlt:bB last
     ·rw [hlt,Bool.false_or] at h3;rw [hlt] at L1;rw [h3] at D1;simp [g,n0,n1'];refine ay _ L1 ?_;simp;refine ay _ D1 ?_;simp
     ·rw [hlt] at h3 L1
      have:R=true:=by rw [←h3];rfl
      subst this;simp [g,n0,n1'];refine ay _ L1 ?_;simp
    ·have n1': ¬(n:Int)≤24:=by omega
     rw [jd (show ¬(0<n∧n≤24) by omega)] at h3;subst h3;simp [g,n0,n1']
   ·rw [jd (show ¬(0<n∧n≤24) by omega)] at h3;subst h3;simp [g,n0]
 ·exact ⟨eI _,by simp,hR.symm,by simp⟩
 ·apply ae<;>simp
theorem tj: ∀(l:List Int) (n:Nat) (last:Int),24<n+l.length→cO n last l=false
 |[],n,last,h=>by
  simp only [cO];rw [jd (show ¬(0<n∧n≤24) by simp at h;omega)];rfl
 |r::l,n,last,h=>by
  simp only [cO];rw [tj l (n+1) r (by simp at h;omega)];simp
theorem tq (s:List UInt8) (hl:s.length≤900000):Sp Tryz.prog gl 57 [.str s] (.bool (du s)):=by
 refine Vu rfl rfl ?_;have RS:=kr s hl;have rl:=iL s s.length 0 (by omega);obtain ⟨R,hR⟩: ∃R,R=du s:=⟨_,rfl⟩;rw [←hR];unfold du at hR;generalize ai s 0=l at *
 have el: ∀l,a7 l=l.map fun r=>[i3 r]:=fun _=>rfl
 rw [el] at RS;by_cases h0:l=[]
 ·subst h0;subst hR;simp [Ow];refine ay _ RS ?_;simp [cO]
 ·have hlen:0<l.length:=xO.2 h0;have b0:((l.length:Int)==0)=false:=by rw [cI];omega
  by_cases h24:24<l.length
  ·rw [tj l 0 32 (by omega)] at hR;subst hR;have hI:(24:Int)<l.length:=by omega
   simp [Ow];refine ay _ RS ?_;simp [b0,hI]
  ·have hI: ¬(24:Int)<l.length:=by omega
   have L0:=oC l[0];cases hl0:bB l[0]
   ·rw [hl0] at L0
    have:R=false:=by
     rw [hR];cases l with
     |nil=>exact absurd rfl h0
     |cons r l=>simp only [List.getElem_cons_zero] at hl0;simp [cO,hl0]
    clear hR;subst this;simp [Ow];refine ay _ RS ?_;simp [b0,hI,hlen,h0];refine ay _ L0 ?_;simp
   ·rw [hl0] at L0;simp [Ow];refine ay _ RS ?_;simp [b0,hI,hlen,h0];refine ay _ L0 ?_;simp;refine aP (α:=Nat×Int) (fun x=>⟨[(3,.sl (l.map fun r=>[i3 r])),(4,i6 x.1)],[],[]⟩)
     (fun x=>x.1≤l.length∧cO x.1 x.2 (l.drop x.1)=R∧(0<x.1→x.1=l.length→(bB x.2||cT x.2)=true)) (fun x=>l.length - x.1) ?_ (0,32) ?_ ?_
    ·rintro K ⟨i,prev⟩ hK ⟨h1,h2,h3⟩;simp only at h1 h2 h3;by_cases g:i<l.length
     ·have t1:IntKind.i64.wrap ((i:Int)+1)=(i+1:Nat):=by rw [aj]<;>omega
      have t2:IntKind.i64.wrap ((l.length:Int) - 1)=(l.length - 1:Nat):=by rw [aj]<;>omega
      have LI:=oC l[i];rw [oU g] at h2;simp only [cO] at h2;have hz:i=0→bB l[i]=true:=by rintro rfl;exact hl0
      have fin:cO (i+1) l[i] (l.drop (i+1))=R→(i+1=l.length→(bB l[i]||cT l[i])=true)→ ∀σ',dL σ' ⟨[(3,.sl (l.map fun r=>[i3 r])),(4,i6 (i+1:Nat))],[],[]⟩→K σ':=
       fun hh he σ' hσ=>hK (i+1,l[i]) σ' ⟨by simp only;omega,hh,fun _=>he⟩ (by simp only;omega) hσ
      have hend:i+1=l.length→l.drop (i+1)=[]:=fun h=>ui (by omega)
      obtain ⟨r,hr⟩: ∃r,l[i]=r:=⟨_,rfl⟩;rw [hr] at h2 LI hz fin;generalize l.drop (i+1)=l2 at *
      clear hK hR L0 RS h3;cases hlt:bB r
      ·rw [hlt] at h2 LI hz;have hi:0<i:=by
        rcases Nat.eq_zero_or_pos i with h|h
        ·have:=hz h;cases this
        ·exact h
       rw [io (show i≠0 by omega)] at h2;cases hd:cT r
       ·rw [hd] at h2;unfold cT at hd;rw [decide_eq_false_iff_not] at hd;have d1: ∀X Y:Prop,((48≤r→r≤57→X)→Y)→True:=fun _ _ _=>trivial
        by_cases hlast:i+1=l.length
        ·have:R=false:=by
          rw [←h2,hend hlast];simp only [cO];rw [hlt,show cT r=false from jd hd];simp
         subst this;have hq:((i:Int)==((l.length - 1:Nat):Int))=true:=by rw [bP];omega
         by_cases q1:48≤r
         ·have q2: ¬r≤57:=by omega
          simp [g,hr,t2,hq,q1,q2];refine ay _ LI ?_;simp
         ·simp [g,hr,t2,hq,q1];refine ay _ LI ?_;simp
        ·have hq:((i:Int)==((l.length - 1:Nat):Int))=false:=by rw [cI];omega
         by_cases e1:r=95
         ·have fin:=fin (by rw [←h2];simp [e1]) (fun h=>absurd h hlast);have q1:(48:Int)≤r:=by omega
          have q2: ¬r≤57:=by omega
          have e3:(r !=95)=false:=by simp [e1]
          simp [g,hr,t2,hq,q1,q2];refine ay _ LI ?_;simp [g,hr,e3];refine fin _ (ae ?_ ?_ ?_ ?_ ?_ ?_)<;>simp [t1]
         ·by_cases e2:r=45
          ·have fin:=fin (by rw [←h2];simp [e2]) (fun h=>absurd h hlast);have q1: ¬(48:Int)≤r:=by omega
           have e3:(r !=95)=true:=by simp [e1]
           have e4:(r !=45)=false:=by simp [e2]
           simp [g,hr,t2,hq,q1];refine ay _ LI ?_;simp [g,hr,e3,e4];refine fin _ (ae ?_ ?_ ?_ ?_ ?_ ?_)<;>simp [t1]
          ·have e3:(r !=95)=true:=by simp [e1]
           have e4:(r !=45)=true:=by simp [e2]
           have:R=false:=by
            rw [←h2,show (r==95)=false by simp [e1],show (r==45)=false by simp [e2]];simp
           subst this;by_cases q1:48≤r
           ·have q2: ¬r≤57:=by omega
            simp [g,hr,t2,hq,q1,q2];refine ay _ LI ?_;simp [g,hr,e3,e4]
           ·simp [g,hr,t2,hq,q1];refine ay _ LI ?_;simp [g,hr,e3,e4]
       ·rw [hd] at h2;have fin:=fin (by rw [←h2];simp) (fun _=>by rw [hd];simp);unfold cT at hd;rw [o5] at hd;simp [g,hr,t2,hd.1,hd.2];refine ay _ LI ?_;simp;refine fin _ (ae ?_ ?_ ?_ ?_ ?_ ?_)<;>simp [t1]
      ·rw [hlt] at h2 LI;have fin:=fin (by rw [←h2];simp) (fun _=>by rw [hlt];rfl);by_cases q1:48≤r
       ·by_cases q2:r≤57
        ·simp [g,hr,t2,q1,q2];refine ay _ LI ?_;simp;refine fin _ (ae ?_ ?_ ?_ ?_ ?_ ?_)<;>simp [t1]
        ·simp [g,hr,t2,q1,q2];refine ay _ LI ?_;simp;refine fin _ (ae ?_ ?_ ?_ ?_ ?_ ?_)<;>simp [t1]
       ·simp [g,hr,t2,q1];refine ay _ LI ?_;simp;refine fin _ (ae ?_ ?_ ?_ ?_ ?_ ?_)<;>simp [t1]
     ·obtain rfl:i=l.length:=by omega
      have h3:=h3 hlen rfl;rw [A6] at h2;simp only [cO] at h2;rw [h3,io (show 0<l.length∧l.length≤24 by omega)] at h2
      have:R=true:=by rw [←h2];rfl
      clear hK hR;subst this;simp
    ·exact ⟨iA _,by simpa using hR.symm,fun h=>absurd h (by simp)⟩
    ·apply ae<;>simp
structure Lb where
 n:List UInt8
 t:List UInt8
 deriving DecidableEq
structure Ru where
 n:List UInt8
 p:Bool
 l:Int
 s:Int
 f:Nat
 w:Int
 k:Int
 deriving DecidableEq
structure Gl where
 n:List UInt8
 t:Nat
 g:Int
 a:Int
 o:Int
 c:Int
 lb:List Lb
 ru:List Ru
 deriving DecidableEq
structure Cf where
 gs:List Gl
 r:Int
 v:Int
 i:Int
 x:Int
 y:Int
def Lb.row (x:Lb):List AV:=[.str x.n,.str x.t]
def Ru.row (x:Ru):List AV:=[.str x.n,.bool x.p,i6 x.l,i6 x.s,u x.f,i6 x.w,i6 x.k]
def Gl.row (x:Gl):List AV:=[.str x.n,.int .u32 x.t,i6 x.g,i6 x.a,i6 x.o,i6 x.c,.sl (x.lb.map Lb.row),.sl (x.ru.map Ru.row)]
def Cf.row (x:Cf):List AV:=[.sl (x.gs.map Gl.row),i6 x.r,i6 x.v,i6 x.i,i6 x.x,i6 x.y]
theorem FG (s:List UInt8) (i n r0 least:Nat) (h:(bG s i n r0 least).1= -1):(bG s i n r0 least).2=1:=by
 unfold bG at h ⊢;split
 ·rename_i hc;rw [if_pos hc] at h;simp only at h;omega
 ·rfl
theorem FH (s:List UInt8) (i:Nat) (h:(ak s i).1= -1):(ak s i).2=1:=by
 unfold ak at h ⊢;simp only at h ⊢;repeat' split
 all_goals first
  |rfl
  |(simp_all;done)
  |(simp_all;exact FG _ _ _ _ _ (by assumption))
theorem pM (s:List UInt8) (i n r0 least:Nat) (hn:1≤n) (h:(bG s i n r0 least).1≠ -1):(bG s i n r0 least).2≠1:=by
 unfold bG at h ⊢;split
 ·simp only;omega
 ·rename_i hc;rw [if_neg hc] at h;exact absurd rfl h
theorem FJ (s:List UInt8) (i:Nat) (h:(ak s i).1≠ -1) (h1:(ak s i).2=1):(ak s i).1<128:=by
 by_cases hb:aX s i<128
 ·unfold ak;simp only [hb,if_true];omega
 ·exfalso;unfold ak at h h1;simp only [hb,if_false] at h h1;split at h
  ·rename_i q;rw [if_pos q] at h1;exact pM _ _ _ _ _ (by omega) h h1
  ·rename_i q;rw [if_neg q] at h1;split at h
   ·rename_i q;rw [if_pos q] at h1;exact pM _ _ _ _ _ (by omega) h h1
   ·rename_i q;rw [if_neg q] at h1;split at h
    ·rename_i q;rw [if_pos q] at h1;exact pM _ _ _ _ _ (by omega) h h1
    ·exact absurd rfl h
theorem NQ (s:List UInt8) (i:Nat) (h:i<s.length):(bU s i).2=(ak s i).2:=by
 rw [cS s i h];split
 ·rename_i hb;rw [FH s i hb]
 ·rfl
def dJ (l:List Int):Bool:=l.all fun r=>decide (0≤r)
theorem Iv (s:List UInt8) (i n r0 least:Nat):(bG s i n r0 least).1= -1∨0≤(bG s i n r0 least).1:=by
 unfold bG;split
 ·right;simp only;omega
 ·left;rfl
theorem Iw (s:List UInt8) (i:Nat):(ak s i).1= -1∨0≤(ak s i).1:=by
 unfold ak;simp only;repeat' split
 all_goals first
  |exact Iv _ _ _ _ _
  |(left;rfl)
  |(right;simp only;omega)
theorem CD (s:List UInt8) (i:Nat):bU s i=(((Lib.decodeL (s.drop i)).1:Int),(Lib.decodeL (s.drop i)).2):=by
 have:=Lib.decodeL_drop ⟨s.toArray⟩ i
 simp only at this;rw [this];rfl
theorem Em (s:List UInt8): ∀(n i:Nat),s.length - i≤n→Lib.validGoD n (s.drop i)=dJ (ai s i)
 |0,i,h=>by
  rw [aH (by omega)];rfl
 |n+1,i,h=>by
  by_cases g:i<s.length
  ·have hne:s.drop i≠[]:=by
    intro e
    have:=congrArg List.length e
    rw [uk] at this;simp at this;omega
   have sr:=cS s i g;have da:=CD s i;rw [da] at sr;simp only [Lib.validGoD,if_neg hne];rw [aW g];have pos:=bI s i;by_cases hb:(ak s i).1= -1
   ·rw [if_pos hb] at sr;simp only [iQ] at sr;rw [if_pos ⟨by omega,sr.2⟩];simp [dJ,hb]
   ·rw [if_neg hb] at sr;have e1:((Lib.decodeL (s.drop i)).1:Int)=(ak s i).1:=congrArg Prod.fst sr;have e2:(Lib.decodeL (s.drop i)).2=(ak s i).2:=congrArg Prod.snd sr;rw [if_neg (by
     rintro ⟨q1,q2⟩
     have:=FJ s i hb (by omega)
     omega)]
    rw [List.drop_drop,e2,Em s n (i+(ak s i).2) (by omega)];have h0:0≤(ak s i).1:=by rcases Iw s i with h|h;exact absurd h hb;exact h
    simp [dJ,h0]
  ·have e:s.drop i=[]:=ui (by omega);simp only [Lib.validGoD,e,if_true];rw [aH g];rfl
theorem z7 (s:List UInt8):Lib.validD s=dJ (ai s 0):=by
 have:=Em s s.length 0 (by omega)
 rwa [A7] at this
theorem CE (s:List UInt8) (hl:s.length≤900000):Sp Tryz.prog gl 59 [.str s] (.bool (dJ (ai s 0))):=by
 refine Vv rfl rfl ?_;have R:=kr s hl;have len:=iL s s.length 0 (by omega);have rl:=fY (ai s 0);have rat: ∀i (h:i<(ai s 0).length),(a7 (ai s 0))[i]?=some [.int .i32 (ai s 0)[i]]:=by intro i h;simp [a7,i3,h]
 generalize ai s 0=L at *
 obtain ⟨G,hG⟩: ∃G,G=dJ L:=⟨_,rfl⟩;rw [←hG];generalize a7 L=RR at *
 simp [UJ];apply ab R;simp;refine aP (α:=Nat) (fun i=>⟨[(3,.sl RR),(4,i6 i)],[],[]⟩) (fun i=>i≤L.length∧dJ (L.drop i)=G) (fun i=>L.length - i) ?_ 0 ?_ ?_
 ·rintro K i hK ⟨h1,h2⟩;by_cases g:i<L.length
  ·have t1:IntKind.i64.wrap ((i:Int)+1)=(i+1:Nat):=by rw [aj]<;>omega
   have ra:=rat i g;rw [oU g] at h2;simp only [dJ,List.all_cons] at h2;have gR:i<RR.length:=by omega
   have ra': ∀h,RR[i]'h=[.int .i32 L[i]]:=fun h=>by rw [rG h] at ra;exact Option.some.inj ra
   have fin:decide (0≤L[i])=true→ ∀σ',dL σ' ⟨[(3,.sl RR),(4,i6 (i+1:Nat))],[],[]⟩→K σ':=fun hd σ' hσ=>hK (i+1) σ' ⟨by omega,by rw [hd,ib] at h2;exact h2⟩ (by omega) hσ
   generalize L[i]=r at *
   by_cases hr:r<0
   ·rw [jd (by omega),iR] at h2;subst h2;simp [rl,g,gR,ra',hr]
   ·have fin:=fin (io (by omega));clear hK;simp [rl,g,gR,ra',hr];refine fin _ (ae ?_ ?_ ?_ ?_ ?_ ?_)<;>simp [t1]
  ·obtain rfl:i=L.length:=by omega
   rw [A6] at h2
   have:G=true:=by rw [←h2];rfl
   subst this;simp [rl]
 ·exact ⟨iA _,hG.symm⟩
 ·apply ae<;>simp
theorem ly (s:List UInt8) (hl:s.length≤900000):Sp Tryz.prog gl 86 [.str s] (i6 (ai s 0).length):=by
 refine VU rfl rfl ?_;obtain ⟨R,hR⟩: ∃R,R=(ai s 0).length:=⟨_,rfl⟩;rw [←hR];simp [UX];refine aP (α:=Nat×Nat) (fun x=>⟨[(3,i6 x.2),(5,.itp 5)],[(.it 5,[.itr s x.1])],[]⟩)
  (fun x=>x.2≤x.1∧x.2+(ai s x.1).length=R∧x.1≤s.length+3) (fun x=>s.length+4 - x.1) ?_ (0,0) ?_ ?_
 ·rintro K ⟨i,n⟩ hK ⟨h1,h2,h3⟩;simp only at h1 h2 h3;by_cases g:i<s.length
  ·rw [aW g] at h2;simp only [em] at h2;have sw:=NQ s i g;have sl:=ti g;have sp:=bI s i;have fin: ∀σ',dL σ' ⟨[(3,i6 (n+1:Nat)),(5,.itp 5)],[(.it 5,[.itr s (i+(ak s i).2)])],[]⟩→K σ':=
    fun σ' hσ=>hK (i+(ak s i).2,n+1) σ' ⟨by simp only;omega,by simp only;omega,by simp only;omega⟩ (by simp only;omega) hσ
   have t1:IntKind.i64.wrap ((n:Int)+1)=(n+1:Nat):=by rw [aj]<;>omega
   clear hK hR h2;simp [g,sw];refine fin _ (ae ?_ ?_ ?_ ?_ ?_ ?_)<;>simp [t1]
  ·rw [aH g] at h2
   have:n=R:=by simpa using h2
   subst this;simp [g]
 ·exact ⟨eI _,by simp [hR],by simp⟩
 ·apply ae<;>simp
theorem Ix:List.lookup 0 gl=some ((List.range 256).map fun c=>Value.int .u8 (Lib.firstT c)):=by kernel_rfl
theorem vH:List.lookup 1 gl=some ((List.range 32).map fun c=>Value.int .u8 (if c%2=0 then Lib.accLo (c / 2) else Lib.accHi (c / 2))):=by kernel_rfl
theorem FM {w:World} (h: ∀i us,List.lookup i gl=some us→ ∀(o:Nat) (u:Value),us[o]?=some u→w.cell? ⟨i,o,none⟩=some u):Lib.Utf8Tabs 0 1 w:=by
 refine ⟨fun c hc=>?_,fun i hi=>⟨?_,?_⟩⟩
 ·exact h _ _ Ix c _ (by simp [hc])
 ·refine h _ _ vH (2*i) _ ?_;have h1:2*i<32:=by omega
  have h2:2*i%2=0:=by omega
  have h3:2*i / 2=i:=by omega
  simp [h1,h2,h3]
 ·refine h _ _ vH (2*i+1) _ ?_;have h1:2*i+1<32:=by omega
  have h2: ¬(2*i+1)%2=0:=by omega
  have h3:(2*i+1) / 2=i:=by omega
  simp only [xP,List.getElem?_range h1,Option.map_some,if_neg h2,h3]
theorem CF (s:List UInt8) (hl:s.length≤900000):Sp Tryz.prog gl 123 [.str s] (.bool (Lib.validD s)):=by
 refine kU Tryz.func123 (by kernel_rfl) (by kernel_rfl) ?_;intro S gb w vs hvs hag hgl;simp only [aa,PR] at hvs;obtain ⟨_,_,rfl,rfl,rfl⟩:=hvs;have hs:(ByteArray.mk s.toArray).size≤9223372036854775807:=by
  have:(ByteArray.mk s.toArray).size=s.length:=rfl
  omega
 exact (Any.utf8_ValidString E7 ⟨s.toArray⟩ w hs (FM hgl)).mono fun e w' ⟨he,hw⟩=>⟨_,he,hw,by simp [PR]⟩
theorem ng (s:List UInt8) (hl:s.length≤900000):Sp Tryz.prog gl 85 [.str s] (.bool (dJ (ai s 0))):=by
 refine VT rfl rfl ?_;have V:=CF s hl;rw [z7] at V;generalize dJ (ai s 0)=b at *
 simp [UW];apply ab V;simp
end Go.Ai
