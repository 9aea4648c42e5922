/- P2: a part of the proof: the rules, or what functions compute. Conditions: as each theorem says. -/
import Derived.Test.YtggemlhclppciaaGreatDoorP1
set_option linter.unusedSimpArgs false
set_option linter.unusedVariables false
set_option maxRecDepth 20000
namespace Go.Ai
open Go.Proofs
theorem nget_at (s:List UInt8) (i:Nat) (h:i<s.length):(ByteArray.mk s.toArray).get! i=s[i]:=by
 simp [ByteArray.get!,getElem!_pos,h]
def byt (s:List UInt8) (j:Nat):Nat:=match s[j]? with |some b=>b.toNat|none=>0
def cont (s:List UInt8) (j:Nat):Bool:=decide (128≤byt s j∧byt s j≤191)
def rv (s:List UInt8) (i r0:Nat):Nat→Nat
 |0=>r0
 |k+1=>64*rv s i r0 k+(byt s (i+(k+1)) - 128)
def conts (s:List UInt8) (i:Nat):Nat→Bool
 |0=>true
 |k+1=>conts s i k&&cont s (i+(k+1))
def isRune (least r:Nat):Bool:=decide (least≤r∧r≤1114111∧ ¬(55296≤r∧r<57344))
def stepF (s:List UInt8) (i n r0 least:Nat):Int×Nat:=if conts s i n&&isRune least (rv s i r0 n) then ((rv s i r0 n:Nat),n+1) else (-1,1)
def stepR (s:List UInt8) (i:Nat):Int×Nat:=
 let b:=byt s i
 if b<128 then (b,1) else if 192≤b∧b<224 then stepF s i 1 (b - 192) 128 else if 224≤b∧b<240 then stepF s i 2 (b - 224) 2048 else if 240≤b∧b<248 then stepF s i 3 (b - 240) 65536 else (-1,1)
theorem byt_at {s:List UInt8} {i:Nat} (h:i<s.length):byt s i=s[i].toNat:=by unfold byt;rw [List.getElem?_eq_getElem h]
theorem byt_lt (s:List UInt8) (i:Nat):byt s i<256:=by
 unfold byt;split
 ·rename_i b _;exact b.toNat_lt
 ·omega
theorem byt_out {s:List UInt8} {i:Nat} (h: ¬i<s.length):byt s i=0:=by unfold byt;rw [List.getElem?_eq_none (by omega)]
theorem stepF1 (s:List UInt8) (i r0 least:Nat):stepF s i 1 r0 least=if cont s (i+1)&&isRune least (64*r0+(byt s (i+1) - 128)) then (((64*r0+(byt s (i+1) - 128):Nat):Int),2) else (-1,1):=rfl
theorem stepF2 (s:List UInt8) (i r0 least:Nat):stepF s i 2 r0 least=if (cont s (i+1)&&cont s (i+2))&&isRune least (64*(64*r0+(byt s (i+1) - 128))+(byt s (i+2) - 128)) then (((64*(64*r0+(byt s (i+1) - 128))+(byt s (i+2) - 128):Nat):Int),3) else (-1,1):=rfl
theorem stepF3 (s:List UInt8) (i r0 least:Nat):stepF s i 3 r0 least=if ((cont s (i+1)&&cont s (i+2))&&cont s (i+3))&&isRune least (64*(64*(64*r0+(byt s (i+1) - 128))+(byt s (i+2) - 128))+(byt s (i+3) - 128)) then (((64*(64*(64*r0+(byt s (i+1) - 128))+(byt s (i+2) - 128))+(byt s (i+3) - 128):Nat):Int),4) else (-1,1):=rfl
theorem stepF_pos (s:List UInt8) (i n r0 least:Nat):1≤(stepF s i n r0 least).2:=by unfold stepF;split<;>simp
theorem stepR_pos (s:List UInt8) (i:Nat):1≤(stepR s i).2:=by
 unfold stepR
 simp only
 split
 ·simp
 ·split
  ·exact stepF_pos ..
  ·split
   ·exact stepF_pos ..
   ·split
    ·exact stepF_pos ..
    ·simp
def runesL (s:List UInt8) (i:Nat):List Int:=if h:i<s.length then (stepR s i).1::runesL s (i+(stepR s i).2) else []
termination_by s.length - i
decreasing_by have:=stepR_pos s i;omega
theorem runesL_in {s:List UInt8} {i:Nat} (h:i<s.length):runesL s i=(stepR s i).1::runesL s (i+(stepR s i).2):=by rw [runesL,dif_pos h]
theorem runesL_out {s:List UInt8} {i:Nat} (h: ¬i<s.length):runesL s i=[]:=by rw [runesL,dif_neg h]
theorem get_byt {s:List UInt8} {j:Nat} (h:j<s.length):((ByteArray.mk s.toArray).get! j).toNat=byt s j:=by rw [nget_at s j h,byt_at h]
theorem cont_iff {s:List UInt8} {j:Nat}:cont s j=true↔j<s.length∧byt s j / 64=2:=by
 unfold cont
 rw [decide_eq_true_eq]
 constructor
 ·intro h
  rcases Nat.lt_or_ge j s.length with h1|h1
  ·exact ⟨h1,by omega⟩
  ·rw [byt_out (by omega)] at h;omega
 ·intro h;omega
theorem step_rune (s:List UInt8) (i:Nat) (h:i<s.length):runeAt s i=(if (stepR s i).1= -1 then (65533,1) else stepR s i):=by
 have hb:(ByteArray.mk s.toArray).size=s.length:=by simp [ByteArray.size]
 have c: ∀k,(decide (i+k<(ByteArray.mk s.toArray).size)&&((ByteArray.mk s.toArray).get! (i+k)).toNat / 64==2)=cont s (i+k):=by
  intro k
  rw [Bool.eq_iff_iff,cont_iff,hb]
  simp only [Bool.and_eq_true,decide_eq_true_eq,beq_iff_eq]
  constructor
  ·rintro ⟨h1,h2⟩;rw [get_byt h1] at h2;exact ⟨h1,h2⟩
  ·rintro ⟨h1,h2⟩;rw [get_byt h1];exact ⟨h1,h2⟩
 have e0:((ByteArray.mk s.toArray).get! (i+0)).toNat=byt s i:=get_byt (by omega)
 have bl:=byt_lt s i
 unfold runeAt Utf8.decode
 simp only [e0,c,Utf8.runeError]
 unfold stepR
 simp only
 by_cases h1:byt s i<128
 ·have h2: ¬((byt s i:Nat):Int)= -1:=by omega
  simp only [h1,if_true,h2,if_false]
 ·simp only [h1,if_false]
  have d1:(byt s i / 32==6)=decide (192≤byt s i∧byt s i<224):=by rw [Bool.eq_iff_iff];simp;omega
  have d2:(byt s i / 16==14)=decide (224≤byt s i∧byt s i<240):=by rw [Bool.eq_iff_iff];simp;omega
  have d3:(byt s i / 8==30)=decide (240≤byt s i∧byt s i<248):=by rw [Bool.eq_iff_iff];simp;omega
  rw [d1,d2,d3]
  by_cases r1:192≤byt s i∧byt s i<224
  ·have r2: ¬(224≤byt s i∧byt s i<240):=by omega
   have r3: ¬(240≤byt s i∧byt s i<248):=by omega
   simp only [r1,r2,r3,and_self,decide_true,decide_false,Bool.true_and,Bool.false_and,if_true,if_false,Bool.false_eq_true]
   rw [stepF1]
   cases c1:cont s (i+1)
   ·simp
   ·obtain ⟨l1,q1⟩:=cont_iff.1 c1
    simp only [if_true,Bool.true_and,get_byt l1]
    have b1:=byt_lt s (i+1)
    generalize byt s (i+1)=y at *
    generalize byt s i=x at *
    by_cases z:isRune 128 (64*(x - 192)+(y - 128))=true
    ·have zz:=z
     unfold isRune at zz
     rw [decide_eq_true_eq] at zz
     have e:x%32*64+y%64=64*(x - 192)+(y - 128):=by omega
     simp only [z,e,if_true]
     rw [if_neg (show ¬((64*(x - 192)+(y - 128):Nat):Int)= -1 by omega),if_pos (by omega)]
    ·have zz:=z
     unfold isRune at zz
     rw [decide_eq_true_eq] at zz
     have hz: ¬(x%32*64+y%64≥128):=by omega
     simp only [z,hz,Bool.false_eq_true,if_false]
     simp
  ·by_cases r2:224≤byt s i∧byt s i<240
   ·have r3: ¬(240≤byt s i∧byt s i<248):=by omega
    simp only [r1,r2,r3,and_self,decide_true,decide_false,Bool.true_and,Bool.false_and,if_true,if_false,Bool.false_eq_true]
    rw [stepF2]
    cases c1:cont s (i+1)
    ·simp
    ·cases c2:cont s (i+2)
     ·simp
     ·obtain ⟨l1,q1⟩:=cont_iff.1 c1
      obtain ⟨l2,q2⟩:=cont_iff.1 c2
      simp only [if_true,Bool.true_and,Bool.and_self,get_byt l1,get_byt l2]
      have b1:=byt_lt s (i+1)
      have b2:=byt_lt s (i+2)
      try rw [get_byt l2]
      generalize byt s (i+2)=w at *
      generalize byt s (i+1)=y at *
      generalize byt s i=x at *
      by_cases z:isRune 2048 (64*(64*(x - 224)+(y - 128))+(w - 128))=true
      ·have zz:=z
       unfold isRune at zz
       rw [decide_eq_true_eq] at zz
       have e:x%16*4096+y%64*64+w%64=64*(64*(x - 224)+(y - 128))+(w - 128):=by omega
       simp only [z,e,if_true]
       rw [if_neg (show ¬((64*(64*(x - 224)+(y - 128))+(w - 128):Nat):Int)= -1 by omega),if_pos (by simp [Utf8.valid];omega)]
      ·have zz:=z
       unfold isRune at zz
       rw [decide_eq_true_eq] at zz
       have hz:(decide (x%16*4096+y%64*64+w%64≥2048)&&Utf8.valid ((x%16*4096+y%64*64+w%64:Nat):Int))=false:=by
        rw [Bool.eq_false_iff];simp [Utf8.valid];omega
       simp only [z,hz,Bool.false_eq_true,if_false]
       simp
   ·by_cases r3:240≤byt s i∧byt s i<248
    ·simp only [r1,r2,r3,and_self,decide_true,decide_false,Bool.true_and,Bool.false_and,if_true,if_false,Bool.false_eq_true]
     rw [stepF3]
     cases c1:cont s (i+1)
     ·simp
     ·cases c2:cont s (i+2)
      ·simp
      ·cases c3:cont s (i+3)
       ·simp
       ·obtain ⟨l1,q1⟩:=cont_iff.1 c1
        obtain ⟨l2,q2⟩:=cont_iff.1 c2
        obtain ⟨l3,q3⟩:=cont_iff.1 c3
        simp only [if_true,Bool.true_and,Bool.and_self,get_byt l1]
        have b1:=byt_lt s (i+1)
        have b2:=byt_lt s (i+2)
        have b3:=byt_lt s (i+3)
        try simp only [get_byt l2,get_byt l3]
        generalize byt s (i+3)=t at *
        generalize byt s (i+2)=w at *
        generalize byt s (i+1)=y at *
        generalize byt s i=x at *
        by_cases z:isRune 65536 (64*(64*(64*(x - 240)+(y - 128))+(w - 128))+(t - 128))=true
        ·have zz:=z
         unfold isRune at zz
         rw [decide_eq_true_eq] at zz
         have e:x%8*262144+y%64*4096+w%64*64+t%64=64*(64*(64*(x - 240)+(y - 128))+(w - 128))+(t - 128):=by omega
         simp only [z,e,if_true]
         rw [if_neg (show ¬((64*(64*(64*(x - 240)+(y - 128))+(w - 128))+(t - 128):Nat):Int)= -1 by omega),if_pos (by simp [Utf8.valid];omega)]
        ·have zz:=z
         unfold isRune at zz
         rw [decide_eq_true_eq] at zz
         have hz:(decide (x%8*262144+y%64*4096+w%64*64+t%64≥65536)&&Utf8.valid ((x%8*262144+y%64*4096+w%64*64+t%64:Nat):Int))=false:=by
          rw [Bool.eq_false_iff];simp [Utf8.valid];omega
         simp only [z,hz,Bool.false_eq_true,if_false]
         simp
    ·simp [r1,r2,r3]
open Go.Proofs
abbrev i3 (n:Int):AV:= .int .i32 n
def runeRows (l:List Int):List (List AV):=l.map fun r=>[i3 r]
theorem runeRows_snoc (l:List Int) (r:Int):runeRows (l++[r])=runeRows l++[[i3 r]]:=by simp [runeRows]
theorem runeRows_len (l:List Int):(runeRows l).length=l.length:=by simp [runeRows]
theorem runeRows_one (l:List Int): ∀r∈runeRows l,r.length=1:=by
 intro r hr
 obtain ⟨m,_,rfl⟩:=List.mem_map.1 hr
 rfl
theorem wrap_i32' {n:Int} (h1: -2147483648≤n) (h2:n<2147483648):IntKind.i32.wrap n=n:=by
 have e1:(2:Int)^32=4294967296:=by decide
 have e2:(2:Int)^(32 - 1)=2147483648:=by decide
 have:IntKind.i32.wrap n=if (true&&decide (n%2^32≥2^(32 - 1)))=true then n%2^32 - 2^32 else n%2^32:=rfl
 rw [this]
 simp only [e1,e2,Bool.true_and,decide_eq_true_eq]
 split<;>omega
theorem conts_le {s:List UInt8} {i:Nat}: ∀ {n k:Nat},k≤n→conts s i n=true→conts s i k=true
 |0,k,h,hc=>by rw [show k=0 by omega];rfl
 |n+1,k,h,hc=>by
  simp only [conts,Bool.and_eq_true] at hc
  by_cases e:k=n+1
  ·rw [e];simp only [conts,hc,Bool.and_self]
  ·exact conts_le (by omega) hc.1
theorem rv_bound (s:List UInt8) (i r0:Nat) (h0:r0<32):rv s i r0 0<32∧rv s i r0 1<2048+128∧rv s i r0 2<139264+128∧rv s i r0 3<8921088+128:=by
 have b1:=byt_lt s (i+1)
 have b2:=byt_lt s (i+2)
 have b3:=byt_lt s (i+3)
 have e1:rv s i r0 1=64*r0+(byt s (i+1) - 128):=rfl
 have e2:rv s i r0 2=64*rv s i r0 1+(byt s (i+2) - 128):=rfl
 have e3:rv s i r0 3=64*rv s i r0 2+(byt s (i+3) - 128):=rfl
 have e0:rv s i r0 0=r0:=rfl
 omega
theorem runes_step {s:List UInt8} {i:Nat} {out:List Int} {R:List Int} (h:i<s.length) (hR:out++runesL s i=R):(out++[(stepR s i).1])++runesL s (i+(stepR s i).2)=R:=by
 rw [←hR,runesL_in h];simp
def AC.part:List Nat→AC→AC
 |[],c=>c
 |0::p,.sq a _=>a.part p
 |1::p,.sq _ b=>b.part p
 |2::p,.bl _ a=>a.part p
 |2::p,.lp a=>a.part p
 |_,c=>c
def AC.cutIn:List Nat→AC→AC→AC
 |[],T,_=>T
 |0::p,T,.sq a b=> .sq (AC.cutIn p T a) b
 |1::p,T,.sq a b=> .sq a (AC.cutIn p T b)
 |2::p,T,.bl i a=> .bl i (AC.cutIn p T a)
 |2::p,T,.lp a=> .lp (AC.cutIn p T a)
 |_,_,c=>c
def rsT:AC:=AC.part [1,1,1,0,2,2,1,2,1,1,1,1] c60
def rsU:AC:=AC.part [1,1] rsT
def resU (ok:Bool) (n r least:Nat):Int×Nat:=if ok&&isRune least r then ((r:Int),n+1) else (-1,1)
theorem rsU_spec (s:List UInt8) (i n r least:Nat) (ok:Bool) (out:List Int) (hi:i≤1000000) (hn:n≤3) (ho:out.length≤1000000) (Q:AE→St→Prop)
  (hQ: ∀e,e= .n∨e= .x 1→ ∀σ',Weak σ' ⟨[(0,.str s),(3,.sl (runeRows (out++[(resU ok n r least).1]))),(4,i6 (i+(resU ok n r least).2:Nat))],[],[(.s 3,1)]⟩→Q e σ')
  (e:List (Nat×AV)) (h0:lk e 0= .str s) (h3:lk e 3= .sl (runeRows out)) (h4:lk e 4=i6 i) (h5:lk e 5=i3 r) (h6:lk e 6=i6 n) (h7:lk e 7=i3 least) (h8:lk e 8= .bool ok):
  wpA (SpH Tryz.prog gl) rsU Q ⟨e,[],[(.s 3,1)]⟩:=by
 have hlim:lim=140737488355328:=rfl
 have ec:rsU=AC.part [1,1] (AC.part [1,1,1,0,2,2,1,2,1,1,1,1] c60):=rfl
 rw [ec]
 simp only [c60,AC.part]
 have one:=runeRows_one out
 have rl:=runeRows_len out
 have t1:IntKind.i64.wrap ((i:Int)+1)=(i+1:Nat):=by rw [wrap_i64]<;>omega
 have t3:IntKind.i64.wrap ((i:Int)+1+n)=(i:Int)+(n+1):=by rw [wrap_i64]<;>omega
 have hw:(out.length+1)*4≤140737488355328:=by omega
 rw [runeRows_snoc] at hQ
 generalize runeRows out=L at *
 have bad:isRune least r=false∨ok=false→resU ok n r least=(-1,1):=by
  intro h;unfold resU;rcases h with h|h<;>simp [h]
 have good:isRune least r=true→ok=true→resU ok n r least=((r:Int),n+1):=by
  intro h h';unfold resU;simp [h,h']
 generalize resU ok n r least=res at *
 have hb:isRune least r=false∨ok=false→ ∀e,e= .n∨e= .x 1→ ∀σ',Weak σ' ⟨[(0,.str s),(3,.sl (L++[[i3 (-1)]])),(4,i6 (i+1:Nat))],[],[(.s 3,1)]⟩→Q e σ':=by
  intro h
  have:=bad h
  subst this
  exact hQ
 cases ok with
 |false=>
  have hb:=hb (.inr rfl)
  clear hQ bad good
  simp -implicitDefEqProofs [h8,h3,hlim,rl,h4]
  refine ⟨hw,one,hb _ (.inr rfl) _ (weak_mk ?_ ?_ ?_ ?_ ?_ ?_)⟩<;>simp -implicitDefEqProofs [h0,t1]
 |true=>
  by_cases z:isRune least r=true
  ·have:=good z rfl
   subst this
   clear hb bad good
   unfold isRune at z
   rw [decide_eq_true_eq] at z
   have z1: ¬r<least:=by omega
   have z1': ¬(r:Int)<least:=by omega
   have z2: ¬(1114111:Int)<r:=by omega
   by_cases z3:(55296:Int)≤r
   ·have z4: ¬(r:Int)<57344:=by omega
    simp -implicitDefEqProofs [h8,h5,h7,z1,z1',z2,z3,z4,h3,hlim,rl,h4,h6]
    refine ⟨hw,one,hQ _ (.inl rfl) _ (weak_mk ?_ ?_ ?_ ?_ ?_ ?_)⟩<;>simp -implicitDefEqProofs [h0,t1,t3]
   ·simp [h8,h5,h7,z1,z1',z2,z3,h3,hlim,rl,h4,h6]
    refine ⟨hw,one,hQ _ (.inl rfl) _ (weak_mk ?_ ?_ ?_ ?_ ?_ ?_)⟩<;>simp -implicitDefEqProofs [h0,t1,t3]
  ·have hb:=hb (.inl (by simpa using z))
   clear hQ bad good
   unfold isRune at z
   rw [decide_eq_true_eq] at z
   by_cases z1:r<least
   ·have z1':(r:Int)<least:=by omega
    simp -implicitDefEqProofs [h8,h5,h7,z1,z1',h3,hlim,rl,h4,h6]
    refine ⟨hw,one,hb _ (.inr rfl) _ (weak_mk ?_ ?_ ?_ ?_ ?_ ?_)⟩<;>simp -implicitDefEqProofs [h0,t1]
   ·have z1': ¬(r:Int)<least:=by omega
    by_cases z2:(1114111:Int)<r
    ·simp [h8,h5,h7,z1,z1',z2,h3,hlim,rl,h4,h6]
     refine ⟨hw,one,hb _ (.inr rfl) _ (weak_mk ?_ ?_ ?_ ?_ ?_ ?_)⟩<;>simp -implicitDefEqProofs [h0,t1]
    ·have z3:(55296:Int)≤r:=by omega
     have z4:(r:Int)<57344:=by omega
     simp -implicitDefEqProofs [h8,h5,h7,z1,z1',z2,z3,z4,h3,hlim,rl,h4,h6]
     refine ⟨hw,one,hb _ (.inr rfl) _ (weak_mk ?_ ?_ ?_ ?_ ?_ ?_)⟩<;>simp -implicitDefEqProofs [h0,t1]
def stepG (s:List UInt8) (i n r0 least:Nat):Int×Nat:=if n=0 then (-1,1) else stepF s i n r0 least
theorem rsT_spec (s:List UInt8) (i n r0 least:Nat) (out:List Int) (hi:i≤1000000) (hn:n≤3) (h32:n=0∨r0<32) (ho:out.length≤1000000) (hsl:s.length≤1000000) (Q:AE→St→Prop)
  (hQ: ∀e,e= .n∨e= .x 1→ ∀σ',Weak σ' ⟨[(0,.str s),(3,.sl (runeRows (out++[(stepG s i n r0 least).1]))),(4,i6 (i+(stepG s i n r0 least).2:Nat))],[],[(.s 3,1)]⟩→Q e σ')
  (e:List (Nat×AV)) (h0:lk e 0= .str s) (h3:lk e 3= .sl (runeRows out)) (h4:lk e 4=i6 i) (h5:lk e 5=i3 r0) (h6:lk e 6=i6 n) (h7:lk e 7=i3 least):
  wpA (SpH Tryz.prog gl) rsT Q ⟨e,[],[(.s 3,1)]⟩:=by
 have ec:rsT=AC.cutIn [1,1] rsU rsT:=rfl
 rw [ec]
 have U:=rsU_spec s i n
 generalize rsU=t at U ⊢
 have eT:rsT=AC.part [1,1,1,0,2,2,1,2,1,1,1,1] c60:=rfl
 rw [eT]
 simp only [c60,AC.part,AC.cutIn]
 have good:n≠0→conts s i n=true→ ∀e,lk e 0= .str s→lk e 3= .sl (runeRows out)→lk e 4=i6 i→lk e 5=i3 (rv s i r0 n)→lk e 6=i6 n→lk e 7=i3 least→lk e 8= .bool true→wpA (SpH Tryz.prog gl) t Q ⟨e,[],[(.s 3,1)]⟩:=by
  intro hn0 hc e g0 g3 g4 g5 g6 g7 g8
  refine U (rv s i r0 n) least true out hi hn ho Q ?_ e g0 g3 g4 g5 g6 g7 g8
  have er:resU true n (rv s i r0 n) least=stepG s i n r0 least:=by
   unfold resU stepG stepF
   rw [if_neg hn0,hc]
  rw [er];exact hQ
 have bad: ∀r,(n=0∨conts s i n=false)→ ∀e,lk e 0= .str s→lk e 3= .sl (runeRows out)→lk e 4=i6 i→lk e 5=i3 (r:Nat)→lk e 6=i6 n→lk e 7=i3 least→lk e 8= .bool false→wpA (SpH Tryz.prog gl) t Q ⟨e,[],[(.s 3,1)]⟩:=by
  intro r hc e g0 g3 g4 g5 g6 g7 g8
  refine U r least false out hi hn ho Q ?_ e g0 g3 g4 g5 g6 g7 g8
  have er:resU false n r least=stepG s i n r0 least:=by
   unfold resU stepG stepF
   rcases hc with rfl|hc
   ·rw [if_pos rfl];rfl
   ·by_cases h:n=0
    ·rw [if_pos h];rfl
    ·rw [if_neg h,hc];rfl
  rw [er];exact hQ
 clear U hQ
 generalize runeRows out=L at *
 have hn0:(0:Int)<n↔n≠0:=by omega
 have hok:decide ((0:Int)<n)=decide (n≠0):=by rw [Bool.eq_iff_iff];simp;omega
 simp -implicitDefEqProofs [h6]
 refine wp_lpk (α:=Nat) (fun k=>⟨[(0,.str s),(3,.sl L),(4,i6 i),(5,i3 (rv s i r0 k)),(6,i6 n),(7,i3 least),(8,.bool (decide (0<n))),(9,i6 (k+1:Nat))],[],[(.s 3,1)]⟩)
  (fun k=>k≤n∧conts s i k=true) (fun k=>n - k) ?_ 0 ?_ ?_
 ·rintro K k hK ⟨h1,h2⟩
  by_cases g:k<n
  ·have gI:(k:Int)+1≤n:=by omega
   have t1:IntKind.i64.wrap ((i:Int)+((k:Int)+1))=(i+(k+1):Nat):=by rw [wrap_i64]<;>omega
   have t2:IntKind.i64.wrap ((k:Int)+1+1)=(k+1+1:Nat):=by rw [wrap_i64]<;>omega
   have fin:cont s (i+(k+1))=true→ ∀σ',Weak σ' ⟨[(0,.str s),(3,.sl L),(4,i6 i),(5,i3 (rv s i r0 (k+1))),(6,i6 n),(7,i3 least),(8,.bool (decide (0<n))),(9,i6 (k+1+1:Nat))],[],[(.s 3,1)]⟩→K σ':=
    fun hc σ' hσ=>hK (k+1) σ' ⟨by omega,by simp only [conts,h2,hc,Bool.and_self]⟩ (by omega) hσ
   have badk:cont s (i+(k+1))=false→conts s i n=false:=fun hc=>by
    rw [Bool.eq_false_iff];intro h
    have:=conts_le (show k+1≤n by omega) h
    simp only [conts,hc,Bool.and_false] at this;cases this
   by_cases l1:i+(k+1)<s.length
   ·have l1': ¬((s.length:Int)≤(i:Int)+((k:Int)+1)):=by omega
    have tn:((i:Int)+((k:Int)+1)).toNat=i+(k+1):=by omega
    have tp:(0:Int)≤(i:Int)+((k:Int)+1):=by omega
    have hb:=byt_at l1
    have rvs:rv s i r0 (k+1)=64*rv s i r0 k+(byt s (i+(k+1)) - 128):=rfl
    have hcd:cont s (i+(k+1))=decide (128≤byt s (i+(k+1))∧byt s (i+(k+1))≤191):=rfl
    have rk:rv s i r0 k<139264+128:=by
     obtain ⟨b0,b1,b2,b3⟩:=rv_bound s i r0 (h32.resolve_left (by omega))
     rcases (by omega:k=0∨k=1∨k=2) with rfl|rfl|rfl<;>omega
    rw [rvs] at fin
    obtain ⟨x,hx⟩: ∃x,s[i+(k+1)]=x:=⟨_,rfl⟩
    rw [hx] at hb
    rw [hb] at hcd fin
    clear hb rvs hK
    generalize rv s i r0 k=r at *
    by_cases x1:(x.toNat:Int)<128
    ·have bb:=bad r (.inr (badk (by rw [hcd,decide_eq_false_iff_not];omega)))
     clear fin bad good badk
     simp -implicitDefEqProofs [gI,t1,l1,l1',tn,tp,hx,x1]
     refine bb _ ?_ ?_ ?_ ?_ ?_ ?_ ?_<;>simp -implicitDefEqProofs
    ·by_cases x2:(191:Int)<x.toNat
     ·have bb:=bad r (.inr (badk (by rw [hcd,decide_eq_false_iff_not];omega)))
      clear fin bad good badk
      simp -implicitDefEqProofs [gI,t1,l1,l1',tn,tp,hx,x1,x2]
      refine bb _ ?_ ?_ ?_ ?_ ?_ ?_ ?_<;>simp -implicitDefEqProofs
     ·have fin:=fin (by rw [hcd,decide_eq_true_eq];omega)
      have w1:IntKind.i32.wrap (64*(r:Int))=(64*r:Nat):=by rw [wrap_i32']<;>omega
      have w2:IntKind.i32.wrap (x.toNat:Int)=x.toNat:=by rw [wrap_i32']<;>omega
      have w3:IntKind.i32.wrap (((64*r:Nat):Int)+x.toNat)=(64*r+x.toNat:Nat):=by rw [wrap_i32']<;>omega
      have w4:IntKind.i32.wrap (((64*r+x.toNat:Nat):Int) - 128)=(64*r+(x.toNat - 128):Nat):=by rw [wrap_i32']<;>omega
      clear bad good badk hcd
      generalize 64*r+(x.toNat - 128)=r' at *
      generalize 64*r+x.toNat=r2 at *
      generalize 64*r=r1 at *
      simp -implicitDefEqProofs [gI,t1,l1,l1',tn,tp,hx,x1,x2]
      refine fin _ (weak_mk ?_ ?_ ?_ ?_ ?_ ?_)<;>simp -implicitDefEqProofs [w1,w2,w3,w4,t2]
   ·have l1':((s.length:Int)≤((i+(k+1):Nat):Int)):=by omega
    have hb:=byt_out l1
    have hcd:cont s (i+(k+1))=decide (128≤byt s (i+(k+1))∧byt s (i+(k+1))≤191):=rfl
    have bb:=bad (rv s i r0 k) (.inr (badk (by rw [hcd,hb];rfl)))
    clear fin bad good badk hK
    generalize rv s i r0 k=r at *
    have l1n:(s.length:Int)≤(i:Int)+((k:Int)+1):=by omega
    simp -implicitDefEqProofs [gI,t1,l1,l1',l1n]
    refine bb _ ?_ ?_ ?_ ?_ ?_ ?_ ?_<;>simp -implicitDefEqProofs
  ·obtain rfl:k=n:=by omega
   have gI: ¬(k:Int)+1≤k:=by omega
   clear hK
   by_cases hz:k=0
   ·have bb:=bad (rv s i r0 k) (.inl hz)
    clear bad good
    generalize rv s i r0 k=r at *
    simp -implicitDefEqProofs [gI]
    refine bb _ ?_ ?_ ?_ ?_ ?_ ?_ ?_<;>simp -implicitDefEqProofs [hz]
   ·have gg:=good hz h2
    clear bad good
    have hz':0<k:=by omega
    generalize rv s i r0 k=r at *
    simp -implicitDefEqProofs [gI]
    refine gg _ ?_ ?_ ?_ ?_ ?_ ?_ ?_<;>simp -implicitDefEqProofs [hz']
 ·exact ⟨Nat.zero_le _,rfl⟩
 ·refine weak_mk ?_ ?_ ?_ ?_ ?_ ?_<;>simp -implicitDefEqProofs [h0,h3,h4,h5,h6,h7,show rv s i r0 0=r0 from rfl]
open Go.Proofs
theorem runesL_len (s:List UInt8): ∀(n i:Nat),s.length - i≤n→(runesL s i).length≤n
 |0,i,h=>by rw [runesL_out (by omega)];simp
 |n+1,i,h=>by
  by_cases hi:i<s.length
  ·rw [runesL_in hi]
   have:=stepR_pos s i
   have:=runesL_len s n (i+(stepR s i).2) (by omega)
   simp only [List.length_cons];omega
  ·rw [runesL_out hi];simp
theorem stepR_lt {s:List UInt8} {i:Nat} (h:i<s.length):i+(stepR s i).2≤s.length+3:=by
 have hF: ∀n r0 least,n≤3→(stepF s i n r0 least).2≤4:=by
  intro n r0 least hn
  unfold stepF;split
  ·simp only;omega
  ·simp
 have h1:=hF 1 (byt s i - 192) 128 (by omega)
 have h2:=hF 2 (byt s i - 224) 2048 (by omega)
 have h3:=hF 3 (byt s i - 240) 65536 (by omega)
 unfold stepR
 simp only
 split
 ·simp only;omega
 ·split
  ·omega
  ·split
   ·omega
   ·split
    ·omega
    ·simp only;omega
theorem runes_spec (s:List UInt8) (hl:s.length≤900000):Sp Tryz.prog gl 60 [.str s] (.sl (runeRows (runesL s 0))):=by
 refine s60 rfl rfl ?_
 have hlim:lim=140737488355328:=rfl
 have ec:c60=AC.cutIn [1,1,1,0,2,2,1,2,1,1,1,1] rsT c60:=rfl
 rw [ec]
 have T:=fun i n r0 least out=>rsT_spec s i n r0 least out
 generalize rsT=t at T ⊢
 simp only [c60,AC.cutIn]
 obtain ⟨R,hR⟩: ∃R,runesL s 0=R:=⟨_,rfl⟩
 rw [hR]
 simp -implicitDefEqProofs
 refine wp_lpk (α:=Nat×List Int) (fun x=>⟨[(0,.str s),(3,.sl (runeRows x.2)),(4,i6 x.1)],[],[(.s 3,1)]⟩)
  (fun x=>x.1≤s.length+3∧x.2.length≤x.1∧x.2++runesL s x.1=R) (fun x=>s.length+4 - x.1) ?_ (0,[]) ?_ ?_
 ·rintro K ⟨i,out⟩ hK ⟨h1,h2,h3⟩
  simp only at h1 h2 h3
  by_cases g:i<s.length
  ·have st:=runes_step g h3
   have sl:=stepR_lt g
   have sp:=stepR_pos s i
   have fin: ∀σ',Weak σ' ⟨[(0,.str s),(3,.sl (runeRows (out++[(stepR s i).1]))),(4,i6 (i+(stepR s i).2:Nat))],[],[(.s 3,1)]⟩→K σ':=
    fun σ' hσ=>hK (i+(stepR s i).2,out++[(stepR s i).1]) σ' ⟨by simp only;omega,by simp only [List.length_append,List.length_cons,List.length_nil];omega,st⟩ (by simp only;omega) hσ
   have hb:=byt_at g
   have hx255:=byt_lt s i
   have er:stepR s i=(if byt s i<128 then ((byt s i:Int),1) else if 192≤byt s i∧byt s i<224 then stepF s i 1 (byt s i - 192) 128 else if 224≤byt s i∧byt s i<240 then stepF s i 2 (byt s i - 224) 2048 else if 240≤byt s i∧byt s i<248 then stepF s i 3 (byt s i - 240) 65536 else (-1,1)):=rfl
   rw [hb] at er hx255
   obtain ⟨y,hy⟩: ∃y,s[i]=y:=⟨_,rfl⟩
   rw [hy] at er hx255
   have w0:IntKind.i32.wrap (y.toNat:Int)=y.toNat:=by rw [wrap_i32']<;>omega
   have T':=fun n r0 least hn h32 Q=>T i n r0 least out (by omega) hn h32 (by omega) (by omega) Q
   have one:=runeRows_one out
   have rl:=runeRows_len out
   have hw:(out.length+1)*4≤140737488355328:=by omega
   clear hK st hb T h3 sl sp
   by_cases x1:(y.toNat:Int)<128
   ·have x1n:y.toNat<128:=by omega
    rw [if_pos x1n] at er
    rw [er] at fin
    have t1:IntKind.i64.wrap ((i:Int)+1)=(i+1:Nat):=by rw [wrap_i64]<;>omega
    simp only [runeRows_snoc] at fin
    clear er
    generalize runeRows out=L at *
    simp -implicitDefEqProofs [g,hy,w0,x1,hlim,rl]
    refine ⟨hw,one,fin _ (weak_mk ?_ ?_ ?_ ?_ ?_ ?_)⟩<;>simp -implicitDefEqProofs [t1]
   ·have x1n: ¬y.toNat<128:=by omega
    rw [if_neg x1n] at er
    by_cases c1:(192:Int)≤y.toNat∧(y.toNat:Int)<224
    ·have c1n:192≤y.toNat∧y.toNat<224:=by omega
     rw [if_pos c1n] at er
     have eg:stepG s i 1 (y.toNat - 192) 128=stepR s i:=by rw [er];rfl
     have T':=T' 1 (y.toNat - 192) 128 (by omega) (.inr (by omega))
     rw [eg] at T'
     have w1:IntKind.i32.wrap ((y.toNat:Int) - 192)=(y.toNat - 192:Nat):=by rw [wrap_i32']<;>omega
     clear er eg
     generalize (stepR s i).1=s1 at *
     generalize (stepR s i).2=s2 at *
     simp -implicitDefEqProofs [g,hy,w0,x1,c1.1,c1.2]
     refine T' _ ?_ _ ?_ ?_ ?_ ?_ ?_ ?_
     ·rintro e (rfl|rfl) σ' hσ
      ·simp;exact fin _ hσ
      ·simp;exact fin _ hσ
     all_goals simp -implicitDefEqProofs [w1]
    ·have c1n: ¬(192≤y.toNat∧y.toNat<224):=by omega
     rw [if_neg c1n] at er
     by_cases c2:(224:Int)≤y.toNat∧(y.toNat:Int)<240
     ·have c2n:224≤y.toNat∧y.toNat<240:=by omega
      rw [if_pos c2n] at er
      have eg:stepG s i 2 (y.toNat - 224) 2048=stepR s i:=by rw [er];rfl
      have T':=T' 2 (y.toNat - 224) 2048 (by omega) (.inr (by omega))
      rw [eg] at T'
      have w1:IntKind.i32.wrap ((y.toNat:Int) - 224)=(y.toNat - 224:Nat):=by rw [wrap_i32']<;>omega
      have c3:(192:Int)≤y.toNat:=by omega
      have c4: ¬(y.toNat:Int)<224:=by omega
      clear er eg
      generalize (stepR s i).1=s1 at *
      generalize (stepR s i).2=s2 at *
      simp -implicitDefEqProofs [g,hy,w0,x1,c2.1,c2.2,c3,c4]
      refine T' _ ?_ _ ?_ ?_ ?_ ?_ ?_ ?_
      ·rintro e (rfl|rfl) σ' hσ
       ·simp;exact fin _ hσ
       ·simp;exact fin _ hσ
      all_goals simp -implicitDefEqProofs [w1]
     ·have c2n: ¬(224≤y.toNat∧y.toNat<240):=by omega
      rw [if_neg c2n] at er
      by_cases c5:(240:Int)≤y.toNat∧(y.toNat:Int)<248
      ·have c5n:240≤y.toNat∧y.toNat<248:=by omega
       rw [if_pos c5n] at er
       have eg:stepG s i 3 (y.toNat - 240) 65536=stepR s i:=by rw [er];rfl
       have T':=T' 3 (y.toNat - 240) 65536 (by omega) (.inr (by omega))
       rw [eg] at T'
       have w1:IntKind.i32.wrap ((y.toNat:Int) - 240)=(y.toNat - 240:Nat):=by rw [wrap_i32']<;>omega
       have c3:(192:Int)≤y.toNat:=by omega
       have c4: ¬(y.toNat:Int)<224:=by omega
       have c6:(224:Int)≤y.toNat:=by omega
       have c7: ¬(y.toNat:Int)<240:=by omega
       clear er eg
       generalize (stepR s i).1=s1 at *
       generalize (stepR s i).2=s2 at *
       simp -implicitDefEqProofs [g,hy,w0,x1,c5.1,c5.2,c3,c4,c6,c7]
       refine T' _ ?_ _ ?_ ?_ ?_ ?_ ?_ ?_
       ·rintro e (rfl|rfl) σ' hσ
        ·simp;exact fin _ hσ
        ·simp;exact fin _ hσ
       all_goals simp -implicitDefEqProofs [w1]
      ·have c5n: ¬(240≤y.toNat∧y.toNat<248):=by omega
       rw [if_neg c5n] at er
       have T':=T' 0 y.toNat 0 (by omega) (.inl rfl)
       have eg:stepG s i 0 y.toNat 0=stepR s i:=by rw [er];rfl
       rw [eg] at T'
       have hx:y.toNat<192∨248≤y.toNat:=by omega
       clear er eg
       generalize (stepR s i).1=s1 at *
       generalize (stepR s i).2=s2 at *
       rcases hx with hx|hx
       ·have c3: ¬(192:Int)≤y.toNat:=by omega
        have c4: ¬(224:Int)≤y.toNat:=by omega
        have c6: ¬(240:Int)≤y.toNat:=by omega
        simp -implicitDefEqProofs [g,hy,w0,x1,c3,c4,c6]
        refine T' _ ?_ _ ?_ ?_ ?_ ?_ ?_ ?_
        ·rintro e (rfl|rfl) σ' hσ
         ·simp;exact fin _ hσ
         ·simp;exact fin _ hσ
        all_goals simp -implicitDefEqProofs
       ·have c3:(192:Int)≤y.toNat:=by omega
        have c4: ¬(y.toNat:Int)<224:=by omega
        have c6:(224:Int)≤y.toNat:=by omega
        have c7: ¬(y.toNat:Int)<240:=by omega
        have c8:(240:Int)≤y.toNat:=by omega
        have c9: ¬(y.toNat:Int)<248:=by omega
        simp -implicitDefEqProofs [g,hy,w0,x1,c3,c4,c6,c7,c8,c9]
        refine T' _ ?_ _ ?_ ?_ ?_ ?_ ?_ ?_
        ·rintro e (rfl|rfl) σ' hσ
         ·simp;exact fin _ hσ
         ·simp;exact fin _ hσ
        all_goals simp -implicitDefEqProofs
  ·have ro:=runesL_out g
   rw [ro,List.append_nil] at h3
   subst h3
   clear hK T ro
   simp -implicitDefEqProofs [g]
 ·exact ⟨Nat.zero_le _,Nat.le_refl _,by simpa using hR⟩
 ·refine weak_mk ?_ ?_ ?_ ?_ ?_ ?_<;>simp -implicitDefEqProofs [runeRows]
open Go.Proofs
theorem dle_t {a b:Int} (h:a≤b):decide (a≤b)=true:=decide_eq_true h
theorem dle_f {a b:Int} (h:b<a):decide (a≤b)=false:=decide_eq_false (by omega)
theorem dlt_t {a b:Int} (h:a<b):decide (a<b)=true:=decide_eq_true h
theorem dlt_f {a b:Int} (h:b≤a):decide (a<b)=false:=decide_eq_false (by omega)
theorem beq_t {a b:Int} (h:a=b):(a==b)=true:=by rw [beq_iff_eq];exact h
theorem beq_f {a b:Int} (h:a<b∨b<a):(a==b)=false:=by rw [beq_eq_false_iff_ne];omega
theorem bne_t {a b:Int} (h:a<b∨b<a):(a !=b)=true:=by rw [bne_iff_ne];omega
theorem bne_f {a b:Int} (h:a=b):(a !=b)=false:=by simp [h]
def letter (r:Int):Bool:=decide ((97≤r∧r≤122)∨(65≤r∧r≤90)∨(192≤r∧r≤591∧r≠215∧r≠247)∨(880≤r∧r≤1279))
def digR (r:Int):Bool:=decide (48≤r∧r≤57)
theorem letter_cases (r:Int):(r<65∧letter r=false)∨(65≤r∧r≤90∧letter r=true)∨(90<r∧r<97∧letter r=false)∨(97≤r∧r≤122∧letter r=true)∨(122<r∧r<192∧letter r=false)∨
  (192≤r∧r<215∧letter r=true)∨(r=215∧letter r=false)∨(215<r∧r<247∧letter r=true)∨(r=247∧letter r=false)∨(247<r∧r≤591∧letter r=true)∨
  (591<r∧r<880∧letter r=false)∨(880≤r∧r≤1279∧letter r=true)∨(1279<r∧letter r=false):=by
 unfold letter
 simp only [decide_eq_true_eq,decide_eq_false_iff_not]
 omega
theorem rletter_spec (r:Int):Sp Tryz.prog gl 91 [i3 r] (.bool (letter r)):=by
 refine s91 rfl rfl ?_
 rcases letter_cases r with ⟨h1,h2⟩|⟨h1,h2,h3⟩|⟨h1,h2,h3⟩|⟨h1,h2,h3⟩|⟨h1,h2,h3⟩|⟨h1,h2,h3⟩|⟨h1,h3⟩|⟨h1,h2,h3⟩|⟨h1,h3⟩|⟨h1,h2,h3⟩|⟨h1,h2,h3⟩|⟨h1,h2,h3⟩|⟨h1,h3⟩
 ·rw [h2];simp -implicitDefEqProofs (disch:=omega) [c91,dle_t,dle_f,dlt_t,dlt_f,beq_t,beq_f,bne_t,bne_f]
 all_goals (rw [h3];simp -implicitDefEqProofs (disch:=omega) [c91,dle_t,dle_f,dlt_t,dlt_f,beq_t,beq_f,bne_t,bne_f])
theorem tletter_spec (r:Int):Sp Tryz.prog gl 67 [i3 r] (.bool (letter r)):=by
 refine s67 rfl rfl ?_
 rcases letter_cases r with ⟨h1,h2⟩|⟨h1,h2,h3⟩|⟨h1,h2,h3⟩|⟨h1,h2,h3⟩|⟨h1,h2,h3⟩|⟨h1,h2,h3⟩|⟨h1,h3⟩|⟨h1,h2,h3⟩|⟨h1,h3⟩|⟨h1,h2,h3⟩|⟨h1,h2,h3⟩|⟨h1,h2,h3⟩|⟨h1,h3⟩
 ·rw [h2];simp -implicitDefEqProofs (disch:=omega) [c67,dle_t,dle_f,dlt_t,dlt_f,beq_t,beq_f,bne_t,bne_f]
 all_goals (rw [h3];simp -implicitDefEqProofs (disch:=omega) [c67,dle_t,dle_f,dlt_t,dlt_f,beq_t,beq_f,bne_t,bne_f])
theorem tdigit_spec (r:Int):Sp Tryz.prog gl 68 [i3 r] (.bool (digR r)):=by
 refine s68 rfl rfl ?_
 unfold digR
 by_cases h1:48≤r
 ·simp [c68,h1]
 ·simp [c68,h1]
def nameGo:Nat→Int→List Int→Bool
 |n,last,[]=>decide (0<n∧n≤24)&&(letter last||digR last)
 |n,last,r::l=>(letter r||(decide (n≠0)&&(digR r||r==95||r==45)))&&nameGo (n+1) r l
def nameT (s:List UInt8):Bool:=nameGo 0 32 (runesL s 0)
theorem tname_spec (s:List UInt8) (hl:s.length≤900000):Sp Tryz.prog gl 43 [.str s] (.bool (nameT s)):=by
 refine s43 rfl rfl ?_
 obtain ⟨R,hR⟩: ∃R,R=nameT s:=⟨_,rfl⟩
 rw [←hR]
 unfold nameT at hR
 simp -implicitDefEqProofs [c43]
 refine wp_lpk (α:=Nat×Nat×Int) (fun x=>⟨[(0,.str s),(3,i6 x.2.1),(4,i3 x.2.2),(9,.itp 9)],[(.it 9,[.itr s x.1])],[]⟩)
  (fun x=>x.2.1≤x.1∧(x.2.1=0↔x.1=0)∧nameGo x.2.1 x.2.2 (runesL s x.1)=R∧x.1≤s.length+3) (fun x=>s.length+4 - x.1) ?_ (0,0,32) ?_ ?_
 ·rintro K ⟨i,n,last⟩ hK ⟨h1,h2,h3,h4⟩
  simp only at h1 h2 h3 h4
  by_cases g:i<s.length
  ·rw [runesL_in g] at h3
   simp only [nameGo] at h3
   have sr:=step_rune s i g
   have sl:=stepR_lt g
   have sp:=stepR_pos s i
   have fin:nameGo (n+1) (stepR s i).1 (runesL s (i+(stepR s i).2))=R→ ∀σ',Weak σ' ⟨[(0,.str s),(3,i6 (n+1:Nat)),(4,i3 (stepR s i).1),(9,.itp 9)],[(.it 9,[.itr s (i+(stepR s i).2)])],[]⟩→K σ':=
    fun hh σ' hσ=>hK (i+(stepR s i).2,n+1,(stepR s i).1) σ' ⟨by simp only;omega,by simp only;omega,hh,by simp only;omega⟩ (by simp only;omega) hσ
   have t1:IntKind.i64.wrap ((n:Int)+1)=(n+1:Nat):=by rw [wrap_i64]<;>omega
   clear hK hR
   by_cases hb:(stepR s i).1= -1
   ·rw [if_pos hb] at sr
    rw [hb] at h3
    have:R=false:=by
     rw [←h3]
     have:(letter (-1)||(decide (n≠0)&&(digR (-1)||(-1:Int)==95||(-1:Int)==45)))=false:=by cases decide (n≠0)<;>rfl
     rw [this];rfl
    subst this
    have L1:=tletter_spec 65533
    have D1:=tdigit_spec 65533
    rw [show letter 65533=false from rfl] at L1
    rw [show digR 65533=false from rfl] at D1
    clear h3 fin
    by_cases hi:i=0
    ·subst hi
     simp -implicitDefEqProofs [g,sr]
     refine onC_mk _ L1 ?_
     simp -implicitDefEqProofs
    ·have hi':0<i:=by omega
     simp -implicitDefEqProofs [g,sr]
     refine onC_mk _ L1 ?_
     simp -implicitDefEqProofs [hi']
     refine onC_mk _ D1 ?_
     simp -implicitDefEqProofs
   ·rw [if_neg hb] at sr
    have L1:=tletter_spec (stepR s i).1
    have D1:=tdigit_spec (stepR s i).1
    have esr:(stepR s i)=((stepR s i).1,(stepR s i).2):=rfl
    rw [esr] at sr
    generalize nameGo (n+1) (stepR s i).1 (runesL s (i+(stepR s i).2))=R2 at *
    clear esr hb
    generalize (stepR s i).1=r at *
    generalize (stepR s i).2=w at *
    have hn0:decide (n≠0)=decide (0<i):=by rw [Bool.eq_iff_iff];simp;omega
    rw [hn0] at h3
    cases hlt:letter r
    ·rw [hlt] at h3 L1
     by_cases hi:0<i
     ·cases hd:digR r
      ·rw [hd] at h3 D1
       by_cases e1:r=95
       ·have:=fin (by rw [←h3];simp [hi,e1])
        simp -implicitDefEqProofs (disch:=omega) [g,sr,beq_t,beq_f,e1]
        rw [e1] at L1 D1
        refine onC_mk _ L1 ?_
        simp -implicitDefEqProofs [hi]
        refine onC_mk _ D1 ?_
        simp -implicitDefEqProofs
        refine this _ (weak_mk ?_ ?_ ?_ ?_ ?_ ?_)<;>simp -implicitDefEqProofs [t1,e1]
       ·by_cases e2:r=45
        ·have:=fin (by rw [←h3];simp [hi,e2])
         simp -implicitDefEqProofs (disch:=omega) [g,sr,e2]
         rw [e2] at L1 D1
         refine onC_mk _ L1 ?_
         simp -implicitDefEqProofs [hi]
         refine onC_mk _ D1 ?_
         simp -implicitDefEqProofs
         refine this _ (weak_mk ?_ ?_ ?_ ?_ ?_ ?_)<;>simp -implicitDefEqProofs [t1,e2]
        ·have b1:(r==95)=false:=by rw [beq_eq_false_iff_ne];exact e1
         have b2:(r==45)=false:=by rw [beq_eq_false_iff_ne];exact e2
         have:R=false:=by rw [←h3,b1,b2];simp
         subst this
         simp -implicitDefEqProofs [g,sr]
         refine onC_mk _ L1 ?_
         simp -implicitDefEqProofs [hi]
         refine onC_mk _ D1 ?_
         simp -implicitDefEqProofs [b1,b2]
      ·rw [hd] at h3 D1
       have:=fin (by rw [←h3];simp [hi])
       simp -implicitDefEqProofs [g,sr]
       refine onC_mk _ L1 ?_
       simp -implicitDefEqProofs [hi]
       refine onC_mk _ D1 ?_
       simp -implicitDefEqProofs
       refine this _ (weak_mk ?_ ?_ ?_ ?_ ?_ ?_)<;>simp -implicitDefEqProofs [t1]
     ·have:R=false:=by rw [←h3];simp [hi]
      subst this
      simp -implicitDefEqProofs [g,sr]
      refine onC_mk _ L1 ?_
      simp -implicitDefEqProofs [hi]
    ·rw [hlt] at h3 L1
     have:=fin (by rw [←h3];simp)
     simp -implicitDefEqProofs [g,sr]
     refine onC_mk _ L1 ?_
     simp -implicitDefEqProofs
     refine this _ (weak_mk ?_ ?_ ?_ ?_ ?_ ?_)<;>simp -implicitDefEqProofs [t1]
  ·rw [runesL_out g] at h3
   simp only [nameGo] at h3
   have L1:=tletter_spec last
   have D1:=tdigit_spec last
   clear hK hR h2
   by_cases n0:0<n
   ·by_cases n1:n≤24
    ·have n1':(n:Int)≤24:=by omega
     rw [decide_eq_true (show 0<n∧n≤24 from ⟨n0,n1⟩),Bool.true_and] at h3
     cases hlt:letter last
     ·rw [hlt,Bool.false_or] at h3
      rw [hlt] at L1
      rw [h3] at D1
      simp -implicitDefEqProofs [g,n0,n1']
      refine onC_mk _ L1 ?_
      simp -implicitDefEqProofs
      refine onC_mk _ D1 ?_
      simp -implicitDefEqProofs
     ·rw [hlt] at h3 L1
      have:R=true:=by rw [←h3];rfl
      subst this
      simp -implicitDefEqProofs [g,n0,n1']
      refine onC_mk _ L1 ?_
      simp -implicitDefEqProofs
    ·have n1': ¬(n:Int)≤24:=by omega
     rw [decide_eq_false (show ¬(0<n∧n≤24) by omega)] at h3
     subst h3
     simp -implicitDefEqProofs [g,n0,n1']
   ·rw [decide_eq_false (show ¬(0<n∧n≤24) by omega)] at h3
    subst h3
    simp -implicitDefEqProofs [g,n0]
 ·exact ⟨Nat.le_refl _,by simp,hR.symm,by simp⟩
 ·refine weak_mk ?_ ?_ ?_ ?_ ?_ ?_<;>simp -implicitDefEqProofs
open Go.Proofs
theorem nameGo_big: ∀(l:List Int) (n:Nat) (last:Int),24<n+l.length→nameGo n last l=false
 |[],n,last,h=>by
  simp only [nameGo]
  rw [decide_eq_false (show ¬(0<n∧n≤24) by simp at h;omega)];rfl
 |r::l,n,last,h=>by
  simp only [nameGo]
  rw [nameGo_big l (n+1) r (by simp at h;omega)];simp
theorem rname_spec (s:List UInt8) (hl:s.length≤900000):Sp Tryz.prog gl 57 [.str s] (.bool (nameT s)):=by
 refine s57 rfl rfl ?_
 have RS:=runes_spec s hl
 have rl:=runesL_len s s.length 0 (by omega)
 obtain ⟨R,hR⟩: ∃R,R=nameT s:=⟨_,rfl⟩
 rw [←hR]
 unfold nameT at hR
 generalize runesL s 0=l at *
 have el: ∀l,runeRows l=l.map fun r=>[i3 r]:=fun _=>rfl
 rw [el] at RS
 by_cases h0:l=[]
 ·subst h0
  subst hR
  simp -implicitDefEqProofs [c57]
  refine onC_mk _ RS ?_
  simp -implicitDefEqProofs [nameGo]
 ·have hlen:0<l.length:=List.length_pos_iff.2 h0
  have b0:((l.length:Int)==0)=false:=by rw [beq_eq_false_iff_ne];omega
  by_cases h24:24<l.length
  ·rw [nameGo_big l 0 32 (by omega)] at hR
   subst hR
   have hI:(24:Int)<l.length:=by omega
   simp -implicitDefEqProofs [c57]
   refine onC_mk _ RS ?_
   simp -implicitDefEqProofs [b0,hI]
  ·have hI: ¬(24:Int)<l.length:=by omega
   have L0:=rletter_spec l[0]
   cases hl0:letter l[0]
   ·rw [hl0] at L0
    have:R=false:=by
     rw [hR]
     cases l with
     |nil=>exact absurd rfl h0
     |cons r l=>simp only [List.getElem_cons_zero] at hl0;simp [nameGo,hl0]
    clear hR
    subst this
    simp -implicitDefEqProofs [c57]
    refine onC_mk _ RS ?_
    simp -implicitDefEqProofs [b0,hI,hlen,h0]
    refine onC_mk _ L0 ?_
    simp -implicitDefEqProofs
   ·rw [hl0] at L0
    simp -implicitDefEqProofs [c57]
    refine onC_mk _ RS ?_
    simp -implicitDefEqProofs [b0,hI,hlen,h0]
    refine onC_mk _ L0 ?_
    simp -implicitDefEqProofs
    refine wp_lpk (α:=Nat×Int) (fun x=>⟨[(3,.sl (l.map fun r=>[i3 r])),(4,i6 x.1)],[],[]⟩)
     (fun x=>x.1≤l.length∧nameGo x.1 x.2 (l.drop x.1)=R∧(0<x.1→x.1=l.length→(letter x.2||digR x.2)=true)) (fun x=>l.length - x.1) ?_ (0,32) ?_ ?_
    ·rintro K ⟨i,prev⟩ hK ⟨h1,h2,h3⟩
     simp only at h1 h2 h3
     by_cases g:i<l.length
     ·have t1:IntKind.i64.wrap ((i:Int)+1)=(i+1:Nat):=by rw [wrap_i64]<;>omega
      have t2:IntKind.i64.wrap ((l.length:Int) - 1)=(l.length - 1:Nat):=by rw [wrap_i64]<;>omega
      have LI:=rletter_spec l[i]
      rw [List.drop_eq_getElem_cons g] at h2
      simp only [nameGo] at h2
      have hz:i=0→letter l[i]=true:=by rintro rfl;exact hl0
      have fin:nameGo (i+1) l[i] (l.drop (i+1))=R→(i+1=l.length→(letter l[i]||digR l[i])=true)→ ∀σ',Weak σ' ⟨[(3,.sl (l.map fun r=>[i3 r])),(4,i6 (i+1:Nat))],[],[]⟩→K σ':=
       fun hh he σ' hσ=>hK (i+1,l[i]) σ' ⟨by simp only;omega,hh,fun _=>he⟩ (by simp only;omega) hσ
      have hend:i+1=l.length→l.drop (i+1)=[]:=fun h=>List.drop_eq_nil_of_le (by omega)
      obtain ⟨r,hr⟩: ∃r,l[i]=r:=⟨_,rfl⟩
      rw [hr] at h2 LI hz fin
      generalize l.drop (i+1)=l2 at *
      clear hK hR L0 RS h3
      cases hlt:letter r
      ·rw [hlt] at h2 LI hz
       have hi:0<i:=by
        rcases Nat.eq_zero_or_pos i with h|h
        ·have:=hz h;cases this
        ·exact h
       rw [decide_eq_true (show i≠0 by omega)] at h2
       cases hd:digR r
       ·rw [hd] at h2
        unfold digR at hd
        rw [decide_eq_false_iff_not] at hd
        have d1: ∀X Y:Prop,((48≤r→r≤57→X)→Y)→True:=fun _ _ _=>trivial
        by_cases hlast:i+1=l.length
        ·have:R=false:=by
          rw [←h2,hend hlast]
          simp only [nameGo]
          rw [hlt,show digR r=false from decide_eq_false hd]
          simp
         subst this
         have hq:((i:Int)==((l.length - 1:Nat):Int))=true:=by rw [beq_iff_eq];omega
         by_cases q1:48≤r
         ·have q2: ¬r≤57:=by omega
          simp -implicitDefEqProofs [g,hr,t2,hq,q1,q2]
          refine onC_mk _ LI ?_
          simp -implicitDefEqProofs
         ·simp [g,hr,t2,hq,q1]
          refine onC_mk _ LI ?_
          simp -implicitDefEqProofs
        ·have hq:((i:Int)==((l.length - 1:Nat):Int))=false:=by rw [beq_eq_false_iff_ne];omega
         by_cases e1:r=95
         ·have fin:=fin (by rw [←h2];simp [e1]) (fun h=>absurd h hlast)
          have q1:(48:Int)≤r:=by omega
          have q2: ¬r≤57:=by omega
          have e3:(r !=95)=false:=by simp [e1]
          simp -implicitDefEqProofs [g,hr,t2,hq,q1,q2]
          refine onC_mk _ LI ?_
          simp -implicitDefEqProofs [g,hr,e3]
          refine fin _ (weak_mk ?_ ?_ ?_ ?_ ?_ ?_)<;>simp -implicitDefEqProofs [t1]
         ·by_cases e2:r=45
          ·have fin:=fin (by rw [←h2];simp [e2]) (fun h=>absurd h hlast)
           have q1: ¬(48:Int)≤r:=by omega
           have e3:(r !=95)=true:=by simp [e1]
           have e4:(r !=45)=false:=by simp [e2]
           simp -implicitDefEqProofs [g,hr,t2,hq,q1]
           refine onC_mk _ LI ?_
           simp -implicitDefEqProofs [g,hr,e3,e4]
           refine fin _ (weak_mk ?_ ?_ ?_ ?_ ?_ ?_)<;>simp -implicitDefEqProofs [t1]
          ·have e3:(r !=95)=true:=by simp [e1]
           have e4:(r !=45)=true:=by simp [e2]
           have:R=false:=by
            rw [←h2,show (r==95)=false by simp [e1],show (r==45)=false by simp [e2]];simp
           subst this
           by_cases q1:48≤r
           ·have q2: ¬r≤57:=by omega
            simp -implicitDefEqProofs [g,hr,t2,hq,q1,q2]
            refine onC_mk _ LI ?_
            simp -implicitDefEqProofs [g,hr,e3,e4]
           ·simp [g,hr,t2,hq,q1]
            refine onC_mk _ LI ?_
            simp -implicitDefEqProofs [g,hr,e3,e4]
       ·rw [hd] at h2
        have fin:=fin (by rw [←h2];simp) (fun _=>by rw [hd];simp)
        unfold digR at hd
        rw [decide_eq_true_eq] at hd
        simp -implicitDefEqProofs [g,hr,t2,hd.1,hd.2]
        refine onC_mk _ LI ?_
        simp -implicitDefEqProofs
        refine fin _ (weak_mk ?_ ?_ ?_ ?_ ?_ ?_)<;>simp -implicitDefEqProofs [t1]
      ·rw [hlt] at h2 LI
       have fin:=fin (by rw [←h2];simp) (fun _=>by rw [hlt];rfl)
       by_cases q1:48≤r
       ·by_cases q2:r≤57
        ·simp [g,hr,t2,q1,q2]
         refine onC_mk _ LI ?_
         simp -implicitDefEqProofs
         refine fin _ (weak_mk ?_ ?_ ?_ ?_ ?_ ?_)<;>simp -implicitDefEqProofs [t1]
        ·simp [g,hr,t2,q1,q2]
         refine onC_mk _ LI ?_
         simp -implicitDefEqProofs
         refine fin _ (weak_mk ?_ ?_ ?_ ?_ ?_ ?_)<;>simp -implicitDefEqProofs [t1]
       ·simp [g,hr,t2,q1]
        refine onC_mk _ LI ?_
        simp -implicitDefEqProofs
        refine fin _ (weak_mk ?_ ?_ ?_ ?_ ?_ ?_)<;>simp -implicitDefEqProofs [t1]
     ·obtain rfl:i=l.length:=by omega
      have h3:=h3 hlen rfl
      rw [List.drop_length] at h2
      simp only [nameGo] at h2
      rw [h3,decide_eq_true (show 0<l.length∧l.length≤24 by omega)] at h2
      have:R=true:=by rw [←h2];rfl
      clear hK hR
      subst this
      simp -implicitDefEqProofs
    ·exact ⟨Nat.zero_le _,by simpa using hR.symm,fun h=>absurd h (by simp)⟩
    ·refine weak_mk ?_ ?_ ?_ ?_ ?_ ?_<;>simp -implicitDefEqProofs
open Go.Proofs
structure Lb where
 n:List UInt8
 t:List UInt8
 deriving DecidableEq
structure Ru where
 n:List UInt8
 p:Bool
 l:Int
 s:Int
 f:Nat
 w:Int
 k:Int
 deriving DecidableEq
structure Gl where
 n:List UInt8
 t:Nat
 g:Int
 a:Int
 o:Int
 c:Int
 lb:List Lb
 ru:List Ru
 deriving DecidableEq
structure Cf where
 gs:List Gl
 r:Int
 v:Int
 i:Int
 x:Int
 y:Int
def Lb.row (x:Lb):List AV:=[.str x.n,.str x.t]
def Ru.row (x:Ru):List AV:=[.str x.n,.bool x.p,i6 x.l,i6 x.s,u x.f,i6 x.w,i6 x.k]
def Gl.row (x:Gl):List AV:=[.str x.n,.int .u32 x.t,i6 x.g,i6 x.a,i6 x.o,i6 x.c,.sl (x.lb.map Lb.row),.sl (x.ru.map Ru.row)]
def Cf.row (x:Cf):List AV:=[.sl (x.gs.map Gl.row),i6 x.r,i6 x.v,i6 x.i,i6 x.x,i6 x.y]
def distR {α:Type} [DecidableEq α]:List α→Nat
 |[]=>0
 |x::r=>distR r+if x∈r then 0 else 1
theorem distR_le {α:Type} [DecidableEq α]: ∀l:List α,distR l≤l.length
 |[]=>Nat.le_refl _
 |x::r=>by have:=distR_le r;simp only [distR,List.length_cons];split<;>omega
theorem distR_iff {α:Type} [DecidableEq α]: ∀l:List α,distR l=l.length↔l.Nodup
 |[]=>by simp [distR]
 |x::r=>by
  have h1:=distR_le r
  have h2:=distR_iff r
  simp only [distR,List.length_cons,List.nodup_cons]
  by_cases h:x∈r
  ·rw [if_pos h]
   constructor
   ·intro e;omega
   ·intro e;exact absurd h e.1
  ·rw [if_neg h,←h2]
   constructor
   ·intro e;exact ⟨h,by omega⟩
   ·intro e;omega
def uniq (l:List (List UInt8)):Bool:=decide l.Nodup
theorem uniq_dist (l:List (List UInt8)):(((distR l.reverse:Nat):Int)==((l.length:Nat):Int))=uniq l:=by
 unfold uniq
 rw [Bool.eq_iff_iff]
 simp only [beq_iff_eq,decide_eq_true_eq]
 rw [show ((distR l.reverse:Nat):Int)=((l.length:Nat):Int)↔distR l.reverse=l.reverse.length by rw [List.length_reverse];omega,distR_iff]
 unfold List.Nodup
 rw [List.pairwise_reverse]
 constructor
 ·intro h;exact h.imp (fun h=>Ne.symm h)
 ·intro h;exact h.imp (fun h=>Ne.symm h)
def cntV (l:List (List UInt8×Nat)):List (MK×MK):=l.map fun p=>(.s p.1,.i .i64 p.2)
def bump (l:List (List UInt8×Nat)) (n:List UInt8):List (List UInt8×Nat):=match l with
 |[]=>[(n,1)]
 |(m,c)::r=>if n=m then (m,c+1)::r else (m,c)::bump r n
theorem bump_len (n:List UInt8): ∀l,(bump l n).length=l.length+if n∈l.map Prod.fst then 0 else 1
 |[]=>by simp [bump]
 |(m,c)::r=>by
  simp only [bump]
  split
  ·rename_i h;subst h;simp
  ·rename_i h
   simp only [List.length_cons,List.map_cons,List.mem_cons,bump_len n r]
   by_cases h2:n∈r.map Prod.fst
   ·rw [if_pos h2,if_pos (.inr h2)]
   ·rw [if_neg h2,if_neg (fun e=>e.elim h h2)]
theorem bump_mem (n x:List UInt8): ∀l,x∈(bump l n).map Prod.fst↔x=n∨x∈l.map Prod.fst
 |[]=>by simp [bump]
 |(m,c)::r=>by
  simp only [bump]
  split
  ·rename_i h;subst h;simp
  ·rename_i h
   simp only [List.map_cons,List.mem_cons,bump_mem n x r]
   constructor
   ·rintro (h|h|h)
    ·exact .inr (.inl h)
    ·exact .inl h
    ·exact .inr (.inr h)
   ·rintro (h|h|h)
    ·exact .inr (.inl h)
    ·exact .inl h
    ·exact .inr (.inr h)
theorem bump_le (n:List UInt8) (N:Nat): ∀l,(∀p∈l,p.2≤N)→ ∀p∈bump l n,p.2≤N+1
 |[],_,p,hp=>by simp only [bump,List.mem_singleton] at hp;subst hp;simp
 |(m,c)::r,h,p,hp=>by
  simp only [bump] at hp
  have h1:=h (m,c) (by simp)
  simp only at h1
  split at hp
  ·rcases List.mem_cons.1 hp with rfl|hp
   ·simp only;omega
   ·have:=h p (by simp [hp]);omega
  ·rcases List.mem_cons.1 hp with rfl|hp
   ·simp only;omega
   ·exact bump_le n N r (fun q hq=>h q (by simp [hq])) p hp
theorem cnt_find (n:List UInt8): ∀(l:List (List UInt8×Nat)) (i:Nat),
  (mfind (.s n) (cntV l) i=some none∧cntV (bump l n)=cntV l++[(.s n,.i .i64 1)])∨ ∃j c,(n,c)∈l∧mfind (.s n) (cntV l) i=some (some (i+j,.i .i64 (c:Nat)))∧mset (cntV l) j (.i .i64 ((c+1:Nat):Int))=cntV (bump l n)
 |[],i=> .inl ⟨rfl,rfl⟩
 |(m,c)::r,i=>by
  have e:cntV ((m,c)::r)=(.s m,.i .i64 c)::cntV r:=rfl
  rw [e]
  simp only [mfind,MK.same,bump]
  by_cases h:n=m
  ·subst h
   refine .inr ⟨0,c,by simp,?_,?_⟩
   ·simp
   ·rw [if_pos rfl];rfl
  ·have hb:(n==m)=false:=by simpa using h
   rw [hb,if_neg h]
   rcases cnt_find n r (i+1) with ⟨h1,h2⟩|⟨j,c',h0,h1,h2⟩
   ·refine .inl ⟨by simp [h1],?_⟩
    show (MK.s m,MK.i .i64 (c:Int))::cntV (bump r n)=_
    rw [h2];rfl
   ·refine .inr ⟨j+1,c',by simp [h0],?_,?_⟩
    ·simp only [h1];rw [show i+1+j=i+(j+1) by omega]
    ·show mset _ (j+1) _=(MK.s m,MK.i .i64 (c:Int))::cntV (bump r n)
     rw [←h2];rfl
open Go.Proofs
def cUnlike (sz:Nat) (z:List AV):AC:=
 (.sq (.rg [.mv 4 (.c (.bool false))])
  (.sq (.rg [.mkp 8,
   .mv 5 (.s 8)])
  (.sq (.sq (.rg [.mv 9 (.s 0),
   .ln 10 (.s 9),
   .mv 11 (.c (.int .i64 0))])
  (.bl 0 (.lp (.sq (.rg [.bi 12 .lss (.s 11) (.s 10)])
  (.sq (.cd (.s 12) .sk (.ex 0))
  (.sq (.bl 1 (.sq (.rg [.ia 13 sz (.s 9) (.s 11),
   .lda 14 sz (.s 13),
   .al 7 z,
   .st sz (.s 7) (.s 14)])
  (.rg [.mv 15 (.s 5),
   .mv 16 (.s 1),
   .lda 17 sz (.s 7),
   .cd 18 (.s 16) [(.s 17)],
   .mlk 19 .s (.i .i64 0) (.s 15) (.s 18) false,
   .bi 20 .add (.s 19) (.c (.int .i64 1)),
   .mup .s (.s 15) (.s 18) (.s 20)])))
  (.rg [.bi 21 .add (.s 11) (.c (.int .i64 1)),
   .mv 11 (.s 21)])))))))
  (.sq (.rg [.mv 22 (.s 5),
   .mpl 23 (.s 22),
   .mv 24 (.s 0),
   .ln 25 (.s 24),
   .bi 26 .eql (.s 23) (.s 25),
   .mv 4 (.s 26)])
  .rt))))
theorem unl_eq1:c158=cUnlike 8 [(.str []),(.int .u32 0),(.int .i64 0),(.int .i64 0),(.int .i64 0),(.int .i64 0),.nils,.nils]:=rfl
theorem unl_eq2:c87=cUnlike 2 [(.str []),(.str [])]:=rfl
theorem unl_eq3:c89=cUnlike 7 [(.str []),(.bool false),(.int .i64 0),(.int .i64 0),(.int .u64 0),(.int .i64 0),(.int .i64 0)]:=rfl
theorem nameG_spec (x:Gl):Sp Tryz.prog gl 159 [.agg x.row] (.str x.n):=by
  refine s159 rfl rfl ?_
  unfold Gl.row
  simp -implicitDefEqProofs [c159]
theorem nameL_spec (x:Lb):Sp Tryz.prog gl 88 [.agg x.row] (.str x.n):=by
  refine s88 rfl rfl ?_
  unfold Lb.row
  simp -implicitDefEqProofs [c88]
theorem nameR_spec (x:Ru):Sp Tryz.prog gl 90 [.agg x.row] (.str x.n):=by
  refine s90 rfl rfl ?_
  unfold Ru.row
  simp -implicitDefEqProofs [c90]
theorem unlike_code (sz:Nat) (z:List AV) (f:Nat) (rows:List (List AV)) (names:List (List UInt8)) (hz:z.length=sz) (hl:names.length=rows.length) (hn:rows.length≤1000000)
    (hr: ∀i (h:i<rows.length),rows[i].length=sz∧idsL rows[i]=[]∧Sp Tryz.prog gl f [.agg rows[i]] (.str (names[i]'(by omega)))):
    wpA (SpH Tryz.prog gl) (cUnlike sz z) (postA [.t 4] (.bool (uniq names))) ⟨initE 0 [.sl rows,.fn f []],[],[]⟩:=by
  unfold cUnlike
  have w1:IntKind.i64.wrap 1=1:=by rw [wrap_i64]<;>omega
  simp -implicitDefEqProofs
  refine wp_lpk (α:=Nat×List (List UInt8×Nat)) (fun x=>⟨[(0,.sl rows),(1,.fn f []),(5,.mref (.it 8)),(9,.sl rows),(10,i6 rows.length),(11,i6 x.1)],[(.it 8,[.mpv (cntV x.2)])],[]⟩)
    (fun x=>x.1≤rows.length∧x.2.length=distR (names.take x.1).reverse∧(∀n,n∈x.2.map Prod.fst↔n∈names.take x.1)∧ ∀p∈x.2,p.2≤x.1) (fun x=>rows.length - x.1) ?_ (0,[]) ?_ ?_
  · rintro K ⟨i,l⟩ hK ⟨h1,h2,h3,h4⟩
    simp only at h1 h2 h3 h4
    by_cases g:i<rows.length
    · obtain ⟨r1,r2,r3⟩:=hr i g
      have r3:=Sp.h (d:=18) r3
      have hi:i<names.length:=by omega
      have et:names.take (i+1)=names.take i++[names[i]]:=by rw [List.take_succ_eq_append_getElem hi]
      have fin: ∀σ',Weak σ' ⟨[(0,.sl rows),(1,.fn f []),(5,.mref (.it 8)),(9,.sl rows),(10,i6 rows.length),(11,i6 (i+1:Nat))],[(.it 8,[.mpv (cntV (bump l names[i]))])],[]⟩→K σ':=
        fun σ' hσ=>hK (i+1,bump l names[i]) σ' ⟨by simp only;omega,by
          simp only
          rw [bump_len,et,List.reverse_append,h2]
          simp only [List.reverse_cons,List.reverse_nil,List.nil_append,List.singleton_append,distR,h3,List.mem_reverse],by
          intro n
          rw [bump_mem,et,List.mem_append,h3]
          simp only [List.mem_singleton]
          exact Or.comm,bump_le _ _ _ h4⟩ (by simp only;omega) hσ
      have t1:IntKind.i64.wrap ((i:Int)+1)=(i+1:Nat):=by rw [wrap_i64]<;>omega
      obtain ⟨row,hrow⟩: ∃row,row=rows[i]:=⟨_,rfl⟩
      rw [←hrow] at r1 r2 r3
      have e1:List.take sz row=row:=List.take_of_length_le (by omega)
      have e2:List.drop sz z=[]:=List.drop_eq_nil_of_le (by omega)
      have hat: ∀h,rows[i]'h=row:=fun _=>hrow.symm
      rcases cnt_find names[i] l 0 with ⟨q1,q2⟩|⟨j,c,q0,q1,q2⟩
      · rw [q2] at fin
        generalize names[i]=nm at *
        clear hK hr hrow h2 h3 h4 et
        simp -implicitDefEqProofs [g,hat,r1,e1,hz,e2]
        refine onH_mk _ _ r3 ⟨?_,?_,?_,?_,?_,?_,?_⟩ ?_
        iterate 7 (· simp)
        simp -implicitDefEqProofs [q1]
        refine fin _ (weak_mk ?_ ?_ ?_ ?_ ?_ ?_)<;>simp -implicitDefEqProofs [t1,w1]
      · rw [←q2] at fin
        have w2:IntKind.i64.wrap ((c:Int)+1)=((c+1:Nat):Int):=by have:=h4 _ q0;simp only at this;rw [wrap_i64]<;>omega
        generalize names[i]=nm at *
        clear hK hr hrow h2 h3 h4 et
        rw [Nat.zero_add] at q1
        simp -implicitDefEqProofs [g,hat,r1,e1,hz,e2]
        refine onH_mk _ _ r3 ⟨?_,?_,?_,?_,?_,?_,?_⟩ ?_
        iterate 7 (· simp)
        simp -implicitDefEqProofs [q1]
        refine fin _ (weak_mk ?_ ?_ ?_ ?_ ?_ ?_)<;>simp -implicitDefEqProofs [t1,w2]
    · obtain rfl:i=rows.length:=by omega
      have ud:=uniq_dist names
      rw [List.take_of_length_le (by omega)] at h2
      rw [←h2,hl] at ud
      have cl:(cntV l).length=l.length:=by simp [cntV]
      clear hK hr h3 h4
      generalize uniq names=R at *
      simp -implicitDefEqProofs [cl,ud]
  · exact ⟨Nat.zero_le _,by simp [distR],by simp,by simp⟩
  · refine weak_mk ?_ ?_ ?_ ?_ ?_ ?_<;>simp -implicitDefEqProofs [cntV]
theorem unlG_spec (l:List Gl) (hn:l.length≤1000000):Sp Tryz.prog gl 158 [.sl (l.map Gl.row),.fn 159 []] (.bool (uniq (l.map Gl.n))):=by
  refine s158 rfl rfl ?_
  rw [unl_eq1]
  refine unlike_code 8 _ _ (l.map Gl.row) (l.map Gl.n) rfl (by simp) (by simpa using hn) (fun i h=>?_)
  simp only [List.getElem_map]
  exact ⟨rfl,rfl,nameG_spec _⟩
theorem unlL_spec (l:List Lb) (hn:l.length≤1000000):Sp Tryz.prog gl 87 [.sl (l.map Lb.row),.fn 88 []] (.bool (uniq (l.map Lb.n))):=by
  refine s87 rfl rfl ?_
  rw [unl_eq2]
  refine unlike_code 2 _ _ (l.map Lb.row) (l.map Lb.n) rfl (by simp) (by simpa using hn) (fun i h=>?_)
  simp only [List.getElem_map]
  exact ⟨rfl,rfl,nameL_spec _⟩
theorem unlR_spec (l:List Ru) (hn:l.length≤1000000):Sp Tryz.prog gl 89 [.sl (l.map Ru.row),.fn 90 []] (.bool (uniq (l.map Ru.n))):=by
  refine s89 rfl rfl ?_
  rw [unl_eq3]
  refine unlike_code 7 _ _ (l.map Ru.row) (l.map Ru.n) rfl (by simp) (by simpa using hn) (fun i h=>?_)
  simp only [List.getElem_map]
  exact ⟨rfl,rfl,nameR_spec _⟩
end Go.Ai
