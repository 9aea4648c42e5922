/- P8: a part of the proof. Conditions: as each theorem says. -/
import Derived.Lib.SplitLaws
import Derived.Lib.IndexBytes
import Derived.Test.YtggemlhclppciaaGreatDoorP7
import Derived.Lib.Bytealg
set_option maxHeartbeats 4000000
set_option linter.unusedSimpArgs false
set_option linter.unusedVariables false
set_option maxRecDepth 20000
namespace Go.Ai
theorem mZ (c:UInt8): ∀(a:List UInt8),(∀b∈a,b≠c)→Lib.indexByte a c= -1
 |[],_=>rfl
 |b::r,h=>by
  have hb:b≠c:=h b (by simp);rw [Lib.indexByte,mZ c r (fun x hx=>h x (by simp [hx]))];simp [hb]
theorem xE (c:UInt8): ∀(a r:List UInt8),(∀b∈a,b≠c)→Lib.indexByte (a++c::r) c=(a.length:Int)
 |[],r,_=>by simp [Lib.indexByte]
 |b::a,r,h=>by
  have hb:b≠c:=h b (by simp);have ih:=xE c a r (fun x hx=>h x (by simp [hx]));rw [bt,Lib.indexByte,ih];have h1:((a.length:Int)== -1)=false:=by rw [dh];omega
  simp [hb,h1]
theorem Mb (c:UInt8): ∀(s:List UInt8),(∀b∈s,b≠c)∨ ∃a r,s=a++c::r∧ ∀b∈a,b≠c
 |[]=> .inl (by simp)
 |b::s=>by
  by_cases hb:b=c
  ·subst hb;exact .inr ⟨[],s,rfl,by simp⟩
  ·rcases Mb c s with h|⟨a,r,rfl,h⟩
   ·left;intro x hx;rcases i8.1 hx with rfl|hx
    ·exact hb
    ·exact h x hx
   ·right;refine ⟨b::a,r,rfl,fun x hx=>?_⟩;rcases i8.1 hx with rfl|hx
    ·exact hb
    ·exact h x hx
theorem vg {p:UInt8→Bool}: ∀ {a:List UInt8},(∀b∈a,p b=true)→a.takeWhile p=a
 |[],_=>rfl
 |b::a,h=>by
  rw [List.takeWhile_cons,if_pos (h b (by simp)),vg (fun x hx=>h x (by simp [hx]))]
theorem Ad {p:UInt8→Bool} {c:UInt8} (hc:p c=false): ∀ {a r:List UInt8},(∀b∈a,p b=true)→(a++c::r).takeWhile p=a
 |[],r,_=>by simp [hc]
 |b::a,r,h=>by
  rw [bt,List.takeWhile_cons,if_pos (h b (by simp)),Ad hc (fun x hx=>h x (by simp [hx]))]
open Go.Proofs
def eD (s:List UInt8):Nat×Bool:=
 if bm s=true then (if 3<(ag s 0).length then (101,true) else (min (ve (ag s 0) s.length).1 101,(ve (ag s 0) s.length).2)) else (0,false)
theorem rk (s:List UInt8) (hl:s.length≤1000000):Sp Tryz.prog gl 189 [.str s] (.tup [.int .u32 (eD s).1,.bool (eD s).2]):=by
 refine NW rfl rfl ?_;have TR:=lF s hl;have TN:=n9 s;have RC:=xz s hl;have PN:=mW s hl s.length hl;unfold eD;generalize (ag s 0).length=rc at *
 generalize ve (ag s 0) s.length=q at *
 obtain ⟨n,o⟩:=q;dsimp only at PN ⊢;generalize Lib.trimS s [48,49,50,51,52,53,54,55,56,57]=tr at *
 by_cases e:s=[]
 ·subst e;clear PN TN TR RC;rw [if_neg (by decide)];simp [xZ]
 have en:(s==[])=false:=dh.2 e;have g0:0<s.length:=vz.2 e;have hh:s.headD 0=s[0]:=by
  cases s with
  |nil=>exact absurd rfl e
  |cons a t=>rfl
 have ie:s.isEmpty=false:=by rw [List.isEmpty_eq_false_iff];exact e
 have h48:s[0]=48↔(s[0].toNat:Int)=48:=by
  constructor
  ·intro h;rw [h];rfl
  ·intro h;exact KK.1 (by show s[0].toNat=48;omega)
 have od:bm s=(s.all ay&&(s[0]!=48||s.length==1)):=by
  unfold bm;rw [ie,hh];rfl
 rw [od,←TN];clear TN od hh ie;by_cases c1:(s[0].toNat:Int)=48
 ·have e1:(s[0]!=48)=false:=by rw [bne_eq_false_iff_eq];exact h48.2 c1
  rw [e1,Bool.false_or];by_cases c2:1<s.length
  ·have c2':(1:Int)<s.length:=by omega
   rw [show (s.length==1)=false by rw [dh];omega,Lp,if_neg (by decide)];clear PN TR RC;simp [xZ,e,en,g0,c1,c2,c2']
  ·have c2': ¬(1:Int)<s.length:=by omega
   rw [show (s.length==1)=true by rw [bP];omega,Bool.and_true];cases ht:(tr==[])
   ·have ht1:(tr !=[])=true:=by unfold bne;rw [ht];rfl
    have ht2: ¬tr=[]:=fun h=>by rw [h] at ht;cases ht
    rw [if_neg (by decide)];clear PN RC;simp [xZ,e,en,g0,c1,c2,c2'];apply ab TR;simp [ht1,ht2,show tr.isEmpty=false by rw [List.isEmpty_eq_false_iff];exact ht2]
   have ht2:tr=[]:=by simpa using ht
   subst ht2;rw [if_pos rfl];simp [xZ,e,en,g0,c1,c2,c2'];apply ab TR;simp;apply ab RC;by_cases cr:3<rc
   ·have cr':(3:Int)<rc:=by omega
    rw [if_pos cr];simp [cr,cr']
   have cr': ¬(3:Int)<rc:=by omega
   rw [if_neg cr];simp [cr,cr'];apply ab PN;have cm:((min n 101:Nat):Int)=(if 101<(n:Int) then 101 else (n:Int)):=by split<;>omega
   simp [cm]
 ·have e1:(s[0]!=48)=true:=by rw [bne_iff_ne];exact fun h=>c1 (h48.1 h)
  have c1':((s[0].toNat:Int)==48)=false:=dh.2 c1;rw [e1,Bool.true_or,Bool.and_true];cases ht:(tr==[])
  ·have ht1:(tr !=[])=true:=by unfold bne;rw [ht];rfl
   have ht2: ¬tr=[]:=fun h=>by rw [h] at ht;cases ht
   rw [if_neg (by decide)];clear PN RC;simp [xZ,e,en,g0,c1,c1'];apply ab TR;simp [ht1,ht2,show tr.isEmpty=false by rw [List.isEmpty_eq_false_iff];exact ht2]
  have ht2:tr=[]:=by simpa using ht
  subst ht2;rw [if_pos rfl];simp [xZ,e,en,g0,c1,c1'];apply ab TR;simp;apply ab RC;by_cases cr:3<rc
  ·have cr':(3:Int)<rc:=by omega
   rw [if_pos cr];simp [cr,cr']
  have cr': ¬(3:Int)<rc:=by omega
  rw [if_neg cr];simp [cr,cr'];apply ab PN;have cm:((min n 101:Nat):Int)=(if 101<(n:Int) then 101 else (n:Int)):=by split<;>omega
  simp [cm]
open Go.Shelf
theorem tK (s:List UInt8) (c:UInt8):Sp Tryz.prog gl 214 [.str s,.str [c]] (i6 (Lib.indexByte s c)):=
 yO Il (by kernel_rfl) (by kernel_rfl) s c
def bF (c:UInt8) (b:UInt8):Bool:=b !=c
theorem xF (c:UInt8) (s:List UInt8):Lib.indexByte s c=if (s.takeWhile (bF c)).length<s.length then ((s.takeWhile (bF c)).length:Int) else -1:=by
 rcases Mb c s with h|⟨a,r,rfl,h⟩
 ·have e:s.takeWhile (bF c)=s:=vg fun b hb=>by simp [bF,h b hb]
  rw [mZ c s h,e,if_neg (Nat.lt_irrefl _)]
 ·have e:(a++c::r).takeWhile (bF c)=a:=Ad (by simp [bF]) fun b hb=>by simp [bF,h b hb]
  rw [xE c a r h,e,if_pos (by simp)]
theorem rm (c:UInt8): ∀(s:List UInt8),s.take (s.takeWhile (bF c)).length=s.takeWhile (bF c)
 |[]=>rfl
 |b::s=>by
  rw [List.takeWhile_cons];split
  ·rw [dT,List.take_succ_cons,rm c s]
  ·rfl
def tL (c:UInt8) (s:List UInt8):AV:=if (s.takeWhile (bF c)).length<s.length then .tup [.str (s.takeWhile (bF c)),.str (s.drop ((s.takeWhile (bF c)).length+1)),.bool true] else .tup [.str s,.str [],.bool false]
theorem Ae (c:UInt8) (s:List UInt8) (hl:s.length≤1000000):Sp Tryz.prog gl 212 [.str s,.str [c]] (tL c s):=by
 refine Oa rfl rfl ?_;have IX:=tK s c;rw [xF] at IX;have ht:=rm c s;unfold tL;by_cases h:(s.takeWhile (bF c)).length<s.length
 ·rw [if_pos h] at IX ⊢;generalize (s.takeWhile (bF c)).length=n at *
  have t1:IntKind.i64.wrap ((n:Int)+1)=(n+1:Nat):=by rw [an]<;>omega
  have q1:(0:Int)≤n:=by omega
  have q2:(n:Int)≤s.length:=by omega
  have q5:n≤s.length:=by omega
  have q3:((n+1:Nat):Int)≤s.length:=by omega
  have q4:(0:Int)≤((n+1:Nat):Int):=by omega
  have e1:((n+1:Nat):Int).toNat=n+1:=by omega
  have e2:List.drop (n+1) (s.take s.length)=s.drop (n+1):=by rw [sg]
  generalize ((n+1:Nat):Int)=m at *
  simp [Jl];refine aT _ IX ?_;simp [q1];simp only [t1];simp [q1,q2,q3,q4,q5,e1,ht]
 ·rw [if_neg h] at IX ⊢;clear ht;simp [Jl];refine aT _ IX ?_;simp
theorem ro (c:UInt8) (s:List UInt8) (hl:s.length≤1000000):Sp Tryz.prog gl 188 [.str s,.str [c]] (tL c s):=by
 refine NV rfl rfl ?_;have C:=Ae c s hl;unfold tL at C ⊢;by_cases h:(s.takeWhile (bF c)).length<s.length
 ·rw [if_pos h] at C ⊢;simp [Jj];refine aT _ C ?_;simp
 ·rw [if_neg h] at C ⊢;simp [Jj];refine aT _ C ?_;simp
theorem m6 (s:List UInt8):(ae s).length=s.length:=by simp [ae]
theorem xG (s:List UInt8) (i:Nat) (h:i<s.length) (h2:i<(ae s).length):(ae s)[i]=[.int .u8 s[i].toNat]:=by simp [ae]
theorem FY (s:List UInt8) (h0:s≠[]) (hd:s.all ay=true) (hl:s.length≤18):Sp Tryz.prog gl 215 [.str s,i6 10,i6 64] (.tup [u (aH s),.nili]):=by
 refine Oc rfl rfl ?_;have en:(s==[])=false:=dh.2 h0;obtain ⟨RR,hRR⟩: ∃R,R=ae s:=⟨_,rfl⟩;have rl:=m6 s;have rat:=xG s;rw [←hRR] at rl;simp only [←hRR] at rat;have b18: ∀i,i≤s.length→aH (s.take i)<1000000000000000000:=fun i hi=>by
  have:=qO (s.take i) (by
   rw [fC] at hd ⊢;exact fun x hx=>hd x (BH hx))
  refine xO this ?_
  have:(10:Nat)^(s.take i).length≤10^18:=Nat.pow_le_pow_right (by decide) (by rw [sj];omega)
  simpa using this
 have x1:IntKind.u64.wrap 64=64:=by decide
 have x2:IntKind.u64.wrap (2^min 64 IntKind.u64.bits)=0:=by decide
 have x3:IntKind.u64.wrap (-1)=18446744073709551615:=by decide
 have x4:IntKind.u8.wrap 10=10:=by decide
 have x5:IntKind.u64.wrap 10=10:=by decide
 have u0:aH []=0:=rfl;simp [Lk,h0,en,x1,x2,x3,←hRR];refine bT (α:=Nat) (fun i=>⟨[(1,i6 10),(8,.bool false),(10,u 1844674407370955162),(11,u 18446744073709551615),(12,.bool false),(13,u (aH (s.take i))),(99,.sl RR),(100,i6 s.length),(101,i6 i)],[],[]⟩)
  (fun i=>i≤s.length) (fun i=>s.length - i) ?_ 0 (jI _) ?_
 ·rintro K i hK h1;by_cases g:i<s.length
  ·have g':(i:Int)<s.length:=by omega
   have gR:i<RR.length:=by omega
   have ra:=rat i g gR;have dq:=(bf _).1 (fC.1 hd _ (rL g));have t1:IntKind.i64.wrap ((i:Int)+1)=(i+1:Nat):=by rw [an]<;>omega
   have fin:=fun σ' hσ=>hK (i+1) σ' g (by omega) hσ
   rw [Gy g,fp] at fin;have vl:=b18 i h1;clear hK rat b18 hd;generalize aH (s.take i)=v at *
   generalize s[i]=c at *
   have q1:((c.toNat:Int)==95)=false:=dh.2 (by omega);have q2:(48:Int)≤c.toNat:=by omega
   have q3:(c.toNat:Int)≤57:=by omega
   have w1:IntKind.u8.wrap ((c.toNat:Int) - 48)=((c.toNat - 48:Nat):Int):=by rw [AH]<;>omega
   have dl:c.toNat - 48≤9:=by omega
   generalize c.toNat - 48=d at *
   have q4: ¬(10:Int)≤d:=by omega
   have q5: ¬(1844674407370955162:Int)≤v:=by omega
   have w2:IntKind.u64.wrap ((v:Int)*10)=((10*v:Nat):Int):=by rw [cN]<;>omega
   have w3:IntKind.u64.wrap (d:Int)=d:=by rw [cN]<;>omega
   have w4:IntKind.u64.wrap (((10*v:Nat):Int)+d)=((10*v+d:Nat):Int):=by rw [cN]<;>omega
   have q6: ¬((10*v+d:Nat):Int)<((10*v:Nat):Int):=by omega
   have q7: ¬(18446744073709551615:Int)<((10*v+d:Nat):Int):=by omega
   generalize 10*v+d=z2 at *
   generalize 10*v=z1 at *
   simp [g,g',gR,rl,ra,q1,q2,q3,w1,x4,q4,q5,x5,w2,w3,w4,q6,q7];refine fin _ ?_;apply am<;>simp [t1]
  ·obtain rfl:i=s.length:=by omega
   have g': ¬(s.length:Int)<s.length:=by omega
   rw [sg];clear hK;simp [g']
 ·apply am<;>simp [x1,x2,x3,u0,hRR,m6]
theorem FZ (s:List UInt8) (h0:s≠[]) (hd:s.all ay=true) (hl:s.length≤18):Sp Tryz.prog gl 192 [.str s,i6 10,i6 64] (.tup [u (aH s),.nili]):=by
 refine N0 rfl rfl ?_;have H:=FY s h0 hd hl;generalize aH s=n at *
 simp [Lc];refine ax _ _ ((H.h)) ?_;simp
theorem PV (tl:List UInt8) (h0:tl≠[]) (h3: ¬3<tl.length):aH ((tl++[48,48]).take 3)=jC tl 3:=by
 rcases tl with _|⟨a,_|⟨b,_|⟨c,_|⟨d,t⟩⟩⟩⟩
 ·exact absurd rfl h0
 ·simp [aH,jC,xA]
 ·simp [aH,jC,xA]
 ·simp [aH,jC,xA]
 ·simp at h3
theorem rx (tl:List UInt8) (h0:tl≠[]) (h3: ¬3<tl.length):((tl++[48,48]).take 3).length=3:=by
 have:=vz.2 h0
 rw [sj,cG];simp;omega
theorem F4 (tl:List UInt8) (h:tl.all ay=true):((tl++[48,48]).take 3).all ay=true:=by
 rw [fC] at h ⊢;intro x hx;rcases gg.1 (BH hx) with hx|hx
 ·exact h x hx
 ·simp at hx;subst hx;rfl
theorem vh (s:List UInt8) (hl:s.length≤1000000) (hp:(s.takeWhile (bF 46)).length<s.length):
  Sp Tryz.prog gl 148 [.str s] (bz 4 (uY (s.takeWhile (bF 46)) (s.drop ((s.takeWhile (bF 46)).length+1)))).av:=by
 refine NK rfl rfl ?_;have CB:=ro 46 s hl;unfold tL at CB;rw [if_pos hp] at CB;have hl1:(s.takeWhile (bF 46)).length≤1000000:=by omega
 have hl2:(s.drop ((s.takeWhile (bF 46)).length+1)).length≤1000000:=by rw [sn];omega
 generalize s.drop ((s.takeWhile (bF 46)).length+1)=tl at *
 generalize s.takeWhile (bF 46)=hd at *
 have NU:=mU hd hl1;have TR:=lF tl hl2;have TN:=n9 tl;have nlt:=BB hd;unfold uY;generalize jw hd=q at *
 generalize Lib.trimS tl [48,49,50,51,52,53,54,55,56,57]=tr at *
 obtain ⟨n,e⟩:=q;unfold Ih at NU;dsimp only at NU nlt ⊢;have dgF:fS tl=(tl.all ay&&decide (0<tl.length)):=rfl;have te:tl=[]→fS tl=false:=by rintro rfl;rfl
 have tf:tl.all ay=false→fS tl=false:=fun h=>by rw [dgF,h,lQ]
 have tg:tl≠[]→tl.all ay=true→fS tl=true:=fun h1 h2=>by
  rw [dgF,h2,kL,jE (vz.2 h1)]
 by_cases e0:e=0
 ·subst e0;rw [if_pos rfl] at NU;by_cases c1:tl=[]
  ·rw [if_pos (.inl (te c1))];subst c1;unfold bz TV.av;simp [pG];apply ab CB;simp;refine ax _ _ ((NU.h)) ?_;simp
  have c1':(tl==[])=false:=dh.2 c1;by_cases c2:3<tl.length
  ·have c2':(3:Int)<tl.length:=by omega
   rw [if_pos (.inr c2)];unfold bz TV.av;simp [pG];apply ab CB;simp;refine ax _ _ ((NU.h)) ?_;simp [c1,c1',c2,c2']
  have c2': ¬(3:Int)<tl.length:=by omega
  cases c3:tl.all ay
  ·rw [c3] at TN;have k1:(tr !=[])=true:=by unfold bne;rw [TN];rfl
   have k2: ¬tr=[]:=fun h=>by rw [h] at TN;cases TN
   rw [if_pos (.inl (tf c3))];unfold bz TV.av;simp [pG];apply ab CB;simp;refine ax _ _ ((NU.h)) ?_;simp [c1,c1',c2,c2'];apply ab TR;simp [k1,k2,show tr.isEmpty=false by rw [List.isEmpty_eq_false_iff];exact k2]
  rw [c3] at TN;have k2:tr=[]:=by simpa using TN
  subst k2;rw [if_neg (by rintro (h|h);rw [tg c1 c3] at h;cases h;exact c2 h),if_neg (by decide)];have f3:=PV tl c1 c2;have PU:=FZ ((tl++[48,48]).take 3) (fun h=>by have:=rx tl c1 c2;rw [h] at this;cases this) (F4 tl c3) (by rw [rx tl c1 c2];omega);rw [f3] at PU;have fl:jC tl 3<1000:=u7 tl (vc (tg c1 c3)) 3;have fle:=rx tl c1 c2;have fle':3≤(tl++[48,48]).length:=by rw [sj] at fle;omega
  have fle2:(3:Int)≤((tl++[48,48]).length:Int):=by omega
  have fle3:3≤tl.length+2:=by simpa using fle'
  have fle4:(3:Int)≤(tl.length:Int)+2:=by omega
  have fle5:1≤tl.length:=by omega
  have fle6:tl.length≤9223372036854775805:=by omega
  clear fle f3 tg tf te dgF;generalize jC tl 3=t at *
  have TM:=lr n 1000 nlt (by omega);have XA:=nV (n*1000) t (by omega) (by omega);rw [if_pos (by omega)] at XA;have ws: ∀z,wide z= .agg [u (z / 18446744073709551616),u (z%18446744073709551616)]:=fun _=>rfl
  have wt:wide t= .agg [u 0,u t]:=by rw [ws,Nat.div_eq_of_lt (by omega),vk (by omega)]
  rw [wt] at XA;have w3:=ws (n*1000);rw [w3] at TM XA;have h2:n*1000+t<18446744073709551616∨18446744073709551616≤n*1000+t:=by omega
  have hs:n*1000+t<340282366920938463463374607431768211456:=by omega
  rcases h2 with h2|h2
  ·have w2:wide (n*1000+t)= .agg [u 0,u (n*1000+t:Nat)]:=by rw [ws,Nat.div_eq_of_lt h2,vk h2]
   rw [w2] at XA;rw [if_neg (by omega),Jq 1000 n];unfold bz;dsimp only;rw [if_pos rfl];unfold TV.av;clear w2 w3 ws wt h2 hs;generalize n*1000+t=z at *
   generalize n*1000 / 18446744073709551616=a1 at *
   generalize n*1000%18446744073709551616=a0 at *
   simp [pG];apply ab CB;simp;refine ax _ _ ((NU.h)) ?_;simp [c1,c1',c2,c2'];apply ab TR;simp [fle',fle2,fle3,fle4,fle5,fle6];refine ax _ _ ((PU.h)) ?_;simp;apply ab TM;simp;apply ab XA;simp
  ·obtain ⟨h1,hh1⟩: ∃h1,h1=(n*1000+t) / 18446744073709551616:=⟨_,rfl⟩;have g1:0<h1:=by omega
   have g1':(0:Int)<h1:=by omega
   have w2:=ws (n*1000+t);rw [←hh1] at w2;rw [w2] at XA;rw [if_pos (by omega)];unfold bz;dsimp only;rw [if_neg (by decide)];unfold TV.av;clear w2 w3 ws wt h2 hs hh1;generalize (n*1000+t)%18446744073709551616=z at *
   generalize n*1000 / 18446744073709551616=a1 at *
   generalize n*1000%18446744073709551616=a0 at *
   simp [pG];apply ab CB;simp;refine ax _ _ ((NU.h)) ?_;simp [c1,c1',c2,c2'];apply ab TR;simp [fle',fle2,fle3,fle4,fle5,fle6];refine ax _ _ ((PU.h)) ?_;simp;apply ab TM;simp;apply ab XA;simp [g1,g1']
 ·rw [if_neg e0] at NU;by_cases e5:e=5
  ·subst e5
   have:(if fS tl=false∨3<tl.length then ((0:Nat),(5:Int)) else if (5:Int)≠0 then (0,5) else if (18446744073709551615 - jC tl 3) / 1000<n then (0,8) else (1000*n+jC tl 3,0))=(0,5):=by
    split
    ·rfl
    ·rfl
   rw [this];unfold bz TV.av;simp [pG];apply ab CB;simp;refine ax _ _ ((NU.h)) ?_;simp
  have e5':(e==5)=false:=dh.2 e5;by_cases c1:tl=[]
  ·rw [if_pos (.inl (te c1))];subst c1;unfold bz TV.av;simp [pG];apply ab CB;simp;refine ax _ _ ((NU.h)) ?_;simp [e5,e5']
  have c1':(tl==[])=false:=dh.2 c1;by_cases c2:3<tl.length
  ·have c2':(3:Int)<tl.length:=by omega
   rw [if_pos (.inr c2)];unfold bz TV.av;simp [pG];apply ab CB;simp;refine ax _ _ ((NU.h)) ?_;simp [e5,e5',c1,c1',c2,c2']
  have c2': ¬(3:Int)<tl.length:=by omega
  cases c3:tl.all ay
  ·rw [c3] at TN;have k1:(tr !=[])=true:=by unfold bne;rw [TN];rfl
   have k2: ¬tr=[]:=fun h=>by rw [h] at TN;cases TN
   rw [if_pos (.inl (tf c3))];unfold bz TV.av;simp [pG];apply ab CB;simp;refine ax _ _ ((NU.h)) ?_;simp [e5,e5',c1,c1',c2,c2'];apply ab TR;simp [k1,k2,show tr.isEmpty=false by rw [List.isEmpty_eq_false_iff];exact k2]
  rw [c3] at TN;have k2:tr=[]:=by simpa using TN
  subst k2;rw [if_neg (by rintro (h|h);rw [tg c1 c3] at h;cases h;exact c2 h),if_pos e0];unfold bz;dsimp only;rw [if_neg e0];unfold TV.av;simp [pG];apply ab CB;simp;refine ax _ _ ((NU.h)) ?_;simp [e5,e5',c1,c1',c2,c2'];apply ab TR;simp
def cQ (r:Int):Nat:=if r=119 then 0 else if r=100 then 1 else if r=104 then 2 else if r=109 then 3 else if r=115 then 4 else 5
def r9 (j:Nat):Nat:=if j=0 then 1000000 else if j=1 then 604800 else if j=2 then 86400 else if j=3 then 3600 else if j=4 then 60 else 1
theorem vi (r:Int):(cQ r=5∧aU r=0)∨(cQ r<5∧aU r=r9 (cQ r+1)):=by
 unfold cQ aU;repeat' split
 all_goals first|exact .inr ⟨by decide,by decide⟩|exact .inl ⟨rfl,rfl⟩
theorem Im {i j:Nat} (hi:i<5) (hj:j≤5):r9 j≤r9 (i+1)↔i<j:=by
 have h: ∀a:Fin 5,∀b:Fin 6,(r9 b.1≤r9 (a.1+1)↔a.1<b.1):=by decide
 exact h ⟨i,hi⟩ ⟨j,by omega⟩
theorem F5 (j:Nat):1≤r9 j∧r9 j≤1000000:=by
 unfold r9;repeat' split
 all_goals omega
def Io:List Int→Nat→Nat→Bool→Nat→Bool→Nat×Int
 |[],sum,p,dg,j,far=>if dg=true then (0,5) else if far=true then (0,8) else (sum,0)
 |r::l,sum,p,dg,j,far=>
  if cJ r=true then Io l sum (min (p*10+(r - 48).toNat) 253402300800) true j (far||decide (253402300799<p*10+(r - 48).toNat))
  else if cQ r<j∨cQ r=5∨dg=false then (0,5)
  else Io l (min (sum+min (p*aU r) 253402300800) 253402300800) 0 false (cQ r+1) ((far||decide (253402300799<p*aU r))||decide (253402300799<sum+min (p*aU r) 253402300800))
def jD (s:List UInt8):Nat×Int:=if s=[] then (0,5) else Io (ag s 0) 0 0 false 0 false
theorem xH {r:Int} (h:r<0∨128≤r):cQ r=5∧aU r=0∧cJ r=false:=by
 unfold cQ aU cJ;refine ⟨?_,?_,oV (by omega)⟩
 ·rw [if_neg (by omega),if_neg (by omega),if_neg (by omega),if_neg (by omega),if_neg (by omega)]
 ·rw [if_neg (by omega),if_neg (by omega),if_neg (by omega),if_neg (by omega),if_neg (by omega)]
theorem Ip (s:List UInt8): ∀k i n la sm fr,s.length - i≤k→ ∀sum p dg j far,j≤5→la=r9 j→p=min n 253402300800→far=(fr||decide (253402300799<n))→(fr=false→sum=sm)→(dg=false→n=0)→sm≤253402300799→
  Io (ag s i) sum p dg j far=uW (s.drop i) dg n la sm fr:=by
 intro k;induction k with
 |zero=>
  intro i n la sm fr h sum p dg j far hj hla hp hfar hsum hdg hsm;rw [aD (by omega),Aq (by omega),Io,uW];cases dg
  ·rw [if_neg Bool.false_ne_true,if_neg Bool.false_ne_true]
   have:=hdg rfl
   subst this;rw [show decide (253402300799<0)=false from rfl,Jp] at hfar;subst hfar;cases far
   ·rw [if_neg Bool.false_ne_true,if_neg Bool.false_ne_true,hsum rfl]
   ·rfl
  ·rfl
 |succ k ih=>
  intro i n la sm fr h sum p dg j far hj hla hp hfar hsum hdg hsm;by_cases g:i<s.length
  rotate_left
  ·rw [aD g,Aq (by omega),Io,uW];cases dg
   ·rw [if_neg Bool.false_ne_true,if_neg Bool.false_ne_true]
    have:=hdg rfl
    subst this;rw [show decide (253402300799<0)=false from rfl,Jp] at hfar;subst hfar;cases far
    ·rw [if_neg Bool.false_ne_true,if_neg Bool.false_ne_true,hsum rfl]
    ·rfl
   ·rfl
  rw [aQ g,sf g,Io,uW];rcases iX s i g with ⟨a,e⟩|⟨a,e⟩
  rotate_left
  ·have u1:=xH e;have u2:=xH (r:=(s[i].toNat:Int)) (by omega);have d2:ay s[i]=false:=by
    cases hd:ay s[i]
    ·rfl
    ·have:=(bf _).1 hd
     omega
   rw [u1.2.2,u1.1,u2.2.1,d2,if_neg Bool.false_ne_true,if_neg Bool.false_ne_true,if_pos (Or.inr (Or.inl rfl)),if_pos (Or.inr (Or.inl rfl))]
  ·rw [e];dsimp only;have hd:cJ (s[i].toNat:Int)=ay s[i]:=by
    unfold cJ ay;rw [Bool.eq_iff_iff,lK,lK];omega
   rw [hd];cases hD:ay s[i]
   ·rw [if_neg Bool.false_ne_true,if_neg Bool.false_ne_true];have U:=vi (s[i].toNat:Int);have c:(cQ (s[i].toNat:Int)<j∨cQ (s[i].toNat:Int)=5∨dg=false)↔(dg=false∨aU (s[i].toNat:Int)=0∨la≤aU (s[i].toNat:Int)):=by
     rw [hla];rcases U with ⟨h1,h2⟩|⟨h1,h2⟩
     ·rw [h1,h2];simp
     ·rw [h2,Im h1 hj]
      have:=F5 (cQ (s[i].toNat:Int)+1)
      constructor
      ·rintro (h|h|h)
       ·exact .inr (.inr h)
       ·omega
       ·exact .inl h
      ·rintro (h|h|h)
       ·exact .inr (.inr h)
       ·omega
       ·exact .inl h
    by_cases cc:(dg=false∨aU (s[i].toNat:Int)=0∨la≤aU (s[i].toNat:Int))
    ·rw [if_pos cc,if_pos (c.2 cc)]
    rw [if_neg cc,if_neg (fun h=>cc (c.1 h))];have u0:1≤aU (s[i].toNat:Int):=by omega
    have U:cQ (s[i].toNat:Int)<5∧aU (s[i].toNat:Int)=r9 (cQ (s[i].toNat:Int)+1):=by
     rcases U with ⟨h1,h2⟩|h
     ·omega
     ·exact h
    clear c cc;generalize cQ (s[i].toNat:Int)=ix at *
    have un':=U.2;generalize hun:aU (s[i].toNat:Int)=un at *
    have dv:253402300799 / un<n↔253402300799<n*un:=by rw [Nat.div_lt_iff_lt_mul (by omega)]
    have big:253402300800≤n→253402300799<n*un:=fun h=>by
     have:=Nat.le_mul_of_pos_right n (show 0<un by omega)
     omega
    have big':253402300799<253402300800*un:=by
     have:=Nat.le_mul_of_pos_right 253402300800 (show 0<un by omega)
     omega
    by_cases v1:253402300799 / un<n
    ·rw [if_pos v1];have v2:=dv.1 v1;refine ih (i+1) _ _ _ _ (by omega) _ _ _ _ _ (by omega) un' rfl ?_ (fun h=>by cases h) (fun _=>rfl) hsm;rw [Bool.true_or]
     have:253402300799<p*un:=by
      subst hp;by_cases c:n≤253402300800
      ·rw [Nat.min_eq_left c];exact v2
      ·rw [Nat.min_eq_right (by omega)];exact big'
     rw [jE this,Bool.or_true,Bool.true_or]
    rw [if_neg v1];have v2: ¬253402300799<n*un:=fun h=>v1 (dv.2 h)
    have n1:n<253402300800:=by
     rcases Nat.lt_or_ge n 253402300800 with h|h
     ·exact h
     ·exact absurd (big h) v2
    have pn:p=n:=by omega
    subst pn;clear hp big big' dv v1;rw [oV (show ¬253402300799<p by omega),Jp] at hfar;subst hfar;generalize p*un=a at *
    rw [oV v2,Jp,Nat.min_eq_left (show a≤253402300800 by omega)];by_cases v3:253402300799<sm+a
    ·rw [if_pos v3];refine ih (i+1) _ _ _ _ (by omega) _ _ _ _ _ (by omega) un' rfl ?_ (fun h=>by cases h) (fun _=>rfl) (by omega);rw [Bool.true_or];cases far
     ·rw [hsum rfl,jE v3];rfl
     ·rfl
    ·rw [if_neg v3];refine ih (i+1) _ _ _ _ (by omega) _ _ _ _ _ (by omega) un' rfl ?_ ?_ (fun _=>rfl) (by omega)
     ·rw [show decide (253402300799<0)=false from rfl,Jp];cases far
      ·rw [hsum rfl,oV v3];rfl
      ·rfl
     ·intro h;subst h;rw [hsum rfl];omega
   ·rw [if_pos rfl,if_pos rfl,show ((s[i].toNat:Int) - 48).toNat=s[i].toNat - 48 by omega];generalize s[i].toNat - 48=d at *
    refine ih (i+1) _ _ _ _ (by omega) _ _ _ _ _ hj hla ?_ ?_ hsum (fun h=>by cases h) hsm
    ·subst hp;by_cases c:n≤253402300799
     ·rw [if_pos c];omega
     ·rw [if_neg c];omega
    ·subst hp hfar;by_cases c:n≤253402300799
     ·rw [if_pos c,oV (show ¬253402300799<n by omega),Jp];congr 1
      rw [Nat.min_eq_left (by omega),Jq]
     ·rw [if_neg c,jE (show 253402300799<n by omega),Bool.or_true,Bool.true_or]
theorem ry (s:List UInt8):jD s=rh s:=by
 unfold jD rh;by_cases e:s=[]
 ·rw [if_pos e,if_pos e]
 ·rw [if_neg e,if_neg e,←Gz (l:=s)];conv=>lhs;rw [Gz]
  exact Ip s s.length 0 0 1000000 0 false (by omega) 0 0 false 0 false (by omega) rfl rfl rfl (fun _=>rfl) (fun _=>rfl) (by omega)
theorem C2 (s:List UInt8) (c:UInt8):Sp Tryz.prog gl 243 [.str s,.int .u8 c.toNat] (i6 (Lib.indexByte s c)):=by
 refine wA (fn:=Tryz.f243) (e:=Extern.BytealgIndexByte.indexByte) Tryz.func243 (by kernel_rfl) (by kernel_rfl) (by kernel_rfl) (by kernel_rfl) ?_;intro S gb w vs h;simp only [aa,PR] at h;obtain ⟨_,_,rfl,rfl,_,_,rfl,rfl,rfl⟩:=h;refine ⟨_,Lib.run_indexByteString _ _ w,?_⟩;simp [PR]
theorem C3 (s:List UInt8) (c:UInt8):Sp Tryz.prog gl 228 [.str s,.int .u8 c.toNat] (i6 (Lib.indexByte s c)):=by
 refine Oh rfl rfl ?_;have H:=C2 s c;generalize Lib.indexByte s c=k at *
 simp [Lm];apply ab H;simp
theorem tN (s:List UInt8) (c:UInt8):Sp Tryz.prog gl 238 [.str s,.int .u8 c.toNat] (i6 (Lib.indexByte s c)):=by
 refine Oi rfl rfl ?_;have H:=C3 s c;generalize Lib.indexByte s c=k at *
 simp [Ln];apply ab H;simp
def KU (r:Int):Prop:=(0≤r∧r<55296)∨(57343<r∧r≤1114111)
theorem C4 (r:Int) (h:KU r):Sp Tryz.prog gl 239 [i3 r] (.bool true):=by
 refine Lo rfl rfl ?_;by_cases c:r<55296
 ·have c0:0≤r:=by rcases h with h|h<;>omega
  simp [vx,c,c0]
 ·have c0:0≤r:=by rcases h with h|h<;>omega
  have c1:57343<r:=by rcases h with h|h<;>omega
  have c2:r≤1114111:=by rcases h with h|h<;>omega
  simp [vx,c,c0,c1,c2]
theorem F6 (r:Int) (h:KU r) (hr:128≤r): ∃a c,(Utf8.encode r).data.toList=a++[c]∧1≤a.length∧a.length≤3∧128≤c.toNat:=by
 have hv:Utf8.valid r=true:=by
  unfold Utf8.valid;simp;rcases h with h|h<;>omega
 have top: ∀n:Nat,128≤(UInt8.ofNat (128+n%64)).toNat:=fun n=>by
  rw [UInt8.toNat_ofNat'];omega
 unfold Utf8.encode;simp only [hv,if_true];rw [if_neg (by omega)];split
 ·exact ⟨[_],_,rfl,by simp,by simp,top _⟩
 ·split
  ·exact ⟨[_,_],_,rfl,by simp,by simp,top _⟩
  ·exact ⟨[_,_,_],_,rfl,by simp,by simp,top _⟩
def Iq (s:List UInt8) (r:Int):Int:=if r<128 then Lib.indexByte s (UInt8.ofNat r.toNat) else -1
theorem F7 (s:List UInt8) (hl:s.length≤1000) (hs: ∀b∈s,b.toNat<128) (r:Int) (h:KU r):Sp Tryz.prog gl 219 [.str s,i3 r] (i6 (Iq s r)):=by
 refine Oe rfl rfl ?_;have h0:0≤r:=by rcases h with h|h<;>omega
 unfold Iq;by_cases c1:r<128
 ·rw [if_pos c1];have w:IntKind.u8.wrap r=((UInt8.ofNat r.toNat).toNat:Int):=by
   rw [UInt8.toNat_ofNat',AH]<;>omega
  have H:=tN s (UInt8.ofNat r.toNat);generalize Lib.indexByte s (UInt8.ofNat r.toNat)=k at *
  generalize ((UInt8.ofNat r.toNat).toNat:Int)=z at *
  simp [Gw,c1,h0,w];apply ab H;simp
 rw [if_neg c1];by_cases c2:r=65533
 ·subst c2;simp [Gw];refine bT (α:=Nat) (fun i=>⟨[(0,.str s),(175,.itp 175)],[(.it 175,[.itr s i])],[]⟩)
   (fun i=>i≤s.length) (fun i=>s.length - i) ?_ 0 ?_ ?_
  ·rintro K i hK h1;by_cases g:i<s.length
   ·have sr:=cg s i g;have sa:=hs _ (rL g);rcases iX s i g with ⟨a,e⟩|⟨a,e⟩
    rotate_left
    ·omega
    rw [e,if_neg (by omega)] at sr;have n1:((s[i].toNat:Int)==65533)=false:=dh.2 (by omega);have n2: ¬(s[i].toNat:Int)=65533:=by omega
    have fin:=fun σ' hσ=>hK (i+1) σ' (by omega) (by omega) hσ
    clear hK e;generalize (s[i].toNat:Int)=z at *
    simp [g,sr,n1,n2];refine fin _ ?_;apply am<;>simp
   ·clear hK;simp [g]
  ·exact jI _
  ·apply am<;>simp
 have c2':(r==65533)=false:=dh.2 c2;have V:=C4 r h;obtain ⟨a,c,he,a1,a3,hc⟩:=F6 r h (by omega);have hcn: ∀b∈s,b≠c:=fun b hb e=>by
  have:=hs b hb
  rw [e] at this;omega
 have hlen:(a++[c]).length=a.length+1:=by simp
 have hat: ∀h2,(a++[c])[a.length]'h2=c:=fun h2=>by simp
 have hlt:a.length<(a++[c]).length:=by omega
 generalize a++[c]=bs at *
 have w1:IntKind.i64.wrap ((bs.length:Int) - 1)=(a.length:Nat):=by rw [an]<;>omega
 generalize a.length=n at *
 simp [Gw,c1,c2,c2',h0];apply ab V;simp [he,w1];refine bT (α:=Nat) (fun i=>⟨[(0,.str s),(1,i3 r),(7,.str bs),(8,i6 n),(9,i6 n),(10,i6 0)],[],[]⟩)
   (fun i=>True) (fun i=>1) ?_ 0 ?_ ?_
 ·rintro K i hK h1;clear hK h1;by_cases g:n<s.length
  ·have g':(n:Int)<s.length:=by omega
   have hsn:((s[n].toNat:Int)!=(c.toNat:Int))=true:=by
    rw [bne_iff_ne];intro e;exact hcn _ (rL g) (KK.1 (by omega))
   have t1:IntKind.i64.wrap ((n:Int)+1)=(n+1:Nat):=by rw [an]<;>omega
   have H:=tN (s.drop (n+1)) c;rw [mZ c (s.drop (n+1)) (fun b hb=>hcn b (List.mem_of_mem_drop hb))] at H;have q1:n+1≤s.length:=by omega
   have q2:((n+1:Nat):Int)≤s.length:=by omega
   have q3:(0:Int)≤((n+1:Nat):Int):=by omega
   have q4:((n+1:Nat):Int).toNat=n+1:=by omega
   generalize ((n+1:Nat):Int)=m at *
   simp [g,g',hsn,hlt,hat,t1,q1,q2,q3,q4];apply ab H;simp
  ·have g': ¬(n:Int)<s.length:=by omega
   simp [g,g']
 ·exact True.intro
 ·apply am<;>simp
def lL:List UInt8:=[119,100,104,109,115]
theorem Kx (j:Nat): ∀b∈lL.drop j,b.toNat<128:=fun b hb=>by
 have: ∀b∈lL,b.toNat<128:=by decide
 exact this b (List.mem_of_mem_drop hb)
theorem C5 {r:Int} (h:cQ r=5):r≠119∧r≠100∧r≠104∧r≠109∧r≠115:=by
 unfold cQ at h;refine ⟨?_,?_,?_,?_,?_⟩<;>rintro rfl<;>revert h<;>decide
theorem F8 (j:Nat) (hj:j≤5) (r:Int) (h0:0≤r):Iq (lL.drop j) r=if j≤cQ r∧cQ r<5 then ((cQ r - j:Nat):Int) else -1:=by
 by_cases h:cQ r=5
 ·have n:=C5 h;rw [h,if_neg (by omega)];unfold Iq;split
  ·rename_i c;refine mZ _ _ fun b hb=>?_
   have hb:=List.mem_of_mem_drop hb;have t:(UInt8.ofNat r.toNat).toNat=r.toNat:=by rw [UInt8.toNat_ofNat'];omega
   intro e;rw [←e] at t;simp [lL] at hb;rcases hb with rfl|rfl|rfl|rfl|rfl<;>(simp at t;omega)
  ·rfl
 ·have hr:r=119∨r=100∨r=104∨r=109∨r=115:=by
   unfold cQ at h;by_cases h1:r=119
   ·exact .inl h1
   by_cases h2:r=100
   ·exact .inr (.inl h2)
   by_cases h3:r=104
   ·exact .inr (.inr (.inl h3))
   by_cases h4:r=109
   ·exact .inr (.inr (.inr (.inl h4)))
   by_cases h5:r=115
   ·exact .inr (.inr (.inr (.inr h5)))
   rw [if_neg h1,if_neg h2,if_neg h3,if_neg h4,if_neg h5] at h;exact absurd rfl h
  have hj:j=0∨j=1∨j=2∨j=3∨j=4∨j=5:=by omega
  rcases hr with rfl|rfl|rfl|rfl|rfl<;>rcases hj with rfl|rfl|rfl|rfl|rfl|rfl<;>decide
def Ir (sum p:Nat) (dg:Bool) (left:List UInt8) (far:Bool):List AV:=[i6 sum,i6 p,.bool dg,.str left,.bool far]
theorem Af (n sum p:Nat) (dg:Bool) (left:List UInt8) (far:Bool) (d:Nat) (b:Id) (hb:b.isIt=false) (hbd:b.isNw d=false):
  b7 Tryz.prog gl 218 d ⟨[.ptr b 0,i6 n],[(b,Ir sum p dg left far)],[]⟩ ⟨i6 (min n 253402300800:Nat),[(b,Ir sum p dg left (far||decide (253402300799<n)))],[]⟩:=by
 refine Od rfl ?_;have hib:=aP hbd;unfold Ir;simp only [az,bE,a7,AV.mp,bK,Pl.mp];by_cases c:253402300799<n
 ·have c':(253402300799:Int)<n:=by omega
  have e:((min n 253402300800:Nat):Int)=253402300800:=by omega
  rw [jE c,Bool.or_true,e];simp [Jm,c,c'];apply ai<;>simp [hib,hb]
 ·have c': ¬(253402300799:Int)<n:=by omega
  have e:((min n 253402300800:Nat):Int)=n:=by omega
  rw [oV c,Jp,e];simp [Jm,c,c'];apply ai<;>simp [hib,hb]
structure Sx where
 sum:Nat
 p:Nat
 dg:Bool
 j:Nat
 far:Bool
def Sx.box (x:Sx):List AV:=Ir x.sum x.p x.dg (lL.drop x.j) x.far
def Sx.take (x:Sx) (r:Int):Sx×Bool:=
 if cJ r=true then ({x with p:=min (x.p*10+(r - 48).toNat) 253402300800,dg:=true,far:=x.far||decide (253402300799<x.p*10+(r - 48).toNat)},true)
 else if cQ r<x.j∨cQ r=5∨x.dg=false then (x,false)
 else (⟨min (x.sum+min (x.p*aU r) 253402300800) 253402300800,0,false,cQ r+1,(x.far||decide (253402300799<x.p*aU r))||decide (253402300799<x.sum+min (x.p*aU r) 253402300800)⟩,true)
structure F9 (x:Sx):Prop where
 s:x.sum≤253402300800
 p:x.p≤253402300800
 j:x.j≤5
theorem F9.step {x:Sx} (h:F9 x) (r:Int):F9 (x.take r).1:=by
 have h1:=h.s;have h2:=h.p;have h3:=h.j;have u5:cQ r≤5:=by
  have:=vi r
  omega
 unfold Sx.take;split
 ·exact ⟨h1,Nat.min_le_right _ _,h3⟩
 ·split
  ·exact h
  ·rename_i c;exact ⟨Nat.min_le_right _ _,jI _,by simp only;omega⟩
theorem xI (x:Sx) (h:F9 x) (r:Int) (hr:KU r) (d:Nat) (b:Id) (hb:b.isIt=false) (hbd:b.isNw d=false):
  b7 Tryz.prog gl 195 d ⟨[.ptr b 0,i3 r],[(b,x.box)],[]⟩ ⟨.bool (x.take r).2,[(b,(x.take r).1.box)],[]⟩:=by
 refine N3 rfl ?_;have hib:=aP hbd;have hs:=h.s;have hp:=h.p;have hj:=h.j;obtain ⟨sum,p,dg,j,far⟩:=x;simp only at hs hp hj;have h0:0≤r:=by rcases hr with h|h<;>omega
 unfold Sx.take Sx.box;dsimp only;have R:=F7 (lL.drop j) (by rw [sn];simp [lL];omega) (Kx j) r hr;have HE:=fun (n sum p:Nat) (dg:Bool) (left:List UInt8) (far:Bool) (e:Nat)=>Af n sum p dg left far e (.up b) hb
 unfold Ir at *
 cases hd:cJ r
 ·rw [if_neg (by decide)];have d0: ¬(48≤r∧r≤57):=fun q=>by unfold cJ at hd;rw [jE q] at hd;cases hd
  have IU:=F8 j hj r h0;have U:=ft r;have ul:=FU r;have wl:lL.length=5:=rfl;rw [IU] at R;by_cases c1:cQ r<j∨cQ r=5∨dg=false
  ·rw [if_pos c1];by_cases c2:j≤cQ r∧cQ r<5
   ·have hdg:dg=false:=by
     rcases c1 with c|c|c
     ·omega
     ·omega
     ·exact c
    subst hdg;rw [if_pos c2] at R;generalize cQ r - j=q at *
    generalize lL.drop j=left at *
    have q0: ¬(q:Int)<0:=by omega
    clear IU c1 c2 HE;simp only [az,bE,a7,AV.mp,bK,Pl.mp];by_cases d1:48≤r
    ·have d2: ¬r≤57:=by omega
     simp [vw,d1,d2];apply ab R;simp [q0];apply ai<;>simp [hib,hb]
    ·simp [vw,d1];apply ab R;simp [q0];apply ai<;>simp [hib,hb]
   ·rw [if_neg c2] at R;generalize lL.drop j=left at *
    clear IU c1 c2 HE;simp only [az,bE,a7,AV.mp,bK,Pl.mp];by_cases d1:48≤r
    ·have d2: ¬r≤57:=by omega
     simp [vw,d1,d2];apply ab R;simp;apply ai<;>simp [hib,hb]
    ·simp [vw,d1];apply ab R;simp;apply ai<;>simp [hib,hb]
  rw [if_neg c1];have c2:j≤cQ r∧cQ r<5:=by
   have:=vi r
   omega
  have hdg:dg=true:=by
   cases dg
   ·exact absurd (.inr (.inr rfl)) c1
   ·rfl
  subst hdg;rw [if_pos c2] at R;have hdr:(lL.drop j).drop (cQ r - j+1)=lL.drop (cQ r+1):=by
   rw [List.drop_drop];congr 1
   omega
  have hll:(lL.drop j).length=5 - j:=by rw [sn,wl]
  obtain ⟨q,hq⟩: ∃q,q=cQ r - j:=⟨_,rfl⟩;have qb:q+1≤(lL.drop j).length:=by omega
  rw [←hq] at R hdr;have a0:p*aU r≤253402300800*604800:=Nat.mul_le_mul hp ul;have w1:IntKind.i64.wrap ((p:Int)*(aU r:Int))=((p*aU r:Nat):Int):=by
   rw [←Int.natCast_mul,an]<;>omega
  have HA:=HE (p*aU r) sum p true (lL.drop j) far;have w2:IntKind.i64.wrap ((sum:Int)+((min (p*aU r) 253402300800:Nat):Int))=((sum+min (p*aU r) 253402300800:Nat):Int):=by
   rw [an]<;>omega
  have HB:=HE (sum+min (p*aU r) 253402300800) sum p true (lL.drop j) (far||decide (253402300799<p*aU r));generalize decide (253402300799<sum+min (p*aU r) 253402300800)=f2 at *
  generalize decide (253402300799<p*aU r)=f1 at *
  generalize min (sum+min (p*aU r) 253402300800) 253402300800=s2 at *
  generalize sum+min (p*aU r) 253402300800=s1 at *
  generalize min (p*aU r) 253402300800=a1 at *
  generalize p*aU r=a at *
  generalize aU r=un at *
  generalize lL.drop (cQ r+1)=left2 at *
  generalize lL.drop j=left at *
  have q0: ¬(q:Int)<0:=by omega
  have q1:(0:Int)≤((q+1:Nat):Int):=by omega
  have q2:((q+1:Nat):Int)≤left.length:=by omega
  have q3:((q+1:Nat):Int).toNat=q+1:=by omega
  have t1:IntKind.i64.wrap ((q:Int)+1)=((q+1:Nat):Int):=by rw [an]<;>omega
  generalize ((q+1:Nat):Int)=m at *
  clear IU c1 c2 hq a0;simp only [az,bE,a7,AV.mp,bK,Pl.mp];by_cases d1:48≤r
  ·have d2: ¬r≤57:=by omega
   simp [vw,d1,d2];apply ab R;simp [q0];apply ab U;simp [w1];refine jl _ _ (HA _ rfl) ⟨?_,?_,?_,?_,?_,?_,?_⟩ ⟨?_,?_,?_⟩ ?_;iterate 10 (· simp [Pl.isB,Pl.isF,hb])
   simp [w2];refine jl _ _ (HB _ rfl) ⟨?_,?_,?_,?_,?_,?_,?_⟩ ⟨?_,?_,?_⟩ ?_;iterate 10 (· simp [Pl.isB,Pl.isF,hb])
   simp [t1,q1,q2,q3,hdr];apply ai<;>simp [hib,hb]
  ·simp [vw,d1];apply ab R;simp [q0];apply ab U;simp [w1];refine jl _ _ (HA _ rfl) ⟨?_,?_,?_,?_,?_,?_,?_⟩ ⟨?_,?_,?_⟩ ?_;iterate 10 (· simp [Pl.isB,Pl.isF,hb])
   simp [w2];refine jl _ _ (HB _ rfl) ⟨?_,?_,?_,?_,?_,?_,?_⟩ ⟨?_,?_,?_⟩ ?_;iterate 10 (· simp [Pl.isB,Pl.isF,hb])
   simp [t1,q1,q2,q3,hdr];apply ai<;>simp [hib,hb]
 ·rw [if_pos rfl];have d0:48≤r∧r≤57:=by unfold cJ at hd;exact xP hd
  clear R;obtain ⟨k,hk⟩: ∃k:Nat,r=k+48:=⟨(r - 48).toNat,by omega⟩;have w1:IntKind.i64.wrap ((p:Int)*10)=(p*10:Nat):=by rw [an]<;>omega
  have w2:IntKind.i32.wrap (r - 48)=k:=by rw [fk]<;>omega
  have w3:IntKind.i64.wrap (k:Int)=k:=by rw [an]<;>omega
  have w4:IntKind.i64.wrap (((p*10:Nat):Int)+k)=(p*10+k:Nat):=by rw [an]<;>omega
  rw [show (r - 48).toNat=k by omega];have HE:=HE (p*10+k) sum p dg (lL.drop j) far;clear hk;generalize p*10+k=z at *
  generalize lL.drop j=left at *
  generalize ((p*10:Nat):Int)=y at *
  simp only [az,bE,a7,AV.mp,bK,Pl.mp];simp [vw,d0.1,d0.2,w1,w2,w3,w4];refine aK _ _ (HE _ rfl) ⟨?_,?_,?_,?_,?_,?_,?_⟩ ?_;iterate 7 (· simp [hb])
  simp;apply ai<;>simp [hib,hb]
def oS:List Int→Sx→Option Sx
 |[],x=>some x
 |r::l,x=>if (x.take r).2=true then oS l (x.take r).1 else none
def BD:Option Sx→Nat×Int
 |none=>(0,5)
 |some x=>if x.dg=true then (0,5) else if x.far=true then (0,8) else (x.sum,0)
theorem oa: ∀(l:List Int) (x:Sx),BD (oS l x)=Io l x.sum x.p x.dg x.j x.far
 |[],x=>rfl
 |r::l,x=>by
  rw [oS,Io];unfold Sx.take;by_cases c:cJ r=true
  ·rw [if_pos c,if_pos c];dsimp only;rw [if_pos rfl,oa l]
  ·rw [if_neg c,if_neg c];by_cases c2:cQ r<x.j∨cQ r=5∨x.dg=false
   ·rw [if_pos c2,if_pos c2];rfl
   ·rw [if_neg c2,if_neg c2];dsimp only;rw [if_pos rfl,oa l]
theorem Ga (x:Sx) (r:Int):x.take (jv r)=x.take r:=by
 unfold jv;split
 ·rename_i c;subst c;unfold Sx.take;rw [show cJ 65533=false from rfl,show cJ (-1)=false from rfl,if_neg Bool.false_ne_true,if_neg Bool.false_ne_true,show cQ 65533=5 from rfl,show cQ (-1)=5 from rfl,if_pos (Or.inr (Or.inl rfl)),if_pos (Or.inr (Or.inl rfl))]
 ·rfl
theorem Gc (s:List UInt8) (i:Nat):KU (jv (ah s i).1):=by
 have h:=kI s i;unfold jv KU;rcases h with h|⟨h1,h2,h3⟩
 ·rw [if_pos h];omega
 ·rw [if_neg (by omega)];omega
theorem Ag (s:List UInt8) (hl:s.length≤1000000):Sp Tryz.prog gl 149 [.str s] (.tup [i6 (jD s).1,i6 (jD s).2]):=by
 refine NL rfl rfl ?_;unfold jD;by_cases e:s=[]
 ·subst e;rw [if_pos rfl];simp [Je];refine bT (α:=Nat) (fun i=>⟨[(0,.str []),(4,.ptr (.n 8) 0),(10,.itp 10)],[(.n 8,[i6 0,i6 0,.bool false,.str [119,100,104,109,115],.bool false]),(.it 10,[.itr [] 0])],[]⟩) (fun i=>True) (fun i=>1) ?_ 0 ?_ ?_
  ·rintro K i hK _;clear hK;simp
  ·exact True.intro
  ·apply am<;>simp
 rw [if_neg e];have en:(s==[])=false:=dh.2 e;obtain ⟨R,hR⟩: ∃R,R=oS (ag s 0) ⟨0,0,false,0,false⟩:=⟨_,rfl⟩;have hR2:=oa (ag s 0) ⟨0,0,false,0,false⟩;rw [←hR] at hR2;rw [←hR2];clear hR2;simp [Je];refine bT (α:=Nat×Sx) (fun y=>⟨[(0,.str s),(4,.ptr (.n 8) 0),(10,.itp 10)],[(.n 8,y.2.box),(.it 10,[.itr s y.1])],[]⟩)
  (fun y=>y.1≤s.length∧F9 y.2∧oS (ag s y.1) y.2=R) (fun y=>s.length - y.1) ?_ (0,⟨0,0,false,0,false⟩) ?_ ?_
 ·rintro K ⟨i,x⟩ hK ⟨h1,h2,h3⟩;simp only at h1 h2 h3;by_cases g:i<s.length
  ·rw [aQ g,oS] at h3;have sr:=mP s i g;have sp:=bA s i;have sw:=fN s i g;have T:=fun (e:Nat) (he:(Id.n 8).isNw e=false)=>xI x h2 (jv (ah s i).1) (Gc s i) e (.n 8) rfl he
   have so:=h2.step (ah s i).1;rw [Ga] at T;have bx0:x.box.length=5:=rfl;have bx1:bc x.box=[]:=rfl;have by0:(x.take (ah s i).1).1.box.length=5:=rfl;have by1:bc (x.take (ah s i).1).1.box=[]:=rfl;have fin:oS (ag s (i+(ah s i).2)) (x.take (ah s i).1).1=R→ ∀σ',e7 σ' ⟨[(0,.str s),(4,.ptr (.n 8) 0),(10,.itp 10)],[(.n 8,(x.take (ah s i).1).1.box),(.it 10,[.itr s (i+(ah s i).2)])],[]⟩→K σ':=
    fun hh σ' hσ=>hK (i+(ah s i).2,(x.take (ah s i).1).1) σ' ⟨sw,so,hh⟩ (by simp only;omega) hσ
   clear hK hR so;generalize (x.take (ah s i).1).2=ok at *
   generalize (x.take (ah s i).1).1=y at *
   generalize jv (ah s i).1=r at *
   generalize (ah s i).2=w at *
   cases ok
   ·rw [if_neg (by decide)] at h3;subst h3;clear fin;unfold Sx.box Ir at *
    simp [g,sr,BD];refine ax _ _ (T _ rfl) ?_;simp
   ·rw [if_pos rfl] at h3;have fin:=fin h3;clear h3;generalize BD R=Q at *
    unfold Sx.box Ir at *
    simp [g,sr];refine ax _ _ (T _ rfl) ?_;simp;refine fin _ ?_;apply am<;>simp
  ·rw [aD g,oS] at h3;subst h3;clear hK hR;unfold BD;dsimp only;obtain ⟨sum,p,dg,j,far⟩:=x;unfold Sx.box Ir;dsimp only;cases dg
   ·rw [if_neg (by decide)];cases far
    ·rw [if_neg (by decide)];simp [g,e,en]
    ·rw [if_pos rfl];simp [g,e,en]
   ·rw [if_pos rfl];simp [g,e,en]
 ·exact ⟨jI _,⟨by simp,by simp,by simp⟩,hR.symm⟩
 ·apply am<;>simp [Sx.box,Ir,lL]
end Go.Ai
