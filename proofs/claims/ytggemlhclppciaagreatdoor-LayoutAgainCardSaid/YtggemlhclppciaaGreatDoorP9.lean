/- P9: a part of the proof. Conditions: as each theorem says. -/
import Derived.Test.YtggemlhclppciaaGreatDoorP8
set_option maxHeartbeats 4000000
set_option linter.unusedSimpArgs false
set_option linter.unusedVariables false
set_option maxRecDepth 20000
namespace Go.Ai
open Go.Proofs
def iY (h:Nat×Bool) (t:Nat×Bool):Nat×Int:=
 if h.2=false∨t.2=false then (0,5) else if 100<h.1∨(h.1=100∧0<t.1) then (0,8) else ((h.1*10000%4294967296+t.1)%4294967296,0)
def Gd (s:List UInt8):Nat×Int:=
 if fO s [37]=false then (0,5)
 else if ((db s [37]).takeWhile (bF 46)).length<(db s [37]).length then
  iY (eD ((db s [37]).takeWhile (bF 46))) ((ve (ag ((db s [37]).drop (((db s [37]).takeWhile (bF 46)).length+1)) 0) 4).1,
   (ve (ag ((db s [37]).drop (((db s [37]).takeWhile (bF 46)).length+1)) 0) 4).2&&!fO ((db s [37]).drop (((db s [37]).takeWhile (bF 46)).length+1)) [48])
 else iY (eD (db s [37])) (0,true)
def Is (b:List UInt8) (d:Nat):Nat:=jC b d*10000+jC (b.drop (d+1)) 4
def C6 (s b:List UInt8) (d:Nat):Nat×Int:=
 if (b.take d).all ay=false∨(b.drop (d+1)).all ay=false then (0,5)
 else if (d<b.length∧(b.length - 1 - d<1∨4<b.length - 1 - d∨aS s (b.length - 1)=48))∨d=0∨(aS s 0=48∧1<d) then (0,5)
 else if 3<d then (0,8)
 else if 1000000<Is b d then (0,8) else (Is b d,0)
def Ah (s:List UInt8):Nat×Int:=
 if s.length<2∨aS s (s.length - 1)≠37 then (0,5)
 else C6 s (s.take (s.length - 1)) ((s.take (s.length - 1)).takeWhile (bF 46)).length
theorem kJ (l:List UInt8): ∀i,i≤l.length→jC l i=aH (l.take i)
 |0,_=>by rw [jC,Jo];rfl
 |i+1,h=>by
  have g:i<l.length:=by omega
  rw [jC,kJ l i (by omega),FV g,Gy g,fp]
theorem BE (l:List UInt8): ∀j,jC l (l.length+j)=aH l*10^j
 |0=>by rw [rE,kJ l _ (eV _),sg];simp
 |j+1=>by
  rw [←DE,jC,BE l j,uZ (by omega),Jr];rw [rE,Jq 10,Nat.mul_assoc]
theorem rz (s:List UInt8) (c:UInt8):fO s [c]=true↔0<s.length∧aS s (s.length - 1)=c.toNat:=by
 unfold fO;rw [aC,lK,yF,bP];constructor
 ·rintro ⟨h1,h2⟩;refine ⟨h1,?_⟩;have g:s.length - 1<s.length:=by omega
  rw [sf g] at h2;injection h2 with h2 _;rw [kb g,h2]
 ·rintro ⟨h1,h2⟩;refine ⟨h1,?_⟩;have g:s.length - 1<s.length:=by omega
  rw [kb g] at h2;rw [sf g,KK.1 h2,Aq (by omega)]
theorem kK (h:List UInt8):bm h=true↔h≠[]∧h.all ay=true∧ ¬(aS h 0=48∧1<h.length):=by
 unfold bm;cases h with
 |nil=>simp
 |cons a t=>
  have e:aS (a::t) 0=a.toNat:=rfl;rw [e];have q:(a !=48)=true↔a.toNat≠48:=by
   rw [bne_iff_ne];constructor
   ·intro h1 h2;exact h1 (KK.1 h2)
   ·intro h1 h2;exact h1 (by rw [h2];rfl)
  rw [aC,aC,BI,List.headD_cons,q,bP];simp only [List.isEmpty_cons,Bool.not_false,true_and,dT];constructor
  ·rintro ⟨h1,h2⟩;exact ⟨by simp,h1,by omega⟩
  ·rintro ⟨_,h1,h2⟩;exact ⟨h1,by omega⟩
theorem Aj (h:List UInt8) (hh:bm h=false):eD h=(0,false):=by
 unfold eD;rw [hh,if_neg (by decide)]
theorem Ak (h:List UInt8) (hh:bm h=true) (hl:3<h.length):eD h=(101,true):=by
 have:=(kK h).1 hh
 unfold eD;rw [if_pos hh,ii h h.length 0 (by omega) (by omega) this.2.1,if_pos (by omega)]
theorem C7 (h:List UInt8) (hh:bm h=true) (hl: ¬3<h.length):eD h=(min (aH h) 101,true):=by
 have:=(kK h).1 hh
 unfold eD;rw [if_pos hh,ii h h.length 0 (by omega) (by omega) this.2.1,if_neg (by omega),FX h h.length this.2.1 this.1 (eV _) (by omega),Nat.sub_self];simp
theorem C8 (s:List UInt8) (c:UInt8):(s.takeWhile (bF c)).length≤s.length:=(List.takeWhile_prefix _).length_le
theorem Iu (s b:List UInt8) (hb:b=s.take (s.length - 1)) (h2:2≤s.length):
  (if (b.takeWhile (bF 46)).length<b.length then iY (eD (b.takeWhile (bF 46))) ((ve (ag (b.drop ((b.takeWhile (bF 46)).length+1)) 0) 4).1,(ve (ag (b.drop ((b.takeWhile (bF 46)).length+1)) 0) 4).2&&!fO (b.drop ((b.takeWhile (bF 46)).length+1)) [48])
   else iY (eD b) (0,true))=C6 s b (b.takeWhile (bF 46)).length:=by
 have bl:b.length=s.length - 1:=by rw [hb,sj];omega
 have tw:=rm 46 b;have tl:=C8 b 46;have b0:aS b 0=aS s 0:=by rw [hb];exact mN (by omega)
 have bn:aS b (b.length - 1)=aS s (b.length - 1):=by
  have e:b.length - 1<s.length - 1:=by omega
  have:=mN (s:=s) (j:=s.length - 1) (q:=b.length - 1) e
  rw [←hb] at this;exact this
 clear hb;obtain ⟨d,hd⟩: ∃d,d=(b.takeWhile (bF 46)).length:=⟨_,rfl⟩;rw [←hd] at tw tl ⊢;rw [←tw];clear hd tw;have tkl:(b.take d).length=d:=by rw [sj];omega
 have dl:(b.drop (d+1)).length=b.length - (d+1):=sn;have t0:0<d→aS (b.take d) 0=aS s 0:=fun h=>by rw [mN h,b0]
 have dn:d+1<b.length→aS (b.drop (d+1)) ((b.drop (d+1)).length - 1)=aS s (b.length - 1):=fun h=>by
  rw [xq,dl,show d+1+(b.length - (d+1) - 1)=b.length - 1 by omega,bn]
 have v1:=kJ b d tl;have ok:=kK (b.take d);have ne:b.take d≠[]↔0<d:=by
  rw [Ne,←List.length_eq_zero_iff,tkl];omega
 rw [ne,tkl] at ok;unfold C6 Is;rw [v1];have WB:=Aj (b.take d);have WF:=Ak (b.take d);have WO:=C7 (b.take d);rw [tkl] at WF WO;have tot:b.take d=b∨d<b.length:=by
  by_cases g:d<b.length
  · exact .inr g
  · left;rw [List.take_of_length_le (by omega)]
 have V4:(b.drop (d+1)).all ay=true→(b.drop (d+1)).length≤4→jC (b.drop (d+1)) 4=aH (b.drop (d+1))*10^(4 - (b.drop (d+1)).length)∧jC (b.drop (d+1)) 4<10000:=fun h h'=>by
  refine ⟨?_,?_⟩
  · have:=BE (b.drop (d+1)) (4 - (b.drop (d+1)).length)
    rw [←this];congr 1
    omega
  · refine u7 _ (fun i=>?_) 4;by_cases e:b.drop (d+1)=[]
    ·rw [uZ (by rw [e];simp)];omega
    ·refine vc ?_ i;unfold fS;rw [h,kL,lK];exact vz.2 e
 have u3:bm (b.take d)=true→ ¬3<d→aH (b.take d)<1000:=fun h h'=>by
  have:=qO (b.take d) (ok.1 h).2.1
  rw [tkl] at this;exact xO this (show 10^d≤1000 from by
    obtain rfl|rfl|rfl|rfl:d=0∨d=1∨d=2∨d=3:=by omega
    all_goals decide)
 have PB:=Ik (b.drop (d+1)) 4;have PO:=FX (b.drop (d+1)) 4;have SB:=rz (b.drop (d+1)) 48;rw [show (48:UInt8).toNat=48 from rfl] at SB;rw [dl] at SB PB PO V4;by_cases g:d<b.length
 ·rw [if_pos g];clear tot;cases ha:(b.take d).all ay
  · have:bm (b.take d)=false:=by
     cases hk:bm (b.take d)
     ·rfl
     ·have:=(ok.1 hk).2.1
      rw [ha] at this;cases this
    rw [WB this,if_pos (.inl rfl)];rfl
  cases hb2:(b.drop (d+1)).all ay
  · rw [PB (.inl hb2),if_pos (.inr rfl)];unfold iY;rw [if_pos (.inr rfl)]
  rw [if_neg (by rintro (h|h)<;>cases h)];rw [hb2] at V4 PO;have bad:((ve (ag (b.drop (d+1)) 0) 4).2&&!fO (b.drop (d+1)) [48])=false↔(b.length - 1 - d<1∨4<b.length - 1 - d∨aS s (b.length - 1)=48):=by
    by_cases e1:b.length - (d+1)=0
    ·have:b.drop (d+1)=[]:=Dh (by rw [dl];exact e1)
     rw [PB (.inr (.inl this))];simp only [lQ,true_iff];left;omega
    by_cases e2:4<b.length - (d+1)
    ·rw [PB (.inr (.inr e2))];simp only [lQ,true_iff];right;left;omega
    rw [PO rfl (fun e=>e1 (by rw [←dl,e];rfl)) (by omega) (by omega)];simp only [kL];have dn:=dn (by omega);rw [dl] at dn;rw [dn] at SB;cases hs:fO (b.drop (d+1)) [48]
    ·simp only [Bool.not_false];constructor
     ·intro h;cases h
     ·rintro (h|h|h)
      ·omega
      ·omega
      ·have:=SB.2 ⟨by omega,h⟩
       rw [hs] at this;cases this
    ·simp only [Bool.not_true,true_iff]
     have:=SB.1 hs
     omega
  by_cases c1:((d<b.length∧(b.length - 1 - d<1∨4<b.length - 1 - d∨aS s (b.length - 1)=48))∨d=0∨(aS s 0=48∧1<d))
  · rw [if_pos c1];unfold iY;rw [if_pos];rcases c1 with ⟨_,h⟩|h|⟨h,h'⟩
    ·right;exact bad.2 h
    ·left;rw [WB];cases hk:bm (b.take d)
     ·rfl
     ·have:=(ok.1 hk).1;omega
    ·left;rw [WB];cases hk:bm (b.take d)
     ·rfl
     ·have:=(ok.1 hk).2.2
      rw [t0 (by omega)] at this;exact absurd ⟨h,h'⟩ this
  rw [if_neg c1];have hd0:0<d:=by omega
  have hk:bm (b.take d)=true:=ok.2 ⟨hd0,ha,by rw [t0 hd0];omega⟩;have hg: ¬(b.length - 1 - d<1∨4<b.length - 1 - d∨aS s (b.length - 1)=48):=fun h=>c1 (.inl ⟨g,h⟩)
  have ht:((ve (ag (b.drop (d+1)) 0) 4).2&&!fO (b.drop (d+1)) [48])=true:=by
    cases hq:((ve (ag (b.drop (d+1)) 0) 4).2&&!fO (b.drop (d+1)) [48])
    ·exact absurd (bad.1 hq) hg
    ·rfl
  rw [ht];have v4:=V4 rfl (by omega);have ne2:b.drop (d+1)≠[]:=fun e=>by
    have:(b.drop (d+1)).length=0:=by rw [e];rfl
    omega
  rw [PO rfl ne2 (by omega) (by omega),←v4.1];have v5:=v4.2;generalize jC (b.drop (d+1)) 4=m at *
  by_cases c3:3<d
  · rw [WF hk c3,if_pos c3];rfl
  · rw [WO hk c3,if_neg c3];have u3:=u3 hk c3;generalize aH (b.take d)=q at *
    unfold iY;dsimp only;rw [if_neg (by rintro (h|h)<;>cases h)];by_cases c4:1000000<q*10000+m
    ·rw [if_pos c4,if_pos (by omega)]
    ·rw [if_neg c4,if_neg (by omega),show min q 101=q by omega,vk (show q*10000<4294967296 by omega),vk (by omega)]
 ·rw [if_neg g];have tot:b.take d=b:=by
    rcases tot with h|h
    ·exact h
    ·exact absurd h g
  have dnil:b.drop (d+1)=[]:=Aq (by omega);rw [dnil] at V4 ⊢;have m0:jC ([]:List UInt8) 4=0:=by decide
  rw [m0,rE];rw [tot] at ok WB WF WO u3 ⊢;cases ha:b.all ay
  · have:bm b=false:=by
     cases hk:bm b
     ·rfl
     ·have:=(ok.1 hk).2.1
      rw [ha] at this;cases this
    rw [WB this,if_pos (.inl rfl)];rfl
  rw [if_neg (by rintro (h|h);cases h;exact absurd h (by decide))];by_cases c1:((d<b.length∧(b.length - 1 - d<1∨4<b.length - 1 - d∨aS s (b.length - 1)=48))∨d=0∨(aS s 0=48∧1<d))
  · rw [if_pos c1];unfold iY;rw [if_pos];left;rcases c1 with ⟨h,_⟩|h|⟨h,h'⟩
    ·exact absurd h g
    ·rw [WB];cases hk:bm b
     ·rfl
     ·have:=(ok.1 hk).1;omega
    ·rw [WB];cases hk:bm b
     ·rfl
     ·have:=(ok.1 hk).2.2
      rw [b0] at this;exact absurd ⟨h,h'⟩ this
  rw [if_neg c1];have hd0:0<d:=by omega
  have hk:bm b=true:=ok.2 ⟨hd0,ha,by rw [b0];omega⟩;by_cases c3:3<d
  · rw [WF hk c3,if_pos c3];rfl
  · rw [WO hk c3,if_neg c3];have u3:=u3 hk c3;generalize aH b=q at *
    unfold iY;dsimp only;rw [if_neg (by rintro (h|h)<;>cases h)];by_cases c4:1000000<q*10000
    ·rw [if_pos c4,if_pos (by omega)]
    ·rw [if_neg c4,if_neg (by omega),show min q 101=q by omega,vk (show q*10000<4294967296 by omega),rE,vk (by omega)]
theorem Kz (s:List UInt8):Gd s=Ah s:=by
 unfold Gd Ah;have S:=rz s 37;rw [show (37:UInt8).toNat=37 from rfl] at S;cases hs:fO s [37]
 ·rw [if_pos rfl,if_pos];by_cases h:s.length<2
  ·exact .inl h
  ·right;intro e
   have:=S.2 ⟨by omega,e⟩
   rw [hs] at this;cases this
 ·rw [if_neg (by decide)];have h:=S.1 hs;have hc:db s [37]=s.take (s.length - 1):=by
   unfold db;rw [if_pos hs];rfl
  rw [hc];by_cases h2:s.length<2
  ·rw [if_pos (show s.length<2∨aS s (s.length - 1)≠37 from .inl h2)];have e:s.take (s.length - 1)=[]:=by rw [show s.length - 1=0 by omega,Jo]
   rw [e];decide
  ·rw [if_neg (show ¬(s.length<2∨aS s (s.length - 1)≠37) from by rintro (h'|h');exact h2 h';exact h' h.2)];exact Iu s _ rfl (by omega)
theorem C9 (s t:List UInt8):(db s t).length≤s.length:=by
 unfold db;split
 ·rw [sj];omega
 ·exact eV _
theorem xJ (s:List UInt8) (hl:s.length≤1000000):Sp Tryz.prog gl 146 [.str s] (.tup [.int .u32 (Gd s).1,i6 (Gd s).2]):=by
 refine NI rfl rfl ?_;have CS:=xy s [37] hl (by simp);have bl:=C9 s [37];unfold Gd;generalize db s [37]=b at *
 have hb:b.length≤1000000:=by omega
 cases hs:fO s [37]
 ·rw [hs] at CS;rw [if_pos rfl];clear bl;simp [lP];apply ab CS;simp
 rw [hs] at CS;rw [if_neg (by decide)];have CB:=ro 46 b hb;unfold tL at CB;by_cases g:(b.takeWhile (bF 46)).length<b.length
 ·rw [if_pos g] at CB ⊢;have W:=rk (b.takeWhile (bF 46)) (by omega);have PN:=mW (b.drop ((b.takeWhile (bF 46)).length+1)) (by rw [sn];omega) 4 (by omega);have HS:=mV (b.drop ((b.takeWhile (bF 46)).length+1)) [48] (by rw [sn];omega) (by simp);clear g hb bl hs;generalize b.drop ((b.takeWhile (bF 46)).length+1)=tl at *
  generalize b.takeWhile (bF 46)=hd at *
  generalize eD hd=wh at *
  generalize ve (ag tl 0) 4=q at *
  generalize fO tl [48]=sb at *
  obtain ⟨n,o⟩:=wh;obtain ⟨m,i⟩:=q;unfold iY;dsimp only at W PN ⊢;cases o
  ·rw [if_pos (.inl rfl)];cases i
   ·simp [lP];apply ab CS;simp;apply ab CB;simp;apply ab W;simp;apply ab PN;simp
   ·simp [lP];apply ab CS;simp;apply ab CB;simp;apply ab W;simp;apply ab PN;simp;apply ab HS;simp
  cases i
  ·rw [if_pos (.inr rfl)];simp [lP];apply ab CS;simp;apply ab CB;simp;apply ab W;simp;apply ab PN;simp
  cases sb
  rotate_left
  ·rw [if_pos (.inr rfl)];simp [lP];apply ab CS;simp;apply ab CB;simp;apply ab W;simp;apply ab PN;simp;apply ab HS;simp
  rw [if_neg (by rintro (h|h)<;>cases h)];have w1:IntKind.u32.wrap ((n:Int)*10000)=((n*10000%4294967296:Nat):Int):=by
   rw [fi];omega
  have w2:IntKind.u32.wrap (((n*10000%4294967296:Nat):Int)+(m:Int))=(((n*10000%4294967296+m)%4294967296:Nat):Int):=by
   rw [fi];omega
  generalize (n*10000%4294967296+m)%4294967296=z at *
  generalize ((n*10000%4294967296:Nat):Int)=y at *
  by_cases c1:100<n
  ·have c1':(100:Int)<n:=by omega
   rw [if_pos (.inl c1)];simp [lP];apply ab CS;simp;apply ab CB;simp;apply ab W;simp;apply ab PN;simp;apply ab HS;simp [c1,c1']
  have c1': ¬(100:Int)<n:=by omega
  by_cases c2:n=100
  ·subst c2;have w1':IntKind.u32.wrap 1000000=y:=by rw [←w1];rfl
   by_cases c3:0<m
   ·have c3':(0:Int)<m:=by omega
    rw [if_pos (.inr ⟨rfl,c3⟩)];simp [lP];apply ab CS;simp;apply ab CB;simp;apply ab W;simp;apply ab PN;simp;apply ab HS;simp [c3,c3']
   ·have c3': ¬(0:Int)<m:=by omega
    rw [if_neg (by omega)];simp [lP];apply ab CS;simp;apply ab CB;simp;apply ab W;simp;apply ab PN;simp;apply ab HS;simp [c3,c3',w1',w2]
  ·have c2':((n:Int)==100)=false:=dh.2 (by omega);rw [if_neg (by omega)];simp [lP];apply ab CS;simp;apply ab CB;simp;apply ab W;simp;apply ab PN;simp;apply ab HS;simp [c1,c1',c2,c2',w1,w2]
 ·rw [if_neg g] at CB ⊢;have W:=rk b hb;clear g hb bl hs;generalize eD b=wh at *
  obtain ⟨n,o⟩:=wh;unfold iY;dsimp only at W ⊢;cases o
  ·rw [if_pos (.inl rfl)];simp [lP];apply ab CS;simp;apply ab CB;simp;apply ab W;simp
  rw [if_neg (by rintro (h|h)<;>cases h)];have w1:IntKind.u32.wrap ((n:Int)*10000)=((n*10000%4294967296:Nat):Int):=by
   rw [fi];omega
  have w2:IntKind.u32.wrap ((n*10000%4294967296:Nat):Int)=(((n*10000%4294967296+0)%4294967296:Nat):Int):=by
   rw [fi];omega
  generalize (n*10000%4294967296+0)%4294967296=z at *
  generalize ((n*10000%4294967296:Nat):Int)=y at *
  by_cases c1:100<n
  ·have c1':(100:Int)<n:=by omega
   rw [if_pos (.inl c1)];simp [lP];apply ab CS;simp;apply ab CB;simp;apply ab W;simp [c1,c1']
  have c1': ¬(100:Int)<n:=by omega
  rw [if_neg (by omega)];by_cases c2:n=100
  ·subst c2;have w1':IntKind.u32.wrap 1000000=y:=by rw [←w1];rfl
   simp [lP];apply ab CS;simp;apply ab CB;simp;apply ab W;simp [w1',w2]
  ·have c2':((n:Int)==100)=false:=dh.2 (by omega);simp [lP];apply ab CS;simp;apply ab CB;simp;apply ab W;simp [c1,c1',c2,c2',w1,w2]
def o6 (c:UInt8) (s:List UInt8):Bool:=decide ((s.takeWhile (bF c)).length<s.length)
theorem Da (s:List UInt8):Sp Tryz.prog gl 191 [.str s,.str [46]] (i6 (Lib.indexByte s 46)):=by
 refine NZ rfl rfl ?_;have IX:=tK s 46;generalize Lib.indexByte s 46=k at *
 simp [La];apply ab IX;simp
theorem Db (s:List UInt8):Sp Tryz.prog gl 147 [.str s,.str [46]] (.bool (o6 46 s)):=by
 refine NJ rfl rfl ?_;have IX:=Da s;have e:=xF 46 s;have hb:o6 46 s=decide (0≤Lib.indexByte s 46):=by
  unfold o6;rw [e];split
  ·rename_i h;rw [jE h,jE (by omega)]
  ·rename_i h;rw [oV h,oV (by omega)]
 rw [hb];clear hb e;generalize Lib.indexByte s 46=k at *
 simp [K3];apply ab IX;simp
theorem KA (s:List UInt8):(Gd s).1<4294967296:=by
 have h: ∀a b,(iY a b).1<4294967296:=fun a b=>by
  unfold iY;split
  ·simp
  ·split
   ·simp
   ·exact Nat.mod_lt _ (by decide)
 unfold Gd;split
 ·simp
 ·split
  ·exact h _ _
  ·exact h _ _
theorem rA: ∀(l:List UInt8) (dg:Bool) (n la sm:Nat) (fr:Bool),sm≤253402300799→(uW l dg n la sm fr).1≤253402300799
 |[],dg,n,la,sm,fr,h=>by
  rw [uW];split
  ·simp
  ·split
   ·simp
   ·exact h
 |c::l,dg,n,la,sm,fr,h=>by
  rw [uW];split
  ·exact rA l _ _ _ _ _ h
  ·split
   ·simp
   ·split
    ·exact rA l _ _ _ _ _ h
    ·split
     ·exact rA l _ _ _ _ _ (by omega)
     ·exact rA l _ _ _ _ _ (by omega)
theorem xK (s:List UInt8):(jD s).1≤253402300799:=by
 rw [ry];unfold rh;split
 ·simp
 ·exact rA _ _ _ _ _ _ (by omega)
theorem m7 (v:TV):dB v.av=some v.av:=by cases v<;>simp [TV.av]
def vR (w:List UInt8):Int:=if w=[] then 32 else jv (ah w 0).1
def sV (w:List UInt8):TV:=
 if cJ (vR w)=false then (if dy w=true then .t 1 w 0 else .e 5)
 else if w.all ay=true then bz 3 (jw w)
 else if fO w [37]=true then bz 5 (Gd w)
 else if o6 46 w=true then bz 4 (uY (w.takeWhile (bF 46)) (w.drop ((w.takeWhile (bF 46)).length+1)))
 else bz 6 (jD w)
theorem oT (w:List UInt8) (hl:w.length≤900000):Sp Tryz.prog gl 109 [.str w] (sV w).av:=by
 refine Nv rfl rfl ?_;have D:=oM (vR w);have NM:=ly w hl;have TR:=lF w (by omega);have TN:=n9 w;have NU:=mU w (by omega);have HS:=mV w [37] (by omega) (by simp);have PP:=xJ w (by omega);have CC:=Db w;have SP:=Ag w (by omega);have FA:=fun h=>vh w (by omega) h
 have pl:=KA w;have sl:=xK w;have T5:=lE 5 (Gd w).1 (Gd w).2;have T6:=lE 6 (jD w).1 (jD w).2;have T3:=lE 3 (jw w).1 0;have hb:o6 46 w=true→(w.takeWhile (bF 46)).length<w.length:=fun h=>by unfold o6 at h;exact xP h
 unfold sV;generalize bz 4 (uY (w.takeWhile (bF 46)) (w.drop ((w.takeWhile (bF 46)).length+1)))=f4 at *
 generalize o6 46 w=has at *
 generalize fO w [37]=suf at *
 generalize Lib.trimS w [48,49,50,51,52,53,54,55,56,57]=tr at *
 generalize Gd w=q5 at *
 generalize jD w=q6 at *
 generalize jw w=q3 at *
 generalize dy w=nm at *
 obtain ⟨n5,e5⟩:=q5;obtain ⟨n6,e6⟩:=q6;obtain ⟨n3,e3⟩:=q3;dsimp only at PP SP T5 T6 T3 pl sl;have w5:IntKind.u64.wrap (n5:Int)=n5:=by rw [cN]<;>omega
 have w6:IntKind.u64.wrap (n6:Int)=n6:=by rw [cN]<;>omega
 obtain ⟨R,hR⟩: ∃R:TV,R=if cJ (vR w)=false then (if nm=true then .t 1 w 0 else .e 5)
  else if w.all ay=true then bz 3 (n3,e3)
  else if suf=true then bz 5 (n5,e5)
  else if has=true then f4
  else bz 6 (n6,e6):=⟨_,rfl⟩
 rw [←hR];have i3w:IntKind.i32.wrap 32=32:=by decide
 simp [KY];refine bT (α:=Nat) (fun _=>⟨[(0,.str w),(2,.nili),(3,i3 32),(13,.itp 13)],[(.it 13,[.itr w 0])],[]⟩) (fun _=>True) (fun _=>1) ?_ 0 trivial ?_
 ·rintro K _ hK _;clear hK;by_cases e:w=[]
  ·have ev:vR w=32:=if_pos e;subst e;rw [ev] at D hR;rw [show cJ 32=false from rfl] at D hR;rw [if_pos rfl] at hR;clear T3 T5 T6 FA SP CC PP HS NU TR;cases nm
   ·rw [if_neg (by decide)] at hR;subst hR;unfold TV.av;simp;apply ab D;simp;apply ab NM;simp
   ·rw [if_pos rfl] at hR;subst hR;unfold TV.av;simp;apply ab D;simp;apply ab NM;simp;apply ab D;simp
  have g:0<w.length:=vz.2 e;have ev:vR w=jv (ah w 0).1:=if_neg e;have sr:=mP w 0 g;rw [←ev] at sr;clear ev;generalize vR w=r at *
  generalize (ah w 0).2=wd at *
  cases hd:cJ r
  ·rw [hd] at D hR;rw [if_pos rfl] at hR;clear T3 T5 T6 FA SP CC PP HS NU TR;cases nm
   ·rw [if_neg (by decide)] at hR;subst hR;unfold TV.av;simp [g,sr];apply ab D;simp;apply ab NM;simp
   ·rw [if_pos rfl] at hR;subst hR;unfold TV.av;simp [g,sr];apply ab D;simp;apply ab NM;simp;apply ab D;simp
  rw [hd] at D hR;rw [if_neg (by decide)] at hR;clear NM;cases ha:w.all ay
  ·rw [ha] at TN hR;have k1:(tr==[])=false:=TN;have k2: ¬tr=[]:=fun h=>by rw [h] at TN;cases TN
   have k3:tr.isEmpty=false:=by rw [List.isEmpty_eq_false_iff];exact k2
   rw [if_neg (by decide)] at hR;clear T3 NU;cases suf
   ·rw [if_neg (by decide)] at hR;clear T5 PP;cases has
    ·rw [if_neg (by decide)] at hR;subst hR;have hsh:=m7 (bz 6 (n6,e6));generalize (bz 6 (n6,e6)).av=out at *
     clear FA;simp [g,sr];apply ab D;simp;apply ab D;simp;apply ab TR;simp [k1,k2,k3];apply ab HS;simp;apply ab CC;simp;apply ab SP;simp [w6];refine ax _ _ ((T6.h)) ?_;simp [hsh]
    ·rw [if_pos rfl] at hR;subst hR;have FA:=FA (hb rfl);have hsh:=m7 R;generalize R.av=out at *
     clear T6 SP;simp [g,sr];apply ab D;simp;apply ab D;simp;apply ab TR;simp [k1,k2,k3];apply ab HS;simp;apply ab CC;simp;refine ax _ _ ((FA.h)) ?_;simp [hsh]
   ·rw [if_pos rfl] at hR;subst hR;have hsh:=m7 (bz 5 (n5,e5));generalize (bz 5 (n5,e5)).av=out at *
    clear FA T6 SP CC;simp [g,sr];apply ab D;simp;apply ab D;simp;apply ab TR;simp [k1,k2,k3];apply ab HS;simp;apply ab PP;simp [w5];refine ax _ _ ((T5.h)) ?_;simp [hsh]
  ·rw [ha] at TN hR;have k2:tr=[]:=by simpa using TN
   subst k2;rw [if_pos rfl] at hR;subst hR;clear FA T6 SP CC T5 PP HS;unfold Ih at NU;dsimp only at NU;by_cases c3:e3=0
   ·subst c3;rw [if_pos rfl] at NU;have hsh:=m7 (bz 3 (n3,0));generalize (bz 3 (n3,0)).av=out at *
    simp [g,sr];apply ab D;simp;apply ab D;simp;apply ab TR;simp;refine ax _ _ ((NU.h)) ?_;simp;refine ax _ _ ((T3.h)) ?_;simp [hsh]
   ·rw [if_neg c3] at NU;have et:(bz 3 (n3,e3))= .e e3:=by unfold bz;rw [if_neg c3]
    rw [et];unfold TV.av;clear T3;simp [g,sr];apply ab D;simp;apply ab D;simp;apply ab TR;simp;refine ax _ _ ((NU.h)) ?_;simp;refine ax _ _ ((NU.h)) ?_;simp
 ·apply am<;>simp
def xU (s:List UInt8):TV:=
 if fS s=true then bz 3 (jw s)
 else if aS s (s.length - 1)=37 then bz 5 (Ah s)
 else if o6 46 s=true then bz 4 (uY (s.takeWhile (bF 46)) (s.drop ((s.takeWhile (bF 46)).length+1)))
 else bz 6 (rh s)
def rV (m:List Int):TV:=
 if m=[]∨cJ (m.headD 0)=false then (if dy (aq m)=true then .t 1 (aq m) 0 else .e 5)
 else xU (aq m)
theorem Ge (s:List UInt8):(rh s).1≤253402300799:=by rw [←ry];exact xK s
open Go.Shelf
def lG:Ren:={
 f:=fun x=>match x with
  |168=>124
  |242=>164
  |278=>198
  |n=>aY.f n
 t:=fun x=>match x with
  |21=>21
  |46=>173
  |51=>39
  |n=>aY.t n
 g:=fun x=>x}
set_option maxRecDepth 100000 in
theorem KC:Lays.n168 Tryz.prog lG where
 mixed:=au.mixed
 f168:=Eq.trans Tryz.func124 (congrArg some (show Tryz.f124=Body.n168 lG by kernel_rfl))
 f240:=Eq.trans Tryz.func133 (congrArg some (show Tryz.f133=Body.n240 lG by kernel_rfl))
 f242:=Eq.trans Tryz.func164 (congrArg some (show Tryz.f164=Body.n242 lG by kernel_rfl))
 f276:=Eq.trans Tryz.func175 (congrArg some (show Tryz.f175=Body.n276 lG by kernel_rfl))
 f278:=Eq.trans Tryz.func198 (congrArg some (show Tryz.f198=Body.n278 lG by kernel_rfl))
 t0:=au.t0
 a0:=au.a0
 z0:=au.z0
 v0:=au.v0
 t3:=au.t3
 a3:=au.a3
 z3:=au.z3
 v3:=au.v3
 t4:=au.t4
 a4:=au.a4
 z4:=au.z4
 v4:=au.v4
 t5:=dE.t5
 a5:=dE.a5
 z5:=dE.z5
 v5:=dE.v5
 t9:=au.t9
 a9:=au.a9
 z9:=au.z9
 v9:=au.v9
 t20:=au.t20
 a20:=au.a20
 z20:=au.z20
 v20:=au.v20
 t21:=Tryz.underlying21
 a21:=Tryz.isAgg21
 z21:=Tryz.sizeOf21
 v21:=Tryz.zeroValue21
 t37:=au.t37
 a37:=au.a37
 z37:=au.z37
 v37:=au.v37
 t46:=Tryz.underlying173
 a46:=Tryz.isAgg173
 z46:=Tryz.sizeOf173
 v46:=Tryz.zeroValue173
 t51:=Tryz.underlying39
 a51:=Tryz.isAgg39
 z51:=Tryz.sizeOf39
 v51:=Tryz.zeroValue39
 t70:=au.t70
 a70:=au.a70
 z70:=au.z70
 v70:=au.v70
 t72:=au.t72
 a72:=au.a72
 z72:=au.z72
 v72:=au.v72
 t75:=au.t75
 a75:=au.a75
 z75:=au.z75
 v75:=au.v75
 t164:=au.t164
 a164:=au.a164
 z164:=au.z164
 v164:=au.v164
theorem KD:Builder.Extra Tryz.prog lG where
 sizeBuilder:=by kernel_rfl
 liesBuilder:=by kernel_rfl
 t5:=Tryz.underlying5
 a5:=Tryz.isAgg5
 z5:=Tryz.sizeOf5
 v5:=Tryz.zeroValue5
 infoByte:=by kernel_rfl
 cellsByte:=by kernel_rfl
 sizeByte:=by kernel_rfl
 neB5:=by decide
theorem Al (r:Nat) (h:r≤1114111):du (r:Int)→Lib.byteCells (cK r)=Lib.runeCells (r:Int):=by
 intro hr;have b8: ∀n:Nat,n<256→((UInt8.ofNat n).toNat:Int)=n:=fun n hn=>by rw [UInt8.toNat_ofNat_of_lt' (by simpa using hn)]
 unfold cK Lib.byteCells Lib.runeCells;by_cases c1:r<128
 ·rw [if_pos c1,Lib.encodeRuneZ_one (by omega) (by omega)];simp only [ik,vn,b8 r (by omega)]
 rw [if_neg c1];by_cases c2:r<2048
 ·rw [if_pos c2,Lib.encodeRuneZ_two (by omega) (by omega)];simp only [ik,vn,b8 (192+r / 64) (by omega),b8 (128+r%64) (by omega)];rfl
 rw [if_neg c2];by_cases c3:r<65536
 ·rw [if_pos c3,Lib.encodeRuneZ_three (by rcases hr with h|h<;>omega)];simp only [ik,vn,b8 (224+r / 4096) (by omega),b8 (128+r / 64%64) (by omega),b8 (128+r%64) (by omega)];rfl
 rw [if_neg c3,Lib.encodeRuneZ_four (by omega) (by omega)];simp only [ik,vn,b8 (240+r / 262144) (by omega),b8 (128+r / 4096%64) (by omega),b8 (128+r / 64%64) (by omega),b8 (128+r%64) (by omega)];rfl
theorem m8 {d:Nat} {b:Id} (hit:b.isIt=false) (hnwb:b.isNw d=false) {T n:Nat} (hT:fW Tryz.prog 69 T n) {c0:AV} (hc0:c0= .nilT b T n∨c0= .ptr b 0) (rest:List AV) (l:List UInt8) (r:Nat) (hr:du (r:Int)) (h:r≤1114111) (hl:l.length+4≤140737488355328):
  b7 Tryz.prog gl 124 d ⟨[.ptr b 0,.int .i32 r],[(b,c0:: .sl (ae l)::rest)],[(.b b 1,bk 5)]⟩ ⟨.tup [.int .i64 (cK r).length,.undef],[(b,.ptr b 0:: .sl (ae (l++cK r))::rest)],[(.b b 1,bk 5)]⟩:=
 DR KC KD (by kernel_rfl) (by kernel_rfl) hit hnwb (T:=T) (n:=n) (hc0.imp (fun h=>⟨h,hT⟩) id) (rest:=rest) l (cK r) r hr (Al r h hr) hl
def lH (r:Int):Int:=if cJ r=true then r - 48 else if 97≤r∧r≤102 then r - 87 else -1
theorem Dc (r:Int):Sp Tryz.prog gl 247 [i3 r] (i3 (lH r)):=by
 refine Ol rfl rfl ?_;have D:=ib r;unfold lH;cases hd:cJ r
 ·rw [hd] at D;rw [if_neg (by decide)];by_cases c1:97≤r
  ·by_cases c2:r≤102
   ·rw [if_pos ⟨c1,c2⟩];have t1:IntKind.i32.wrap (r - 97)=r - 97:=by rw [fk]<;>omega
    have t2:IntKind.i32.wrap (r - 97+10)=r - 87:=by rw [fk]<;>omega
    simp [DD];apply ab D;simp [c1,c2,t1,t2]
   ·rw [if_neg (fun h=>c2 h.2)];simp [DD];apply ab D;simp [c1,c2]
  ·rw [if_neg (fun h=>c1 h.1)];simp [DD];apply ab D;simp [c1]
 ·rw [hd] at D;rw [if_pos rfl];have hh:48≤r∧r≤57:=by unfold cJ at hd;exact xP hd
  have t1:IntKind.i32.wrap (r - 48)=r - 48:=by rw [fk]<;>omega
  simp [DD];apply ab D;simp [t1]
def fv (r:Int):Bool:=decide (0≤r∧r<55296)||decide (57343<r∧r≤1114111)
theorem rB (r:Int):fv r=true↔du r:=by
 unfold fv du;rw [BI,lK,lK]
theorem Am (r:Int):Sp Tryz.prog gl 239 [i3 r] (.bool (fv r)):=by
 refine Lo rfl rfl ?_;unfold fv;by_cases d1:0≤r
 ·by_cases d2:r<55296
  ·simp [vx,d1,d2]
  ·by_cases c1:57343<r
   ·by_cases c2:r≤1114111
    ·simp [vx,d1,d2,c1,c2]
    ·simp [vx,d1,d2,c1,c2]
   ·simp [vx,d1,d2,c1]
 ·have d2: ¬57343<r:=by omega
  simp [vx,d1,d2]
structure Rd where
 out:List Int
 st:Int
 n:Nat
 c:Nat
def bB (b:Id):List Int→List AV
 |[]=>[.nilT b 260 5,.nils]
 |r::l=>[.ptr b 0,.sl (ae (aq (r::l)))]
def bg (b:Id):List Int→List (Pl×Nat)
 |[]=>[]
 |r::l=>[(.b b 1,bk 5)]
def eJ (b:Id) (x:Rd):List AV:=bB b x.out++[i6 x.st,i3 x.n,i6 x.c]
def jx (x:Rd) (r:Int):Rd×Bool:=
 if r=34∨r=92 then ({x with st:=0,out:=x.out++[r]},true)
 else if r=110 then ({x with st:=0,out:=x.out++[10]},true)
 else if r=116 then ({x with st:=0,out:=x.out++[9]},true)
 else if r=117 then ({x with st:=2},true)
 else ({x with st:=0},false)
def dM (x:Rd) (r:Int):Rd×Bool:=
 if 0≤lH r∧x.c<6 then ({x with n:=16*x.n+(lH r).toNat,c:=x.c+1},true)
 else if r≠125∨x.c=0∨fv x.n=false then (x,false)
 else ({x with out:=x.out++[(x.n:Int)],st:=0},true)
theorem lI:fW Tryz.prog 69 260 5:=by unfold fW;kernel_rfl
theorem iZ (b:Id) (l:List Int) (r:Nat):bB b (l++[(r:Int)])=[.ptr b 0,.sl (ae (aq l++cK r))]:=by
 have e:aq (l++[(r:Int)])=aq l++cK r:=by
  rw [cB]
  have:iy (r:Int)=cK r:=by unfold iy;rw [if_neg (by omega),Int.toNat_natCast]
  rw [aq,aq,pc,this]
 rw [←e];cases l<;>rfl
theorem i7 (b:Id) (l:List Int) (r:Int):bg b (l++[r])=[(.b b 1,bk 5)]:=by cases l<;>rfl
theorem xL (x:Rd) (hl:x.out.length≤1000000) (r:Int) (d:Nat) (b:Id) (hb:b.isIt=false) (hbd:b.isNw d=false):
  b7 Tryz.prog gl 241 d ⟨[.ptr b 0,i3 r],[(b,eJ b x)],bg b x.out⟩ ⟨.bool (jx x r).2,[(b,eJ b (jx x r).1)],bg b (jx x r).1.out⟩:=by
 refine Oj rfl ?_;have hib:=aP hbd;have ne: ∀z:Int,¬r=z→(r==z)=false:=fun z h=>dh.2 h
 have tl:=fq x.out;have W:=fun (q:Nat) (hq:du (q:Int)) (hq2:q≤1114111) (c0:AV) (hc0:c0= .nilT (.up b) 260 5∨c0= .ptr (.up b) 0) e he=>m8 (d:=e) (b:= .up b) hb he lI hc0 [i6 0,i3 x.n,i6 x.c] (aq x.out) q hq hq2 (by omega)
 unfold jx;by_cases c1:r=34∨r=92
 ·rw [if_pos c1];dsimp only;obtain ⟨q,rfl⟩: ∃q:Nat,r=q:=⟨r.toNat,by omega⟩;have hq:du (q:Int):=by unfold du;omega
  have W:=W q hq (by omega);unfold eJ;rw [iZ,i7];have c1':((q:Int)==34)=true∨(((q:Int)==34)=false∧((q:Int)==92)=true):=by
   by_cases h:(q:Int)=34
   ·left;rw [h];rfl
   ·right;exact ⟨dh.2 h,by rw [bP];omega⟩
  cases hx:x.out with
  |nil=>
   rw [hx] at W;have W:=W _ (.inl rfl);rw [show aq []=[] from rfl,bO] at W ⊢;rw [show ae []=[] from rfl] at W;generalize ae (cK q)=B at *
   simp only [bB,bg];simp only [az,bE,a7,AV.mp,bK,Pl.mp,bt,bO];rcases c1' with c1'|⟨c1',c2'⟩
   ·simp [nb,c1'];refine aK _ _ (W _ rfl) ⟨?_,?_,?_,?_,?_,?_,?_⟩ ?_;iterate 7 (· simp [hb])
    simp;apply ai<;>simp [hib,hb]
   ·simp [nb,c1',c2'];refine aK _ _ (W _ rfl) ⟨?_,?_,?_,?_,?_,?_,?_⟩ ?_;iterate 7 (· simp [hb])
    simp;apply ai<;>simp [hib,hb]
  |cons a l=>
   rw [hx] at W;have W:=W _ (.inr rfl);generalize ae (aq (a::l)++cK q)=B at *
   simp only [bB,bg];generalize ae (aq (a::l))=B0 at *
   simp only [az,bE,a7,AV.mp,bK,Pl.mp,bt,bO];rcases c1' with c1'|⟨c1',c2'⟩
   ·simp [nb,c1'];refine aK _ _ (W _ rfl) ⟨?_,?_,?_,?_,?_,?_,?_⟩ ?_;iterate 7 (· simp [hb])
    simp;apply ai<;>simp [hib,hb]
   ·simp [nb,c1',c2'];refine aK _ _ (W _ rfl) ⟨?_,?_,?_,?_,?_,?_,?_⟩ ?_;iterate 7 (· simp [hb])
    simp;apply ai<;>simp [hib,hb]
 rw [if_neg c1];have n1:=ne 34 (fun h=>c1 (.inl h));have n2:=ne 92 (fun h=>c1 (.inr h));by_cases c3:r=110
 ·rw [if_pos c3];subst c3;dsimp only;have W:=W 10 (by unfold du;omega) (by omega);unfold eJ;rw [show (10:Int)=((10:Nat):Int) from rfl,iZ,i7];cases hx:x.out with
  |nil=>
   rw [hx] at W;have W:=W _ (.inl rfl);rw [show aq []=[] from rfl,bO] at W ⊢;rw [show ae []=[] from rfl] at W;generalize ae (cK 10)=B at *
   simp only [bB,bg];simp only [az,bE,a7,AV.mp,bK,Pl.mp,bt,bO];simp [nb];refine aK _ _ (W _ rfl) ⟨?_,?_,?_,?_,?_,?_,?_⟩ ?_;iterate 7 (· simp [hb])
   simp;apply ai<;>simp [hib,hb]
  |cons a l=>
   rw [hx] at W;have W:=W _ (.inr rfl);generalize ae (aq (a::l)++cK 10)=B at *
   simp only [bB,bg];generalize ae (aq (a::l))=B0 at *
   simp only [az,bE,a7,AV.mp,bK,Pl.mp,bt,bO];simp [nb];refine aK _ _ (W _ rfl) ⟨?_,?_,?_,?_,?_,?_,?_⟩ ?_;iterate 7 (· simp [hb])
   simp;apply ai<;>simp [hib,hb]
 rw [if_neg c3];have n3:=ne 110 c3;by_cases c4:r=116
 ·rw [if_pos c4];subst c4;dsimp only;have W:=W 9 (by unfold du;omega) (by omega);unfold eJ;rw [show (9:Int)=((9:Nat):Int) from rfl,iZ,i7];cases hx:x.out with
  |nil=>
   rw [hx] at W;have W:=W _ (.inl rfl);rw [show aq []=[] from rfl,bO] at W ⊢;rw [show ae []=[] from rfl] at W;generalize ae (cK 9)=B at *
   simp only [bB,bg];simp only [az,bE,a7,AV.mp,bK,Pl.mp,bt,bO];simp [nb];refine aK _ _ (W _ rfl) ⟨?_,?_,?_,?_,?_,?_,?_⟩ ?_;iterate 7 (· simp [hb])
   simp;apply ai<;>simp [hib,hb]
  |cons a l=>
   rw [hx] at W;have W:=W _ (.inr rfl);generalize ae (aq (a::l)++cK 9)=B at *
   simp only [bB,bg];generalize ae (aq (a::l))=B0 at *
   simp only [az,bE,a7,AV.mp,bK,Pl.mp,bt,bO];simp [nb];refine aK _ _ (W _ rfl) ⟨?_,?_,?_,?_,?_,?_,?_⟩ ?_;iterate 7 (· simp [hb])
   simp;apply ai<;>simp [hib,hb]
 rw [if_neg c4];have n4:=ne 116 c4;clear W;by_cases c5:r=117
 ·rw [if_pos c5];subst c5;dsimp only;unfold eJ;cases hx:x.out with
  |nil=>
   simp only [bB,bg];simp only [az,bE,a7,AV.mp,bK,Pl.mp,bt,bO];simp [nb];apply ai<;>simp [hib,hb]
  |cons a l=>
   simp only [bB,bg];generalize ae (aq (a::l))=B0 at *
   simp only [az,bE,a7,AV.mp,bK,Pl.mp,bt,bO];simp [nb];apply ai<;>simp [hib,hb]
 rw [if_neg c5];have n5:=ne 117 c5;dsimp only;unfold eJ;cases hx:x.out with
 |nil=>
  simp only [bB,bg];simp only [az,bE,a7,AV.mp,bK,Pl.mp,bt,bO];simp [nb,n1,n2,n3,n4,n5];apply ai<;>simp [hib,hb]
 |cons a l=>
  simp only [bB,bg];generalize ae (aq (a::l))=B0 at *
  simp only [az,bE,a7,AV.mp,bK,Pl.mp,bt,bO];simp [nb,n1,n2,n3,n4,n5];apply ai<;>simp [hib,hb]
theorem BF (r:Int):lH r<16:=by
 unfold lH cJ;split
 ·rename_i h
  have:=xP h
  omega
 ·split<;>omega
theorem KE (x h:Nat) (hx:x<16777216) (hh:h<16):bits BinOp.or IntKind.i32 ((x*16:Nat):Int) (h:Int)=((16*x+h:Nat):Int):=by
 have hx2:x*16|||h=16*x+h:=by
  rw [show x*16=2^4*x by omega,←Nat.two_pow_add_eq_or_of_lt (by omega)]
 have h1:(BitVec.ofInt 32 ((x*16:Nat):Int)).toNat=x*16:=by
  rw [BitVec.ofInt_natCast,BitVec.toNat_ofNat];exact vk (by omega)
 have h2:(BitVec.ofInt 32 (h:Int)).toNat=h:=by
  rw [BitVec.ofInt_natCast,BitVec.toNat_ofNat];exact vk (by omega)
 show IntKind.i32.wrap ((BitVec.ofInt 32 ((x*16:Nat):Int)|||BitVec.ofInt 32 (h:Int)).toNat:Int)=_;rw [BitVec.toNat_or,h1,h2,hx2,fk]<;>omega
theorem Iv (x:Nat) (hx:x<16777216):IntKind.i32.wrap ((x:Int)*2^(min 4 IntKind.i32.bits))=((x*16:Nat):Int):=by
 have e:(2:Int)^(min 4 IntKind.i32.bits)=16:=by decide
 rw [e,fk]<;>omega
theorem sd (x:Rd) (hl:x.out.length≤1000000) (hc:x.c≤6) (hn:x.n<16^x.c) (r:Int) (d:Nat) (b:Id) (hb:b.isIt=false) (hbd:b.isNw d=false):
  b7 Tryz.prog gl 242 d ⟨[.ptr b 0,i3 r],[(b,eJ b x)],bg b x.out⟩ ⟨.bool (dM x r).2,[(b,eJ b (dM x r).1)],bg b (dM x r).1.out⟩:=by
 refine Ok rfl ?_;have hib:=aP hbd;have tl:=fq x.out;have HX:=Dc r;have hlt:=BF r;have nlt:x.n<16777216:=xO hn (pJ (Nat.pow_le_pow_right (by omega) hc) (by decide));have VS:=Am (x.n:Int);unfold dM;by_cases c1:0≤lH r∧x.c<6
 ·rw [if_pos c1];dsimp only;obtain ⟨h,hh⟩: ∃h:Nat,lH r=h:=⟨(lH r).toNat,by omega⟩;rw [hh] at HX hlt c1 ⊢;rw [Int.toNat_natCast];have k1:=Iv x.n nlt;have k2:=KE x.n h nlt (by omega);have k3:IntKind.i64.wrap ((x.c:Int)+1)=(x.c+1:Nat):=by rw [an]<;>omega
  have k4:(x.c:Int)<6:=by omega
  have k5:=c1.2;have k6:=c1.1;have kk:((16*x.n+h:Nat):Int)=16*(x.n:Int)+h:=by omega
  rw [kk] at k2;generalize ((x.n*16:Nat):Int)=SV at *
  unfold eJ;clear VS;cases hx:x.out with
  |nil=>
   simp only [bB,bg];simp only [az,bE,a7,AV.mp,bK,Pl.mp,bt,bO];simp [nf];apply ab HX;simp [k1,k2,k3,k4,k5,k6];apply ai<;>simp [hib,hb]
  |cons a l=>
   simp only [bB,bg];generalize ae (aq (a::l))=B0 at *
   simp only [az,bE,a7,AV.mp,bK,Pl.mp,bt,bO];simp [nf];apply ab HX;simp [k1,k2,k3,k4,k5,k6];apply ai<;>simp [hib,hb]
 rw [if_neg c1];by_cases c2:r=125
 ·subst c2;have e:lH 125= -1:=by decide
  rw [e] at HX;by_cases c3:x.c=0
  ·rw [if_pos (.inr (.inl c3))];dsimp only;unfold eJ;clear VS;cases hx:x.out with
   |nil=>
    simp only [bB,bg];simp only [az,bE,a7,AV.mp,bK,Pl.mp,bt,bO];simp [nf];apply ab HX;simp [c3];apply ai<;>simp [hib,hb,c3]
   |cons a l=>
    simp only [bB,bg];generalize ae (aq (a::l))=B0 at *
    simp only [az,bE,a7,AV.mp,bK,Pl.mp,bt,bO];simp [nf];apply ab HX;simp [c3];apply ai<;>simp [hib,hb,c3]
  ·have c3':((x.c:Int)==0)=false:=dh.2 (by omega);cases hv:fv (x.n:Int)
   ·rw [hv] at VS;rw [if_pos (.inr (.inr rfl))];dsimp only;unfold eJ;cases hx:x.out with
    |nil=>
     simp only [bB,bg];simp only [az,bE,a7,AV.mp,bK,Pl.mp,bt,bO];simp [nf];apply ab HX;simp [c3,c3'];apply ab VS;simp;apply ai<;>simp [hib,hb]
    |cons a l=>
     simp only [bB,bg];generalize ae (aq (a::l))=B0 at *
     simp only [az,bE,a7,AV.mp,bK,Pl.mp,bt,bO];simp [nf];apply ab HX;simp [c3,c3'];apply ab VS;simp;apply ai<;>simp [hib,hb]
   ·rw [hv] at VS;rw [if_neg (by rintro (h|h|h)<;>first|exact h rfl|exact c3 h|cases h)];dsimp only;have hq:=(rB _).1 hv;have W:=fun (s6:Int) (c0:AV) (hc0:c0= .nilT (.up b) 260 5∨c0= .ptr (.up b) 0) (e:Nat) (he:(Id.up b).isNw e=false)=>m8 (d:=e) (b:= .up b) hb he lI hc0 [i6 s6,i3 x.n,i6 x.c] (aq x.out) x.n hq (by unfold du at hq;omega) (by omega)
    unfold eJ;rw [iZ,i7];cases hx:x.out with
    |nil=>
     rw [hx] at W;have W:=fun s6=>W s6 _ (.inl rfl)
     rw [show aq []=[] from rfl] at W ⊢;simp only [bO] at W ⊢;rw [show ae []=[] from rfl] at W;generalize ae (cK x.n)=B at *
     simp only [bB,bg];simp only [az,bE,a7,AV.mp,bK,Pl.mp,bt,bO];simp [nf];apply ab HX;simp [c3,c3'];apply ab VS;simp;refine aK _ _ (W x.st _ rfl) ⟨?_,?_,?_,?_,?_,?_,?_⟩ ?_;iterate 7 (· simp [hb])
     simp;apply ai<;>simp [hib,hb]
    |cons a l=>
     rw [hx] at W;have W:=fun s6=>W s6 _ (.inr rfl)
     generalize ae (aq (a::l)++cK x.n)=B at *
     simp only [bB,bg];generalize ae (aq (a::l))=B0 at *
     simp only [az,bE,a7,AV.mp,bK,Pl.mp,bt,bO];simp [nf];apply ab HX;simp [c3,c3'];apply ab VS;simp;refine aK _ _ (W x.st _ rfl) ⟨?_,?_,?_,?_,?_,?_,?_⟩ ?_;iterate 7 (· simp [hb])
     simp;apply ai<;>simp [hib,hb]
 ·rw [if_pos (.inl c2)];dsimp only;have c2':(r !=125)=true:=bne_iff_ne.2 c2;have c2'':(r==125)=false:=dh.2 c2;unfold eJ;clear VS;by_cases c3:0≤lH r
  ·have c4: ¬x.c<6:=fun h=>c1 ⟨c3,h⟩
   have c4': ¬(x.c:Int)<6:=by omega
   cases hx:x.out with
   |nil=>
    simp only [bB,bg];simp only [az,bE,a7,AV.mp,bK,Pl.mp,bt,bO];simp [nf];apply ab HX;simp [c3,c4,c4',c2',c2''];apply ai<;>simp [hib,hb]
   |cons a l=>
    simp only [bB,bg];generalize ae (aq (a::l))=B0 at *
    simp only [az,bE,a7,AV.mp,bK,Pl.mp,bt,bO];simp [nf];apply ab HX;simp [c3,c4,c4',c2',c2''];apply ai<;>simp [hib,hb]
  ·cases hx:x.out with
   |nil=>
    simp only [bB,bg];simp only [az,bE,a7,AV.mp,bK,Pl.mp,bt,bO];simp [nf];apply ab HX;simp [c3,c2',c2''];apply ai<;>simp [hib,hb]
   |cons a l=>
    simp only [bB,bg];generalize ae (aq (a::l))=B0 at *
    simp only [az,bE,a7,AV.mp,bK,Pl.mp,bt,bO];simp [nf];apply ab HX;simp [c3,c2',c2''];apply ai<;>simp [hib,hb]
end Go.Ai
