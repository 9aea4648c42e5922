/- P9: a part of the proof. Conditions: as each theorem says. -/
import Derived.Test.YtojgeamhdkphaaaGreatDoorP8
set_option maxHeartbeats 4000000
set_option linter.unusedSimpArgs false
set_option linter.unusedVariables false
set_option maxRecDepth 20000
namespace Go.Ai
open Go.Proofs
def kw (h:Nat×Bool) (t:Nat×Bool):Nat×Int:=
 if h.2=false\/t.2=false then (0,5) else if 100<h.1\/(h.1=100/\0<t.1) then (0,8) else ((h.1*10000%4294967296+t.1)%4294967296,0)
def Fq (s:List UInt8):Nat×Int:=
 if ii s [37]=false then (0,5)
 else if ((dk s [37]).takeWhile (cM 46)).length<(dk s [37]).length then
  kw (eG ((dk s [37]).takeWhile (cM 46))) ((xo (ay ((dk s [37]).drop (((dk s [37]).takeWhile (cM 46)).length+1)) 0) 4).1,
   (xo (ay ((dk s [37]).drop (((dk s [37]).takeWhile (cM 46)).length+1)) 0) 4).2&&!ii ((dk s [37]).drop (((dk s [37]).takeWhile (cM 46)).length+1)) [48])
 else kw (eG (dk s [37])) (0,true)
def M6 (b:List UInt8) (d:Nat):Nat:=qX b d*10000+qX (b.drop (d+1)) 4
def Lm (s b:List UInt8) (d:Nat):Nat×Int:=
 if (b.take d).all aV=false\/(b.drop (d+1)).all aV=false then (0,5)
 else if (d<b.length/\(b.length - 1 - d<1\/4<b.length - 1 - d\/bF s (b.length - 1)=48))\/d=0\/(bF s 0=48/\1<d) then (0,5)
 else if 3<d then (0,8)
 else if 1000000<M6 b d then (0,8) else (M6 b d,0)
def Je (s:List UInt8):Nat×Int:=
 if s.length<2\/bF s (s.length - 1)≠37 then (0,5)
 else Lm s (s.take (s.length - 1)) ((s.take (s.length - 1)).takeWhile (cM 46)).length
theorem pS (l:List UInt8): ∀i,i<=l.length->qX l i=aU (l.take i)
 |0,_=>by rw[qX,N7];rfl
 |i+1,h=>by
  have g:i<l.length:=by omega
  rw[qX,pS l i (by omega),IW g,Jo g,k7]
theorem DO (l:List UInt8): ∀j,qX l (l.length+j)=aU l*10^j
 |0=>by rw[tF,pS l _ (eR _),tJ];simp
 |j+1=>by
  rw[<-Gd,qX,DO l j,xh (by omega),Ns];rw[tF,Nr 10,Nat.mul_assoc]
theorem tx (s:List UInt8) (c:UInt8):ii s [c]=true↔0<s.length/\bF s (s.length - 1)=c.toNat:=by
 unfold ii;rw[aJ,Cn,Cp,cI];constructor
 ·rintro ⟨h1,h2⟩;refine ⟨h1,?_⟩;have g:s.length - 1<s.length:=by omega
  rw[xI g] at h2;injection h2 with h2 _;rw[pq g,h2]
 ·rintro ⟨h1,h2⟩;refine ⟨h1,?_⟩;have g:s.length - 1<s.length:=by omega
  rw[pq g] at h2;rw[xI g,Nq.1 h2,Co (by omega)]
theorem pT (h:List UInt8):ci h=true↔h≠[]/\h.all aV=true/\ ¬(bF h 0=48/\1<h.length):=by
 unfold ci;cases h with
 |nil=>simp
 |cons a t=>
  have e:bF (a::t) 0=a.toNat:=rfl;rw[e];have q:(a !=48)=true↔a.toNat≠48:=by
   rw[bne_iff_ne];constructor
   ·intro h1 h2;exact h1 (Nq.1 h2)
   ·intro h1 h2;exact h1 (by rw[h2];rfl)
  rw[aJ,aJ,AG,List.headD_cons,q,cI];simp only[List.isEmpty_cons,Bool.not_false,true_and,e7];constructor
  ·rintro ⟨h1,h2⟩;exact ⟨by simp,h1,by omega⟩
  ·rintro ⟨_,h1,h2⟩;exact ⟨h1,by omega⟩
theorem Ce (h:List UInt8) (hh:ci h=false):eG h=(0,false):=by
 unfold eG;rw[hh,if_neg (by decide)]
theorem Cg (h:List UInt8) (hh:ci h=true) (hl:3<h.length):eG h=(101,true):=by
 have:=(pT h).1 hh
 unfold eG;rw[if_pos hh,jB h h.length 0 (by omega) (by omega) this.2.1,if_pos (by omega)]
theorem Fs (h:List UInt8) (hh:ci h=true) (hl: ¬3<h.length):eG h=(min (aU h) 101,true):=by
 have:=(pT h).1 hh
 unfold eG;rw[if_pos hh,jB h h.length 0 (by omega) (by omega) this.2.1,if_neg (by omega),IZ h h.length this.2.1 this.1 (eR _) (by omega),Nat.sub_self];simp
theorem Fu (s:List UInt8) (c:UInt8):(s.takeWhile (cM c)).length<=s.length:=(List.takeWhile_prefix _).length_le
theorem Ln (s b:List UInt8) (hb:b=s.take (s.length - 1)) (h2:2<=s.length):
  (if (b.takeWhile (cM 46)).length<b.length then kw (eG (b.takeWhile (cM 46))) ((xo (ay (b.drop ((b.takeWhile (cM 46)).length+1)) 0) 4).1,(xo (ay (b.drop ((b.takeWhile (cM 46)).length+1)) 0) 4).2&&!ii (b.drop ((b.takeWhile (cM 46)).length+1)) [48])
   else kw (eG b) (0,true))=Lm s b (b.takeWhile (cM 46)).length:=by
 have bl:b.length=s.length - 1:=by rw[hb,tD];omega
 have tw:=tj 46 b;have tl:=Fu b 46;have b0:bF b 0=bF s 0:=by rw[hb];exact oD (by omega)
 have bn:bF b (b.length - 1)=bF s (b.length - 1):=by
  have e:b.length - 1<s.length - 1:=by omega
  have:=oD (s:=s) (j:=s.length - 1) (q:=b.length - 1) e
  rw[<-hb] at this;exact this
 clear hb;obtain ⟨d,hd⟩: ∃d,d=(b.takeWhile (cM 46)).length:=⟨_,rfl⟩;rw[<-hd] at tw tl ⊢;rw[<-tw];clear hd tw;have tkl:(b.take d).length=d:=by rw[tD];omega
 have dl:(b.drop (d+1)).length=b.length - (d+1):=xy;have t0:0<d->bF (b.take d) 0=bF s 0:=fun h=>by rw[oD h,b0]
 have dn:d+1<b.length->bF (b.drop (d+1)) ((b.drop (d+1)).length - 1)=bF s (b.length - 1):=fun h=>by
  rw[Aa,dl,show d+1+(b.length - (d+1) - 1)=b.length - 1 by omega,bn]
 have v1:=pS b d tl;have ok:=pT (b.take d);have ne:b.take d≠[]↔0<d:=by
  rw[Ne,<-List.length_eq_zero_iff,tkl];omega
 rw[ne,tkl] at ok;unfold Lm M6;rw[v1];have WB:=Ce (b.take d);have WF:=Cg (b.take d);have WO:=Fs (b.take d);rw[tkl] at WF WO;have tot:b.take d=b\/d<b.length:=by
  by_cases g:d<b.length
  · exact .inr g
  · left;rw[List.take_of_length_le (by omega)]
 have V4:(b.drop (d+1)).all aV=true->(b.drop (d+1)).length<=4->qX (b.drop (d+1)) 4=aU (b.drop (d+1))*10^(4 - (b.drop (d+1)).length)/\qX (b.drop (d+1)) 4<10000:=fun h h'=>by
  refine ⟨?_,?_⟩
  · have:=DO (b.drop (d+1)) (4 - (b.drop (d+1)).length)
    rw[<-this];congr 1
    omega
  · refine xi _ (fun i=>?_) 4;by_cases e:b.drop (d+1)=[]
    ·rw[xh (by rw[e];simp)];omega
    ·refine xj ?_ i;unfold oM;rw[h,nC,Cn];exact Jz.2 e
 have u3:ci (b.take d)=true-> ¬3<d->aU (b.take d)<1000:=fun h h'=>by
  have:=sY (b.take d) (ok.1 h).2.1
  rw[tkl] at this;exact AD this (show 10^d<=1000 from by
    obtain rfl|rfl|rfl|rfl:d=0\/d=1\/d=2\/d=3:=by omega
    all_goals decide)
 have PB:=Le (b.drop (d+1)) 4;have PO:=IZ (b.drop (d+1)) 4;have SB:=tx (b.drop (d+1)) 48;rw[show (48:UInt8).toNat=48 from rfl] at SB;rw[dl] at SB PB PO V4;by_cases g:d<b.length
 ·rw[if_pos g];clear tot;cases ha:(b.take d).all aV
  · have:ci (b.take d)=false:=by
     cases hk:ci (b.take d)
     ·rfl
     ·have:=(ok.1 hk).2.1
      rw[ha] at this;cases this
    rw[WB this,if_pos (.inl rfl)];rfl
  cases hb2:(b.drop (d+1)).all aV
  · rw[PB (.inl hb2),if_pos (.inr rfl)];unfold kw;rw[if_pos (.inr rfl)]
  rw[if_neg (by rintro (h|h)<;>cases h)];rw[hb2] at V4 PO;have bad:((xo (ay (b.drop (d+1)) 0) 4).2&&!ii (b.drop (d+1)) [48])=false↔(b.length - 1 - d<1\/4<b.length - 1 - d\/bF s (b.length - 1)=48):=by
    by_cases e1:b.length - (d+1)=0
    ·have:b.drop (d+1)=[]:=Jy (by rw[dl];exact e1)
     rw[PB (.inr (.inl this))];simp only[qp,true_iff];left;omega
    by_cases e2:4<b.length - (d+1)
    ·rw[PB (.inr (.inr e2))];simp only[qp,true_iff];right;left;omega
    rw[PO rfl (fun e=>e1 (by rw[<-dl,e];rfl)) (by omega) (by omega)];simp only[nC];have dn:=dn (by omega);rw[dl] at dn;rw[dn] at SB;cases hs:ii (b.drop (d+1)) [48]
    ·simp only[Bool.not_false];constructor
     ·intro h;cases h
     ·rintro (h|h|h)
      ·omega
      ·omega
      ·have:=SB.2 ⟨by omega,h⟩
       rw[hs] at this;cases this
    ·simp only[Bool.not_true,true_iff]
     have:=SB.1 hs
     omega
  by_cases c1:((d<b.length/\(b.length - 1 - d<1\/4<b.length - 1 - d\/bF s (b.length - 1)=48))\/d=0\/(bF s 0=48/\1<d))
  · rw[if_pos c1];unfold kw;rw[if_pos];rcases c1 with ⟨_,h⟩|h|⟨h,h'⟩
    ·right;exact bad.2 h
    ·left;rw[WB];cases hk:ci (b.take d)
     ·rfl
     ·have:=(ok.1 hk).1;omega
    ·left;rw[WB];cases hk:ci (b.take d)
     ·rfl
     ·have:=(ok.1 hk).2.2
      rw[t0 (by omega)] at this;exact absurd ⟨h,h'⟩ this
  rw[if_neg c1];have hd0:0<d:=by omega
  have hk:ci (b.take d)=true:=ok.2 ⟨hd0,ha,by rw[t0 hd0];omega⟩;have hg: ¬(b.length - 1 - d<1\/4<b.length - 1 - d\/bF s (b.length - 1)=48):=fun h=>c1 (.inl ⟨g,h⟩)
  have ht:((xo (ay (b.drop (d+1)) 0) 4).2&&!ii (b.drop (d+1)) [48])=true:=by
    cases hq:((xo (ay (b.drop (d+1)) 0) 4).2&&!ii (b.drop (d+1)) [48])
    ·exact absurd (bad.1 hq) hg
    ·rfl
  rw[ht];have v4:=V4 rfl (by omega);have ne2:b.drop (d+1)≠[]:=fun e=>by
    have:(b.drop (d+1)).length=0:=by rw[e];rfl
    omega
  rw[PO rfl ne2 (by omega) (by omega),<-v4.1];have v5:=v4.2;generalize qX (b.drop (d+1)) 4=m at*;by_cases c3:3<d
  · rw[WF hk c3,if_pos c3];rfl
  · rw[WO hk c3,if_neg c3];have u3:=u3 hk c3;generalize aU (b.take d)=q at*;unfold kw;dsimp only;rw[if_neg (by rintro (h|h)<;>cases h)];by_cases c4:1000000<q*10000+m
    ·rw[if_pos c4,if_pos (by omega)]
    ·rw[if_neg c4,if_neg (by omega),show min q 101=q by omega,DS (show q*10000<4294967296 by omega),DS (by omega)]
 ·rw[if_neg g];have tot:b.take d=b:=by
    rcases tot with h|h
    ·exact h
    ·exact absurd h g
  have dnil:b.drop (d+1)=[]:=Co (by omega);rw[dnil] at V4 ⊢;have m0:qX ([]:List UInt8) 4=0:=by decide
  rw[m0,tF];rw[tot] at ok WB WF WO u3 ⊢;cases ha:b.all aV
  · have:ci b=false:=by
     cases hk:ci b
     ·rfl
     ·have:=(ok.1 hk).2.1
      rw[ha] at this;cases this
    rw[WB this,if_pos (.inl rfl)];rfl
  rw[if_neg (by rintro (h|h);cases h;exact absurd h (by decide))];by_cases c1:((d<b.length/\(b.length - 1 - d<1\/4<b.length - 1 - d\/bF s (b.length - 1)=48))\/d=0\/(bF s 0=48/\1<d))
  · rw[if_pos c1];unfold kw;rw[if_pos];left;rcases c1 with ⟨h,_⟩|h|⟨h,h'⟩
    ·exact absurd h g
    ·rw[WB];cases hk:ci b
     ·rfl
     ·have:=(ok.1 hk).1;omega
    ·rw[WB];cases hk:ci b
     ·rfl
     ·have:=(ok.1 hk).2.2
      rw[b0] at this;exact absurd ⟨h,h'⟩ this
  rw[if_neg c1];have hd0:0<d:=by omega
  have hk:ci b=true:=ok.2 ⟨hd0,ha,by rw[b0];omega⟩;by_cases c3:3<d
  · rw[WF hk c3,if_pos c3];rfl
  · rw[WO hk c3,if_neg c3];have u3:=u3 hk c3;generalize aU b=q at*;unfold kw;dsimp only;rw[if_neg (by rintro (h|h)<;>cases h)];by_cases c4:1000000<q*10000
    ·rw[if_pos c4,if_pos (by omega)]
    ·rw[if_neg c4,if_neg (by omega),show min q 101=q by omega,DS (show q*10000<4294967296 by omega),tF,DS (by omega)]
theorem M7 (s:List UInt8):Fq s=Je s:=by
 unfold Fq Je;have S:=tx s 37;rw[show (37:UInt8).toNat=37 from rfl] at S;cases hs:ii s [37]
 ·rw[if_pos rfl,if_pos];by_cases h:s.length<2
  ·exact .inl h
  ·right;intro e
   have:=S.2 ⟨by omega,e⟩
   rw[hs] at this;cases this
 ·rw[if_neg (by decide)];have h:=S.1 hs;have hc:dk s [37]=s.take (s.length - 1):=by
   unfold dk;rw[if_pos hs];rfl
  rw[hc];by_cases h2:s.length<2
  ·rw[if_pos (show s.length<2\/bF s (s.length - 1)≠37 from .inl h2)];have e:s.take (s.length - 1)=[]:=by rw[show s.length - 1=0 by omega,N7]
   rw[e];decide
  ·rw[if_neg (show ¬(s.length<2\/bF s (s.length - 1)≠37) from by rintro (h'|h');exact h2 h';exact h' h.2)];exact Ln s _ rfl (by omega)
theorem Fv (s t:List UInt8):(dk s t).length<=s.length:=by
 unfold dk;split
 ·rw[tD];omega
 ·exact eR _
theorem Au (s:List UInt8) (hl:s.length<=1000000):Sp Tryz.prog gl 103 [.str s] (.tup [.int .u32 (Fq s).1,i6 (Fq s).2]):=by
 refine Qy rfl rfl ?_;have CS:=Aj s [37] hl (by simp);have bl:=Fv s [37];unfold Fq;generalize dk s [37]=b at*;have hb:b.length<=1000000:=by omega
 cases hs:ii s [37]
 ·rw[hs] at CS;rw[if_pos rfl];clear bl;simp[nG];apply ag CS;simp
 rw[hs] at CS;rw[if_neg (by decide)];have CB:=tp 46 b hb;unfold vC at CB;by_cases g:(b.takeWhile (cM 46)).length<b.length
 ·rw[if_pos g] at CB ⊢;have W:=ti (b.takeWhile (cM 46)) (by omega);have PN:=oO (b.drop ((b.takeWhile (cM 46)).length+1)) (by rw[xy];omega) 4 (by omega);have HS:=oN (b.drop ((b.takeWhile (cM 46)).length+1)) [48] (by rw[xy];omega) (by simp);clear g hb bl hs;generalize b.drop ((b.takeWhile (cM 46)).length+1)=tl at*;generalize b.takeWhile (cM 46)=hd at*;generalize eG hd=wh,xo (ay tl 0) 4=q,ii tl [48]=sb at*;obtain ⟨n,o⟩:=wh;obtain ⟨m,i⟩:=q;unfold kw;dsimp only at W PN ⊢;cases o
  ·rw[if_pos (.inl rfl)];cases i
   ·simp[nG];apply ag CS;simp;apply ag CB;simp;apply ag W;simp;apply ag PN;simp
   ·simp[nG];apply ag CS;simp;apply ag CB;simp;apply ag W;simp;apply ag PN;simp;apply ag HS;simp
  cases i
  ·rw[if_pos (.inr rfl)];simp[nG];apply ag CS;simp;apply ag CB;simp;apply ag W;simp;apply ag PN;simp
  cases sb
  rotate_left
  ·rw[if_pos (.inr rfl)];simp[nG];apply ag CS;simp;apply ag CB;simp;apply ag W;simp;apply ag PN;simp;apply ag HS;simp
  rw[if_neg (by rintro (h|h)<;>cases h)];have w1:IntKind.u32.wrap ((n:Int)*10000)=((n*10000%4294967296:Nat):Int):=by
   rw[gn];omega
  have w2:IntKind.u32.wrap (((n*10000%4294967296:Nat):Int)+(m:Int))=(((n*10000%4294967296+m)%4294967296:Nat):Int):=by
   rw[gn];omega
  generalize (n*10000%4294967296+m)%4294967296=z,((n*10000%4294967296:Nat):Int)=y at*;by_cases c1:100<n
  ·have c1':(100:Int)<n:=by omega
   rw[if_pos (.inl c1)];simp[nG];apply ag CS;simp;apply ag CB;simp;apply ag W;simp;apply ag PN;simp;apply ag HS;simp[c1,c1']
  have c1': ¬(100:Int)<n:=by omega
  by_cases c2:n=100
  ·subst c2;have w1':IntKind.u32.wrap 1000000=y:=by rw[<-w1];rfl
   by_cases c3:0<m
   ·have c3':(0:Int)<m:=by omega
    rw[if_pos (.inr ⟨rfl,c3⟩)];simp[nG];apply ag CS;simp;apply ag CB;simp;apply ag W;simp;apply ag PN;simp;apply ag HS;simp[c3,c3']
   ·have c3': ¬(0:Int)<m:=by omega
    rw[if_neg (by omega)];simp[nG];apply ag CS;simp;apply ag CB;simp;apply ag W;simp;apply ag PN;simp;apply ag HS;simp[c3,c3',w1',w2]
  ·have c2':((n:Int)==100)=false:=cH.2 (by omega);rw[if_neg (by omega)];simp[nG];apply ag CS;simp;apply ag CB;simp;apply ag W;simp;apply ag PN;simp;apply ag HS;simp[c1,c1',c2,c2',w1,w2]
 ·rw[if_neg g] at CB ⊢;have W:=ti b hb;clear g hb bl hs;generalize eG b=wh at*;obtain ⟨n,o⟩:=wh;unfold kw;dsimp only at W ⊢;cases o
  ·rw[if_pos (.inl rfl)];simp[nG];apply ag CS;simp;apply ag CB;simp;apply ag W;simp
  rw[if_neg (by rintro (h|h)<;>cases h)];have w1:IntKind.u32.wrap ((n:Int)*10000)=((n*10000%4294967296:Nat):Int):=by
   rw[gn];omega
  have w2:IntKind.u32.wrap ((n*10000%4294967296:Nat):Int)=(((n*10000%4294967296+0)%4294967296:Nat):Int):=by
   rw[gn];omega
  generalize (n*10000%4294967296+0)%4294967296=z,((n*10000%4294967296:Nat):Int)=y at*;by_cases c1:100<n
  ·have c1':(100:Int)<n:=by omega
   rw[if_pos (.inl c1)];simp[nG];apply ag CS;simp;apply ag CB;simp;apply ag W;simp[c1,c1']
  have c1': ¬(100:Int)<n:=by omega
  rw[if_neg (by omega)];by_cases c2:n=100
  ·subst c2;have w1':IntKind.u32.wrap 1000000=y:=by rw[<-w1];rfl
   simp[nG];apply ag CS;simp;apply ag CB;simp;apply ag W;simp[w1',w2]
  ·have c2':((n:Int)==100)=false:=cH.2 (by omega);simp[nG];apply ag CS;simp;apply ag CB;simp;apply ag W;simp[c1,c1',c2,c2',w1,w2]
def Av (c:UInt8) (s:List UInt8):Bool:=decide ((s.takeWhile (cM c)).length<s.length)
theorem Fw (s:List UInt8):Sp Tryz.prog gl 130 [.str s,.str [46]] (i6 (Lib.indexByte s 46)):=by
 refine QJ rfl rfl ?_;have IX:=vB s 46;generalize Lib.indexByte s 46=k at*;simp[NS];apply ag IX;simp
theorem Fx (s:List UInt8):Sp Tryz.prog gl 104 [.str s,.str [46]] (.bool (Av 46 s)):=by
 refine Qz rfl rfl ?_;have IX:=Fw s;have e:=Ap 46 s;have hb:Av 46 s=decide (0<=Lib.indexByte s 46):=by
  unfold Av;rw[e];split
  ·rename_i h;rw[mI h,mI (by omega)]
  ·rename_i h;rw[lm h,lm (by omega)]
 rw[hb];clear hb e;generalize Lib.indexByte s 46=k at*;simp[NP];apply ag IX;simp
theorem M8 (s:List UInt8):(Fq s).1<4294967296:=by
 have h: ∀a b,(kw a b).1<4294967296:=fun a b=>by
  unfold kw;split
  ·simp
  ·split
   ·simp
   ·exact Nat.mod_lt _ (by decide)
 unfold Fq;split
 ·simp
 ·split
  ·exact h _ _
  ·exact h _ _
theorem tz: ∀(l:List UInt8) (dg:Bool) (n la sm:Nat) (fr:Bool),sm<=253402300799->(FY l dg n la sm fr).1<=253402300799
 |[],dg,n,la,sm,fr,h=>by
  rw[FY];split
  ·simp
  ·split
   ·simp
   ·exact h
 |c::l,dg,n,la,sm,fr,h=>by
  rw[FY];split
  ·exact tz l _ _ _ _ _ h
  ·split
   ·simp
   ·split
    ·exact tz l _ _ _ _ _ h
    ·split
     ·exact tz l _ _ _ _ _ (by omega)
     ·exact tz l _ _ _ _ _ (by omega)
theorem Aw (s:List UInt8):(jC s).1<=253402300799:=by
 rw[tu];unfold Ah;split
 ·simp
 ·exact tz _ _ _ _ _ _ (by omega)
theorem oR (v:TV):em v.av=some v.av:=by cases v<;>simp[TV.av]
def vR (w:List UInt8):Int:=if w=[] then 32 else kZ (aq w 0).1
def sV (w:List UInt8):TV:=
 if ep (vR w)=false then (if dx w=true then .t 1 w 0 else .e 5)
 else if w.all aV=true then ck 3 (l0 w)
 else if ii w [37]=true then ck 5 (Fq w)
 else if Av 46 w=true then ck 4 (Ca (w.takeWhile (cM 46)) (w.drop ((w.takeWhile (cM 46)).length+1)))
 else ck 6 (jC w)
theorem qo (w:List UInt8) (hl:w.length<=900000):Sp Tryz.prog gl 85 [.str w] (sV w).av:=by
 refine Vh rfl rfl ?_;have D:=qh (vR w);have NM:=nb w hl;have TR:=nr w (by omega);have TN:=pQ w;have NU:=oL w (by omega);have HS:=oN w [37] (by omega) (by simp);have PP:=Au w (by omega);have CC:=Fx w;have SP:=Cd w (by omega);have FA:=fun h=>xq w (by omega) h
 have pl:=M8 w;have sl:=Aw w;have T5:=nq 5 (Fq w).1 (Fq w).2;have T6:=nq 6 (jC w).1 (jC w).2;have T3:=nq 3 (l0 w).1 0;have hb:Av 46 w=true->(w.takeWhile (cM 46)).length<w.length:=fun h=>by unfold Av at h;exact FJ h
 unfold sV;generalize ck 4 (Ca (w.takeWhile (cM 46)) (w.drop ((w.takeWhile (cM 46)).length+1)))=f4,Av 46 w=has,ii w [37]=suf,Lib.trimS w [48,49,50,51,52,53,54,55,56,57]=tr,Fq w=q5,jC w=q6,l0 w=q3,dx w=nm at*;obtain ⟨n5,e5⟩:=q5;obtain ⟨n6,e6⟩:=q6;obtain ⟨n3,e3⟩:=q3;dsimp only at PP SP T5 T6 T3 pl sl;have w5:IntKind.u64.wrap (n5:Int)=n5:=by rw[fh]<;>omega
 have w6:IntKind.u64.wrap (n6:Int)=n6:=by rw[fh]<;>omega
 obtain ⟨R,hR⟩: ∃R:TV,R=if ep (vR w)=false then (if nm=true then .t 1 w 0 else .e 5)
  else if w.all aV=true then ck 3 (n3,e3)
  else if suf=true then ck 5 (n5,e5)
  else if has=true then f4
  else ck 6 (n6,e6):=⟨_,rfl⟩
 rw[<-hR];have i3w:IntKind.i32.wrap 32=32:=by decide
 simp[TS];refine cP (α:=Nat) (fun _=>⟨[(0,.str w),(2,.nili),(3,i3 32),(13,.itp 13)],[(.it 13,[.itr w 0])],[]⟩) (fun _=>True) (fun _=>1) ?_ 0 trivial ?_
 ·rintro K _ hK _;clear hK;by_cases e:w=[]
  ·have ev:vR w=32:=if_pos e;subst e;rw[ev] at D hR;rw[show ep 32=false from rfl] at D hR;rw[if_pos rfl] at hR;clear T3 T5 T6 FA SP CC PP HS NU TR;cases nm
   ·rw[if_neg (by decide)] at hR;subst hR;unfold TV.av;simp;apply ag D;simp;apply ag NM;simp
   ·rw[if_pos rfl] at hR;subst hR;unfold TV.av;simp;apply ag D;simp;apply ag NM;simp;apply ag D;simp
  have g:0<w.length:=Jz.2 e;have ev:vR w=kZ (aq w 0).1:=if_neg e;have sr:=oG w 0 g;rw[<-ev] at sr;clear ev;generalize vR w=r,(aq w 0).2=wd at*;cases hd:ep r
  ·rw[hd] at D hR;rw[if_pos rfl] at hR;clear T3 T5 T6 FA SP CC PP HS NU TR;cases nm
   ·rw[if_neg (by decide)] at hR;subst hR;unfold TV.av;simp[g,sr];apply ag D;simp;apply ag NM;simp
   ·rw[if_pos rfl] at hR;subst hR;unfold TV.av;simp[g,sr];apply ag D;simp;apply ag NM;simp;apply ag D;simp
  rw[hd] at D hR;rw[if_neg (by decide)] at hR;clear NM;cases ha:w.all aV
  ·rw[ha] at TN hR;have k1:(tr==[])=false:=TN;have k2: ¬tr=[]:=fun h=>by rw[h] at TN;cases TN
   have k3:tr.isEmpty=false:=by rw[List.isEmpty_eq_false_iff];exact k2
   rw[if_neg (by decide)] at hR;clear T3 NU;cases suf
   ·rw[if_neg (by decide)] at hR;clear T5 PP;cases has
    ·rw[if_neg (by decide)] at hR;subst hR;have hsh:=oR (ck 6 (n6,e6));generalize (ck 6 (n6,e6)).av=out at*;clear FA;simp[g,sr];apply ag D;simp;apply ag D;simp;apply ag TR;simp[k1,k2,k3];apply ag HS;simp;apply ag CC;simp;apply ag SP;simp[w6];refine bg _ _ ((T6.h)) ?_;simp[hsh]
    ·rw[if_pos rfl] at hR;subst hR;have FA:=FA (hb rfl);have hsh:=oR R;generalize R.av=out at*;clear T6 SP;simp[g,sr];apply ag D;simp;apply ag D;simp;apply ag TR;simp[k1,k2,k3];apply ag HS;simp;apply ag CC;simp;refine bg _ _ ((FA.h)) ?_;simp[hsh]
   ·rw[if_pos rfl] at hR;subst hR;have hsh:=oR (ck 5 (n5,e5));generalize (ck 5 (n5,e5)).av=out at*;clear FA T6 SP CC;simp[g,sr];apply ag D;simp;apply ag D;simp;apply ag TR;simp[k1,k2,k3];apply ag HS;simp;apply ag PP;simp[w5];refine bg _ _ ((T5.h)) ?_;simp[hsh]
  ·rw[ha] at TN hR;have k2:tr=[]:=by simpa using TN
   subst k2;rw[if_pos rfl] at hR;subst hR;clear FA T6 SP CC T5 PP HS;unfold La at NU;dsimp only at NU;by_cases c3:e3=0
   ·subst c3;rw[if_pos rfl] at NU;have hsh:=oR (ck 3 (n3,0));generalize (ck 3 (n3,0)).av=out at*;simp[g,sr];apply ag D;simp;apply ag D;simp;apply ag TR;simp;refine bg _ _ ((NU.h)) ?_;simp;refine bg _ _ ((T3.h)) ?_;simp[hsh]
   ·rw[if_neg c3] at NU;have et:(ck 3 (n3,e3))= .e e3:=by unfold ck;rw[if_neg c3]
    rw[et];unfold TV.av;clear T3;simp[g,sr];apply ag D;simp;apply ag D;simp;apply ag TR;simp;refine bg _ _ ((NU.h)) ?_;simp;refine bg _ _ ((NU.h)) ?_;simp
 ·apply aC<;>simp
def OY (s:List UInt8):TV:=
 if oM s=true then ck 3 (l0 s)
 else if bF s (s.length - 1)=37 then ck 5 (Je s)
 else if Av 46 s=true then ck 4 (Ca (s.takeWhile (cM 46)) (s.drop ((s.takeWhile (cM 46)).length+1)))
 else ck 6 (Ah s)
def rV (m:List Int):TV:=
 if m=[]\/ep (m.headD 0)=false then (if dx (aG m)=true then .t 1 (aG m) 0 else .e 5)
 else OY (aG m)
theorem Jf (s:List UInt8):(Ah s).1<=253402300799:=by rw[<-tu];exact Aw s
open Go.Shelf
def nu:Ren:={
 f:=fun x=>match x with
  |168=>180
  |242=>190
  |278=>193
  |n=>dQ.f n
 t:=fun x=>match x with
  |21=>21
  |46=>208
  |51=>50
  |n=>dQ.t n
 g:=fun x=>x}
set_option maxRecDepth 100000 in
theorem M9:Lays.n168 Tryz.prog nu where
 mixed:=aM.mixed
 f168:=Eq.trans Tryz.func180 (congrArg some (show Tryz.f180=Body.n168 nu by kernel_rfl))
 f240:=Eq.trans Tryz.func189 (congrArg some (show Tryz.f189=Body.n240 nu by kernel_rfl))
 f242:=Eq.trans Tryz.func190 (congrArg some (show Tryz.f190=Body.n242 nu by kernel_rfl))
 f276:=Eq.trans Tryz.func192 (congrArg some (show Tryz.f192=Body.n276 nu by kernel_rfl))
 f278:=Eq.trans Tryz.func193 (congrArg some (show Tryz.f193=Body.n278 nu by kernel_rfl))
 t0:=aM.t0
 a0:=aM.a0
 z0:=aM.z0
 v0:=aM.v0
 t3:=aM.t3
 a3:=aM.a3
 z3:=aM.z3
 v3:=aM.v3
 t4:=aM.t4
 a4:=aM.a4
 z4:=aM.z4
 v4:=aM.v4
 t5:=pP.t5
 a5:=pP.a5
 z5:=pP.z5
 v5:=pP.v5
 t9:=aM.t9
 a9:=aM.a9
 z9:=aM.z9
 v9:=aM.v9
 t20:=aM.t20
 a20:=aM.a20
 z20:=aM.z20
 v20:=aM.v20
 t21:=Tryz.underlying21
 a21:=Tryz.isAgg21
 z21:=Tryz.sizeOf21
 v21:=Tryz.zeroValue21
 t37:=aM.t37
 a37:=aM.a37
 z37:=aM.z37
 v37:=aM.v37
 t46:=Tryz.underlying208
 a46:=Tryz.isAgg208
 z46:=Tryz.sizeOf208
 v46:=Tryz.zeroValue208
 t51:=Tryz.underlying50
 a51:=Tryz.isAgg50
 z51:=Tryz.sizeOf50
 v51:=Tryz.zeroValue50
 t70:=aM.t70
 a70:=aM.a70
 z70:=aM.z70
 v70:=aM.v70
 t72:=aM.t72
 a72:=aM.a72
 z72:=aM.z72
 v72:=aM.v72
 t75:=aM.t75
 a75:=aM.a75
 z75:=aM.z75
 v75:=aM.v75
 t164:=aM.t164
 a164:=aM.a164
 z164:=aM.z164
 v164:=aM.v164
theorem Na:Builder.Extra Tryz.prog nu where
 sizeBuilder:=by kernel_rfl
 liesBuilder:=by kernel_rfl
 t5:=Tryz.underlying5
 a5:=Tryz.isAgg5
 z5:=Tryz.sizeOf5
 v5:=Tryz.zeroValue5
 infoByte:=by kernel_rfl
 cellsByte:=by kernel_rfl
 sizeByte:=by kernel_rfl
 neB5:=by decide
theorem Ch (r:Nat) (h:r<=1114111):eS (r:Int)->Lib.byteCells (fm r)=Lib.runeCells (r:Int):=by
 intro hr;have b8: ∀n:Nat,n<256->((UInt8.ofNat n).toNat:Int)=n:=fun n hn=>by rw[UInt8.toNat_ofNat_of_lt' (by simpa using hn)]
 unfold fm Lib.byteCells Lib.runeCells;by_cases c1:r<128
 ·rw[if_pos c1,Lib.encodeRuneZ_one (by omega) (by omega)];simp only[fZ,l6,b8 r (by omega)]
 rw[if_neg c1];by_cases c2:r<2048
 ·rw[if_pos c2,Lib.encodeRuneZ_two (by omega) (by omega)];simp only[fZ,l6,b8 (192+r / 64) (by omega),b8 (128+r%64) (by omega)];rfl
 rw[if_neg c2];by_cases c3:r<65536
 ·rw[if_pos c3,Lib.encodeRuneZ_three (by rcases hr with h|h<;>omega)];simp only[fZ,l6,b8 (224+r / 4096) (by omega),b8 (128+r / 64%64) (by omega),b8 (128+r%64) (by omega)];rfl
 rw[if_neg c3,Lib.encodeRuneZ_four (by omega) (by omega)];simp only[fZ,l6,b8 (240+r / 262144) (by omega),b8 (128+r / 4096%64) (by omega),b8 (128+r / 64%64) (by omega),b8 (128+r%64) (by omega)];rfl
theorem xu {d:Nat} {b:Id} (hit:b.isIt=false) (hnwb:b.isNw d=false) {T n:Nat} (hT:rx Tryz.prog 224 T n) {c0:AV} (hc0:c0= .nilT b T n\/c0= .ptr b 0) (rest:List AV) (l:List UInt8) (r:Nat) (hr:eS (r:Int)) (h:r<=1114111) (hl:l.length+4<=140737488355328):
  ba Tryz.prog gl 180 d ⟨[.ptr b 0,.int .i32 r],[(b,c0:: .sl (aj l)::rest)],[(.b b 1,bk 5)]⟩ ⟨.tup [.int .i64 (fm r).length,.undef],[(b,.ptr b 0:: .sl (aj (l++fm r))::rest)],[(.b b 1,bk 5)]⟩:=
 Gs M9 Na (by kernel_rfl) (by kernel_rfl) hit hnwb (T:=T) (n:=n) (hc0.imp (fun h=>⟨h,hT⟩) id) (rest:=rest) l (fm r) r hr (Ch r h hr) hl
def qA (r:Int):Int:=if ep r=true then r - 48 else if 97<=r/\r<=102 then r - 87 else -1
theorem Fy (r:Int):Sp Tryz.prog gl 188 [i3 r] (i3 (qA r)):=by
 refine Q5 rfl rfl ?_;have D:=jw r;unfold qA;cases hd:ep r
 ·rw[hd] at D;rw[if_neg (by decide)];by_cases c1:97<=r
  ·by_cases c2:r<=102
   ·rw[if_pos ⟨c1,c2⟩];have t1:IntKind.i32.wrap (r - 97)=r - 97:=by rw[gq]<;>omega
    have t2:IntKind.i32.wrap (r - 97+10)=r - 87:=by rw[gq]<;>omega
    simp[F7];apply ag D;simp[c1,c2,t1,t2]
   ·rw[if_neg (fun h=>c2 h.2)];simp[F7];apply ag D;simp[c1,c2]
  ·rw[if_neg (fun h=>c1 h.1)];simp[F7];apply ag D;simp[c1]
 ·rw[hd] at D;rw[if_pos rfl];have hh:48<=r/\r<=57:=by unfold ep at hd;exact FJ hd
  have t1:IntKind.i32.wrap (r - 48)=r - 48:=by rw[gq]<;>omega
  simp[F7];apply ag D;simp[t1]
def jm (r:Int):Bool:=decide (0<=r/\r<55296)||decide (57343<r/\r<=1114111)
theorem tA (r:Int):jm r=true↔eS r:=by
 unfold jm eS;rw[AG,Cn,Cn]
theorem Ci (r:Int):Sp Tryz.prog gl 176 [i3 r] (.bool (jm r)):=by
 refine N5 rfl rfl ?_;unfold jm;by_cases d1:0<=r
 ·by_cases d2:r<55296
  ·simp[xH,d1,d2]
  ·by_cases c1:57343<r
   ·by_cases c2:r<=1114111
    ·simp[xH,d1,d2,c1,c2]
    ·simp[xH,d1,d2,c1,c2]
   ·simp[xH,d1,d2,c1]
 ·have d2: ¬57343<r:=by omega
  simp[xH,d1,d2]
structure Rd where
 out:List Int
 st:Int
 n:Nat
 c:Nat
def cp (b:Id):List Int->List AV
 |[]=>[.nilT b 226 5,.nils]
 |r::l=>[.ptr b 0,.sl (aj (aG (r::l)))]
def bX (b:Id):List Int->List (Pl×Nat)
 |[]=>[]
 |r::l=>[(.b b 1,bk 5)]
def fR (b:Id) (x:Rd):List AV:=cp b x.out++[i6 x.st,i3 x.n,i6 x.c]
def k8 (x:Rd) (r:Int):Rd×Bool:=
 if r=34\/r=92 then ({x with st:=0,out:=x.out++[r]},true)
 else if r=110 then ({x with st:=0,out:=x.out++[10]},true)
 else if r=116 then ({x with st:=0,out:=x.out++[9]},true)
 else if r=117 then ({x with st:=2},true)
 else ({x with st:=0},false)
def iN (x:Rd) (r:Int):Rd×Bool:=
 if 0<=qA r/\x.c<6 then ({x with n:=16*x.n+(qA r).toNat,c:=x.c+1},true)
 else if r≠125\/x.c=0\/jm x.n=false then (x,false)
 else ({x with out:=x.out++[(x.n:Int)],st:=0},true)
theorem ny:rx Tryz.prog 224 226 5:=by unfold rx;kernel_rfl
theorem kx (b:Id) (l:List Int) (r:Nat):cp b (l++[(r:Int)])=[.ptr b 0,.sl (aj (aG l++fm r))]:=by
 have e:aG (l++[(r:Int)])=aG l++fm r:=by
  rw[oC]
  have:lW (r:Int)=fm r:=by unfold lW;rw[if_neg (by omega),Int.toNat_natCast]
  rw[aG,aG,xJ,this]
 rw[<-e];cases l<;>rfl
theorem ky (b:Id) (l:List Int) (r:Int):bX b (l++[r])=[(.b b 1,bk 5)]:=by cases l<;>rfl
theorem Ax (x:Rd) (hl:x.out.length<=1000000) (r:Int) (d:Nat) (b:Id) (hb:b.isIt=false) (hbd:b.isNw d=false):
  ba Tryz.prog gl 178 d ⟨[.ptr b 0,i3 r],[(b,fR b x)],bX b x.out⟩ ⟨.bool (k8 x r).2,[(b,fR b (k8 x r).1)],bX b (k8 x r).1.out⟩:=by
 refine Q3 rfl ?_;have hib:=ae hbd;have ne: ∀z:Int,¬r=z->(r==z)=false:=fun z h=>cH.2 h
 have tl:=gH x.out;have W:=fun (q:Nat) (hq:eS (q:Int)) (hq2:q<=1114111) (c0:AV) (hc0:c0= .nilT (.up b) 226 5\/c0= .ptr (.up b) 0) e he=>xu (d:=e) (b:= .up b) hb he ny hc0 [i6 0,i3 x.n,i6 x.c] (aG x.out) q hq hq2 (by omega)
 unfold k8;by_cases c1:r=34\/r=92
 ·rw[if_pos c1];dsimp only;obtain ⟨q,rfl⟩: ∃q:Nat,r=q:=⟨r.toNat,by omega⟩;have hq:eS (q:Int):=by unfold eS;omega
  have W:=W q hq (by omega);unfold fR;rw[kx,ky];have c1':((q:Int)==34)=true\/(((q:Int)==34)=false/\((q:Int)==92)=true):=by
   by_cases h:(q:Int)=34
   ·left;rw[h];rfl
   ·right;exact ⟨cH.2 h,by rw[cI];omega⟩
  cases hx:x.out with
  |nil=>
   rw[hx] at W;have W:=W _ (.inl rfl);rw[show aG []=[] from rfl,cL] at W ⊢;rw[show aj []=[] from rfl] at W;generalize aj (fm q)=B at*;simp only[cp,bX];simp only[ar,aW,aP,AV.mp,aY,Pl.mp,cB,cL];rcases c1' with c1'|⟨c1',c2'⟩
   ·simp[oW,c1'];refine aE _ _ (W _ rfl) (by constructor<;>simp[hb]) ?_
    simp;apply ah<;>simp[hib,hb]
   ·simp[oW,c1',c2'];refine aE _ _ (W _ rfl) (by constructor<;>simp[hb]) ?_
    simp;apply ah<;>simp[hib,hb]
  |cons a l=>
   rw[hx] at W;have W:=W _ (.inr rfl);generalize aj (aG (a::l)++fm q)=B at*;simp only[cp,bX];generalize aj (aG (a::l))=B0 at*;simp only[ar,aW,aP,AV.mp,aY,Pl.mp,cB,cL];rcases c1' with c1'|⟨c1',c2'⟩
   ·simp[oW,c1'];refine aE _ _ (W _ rfl) (by constructor<;>simp[hb]) ?_
    simp;apply ah<;>simp[hib,hb]
   ·simp[oW,c1',c2'];refine aE _ _ (W _ rfl) (by constructor<;>simp[hb]) ?_
    simp;apply ah<;>simp[hib,hb]
 rw[if_neg c1];have n1:=ne 34 (fun h=>c1 (.inl h));have n2:=ne 92 (fun h=>c1 (.inr h));by_cases c3:r=110
 ·rw[if_pos c3];subst c3;dsimp only;have W:=W 10 (by unfold eS;omega) (by omega);unfold fR;rw[show (10:Int)=((10:Nat):Int) from rfl,kx,ky];cases hx:x.out with
  |nil=>
   rw[hx] at W;have W:=W _ (.inl rfl);rw[show aG []=[] from rfl,cL] at W ⊢;rw[show aj []=[] from rfl] at W;generalize aj (fm 10)=B at*;simp only[cp,bX];simp only[ar,aW,aP,AV.mp,aY,Pl.mp,cB,cL];simp[oW];refine aE _ _ (W _ rfl) (by constructor<;>simp[hb]) ?_
   simp;apply ah<;>simp[hib,hb]
  |cons a l=>
   rw[hx] at W;have W:=W _ (.inr rfl);generalize aj (aG (a::l)++fm 10)=B at*;simp only[cp,bX];generalize aj (aG (a::l))=B0 at*;simp only[ar,aW,aP,AV.mp,aY,Pl.mp,cB,cL];simp[oW];refine aE _ _ (W _ rfl) (by constructor<;>simp[hb]) ?_
   simp;apply ah<;>simp[hib,hb]
 rw[if_neg c3];have n3:=ne 110 c3;by_cases c4:r=116
 ·rw[if_pos c4];subst c4;dsimp only;have W:=W 9 (by unfold eS;omega) (by omega);unfold fR;rw[show (9:Int)=((9:Nat):Int) from rfl,kx,ky];cases hx:x.out with
  |nil=>
   rw[hx] at W;have W:=W _ (.inl rfl);rw[show aG []=[] from rfl,cL] at W ⊢;rw[show aj []=[] from rfl] at W;generalize aj (fm 9)=B at*;simp only[cp,bX];simp only[ar,aW,aP,AV.mp,aY,Pl.mp,cB,cL];simp[oW];refine aE _ _ (W _ rfl) (by constructor<;>simp[hb]) ?_
   simp;apply ah<;>simp[hib,hb]
  |cons a l=>
   rw[hx] at W;have W:=W _ (.inr rfl);generalize aj (aG (a::l)++fm 9)=B at*;simp only[cp,bX];generalize aj (aG (a::l))=B0 at*;simp only[ar,aW,aP,AV.mp,aY,Pl.mp,cB,cL];simp[oW];refine aE _ _ (W _ rfl) (by constructor<;>simp[hb]) ?_
   simp;apply ah<;>simp[hib,hb]
 rw[if_neg c4];have n4:=ne 116 c4;clear W;by_cases c5:r=117
 ·rw[if_pos c5];subst c5;dsimp only;unfold fR;cases hx:x.out with
  |nil=>
   simp only[cp,bX];simp only[ar,aW,aP,AV.mp,aY,Pl.mp,cB,cL];simp[oW];apply ah<;>simp[hib,hb]
  |cons a l=>
   simp only[cp,bX];generalize aj (aG (a::l))=B0 at*;simp only[ar,aW,aP,AV.mp,aY,Pl.mp,cB,cL];simp[oW];apply ah<;>simp[hib,hb]
 rw[if_neg c5];have n5:=ne 117 c5;dsimp only;unfold fR;cases hx:x.out with
 |nil=>
  simp only[cp,bX];simp only[ar,aW,aP,AV.mp,aY,Pl.mp,cB,cL];simp[oW,n1,n2,n3,n4,n5];apply ah<;>simp[hib,hb]
 |cons a l=>
  simp only[cp,bX];generalize aj (aG (a::l))=B0 at*;simp only[ar,aW,aP,AV.mp,aY,Pl.mp,cB,cL];simp[oW,n1,n2,n3,n4,n5];apply ah<;>simp[hib,hb]
theorem DP (r:Int):qA r<16:=by
 unfold qA ep;split
 ·rename_i h
  have:=FJ h
  omega
 ·split<;>omega
theorem Nb (x h:Nat) (hx:x<16777216) (hh:h<16):bits BinOp.or IntKind.i32 ((x*16:Nat):Int) (h:Int)=((16*x+h:Nat):Int):=by
 have hx2:x*16|||h=16*x+h:=by
  rw[show x*16=2^4*x by omega,<-Nat.two_pow_add_eq_or_of_lt (by omega)]
 have h1:(BitVec.ofInt 32 ((x*16:Nat):Int)).toNat=x*16:=by
  rw[BitVec.ofInt_natCast,BitVec.toNat_ofNat];exact DS (by omega)
 have h2:(BitVec.ofInt 32 (h:Int)).toNat=h:=by
  rw[BitVec.ofInt_natCast,BitVec.toNat_ofNat];exact DS (by omega)
 show IntKind.i32.wrap ((BitVec.ofInt 32 ((x*16:Nat):Int)|||BitVec.ofInt 32 (h:Int)).toNat:Int)=_;rw[BitVec.toNat_or,h1,h2,hx2,gq]<;>omega
theorem Lo (x:Nat) (hx:x<16777216):IntKind.i32.wrap ((x:Int)*2^(min 4 IntKind.i32.bits))=((x*16:Nat):Int):=by
 have e:(2:Int)^(min 4 IntKind.i32.bits)=16:=by decide
 rw[e,gq]<;>omega
theorem ui (x:Rd) (hl:x.out.length<=1000000) (hc:x.c<=6) (hn:x.n<16^x.c) (r:Int) (d:Nat) (b:Id) (hb:b.isIt=false) (hbd:b.isNw d=false):
  ba Tryz.prog gl 179 d ⟨[.ptr b 0,i3 r],[(b,fR b x)],bX b x.out⟩ ⟨.bool (iN x r).2,[(b,fR b (iN x r).1)],bX b (iN x r).1.out⟩:=by
 refine Q4 rfl ?_;have hib:=ae hbd;have tl:=gH x.out;have HX:=Fy r;have hlt:=DP r;have nlt:x.n<16777216:=AD hn (mu (Nat.pow_le_pow_right (by omega) hc) (by decide));have VS:=Ci (x.n:Int);unfold iN;by_cases c1:0<=qA r/\x.c<6
 ·rw[if_pos c1];dsimp only;obtain ⟨h,hh⟩: ∃h:Nat,qA r=h:=⟨(qA r).toNat,by omega⟩;rw[hh] at HX hlt c1 ⊢;rw[Int.toNat_natCast];have k1:=Lo x.n nlt;have k2:=Nb x.n h nlt (by omega);have k3:IntKind.i64.wrap ((x.c:Int)+1)=(x.c+1:Nat):=by rw[aL]<;>omega
  have k4:(x.c:Int)<6:=by omega
  have k5:=c1.2;have k6:=c1.1;have kk:((16*x.n+h:Nat):Int)=16*(x.n:Int)+h:=by omega
  rw[kk] at k2;generalize ((x.n*16:Nat):Int)=SV at*;unfold fR;clear VS;cases hx:x.out with
  |nil=>
   simp only[cp,bX];simp only[ar,aW,aP,AV.mp,aY,Pl.mp,cB,cL];simp[oX];apply ag HX;simp[k1,k2,k3,k4,k5,k6];apply ah<;>simp[hib,hb]
  |cons a l=>
   simp only[cp,bX];generalize aj (aG (a::l))=B0 at*;simp only[ar,aW,aP,AV.mp,aY,Pl.mp,cB,cL];simp[oX];apply ag HX;simp[k1,k2,k3,k4,k5,k6];apply ah<;>simp[hib,hb]
 rw[if_neg c1];by_cases c2:r=125
 ·subst c2;have e:qA 125= -1:=by decide
  rw[e] at HX;by_cases c3:x.c=0
  ·rw[if_pos (.inr (.inl c3))];dsimp only;unfold fR;clear VS;cases hx:x.out with
   |nil=>
    simp only[cp,bX];simp only[ar,aW,aP,AV.mp,aY,Pl.mp,cB,cL];simp[oX];apply ag HX;simp[c3];apply ah<;>simp[hib,hb,c3]
   |cons a l=>
    simp only[cp,bX];generalize aj (aG (a::l))=B0 at*;simp only[ar,aW,aP,AV.mp,aY,Pl.mp,cB,cL];simp[oX];apply ag HX;simp[c3];apply ah<;>simp[hib,hb,c3]
  ·have c3':((x.c:Int)==0)=false:=cH.2 (by omega);cases hv:jm (x.n:Int)
   ·rw[hv] at VS;rw[if_pos (.inr (.inr rfl))];dsimp only;unfold fR;cases hx:x.out with
    |nil=>
     simp only[cp,bX];simp only[ar,aW,aP,AV.mp,aY,Pl.mp,cB,cL];simp[oX];apply ag HX;simp[c3,c3'];apply ag VS;simp;apply ah<;>simp[hib,hb]
    |cons a l=>
     simp only[cp,bX];generalize aj (aG (a::l))=B0 at*;simp only[ar,aW,aP,AV.mp,aY,Pl.mp,cB,cL];simp[oX];apply ag HX;simp[c3,c3'];apply ag VS;simp;apply ah<;>simp[hib,hb]
   ·rw[hv] at VS;rw[if_neg (by rintro (h|h|h)<;>first|exact h rfl|exact c3 h|cases h)];dsimp only;have hq:=(tA _).1 hv;have W:=fun (s6:Int) (c0:AV) (hc0:c0= .nilT (.up b) 226 5\/c0= .ptr (.up b) 0) (e:Nat) (he:(Id.up b).isNw e=false)=>xu (d:=e) (b:= .up b) hb he ny hc0 [i6 s6,i3 x.n,i6 x.c] (aG x.out) x.n hq (by unfold eS at hq;omega) (by omega)
    unfold fR;rw[kx,ky];cases hx:x.out with
    |nil=>
     rw[hx] at W;have W:=fun s6=>W s6 _ (.inl rfl)
     rw[show aG []=[] from rfl] at W ⊢;simp only[cL] at W ⊢;rw[show aj []=[] from rfl] at W;generalize aj (fm x.n)=B at*;simp only[cp,bX];simp only[ar,aW,aP,AV.mp,aY,Pl.mp,cB,cL];simp[oX];apply ag HX;simp[c3,c3'];apply ag VS;simp;refine aE _ _ (W x.st _ rfl) (by constructor<;>simp[hb]) ?_
     simp;apply ah<;>simp[hib,hb]
    |cons a l=>
     rw[hx] at W;have W:=fun s6=>W s6 _ (.inr rfl)
     generalize aj (aG (a::l)++fm x.n)=B at*;simp only[cp,bX];generalize aj (aG (a::l))=B0 at*;simp only[ar,aW,aP,AV.mp,aY,Pl.mp,cB,cL];simp[oX];apply ag HX;simp[c3,c3'];apply ag VS;simp;refine aE _ _ (W x.st _ rfl) (by constructor<;>simp[hb]) ?_
     simp;apply ah<;>simp[hib,hb]
 ·rw[if_pos (.inl c2)];dsimp only;have c2':(r !=125)=true:=bne_iff_ne.2 c2;have c2'':(r==125)=false:=cH.2 c2;unfold fR;clear VS;by_cases c3:0<=qA r
  ·have c4: ¬x.c<6:=fun h=>c1 ⟨c3,h⟩
   have c4': ¬(x.c:Int)<6:=by omega
   cases hx:x.out with
   |nil=>
    simp only[cp,bX];simp only[ar,aW,aP,AV.mp,aY,Pl.mp,cB,cL];simp[oX];apply ag HX;simp[c3,c4,c4',c2',c2''];apply ah<;>simp[hib,hb]
   |cons a l=>
    simp only[cp,bX];generalize aj (aG (a::l))=B0 at*;simp only[ar,aW,aP,AV.mp,aY,Pl.mp,cB,cL];simp[oX];apply ag HX;simp[c3,c4,c4',c2',c2''];apply ah<;>simp[hib,hb]
  ·cases hx:x.out with
   |nil=>
    simp only[cp,bX];simp only[ar,aW,aP,AV.mp,aY,Pl.mp,cB,cL];simp[oX];apply ag HX;simp[c3,c2',c2''];apply ah<;>simp[hib,hb]
   |cons a l=>
    simp only[cp,bX];generalize aj (aG (a::l))=B0 at*;simp only[ar,aW,aP,AV.mp,aY,Pl.mp,cB,cL];simp[oX];apply ag HX;simp[c3,c2',c2''];apply ah<;>simp[hib,hb]
end Go.Ai
