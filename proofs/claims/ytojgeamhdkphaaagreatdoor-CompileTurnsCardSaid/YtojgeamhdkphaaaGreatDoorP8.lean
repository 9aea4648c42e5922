/- P8: a part of the proof. Conditions: as each theorem says. -/
import Derived.Test.YtojgeamhdkphaaaGreatDoorP7
import Derived.Lib.Bytealg
set_option maxHeartbeats 4000000
set_option linter.unusedSimpArgs false
set_option linter.unusedVariables false
set_option maxRecDepth 20000
namespace Go.Ai
open Go.Proofs Go.Shelf
theorem vB (s:List UInt8) (c:UInt8):Sp Tryz.prog gl 148 [.str s,.str [c]] (i6 (Lib.indexByte s c)):=
 A4 Lf (by kernel_rfl) (by kernel_rfl) s c
def cM (c:UInt8) (b:UInt8):Bool:=b !=c
theorem Ap (c:UInt8) (s:List UInt8):Lib.indexByte s c=if (s.takeWhile (cM c)).length<s.length then ((s.takeWhile (cM c)).length:Int) else -1:=by
 rcases OX c s with h|⟨a,r,rfl,h⟩
 ·have e:s.takeWhile (cM c)=s:=I1 fun b hb=>by simp[cM,h b hb]
  rw[oP c s h,e,if_neg (Nat.lt_irrefl _)]
 ·have e:(a++c::r).takeWhile (cM c)=a:=I3 (by simp[cM]) fun b hb=>by simp[cM,h b hb]
  rw[Ao c a r h,e,if_pos (by simp)]
theorem tj (c:UInt8): ∀(s:List UInt8),s.take (s.takeWhile (cM c)).length=s.takeWhile (cM c)
 |[]=>rfl
 |b::s=>by
  rw[List.takeWhile_cons];split
  ·rw[e7,List.take_succ_cons,tj c s]
  ·rfl
def vC (c:UInt8) (s:List UInt8):AV:=if (s.takeWhile (cM c)).length<s.length then .tup [.str (s.takeWhile (cM c)),.str (s.drop ((s.takeWhile (cM c)).length+1)),.bool true] else .tup [.str s,.str [],.bool false]
theorem Cb (c:UInt8) (s:List UInt8) (hl:s.length<=1000000):Sp Tryz.prog gl 146 [.str s,.str [c]] (vC c s):=by
 refine QT rfl rfl ?_;have IX:=vB s c;rw[Ap] at IX;have ht:=tj c s;unfold vC;by_cases h:(s.takeWhile (cM c)).length<s.length
 ·rw[if_pos h] at IX ⊢;generalize (s.takeWhile (cM c)).length=n at*;have t1:IntKind.i64.wrap ((n:Int)+1)=(n+1:Nat):=by rw[aL]<;>omega
  have q1:(0:Int)<=n:=by omega
  have q2:(n:Int)<=s.length:=by omega
  have q5:n<=s.length:=by omega
  have q3:((n+1:Nat):Int)<=s.length:=by omega
  have q4:(0:Int)<=((n+1:Nat):Int):=by omega
  have e1:((n+1:Nat):Int).toNat=n+1:=by omega
  have e2:List.drop (n+1) (s.take s.length)=s.drop (n+1):=by rw[tJ]
  generalize ((n+1:Nat):Int)=m at*;simp[Mb];refine bK _ IX ?_;simp[q1];simp only[t1];simp[q1,q2,q3,q4,q5,e1,ht]
 ·rw[if_neg h] at IX ⊢;clear ht;simp[Mb];refine bK _ IX ?_;simp
theorem tp (c:UInt8) (s:List UInt8) (hl:s.length<=1000000):Sp Tryz.prog gl 127 [.str s,.str [c]] (vC c s):=by
 refine QG rfl rfl ?_;have C:=Cb c s hl;unfold vC at C ⊢;by_cases h:(s.takeWhile (cM c)).length<s.length
 ·rw[if_pos h] at C ⊢;simp[L9];refine bK _ C ?_;simp
 ·rw[if_neg h] at C ⊢;simp[L9];refine bK _ C ?_;simp
theorem oQ (s:List UInt8):(aj s).length=s.length:=by simp[aj]
theorem Aq (s:List UInt8) (i:Nat) (h:i<s.length) (h2:i<(aj s).length):(aj s)[i]=[.int .u8 s[i].toNat]:=by simp[aj]
theorem I4 (s:List UInt8) (h0:s≠[]) (hd:s.all aV=true) (hl:s.length<=18):Sp Tryz.prog gl 149 [.str s,i6 10,i6 64] (.tup [u (aU s),.nili]):=by
 refine QV rfl rfl ?_;have en:(s==[])=false:=cH.2 h0;obtain ⟨RR,hRR⟩: ∃R,R=aj s:=⟨_,rfl⟩;have rl:=oQ s;have rat:=Aq s;rw[<-hRR] at rl;simp only[<-hRR] at rat;have b18: ∀i,i<=s.length->aU (s.take i)<1000000000000000000:=fun i hi=>by
  have:=sY (s.take i) (by
   rw[ik] at hd ⊢;exact fun x hx=>hd x (DT hx))
  refine AD this ?_
  have:(10:Nat)^(s.take i).length<=10^18:=Nat.pow_le_pow_right (by decide) (by rw[tD];omega)
  simpa using this
 have x1:IntKind.u64.wrap 64=64:=by decide
 have x2:IntKind.u64.wrap (2^min 64 IntKind.u64.bits)=0:=by decide
 have x3:IntKind.u64.wrap (-1)=18446744073709551615:=by decide
 have x4:IntKind.u8.wrap 10=10:=by decide
 have x5:IntKind.u64.wrap 10=10:=by decide
 have u0:aU []=0:=rfl;simp[N1,h0,en,x1,x2,x3,<-hRR];refine cP (α:=Nat) (fun i=>⟨[(1,i6 10),(8,.bool false),(10,u 1844674407370955162),(11,u 18446744073709551615),(12,.bool false),(13,u (aU (s.take i))),(99,.sl RR),(100,i6 s.length),(101,i6 i)],[],[]⟩)
  (fun i=>i<=s.length) (fun i=>s.length - i) ?_ 0 (jq _) ?_
 ·rintro K i hK h1;by_cases g:i<s.length
  ·have g':(i:Int)<s.length:=by omega
   have gR:i<RR.length:=by omega
   have ra:=rat i g gR;have dq:=(gI _).1 (ik.1 hd _ (xz g));have t1:IntKind.i64.wrap ((i:Int)+1)=(i+1:Nat):=by rw[aL]<;>omega
   have fin:=fun σ' hσ=>hK (i+1) σ' g (by omega) hσ
   rw[Jo g,k7] at fin;have vl:=b18 i h1;clear hK rat b18 hd;generalize aU (s.take i)=v,s[i]=c at*;have q1:((c.toNat:Int)==95)=false:=cH.2 (by omega);have q2:(48:Int)<=c.toNat:=by omega
   have q3:(c.toNat:Int)<=57:=by omega
   have w1:IntKind.u8.wrap ((c.toNat:Int) - 48)=((c.toNat - 48:Nat):Int):=by rw[CI]<;>omega
   have dl:c.toNat - 48<=9:=by omega
   generalize c.toNat - 48=d at*;have q4: ¬(10:Int)<=d:=by omega
   have q5: ¬(1844674407370955162:Int)<=v:=by omega
   have w2:IntKind.u64.wrap ((v:Int)*10)=((10*v:Nat):Int):=by rw[fh]<;>omega
   have w3:IntKind.u64.wrap (d:Int)=d:=by rw[fh]<;>omega
   have w4:IntKind.u64.wrap (((10*v:Nat):Int)+d)=((10*v+d:Nat):Int):=by rw[fh]<;>omega
   have q6: ¬((10*v+d:Nat):Int)<((10*v:Nat):Int):=by omega
   have q7: ¬(18446744073709551615:Int)<((10*v+d:Nat):Int):=by omega
   generalize 10*v+d=z2 at*;generalize 10*v=z1 at*;simp[g,g',gR,rl,ra,q1,q2,q3,w1,x4,q4,q5,x5,w2,w3,w4,q6,q7];refine fin _ ?_;apply aC<;>simp[t1]
  ·obtain rfl:i=s.length:=by omega
   have g': ¬(s.length:Int)<s.length:=by omega
   rw[tJ];clear hK;simp[g']
 ·apply aC<;>simp[x1,x2,x3,u0,hRR,oQ]
theorem I5 (s:List UInt8) (h0:s≠[]) (hd:s.all aV=true) (hl:s.length<=18):Sp Tryz.prog gl 131 [.str s,i6 10,i6 64] (.tup [u (aU s),.nili]):=by
 refine QK rfl rfl ?_;have H:=I4 s h0 hd hl;generalize aU s=n at*;simp[NT];refine bg _ _ ((H.h)) ?_;simp
theorem SN (tl:List UInt8) (h0:tl≠[]) (h3: ¬3<tl.length):aU ((tl++[48,48]).take 3)=qX tl 3:=by
 rcases tl with _|⟨a,_|⟨b,_|⟨c,_|⟨d,t⟩⟩⟩⟩
 ·exact absurd rfl h0
 ·simp[aU,qX,Js]
 ·simp[aU,qX,Js]
 ·simp[aU,qX,Js]
 ·simp at h3
theorem tq (tl:List UInt8) (h0:tl≠[]) (h3: ¬3<tl.length):((tl++[48,48]).take 3).length=3:=by
 have:=Jz.2 h0
 rw[tD,fT];simp;omega
theorem I6 (tl:List UInt8) (h:tl.all aV=true):((tl++[48,48]).take 3).all aV=true:=by
 rw[ik] at h ⊢;intro x hx;rcases jD.1 (DT hx) with hx|hx
 ·exact h x hx
 ·simp at hx;subst hx;rfl
theorem xq (s:List UInt8) (hl:s.length<=1000000) (hp:(s.takeWhile (cM 46)).length<s.length):
  Sp Tryz.prog gl 105 [.str s] (ck 4 (Ca (s.takeWhile (cM 46)) (s.drop ((s.takeWhile (cM 46)).length+1)))).av:=by
 refine QA rfl rfl ?_;have CB:=tp 46 s hl;unfold vC at CB;rw[if_pos hp] at CB;have hl1:(s.takeWhile (cM 46)).length<=1000000:=by omega
 have hl2:(s.drop ((s.takeWhile (cM 46)).length+1)).length<=1000000:=by rw[xy];omega
 generalize s.drop ((s.takeWhile (cM 46)).length+1)=tl at*;generalize s.takeWhile (cM 46)=hd at*;have NU:=oL hd hl1;have TR:=nr tl hl2;have TN:=pQ tl;have nlt:=DL hd;unfold Ca;generalize l0 hd=q,Lib.trimS tl [48,49,50,51,52,53,54,55,56,57]=tr at*;obtain ⟨n,e⟩:=q;unfold La at NU;dsimp only at NU nlt ⊢;have dgF:oM tl=(tl.all aV&&decide (0<tl.length)):=rfl;have te:tl=[]->oM tl=false:=by rintro rfl;rfl
 have tf:tl.all aV=false->oM tl=false:=fun h=>by rw[dgF,h,qp]
 have tg:tl≠[]->tl.all aV=true->oM tl=true:=fun h1 h2=>by
  rw[dgF,h2,nC,mI (Jz.2 h1)]
 by_cases e0:e=0
 ·subst e0;rw[if_pos rfl] at NU;by_cases c1:tl=[]
  ·rw[if_pos (.inl (te c1))];subst c1;unfold ck TV.av;simp[qY];apply ag CB;simp;refine bg _ _ ((NU.h)) ?_;simp
  have c1':(tl==[])=false:=cH.2 c1;by_cases c2:3<tl.length
  ·have c2':(3:Int)<tl.length:=by omega
   rw[if_pos (.inr c2)];unfold ck TV.av;simp[qY];apply ag CB;simp;refine bg _ _ ((NU.h)) ?_;simp[c1,c1',c2,c2']
  have c2': ¬(3:Int)<tl.length:=by omega
  cases c3:tl.all aV
  ·rw[c3] at TN;have k1:(tr !=[])=true:=by unfold bne;rw[TN];rfl
   have k2: ¬tr=[]:=fun h=>by rw[h] at TN;cases TN
   rw[if_pos (.inl (tf c3))];unfold ck TV.av;simp[qY];apply ag CB;simp;refine bg _ _ ((NU.h)) ?_;simp[c1,c1',c2,c2'];apply ag TR;simp[k1,k2,show tr.isEmpty=false by rw[List.isEmpty_eq_false_iff];exact k2]
  rw[c3] at TN;have k2:tr=[]:=by simpa using TN
  subst k2;rw[if_neg (by rintro (h|h);rw[tg c1 c3] at h;cases h;exact c2 h),if_neg (by decide)];have f3:=SN tl c1 c2;have PU:=I5 ((tl++[48,48]).take 3) (fun h=>by have:=tq tl c1 c2;rw[h] at this;cases this) (I6 tl c3) (by rw[tq tl c1 c2];omega);rw[f3] at PU;have fl:qX tl 3<1000:=xi tl (xj (tg c1 c3)) 3;have fle:=tq tl c1 c2;have fle':3<=(tl++[48,48]).length:=by rw[tD] at fle;omega
  have fle2:(3:Int)<=((tl++[48,48]).length:Int):=by omega
  have fle3:3<=tl.length+2:=by simpa using fle'
  have fle4:(3:Int)<=(tl.length:Int)+2:=by omega
  have fle5:1<=tl.length:=by omega
  have fle6:tl.length<=9223372036854775805:=by omega
  clear fle f3 tg tf te dgF;generalize qX tl 3=t at*;have TM:=na n 1000 nlt (by omega);have XA:=pO (n*1000) t (by omega) (by omega);rw[if_pos (by omega)] at XA;have ws: ∀z,wide z= .agg [u (z / 18446744073709551616),u (z%18446744073709551616)]:=fun _=>rfl
  have wt:wide t= .agg [u 0,u t]:=by rw[ws,Nat.div_eq_of_lt (by omega),DS (by omega)]
  rw[wt] at XA;have w3:=ws (n*1000);rw[w3] at TM XA;have h2:n*1000+t<18446744073709551616\/18446744073709551616<=n*1000+t:=by omega
  have hs:n*1000+t<340282366920938463463374607431768211456:=by omega
  rcases h2 with h2|h2
  ·have w2:wide (n*1000+t)= .agg [u 0,u (n*1000+t:Nat)]:=by rw[ws,Nat.div_eq_of_lt h2,DS h2]
   rw[w2] at XA;rw[if_neg (by omega),Nr 1000 n];unfold ck;dsimp only;rw[if_pos rfl];unfold TV.av;clear w2 w3 ws wt h2 hs;generalize n*1000+t=z,n*1000 / 18446744073709551616=a1,n*1000%18446744073709551616=a0 at*;simp[qY];apply ag CB;simp;refine bg _ _ ((NU.h)) ?_;simp[c1,c1',c2,c2'];apply ag TR;simp[fle',fle2,fle3,fle4,fle5,fle6];refine bg _ _ ((PU.h)) ?_;simp;apply ag TM;simp;apply ag XA;simp
  ·obtain ⟨h1,hh1⟩: ∃h1,h1=(n*1000+t) / 18446744073709551616:=⟨_,rfl⟩;have g1:0<h1:=by omega
   have g1':(0:Int)<h1:=by omega
   have w2:=ws (n*1000+t);rw[<-hh1] at w2;rw[w2] at XA;rw[if_pos (by omega)];unfold ck;dsimp only;rw[if_neg (by decide)];unfold TV.av;clear w2 w3 ws wt h2 hs hh1;generalize (n*1000+t)%18446744073709551616=z,n*1000 / 18446744073709551616=a1,n*1000%18446744073709551616=a0 at*;simp[qY];apply ag CB;simp;refine bg _ _ ((NU.h)) ?_;simp[c1,c1',c2,c2'];apply ag TR;simp[fle',fle2,fle3,fle4,fle5,fle6];refine bg _ _ ((PU.h)) ?_;simp;apply ag TM;simp;apply ag XA;simp[g1,g1']
 ·rw[if_neg e0] at NU;by_cases e5:e=5
  ·subst e5
   have:(if oM tl=false\/3<tl.length then ((0:Nat),(5:Int)) else if (5:Int)≠0 then (0,5) else if (18446744073709551615 - qX tl 3) / 1000<n then (0,8) else (1000*n+qX tl 3,0))=(0,5):=by
    split
    ·rfl
    ·rfl
   rw[this];unfold ck TV.av;simp[qY];apply ag CB;simp;refine bg _ _ ((NU.h)) ?_;simp
  have e5':(e==5)=false:=cH.2 e5;by_cases c1:tl=[]
  ·rw[if_pos (.inl (te c1))];subst c1;unfold ck TV.av;simp[qY];apply ag CB;simp;refine bg _ _ ((NU.h)) ?_;simp[e5,e5']
  have c1':(tl==[])=false:=cH.2 c1;by_cases c2:3<tl.length
  ·have c2':(3:Int)<tl.length:=by omega
   rw[if_pos (.inr c2)];unfold ck TV.av;simp[qY];apply ag CB;simp;refine bg _ _ ((NU.h)) ?_;simp[e5,e5',c1,c1',c2,c2']
  have c2': ¬(3:Int)<tl.length:=by omega
  cases c3:tl.all aV
  ·rw[c3] at TN;have k1:(tr !=[])=true:=by unfold bne;rw[TN];rfl
   have k2: ¬tr=[]:=fun h=>by rw[h] at TN;cases TN
   rw[if_pos (.inl (tf c3))];unfold ck TV.av;simp[qY];apply ag CB;simp;refine bg _ _ ((NU.h)) ?_;simp[e5,e5',c1,c1',c2,c2'];apply ag TR;simp[k1,k2,show tr.isEmpty=false by rw[List.isEmpty_eq_false_iff];exact k2]
  rw[c3] at TN;have k2:tr=[]:=by simpa using TN
  subst k2;rw[if_neg (by rintro (h|h);rw[tg c1 c3] at h;cases h;exact c2 h),if_pos e0];unfold ck;dsimp only;rw[if_neg e0];unfold TV.av;simp[qY];apply ag CB;simp;refine bg _ _ ((NU.h)) ?_;simp[e5,e5',c1,c1',c2,c2'];apply ag TR;simp
def dH (r:Int):Nat:=if r=119 then 0 else if r=100 then 1 else if r=104 then 2 else if r=109 then 3 else if r=115 then 4 else 5
def ug (j:Nat):Nat:=if j=0 then 1000000 else if j=1 then 604800 else if j=2 then 86400 else if j=3 then 3600 else if j=4 then 60 else 1
theorem xr (r:Int):(dH r=5/\bM r=0)\/(dH r<5/\bM r=ug (dH r+1)):=by
 unfold dH bM;repeat' split
 all_goals first|exact .inr ⟨by decide,by decide⟩|exact .inl ⟨rfl,rfl⟩
theorem Lg {i j:Nat} (hi:i<5) (hj:j<=5):ug j<=ug (i+1)↔i<j:=by
 have h: ∀a:Fin 5,∀b:Fin 6,(ug b.1<=ug (a.1+1)↔a.1<b.1):=by decide
 exact h ⟨i,hi⟩ ⟨j,by omega⟩
theorem I7 (j:Nat):1<=ug j/\ug j<=1000000:=by
 unfold ug;repeat' split
 all_goals omega
def Lh:List Int->Nat->Nat->Bool->Nat->Bool->Nat×Int
 |[],sum,p,dg,j,far=>if dg=true then (0,5) else if far=true then (0,8) else (sum,0)
 |r::l,sum,p,dg,j,far=>
  if ep r=true then Lh l sum (min (p*10+(r - 48).toNat) 253402300800) true j (far||decide (253402300799<p*10+(r - 48).toNat))
  else if dH r<j\/dH r=5\/dg=false then (0,5)
  else Lh l (min (sum+min (p*bM r) 253402300800) 253402300800) 0 false (dH r+1) ((far||decide (253402300799<p*bM r))||decide (253402300799<sum+min (p*bM r) 253402300800))
def jC (s:List UInt8):Nat×Int:=if s=[] then (0,5) else Lh (ay s 0) 0 0 false 0 false
theorem Ar {r:Int} (h:r<0\/128<=r):dH r=5/\bM r=0/\ep r=false:=by
 unfold dH bM ep;refine ⟨?_,?_,lm (by omega)⟩
 ·rw[if_neg (by omega),if_neg (by omega),if_neg (by omega),if_neg (by omega),if_neg (by omega)]
 ·rw[if_neg (by omega),if_neg (by omega),if_neg (by omega),if_neg (by omega),if_neg (by omega)]
theorem Li (s:List UInt8): ∀k i n la sm fr,s.length - i<=k-> ∀sum p dg j far,j<=5->la=ug j->p=min n 253402300800->far=(fr||decide (253402300799<n))->(fr=false->sum=sm)->(dg=false->n=0)->sm<=253402300799->
  Lh (ay s i) sum p dg j far=FY (s.drop i) dg n la sm fr:=by
 intro k;induction k with
 |zero=>
  intro i n la sm fr h sum p dg j far hj hla hp hfar hsum hdg hsm;rw[aS (by omega),Co (by omega),Lh,FY];cases dg
  ·rw[if_neg Bool.false_ne_true,if_neg Bool.false_ne_true]
   have:=hdg rfl
   subst this;rw[show decide (253402300799<0)=false from rfl,Lw] at hfar;subst hfar;cases far
   ·rw[if_neg Bool.false_ne_true,if_neg Bool.false_ne_true,hsum rfl]
   ·rfl
  ·rfl
 |succ k ih=>
  intro i n la sm fr h sum p dg j far hj hla hp hfar hsum hdg hsm;by_cases g:i<s.length
  rotate_left
  ·rw[aS g,Co (by omega),Lh,FY];cases dg
   ·rw[if_neg Bool.false_ne_true,if_neg Bool.false_ne_true]
    have:=hdg rfl
    subst this;rw[show decide (253402300799<0)=false from rfl,Lw] at hfar;subst hfar;cases far
    ·rw[if_neg Bool.false_ne_true,if_neg Bool.false_ne_true,hsum rfl]
    ·rfl
   ·rfl
  rw[bp g,xI g,Lh,FY];rcases kv s i g with ⟨a,e⟩|⟨a,e⟩
  rotate_left
  ·have u1:=Ar e;have u2:=Ar (r:=(s[i].toNat:Int)) (by omega);have d2:aV s[i]=false:=by
    cases hd:aV s[i]
    ·rfl
    ·have:=(gI _).1 hd
     omega
   rw[u1.2.2,u1.1,u2.2.1,d2,if_neg Bool.false_ne_true,if_neg Bool.false_ne_true,if_pos (Or.inr (Or.inl rfl)),if_pos (Or.inr (Or.inl rfl))]
  ·rw[e];dsimp only;have hd:ep (s[i].toNat:Int)=aV s[i]:=by
    unfold ep aV;rw[Bool.eq_iff_iff,Cn,Cn];omega
   rw[hd];cases hD:aV s[i]
   ·rw[if_neg Bool.false_ne_true,if_neg Bool.false_ne_true];have U:=xr (s[i].toNat:Int);have c:(dH (s[i].toNat:Int)<j\/dH (s[i].toNat:Int)=5\/dg=false)↔(dg=false\/bM (s[i].toNat:Int)=0\/la<=bM (s[i].toNat:Int)):=by
     rw[hla];rcases U with ⟨h1,h2⟩|⟨h1,h2⟩
     ·rw[h1,h2];simp
     ·rw[h2,Lg h1 hj]
      have:=I7 (dH (s[i].toNat:Int)+1)
      constructor
      ·rintro (h|h|h)
       ·exact .inr (.inr h)
       ·omega
       ·exact .inl h
      ·rintro (h|h|h)
       ·exact .inr (.inr h)
       ·omega
       ·exact .inl h
    by_cases cc:(dg=false\/bM (s[i].toNat:Int)=0\/la<=bM (s[i].toNat:Int))
    ·rw[if_pos cc,if_pos (c.2 cc)]
    rw[if_neg cc,if_neg (fun h=>cc (c.1 h))];have u0:1<=bM (s[i].toNat:Int):=by omega
    have U:dH (s[i].toNat:Int)<5/\bM (s[i].toNat:Int)=ug (dH (s[i].toNat:Int)+1):=by
     rcases U with ⟨h1,h2⟩|h
     ·omega
     ·exact h
    clear c cc;generalize dH (s[i].toNat:Int)=ix at*;have un':=U.2;generalize hun:bM (s[i].toNat:Int)=un at*;have dv:253402300799 / un<n↔253402300799<n*un:=by rw[Nat.div_lt_iff_lt_mul (by omega)]
    have big:253402300800<=n->253402300799<n*un:=fun h=>by
     have:=Nat.le_mul_of_pos_right n (show 0<un by omega)
     omega
    have big':253402300799<253402300800*un:=by
     have:=Nat.le_mul_of_pos_right 253402300800 (show 0<un by omega)
     omega
    by_cases v1:253402300799 / un<n
    ·rw[if_pos v1];have v2:=dv.1 v1;refine ih (i+1) _ _ _ _ (by omega) _ _ _ _ _ (by omega) un' rfl ?_ (fun h=>by cases h) (fun _=>rfl) hsm;rw[Bool.true_or]
     have:253402300799<p*un:=by
      subst hp;by_cases c:n<=253402300800
      ·rw[Nat.min_eq_left c];exact v2
      ·rw[Nat.min_eq_right (by omega)];exact big'
     rw[mI this,Bool.or_true,Bool.true_or]
    rw[if_neg v1];have v2: ¬253402300799<n*un:=fun h=>v1 (dv.2 h)
    have n1:n<253402300800:=by
     rcases Nat.lt_or_ge n 253402300800 with h|h
     ·exact h
     ·exact absurd (big h) v2
    have pn:p=n:=by omega
    subst pn;clear hp big big' dv v1;rw[lm (show ¬253402300799<p by omega),Lw] at hfar;subst hfar;generalize p*un=a at*;rw[lm v2,Lw,Nat.min_eq_left (show a<=253402300800 by omega)];by_cases v3:253402300799<sm+a
    ·rw[if_pos v3];refine ih (i+1) _ _ _ _ (by omega) _ _ _ _ _ (by omega) un' rfl ?_ (fun h=>by cases h) (fun _=>rfl) (by omega);rw[Bool.true_or];cases far
     ·rw[hsum rfl,mI v3];rfl
     ·rfl
    ·rw[if_neg v3];refine ih (i+1) _ _ _ _ (by omega) _ _ _ _ _ (by omega) un' rfl ?_ ?_ (fun _=>rfl) (by omega)
     ·rw[show decide (253402300799<0)=false from rfl,Lw];cases far
      ·rw[hsum rfl,lm v3];rfl
      ·rfl
     ·intro h;subst h;rw[hsum rfl];omega
   ·rw[if_pos rfl,if_pos rfl,show ((s[i].toNat:Int) - 48).toNat=s[i].toNat - 48 by omega];generalize s[i].toNat - 48=d at*;refine ih (i+1) _ _ _ _ (by omega) _ _ _ _ _ hj hla ?_ ?_ hsum (fun h=>by cases h) hsm
    ·subst hp;by_cases c:n<=253402300799
     ·rw[if_pos c];omega
     ·rw[if_neg c];omega
    ·subst hp hfar;by_cases c:n<=253402300799
     ·rw[if_pos c,lm (show ¬253402300799<n by omega),Lw];congr 1
      rw[Nat.min_eq_left (by omega),Nr]
     ·rw[if_neg c,mI (show 253402300799<n by omega),Bool.or_true,Bool.true_or]
theorem tu (s:List UInt8):jC s=Ah s:=by
 unfold jC Ah;by_cases e:s=[]
 ·rw[if_pos e,if_pos e]
 ·rw[if_neg e,if_neg e,<-Gc (l:=s)];conv=>lhs;rw[Gc]
  exact Li s s.length 0 0 1000000 0 false (by omega) 0 0 false 0 false (by omega) rfl rfl rfl (fun _=>rfl) (fun _=>rfl) (by omega)
theorem Fm (s:List UInt8) (c:UInt8):Sp Tryz.prog gl 182 [.str s,.int .u8 c.toNat] (i6 (Lib.indexByte s c)):=by
 refine xN (fn:=Tryz.f182) (e:=Extern.BytealgIndexByte.indexByte) Tryz.func182 (by kernel_rfl) (by kernel_rfl) (by kernel_rfl) (by kernel_rfl) ?_;intro S gb w vs h;simp only[aa,PR] at h;obtain ⟨_,_,rfl,rfl,_,_,rfl,rfl,rfl⟩:=h;refine ⟨_,Lib.run_indexByteString _ _ w,?_⟩;simp[PR]
theorem Fn (s:List UInt8) (c:UInt8):Sp Tryz.prog gl 165 [.str s,.int .u8 c.toNat] (i6 (Lib.indexByte s c)):=by
 refine Q1 rfl rfl ?_;have H:=Fm s c;generalize Lib.indexByte s c=k at*;simp[N3];apply ag H;simp
theorem vD (s:List UInt8) (c:UInt8):Sp Tryz.prog gl 175 [.str s,.int .u8 c.toNat] (i6 (Lib.indexByte s c)):=by
 refine Q2 rfl rfl ?_;have H:=Fn s c;generalize Lib.indexByte s c=k at*;simp[N4];apply ag H;simp
def NG (r:Int):Prop:=(0<=r/\r<55296)\/(57343<r/\r<=1114111)
theorem Fo (r:Int) (h:NG r):Sp Tryz.prog gl 176 [i3 r] (.bool true):=by
 refine N5 rfl rfl ?_;by_cases c:r<55296
 ·have c0:0<=r:=by rcases h with h|h<;>omega
  simp[xH,c,c0]
 ·have c0:0<=r:=by rcases h with h|h<;>omega
  have c1:57343<r:=by rcases h with h|h<;>omega
  have c2:r<=1114111:=by rcases h with h|h<;>omega
  simp[xH,c,c0,c1,c2]
theorem I8 (r:Int) (h:NG r) (hr:128<=r): ∃a c,(Utf8.encode r).data.toList=a++[c]/\1<=a.length/\a.length<=3/\128<=c.toNat:=by
 have hv:Utf8.valid r=true:=by
  unfold Utf8.valid;simp;rcases h with h|h<;>omega
 have top: ∀n:Nat,128<=(UInt8.ofNat (128+n%64)).toNat:=fun n=>by
  rw[UInt8.toNat_ofNat'];omega
 unfold Utf8.encode;simp only[hv,if_true];rw[if_neg (by omega)];split
 ·exact ⟨[_],_,rfl,by simp,by simp,top _⟩
 ·split
  ·exact ⟨[_,_],_,rfl,by simp,by simp,top _⟩
  ·exact ⟨[_,_,_],_,rfl,by simp,by simp,top _⟩
def Lj (s:List UInt8) (r:Int):Int:=if r<128 then Lib.indexByte s (UInt8.ofNat r.toNat) else -1
theorem I9 (s:List UInt8) (hl:s.length<=1000) (hs: ∀b∈s,b.toNat<128) (r:Int) (h:NG r):Sp Tryz.prog gl 154 [.str s,i3 r] (i6 (Lj s r)):=by
 refine QY rfl rfl ?_;have h0:0<=r:=by rcases h with h|h<;>omega
 unfold Lj;by_cases c1:r<128
 ·rw[if_pos c1];have w:IntKind.u8.wrap r=((UInt8.ofNat r.toNat).toNat:Int):=by
   rw[UInt8.toNat_ofNat',CI]<;>omega
  have H:=vD s (UInt8.ofNat r.toNat);generalize Lib.indexByte s (UInt8.ofNat r.toNat)=k,((UInt8.ofNat r.toNat).toNat:Int)=z at*;simp[Jw,c1,h0,w];apply ag H;simp
 rw[if_neg c1];by_cases c2:r=65533
 ·subst c2;simp[Jw];refine cP (α:=Nat) (fun i=>⟨[(0,.str s),(175,.itp 175)],[(.it 175,[.itr s i])],[]⟩)
   (fun i=>i<=s.length) (fun i=>s.length - i) ?_ 0 ?_ ?_
  ·rintro K i hK h1;by_cases g:i<s.length
   ·have sr:=gp s i g;have sa:=hs _ (xz g);rcases kv s i g with ⟨a,e⟩|⟨a,e⟩
    rotate_left
    ·omega
    rw[e,if_neg (by omega)] at sr;have n1:((s[i].toNat:Int)==65533)=false:=cH.2 (by omega);have n2: ¬(s[i].toNat:Int)=65533:=by omega
    have fin:=fun σ' hσ=>hK (i+1) σ' (by omega) (by omega) hσ
    clear hK e;generalize (s[i].toNat:Int)=z at*;simp[g,sr,n1,n2];refine fin _ ?_;apply aC<;>simp
   ·clear hK;simp[g]
  ·exact jq _
  ·apply aC<;>simp
 have c2':(r==65533)=false:=cH.2 c2;have V:=Fo r h;obtain ⟨a,c,he,a1,a3,hc⟩:=I8 r h (by omega);have hcn: ∀b∈s,b≠c:=fun b hb e=>by
  have:=hs b hb
  rw[e] at this;omega
 have hlen:(a++[c]).length=a.length+1:=by simp
 have hat: ∀h2,(a++[c])[a.length]'h2=c:=fun h2=>by simp
 have hlt:a.length<(a++[c]).length:=by omega
 generalize a++[c]=bs at*;have w1:IntKind.i64.wrap ((bs.length:Int) - 1)=(a.length:Nat):=by rw[aL]<;>omega
 generalize a.length=n at*;simp[Jw,c1,c2,c2',h0];apply ag V;simp[he,w1];refine cP (α:=Nat) (fun i=>⟨[(0,.str s),(1,i3 r),(7,.str bs),(8,i6 n),(9,i6 n),(10,i6 0)],[],[]⟩)
   (fun i=>True) (fun i=>1) ?_ 0 ?_ ?_
 ·rintro K i hK h1;clear hK h1;by_cases g:n<s.length
  ·have g':(n:Int)<s.length:=by omega
   have hsn:((s[n].toNat:Int)!=(c.toNat:Int))=true:=by
    rw[bne_iff_ne];intro e;exact hcn _ (xz g) (Nq.1 (by omega))
   have t1:IntKind.i64.wrap ((n:Int)+1)=(n+1:Nat):=by rw[aL]<;>omega
   have H:=vD (s.drop (n+1)) c;rw[oP c (s.drop (n+1)) (fun b hb=>hcn b (List.mem_of_mem_drop hb))] at H;have q1:n+1<=s.length:=by omega
   have q2:((n+1:Nat):Int)<=s.length:=by omega
   have q3:(0:Int)<=((n+1:Nat):Int):=by omega
   have q4:((n+1:Nat):Int).toNat=n+1:=by omega
   generalize ((n+1:Nat):Int)=m at*;simp[g,g',hsn,hlt,hat,t1,q1,q2,q3,q4];apply ag H;simp
  ·have g': ¬(n:Int)<s.length:=by omega
   simp[g,g']
 ·exact True.intro
 ·apply aC<;>simp
def uh:List UInt8:=[119,100,104,109,115]
theorem M5 (j:Nat): ∀b∈uh.drop j,b.toNat<128:=fun b hb=>by
 have: ∀b∈uh,b.toNat<128:=by decide
 exact this b (List.mem_of_mem_drop hb)
theorem Fp {r:Int} (h:dH r=5):r≠119/\r≠100/\r≠104/\r≠109/\r≠115:=by
 unfold dH at h;refine ⟨?_,?_,?_,?_,?_⟩<;>rintro rfl<;>revert h<;>decide
theorem Ja (j:Nat) (hj:j<=5) (r:Int) (h0:0<=r):Lj (uh.drop j) r=if j<=dH r/\dH r<5 then ((dH r - j:Nat):Int) else -1:=by
 by_cases h:dH r=5
 ·have n:=Fp h;rw[h,if_neg (by omega)];unfold Lj;split
  ·rename_i c;refine oP _ _ fun b hb=>?_
   have hb:=List.mem_of_mem_drop hb;have t:(UInt8.ofNat r.toNat).toNat=r.toNat:=by rw[UInt8.toNat_ofNat'];omega
   intro e;rw[<-e] at t;simp[uh] at hb;rcases hb with rfl|rfl|rfl|rfl|rfl<;>(simp at t;omega)
  ·rfl
 ·have hr:r=119\/r=100\/r=104\/r=109\/r=115:=by
   unfold dH at h;by_cases h1:r=119
   ·exact .inl h1
   by_cases h2:r=100
   ·exact .inr (.inl h2)
   by_cases h3:r=104
   ·exact .inr (.inr (.inl h3))
   by_cases h4:r=109
   ·exact .inr (.inr (.inr (.inl h4)))
   by_cases h5:r=115
   ·exact .inr (.inr (.inr (.inr h5)))
   rw[if_neg h1,if_neg h2,if_neg h3,if_neg h4,if_neg h5] at h;exact absurd rfl h
  have hj:j=0\/j=1\/j=2\/j=3\/j=4\/j=5:=by omega
  rcases hr with rfl|rfl|rfl|rfl|rfl<;>rcases hj with rfl|rfl|rfl|rfl|rfl|rfl<;>decide
def Ll (sum p:Nat) (dg:Bool) (left:List UInt8) (far:Bool):List AV:=[i6 sum,i6 p,.bool dg,.str left,.bool far]
theorem Cc (n sum p:Nat) (dg:Bool) (left:List UInt8) (far:Bool) (d:Nat) (b:Id) (hb:b.isIt=false) (hbd:b.isNw d=false):
  ba Tryz.prog gl 153 d ⟨[.ptr b 0,i6 n],[(b,Ll sum p dg left far)],[]⟩ ⟨i6 (min n 253402300800:Nat),[(b,Ll sum p dg left (far||decide (253402300799<n)))],[]⟩:=by
 refine QX rfl ?_;have hib:=ae hbd;unfold Ll;simp only[ar,aW,aP,AV.mp,aY,Pl.mp];by_cases c:253402300799<n
 ·have c':(253402300799:Int)<n:=by omega
  have e:((min n 253402300800:Nat):Int)=253402300800:=by omega
  rw[mI c,Bool.or_true,e];simp[Mc,c,c'];apply ah<;>simp[hib,hb]
 ·have c': ¬(253402300799:Int)<n:=by omega
  have e:((min n 253402300800:Nat):Int)=n:=by omega
  rw[lm c,Lw,e];simp[Mc,c,c'];apply ah<;>simp[hib,hb]
structure Sx where
 sum:Nat
 p:Nat
 dg:Bool
 j:Nat
 far:Bool
def Sx.box (x:Sx):List AV:=Ll x.sum x.p x.dg (uh.drop x.j) x.far
def Sx.take (x:Sx) (r:Int):Sx×Bool:=
 if ep r=true then ({x with p:=min (x.p*10+(r - 48).toNat) 253402300800,dg:=true,far:=x.far||decide (253402300799<x.p*10+(r - 48).toNat)},true)
 else if dH r<x.j\/dH r=5\/x.dg=false then (x,false)
 else (⟨min (x.sum+min (x.p*bM r) 253402300800) 253402300800,0,false,dH r+1,(x.far||decide (253402300799<x.p*bM r))||decide (253402300799<x.sum+min (x.p*bM r) 253402300800)⟩,true)
structure Jb (x:Sx):Prop where
 s:x.sum<=253402300800
 p:x.p<=253402300800
 j:x.j<=5
theorem Jb.step {x:Sx} (h:Jb x) (r:Int):Jb (x.take r).1:=by
 have h1:=h.s;have h2:=h.p;have h3:=h.j;have u5:dH r<=5:=by
  have:=xr r
  omega
 unfold Sx.take;split
 ·exact ⟨h1,Nat.min_le_right _ _,h3⟩
 ·split
  ·exact h
  ·rename_i c;exact ⟨Nat.min_le_right _ _,jq _,by simp only;omega⟩
theorem As (x:Sx) (h:Jb x) (r:Int) (hr:NG r) (d:Nat) (b:Id) (hb:b.isIt=false) (hbd:b.isNw d=false):
  ba Tryz.prog gl 134 d ⟨[.ptr b 0,i3 r],[(b,x.box)],[]⟩ ⟨.bool (x.take r).2,[(b,(x.take r).1.box)],[]⟩:=by
 refine QN rfl ?_;have hib:=ae hbd;have hs:=h.s;have hp:=h.p;have hj:=h.j;obtain ⟨sum,p,dg,j,far⟩:=x;simp only at hs hp hj;have h0:0<=r:=by rcases hr with h|h<;>omega
 unfold Sx.take Sx.box;dsimp only;have R:=I9 (uh.drop j) (by rw[xy];simp[uh];omega) (M5 j) r hr;have HE:=fun (n sum p:Nat) (dg:Bool) (left:List UInt8) (far:Bool) (e:Nat)=>Cc n sum p dg left far e (.up b) hb
 unfold Ll at*;cases hd:ep r
 ·rw[if_neg (by decide)];have d0: ¬(48<=r/\r<=57):=fun q=>by unfold ep at hd;rw[mI q] at hd;cases hd
  have IU:=Ja j hj r h0;have U:=B9 r;have ul:=IV r;have wl:uh.length=5:=rfl;rw[IU] at R;by_cases c1:dH r<j\/dH r=5\/dg=false
  ·rw[if_pos c1];by_cases c2:j<=dH r/\dH r<5
   ·have hdg:dg=false:=by
     rcases c1 with c|c|c
     ·omega
     ·omega
     ·exact c
    subst hdg;rw[if_pos c2] at R;generalize dH r - j=q,uh.drop j=left at*;have q0: ¬(q:Int)<0:=by omega
    clear IU c1 c2 HE;simp only[ar,aW,aP,AV.mp,aY,Pl.mp];by_cases d1:48<=r
    ·have d2: ¬r<=57:=by omega
     simp[xG,d1,d2];apply ag R;simp[q0];apply ah<;>simp[hib,hb]
    ·simp[xG,d1];apply ag R;simp[q0];apply ah<;>simp[hib,hb]
   ·rw[if_neg c2] at R;generalize uh.drop j=left at*;clear IU c1 c2 HE;simp only[ar,aW,aP,AV.mp,aY,Pl.mp];by_cases d1:48<=r
    ·have d2: ¬r<=57:=by omega
     simp[xG,d1,d2];apply ag R;simp;apply ah<;>simp[hib,hb]
    ·simp[xG,d1];apply ag R;simp;apply ah<;>simp[hib,hb]
  rw[if_neg c1];have c2:j<=dH r/\dH r<5:=by
   have:=xr r
   omega
  have hdg:dg=true:=by
   cases dg
   ·exact absurd (.inr (.inr rfl)) c1
   ·rfl
  subst hdg;rw[if_pos c2] at R;have hdr:(uh.drop j).drop (dH r - j+1)=uh.drop (dH r+1):=by
   rw[List.drop_drop];congr 1
   omega
  have hll:(uh.drop j).length=5 - j:=by rw[xy,wl]
  obtain ⟨q,hq⟩: ∃q,q=dH r - j:=⟨_,rfl⟩;have qb:q+1<=(uh.drop j).length:=by omega
  rw[<-hq] at R hdr;have a0:p*bM r<=253402300800*604800:=Nat.mul_le_mul hp ul;have w1:IntKind.i64.wrap ((p:Int)*(bM r:Int))=((p*bM r:Nat):Int):=by
   rw[<-Int.natCast_mul,aL]<;>omega
  have HA:=HE (p*bM r) sum p true (uh.drop j) far;have w2:IntKind.i64.wrap ((sum:Int)+((min (p*bM r) 253402300800:Nat):Int))=((sum+min (p*bM r) 253402300800:Nat):Int):=by
   rw[aL]<;>omega
  have HB:=HE (sum+min (p*bM r) 253402300800) sum p true (uh.drop j) (far||decide (253402300799<p*bM r));generalize decide (253402300799<sum+min (p*bM r) 253402300800)=f2,decide (253402300799<p*bM r)=f1,min (sum+min (p*bM r) 253402300800) 253402300800=s2 at*;generalize sum+min (p*bM r) 253402300800=s1 at*;generalize min (p*bM r) 253402300800=a1 at*;generalize p*bM r=a at*;generalize bM r=un,uh.drop (dH r+1)=left2,uh.drop j=left at*;have q0: ¬(q:Int)<0:=by omega
  have q1:(0:Int)<=((q+1:Nat):Int):=by omega
  have q2:((q+1:Nat):Int)<=left.length:=by omega
  have q3:((q+1:Nat):Int).toNat=q+1:=by omega
  have t1:IntKind.i64.wrap ((q:Int)+1)=((q+1:Nat):Int):=by rw[aL]<;>omega
  generalize ((q+1:Nat):Int)=m at*;clear IU c1 c2 hq a0;simp only[ar,aW,aP,AV.mp,aY,Pl.mp];by_cases d1:48<=r
  ·have d2: ¬r<=57:=by omega
   simp[xG,d1,d2];apply ag R;simp[q0];apply ag U;simp[w1];refine eU _ _ (HA _ rfl) ⟨?_,?_,?_,?_,?_,?_,?_⟩ ⟨?_,?_,?_⟩ ?_;iterate 10 (· simp[Pl.isB,Pl.isF,mJ,KF,AV.pid,hb])
   simp[w2];refine eU _ _ (HB _ rfl) ⟨?_,?_,?_,?_,?_,?_,?_⟩ ⟨?_,?_,?_⟩ ?_;iterate 10 (· simp[Pl.isB,Pl.isF,mJ,KF,AV.pid,hb])
   simp[t1,q1,q2,q3,hdr];apply ah<;>simp[hib,hb]
  ·simp[xG,d1];apply ag R;simp[q0];apply ag U;simp[w1];refine eU _ _ (HA _ rfl) ⟨?_,?_,?_,?_,?_,?_,?_⟩ ⟨?_,?_,?_⟩ ?_;iterate 10 (· simp[Pl.isB,Pl.isF,mJ,KF,AV.pid,hb])
   simp[w2];refine eU _ _ (HB _ rfl) ⟨?_,?_,?_,?_,?_,?_,?_⟩ ⟨?_,?_,?_⟩ ?_;iterate 10 (· simp[Pl.isB,Pl.isF,mJ,KF,AV.pid,hb])
   simp[t1,q1,q2,q3,hdr];apply ah<;>simp[hib,hb]
 ·rw[if_pos rfl];have d0:48<=r/\r<=57:=by unfold ep at hd;exact FJ hd
  clear R;obtain ⟨k,hk⟩: ∃k:Nat,r=k+48:=⟨(r - 48).toNat,by omega⟩;have w1:IntKind.i64.wrap ((p:Int)*10)=(p*10:Nat):=by rw[aL]<;>omega
  have w2:IntKind.i32.wrap (r - 48)=k:=by rw[gq]<;>omega
  have w3:IntKind.i64.wrap (k:Int)=k:=by rw[aL]<;>omega
  have w4:IntKind.i64.wrap (((p*10:Nat):Int)+k)=(p*10+k:Nat):=by rw[aL]<;>omega
  rw[show (r - 48).toNat=k by omega];have HE:=HE (p*10+k) sum p dg (uh.drop j) far;clear hk;generalize p*10+k=z,uh.drop j=left,((p*10:Nat):Int)=y at*;simp only[ar,aW,aP,AV.mp,aY,Pl.mp];simp[xG,d0.1,d0.2,w1,w2,w3,w4];refine aE _ _ (HE _ rfl) (by constructor<;>simp[hb]) ?_
  simp;apply ah<;>simp[hib,hb]
def qn:List Int->Sx->Option Sx
 |[],x=>some x
 |r::l,x=>if (x.take r).2=true then qn l (x.take r).1 else none
def DN:Option Sx->Nat×Int
 |none=>(0,5)
 |some x=>if x.dg=true then (0,5) else if x.far=true then (0,8) else (x.sum,0)
theorem pR: ∀(l:List Int) (x:Sx),DN (qn l x)=Lh l x.sum x.p x.dg x.j x.far
 |[],x=>rfl
 |r::l,x=>by
  rw[qn,Lh];unfold Sx.take;by_cases c:ep r=true
  ·rw[if_pos c,if_pos c];dsimp only;rw[if_pos rfl,pR l]
  ·rw[if_neg c,if_neg c];by_cases c2:dH r<x.j\/dH r=5\/x.dg=false
   ·rw[if_pos c2,if_pos c2];rfl
   ·rw[if_neg c2,if_neg c2];dsimp only;rw[if_pos rfl,pR l]
theorem Jc (x:Sx) (r:Int):x.take (kZ r)=x.take r:=by
 unfold kZ;split
 ·rename_i c;subst c;unfold Sx.take;rw[show ep 65533=false from rfl,show ep (-1)=false from rfl,if_neg Bool.false_ne_true,if_neg Bool.false_ne_true,show dH 65533=5 from rfl,show dH (-1)=5 from rfl,if_pos (Or.inr (Or.inl rfl)),if_pos (Or.inr (Or.inl rfl))]
 ·rfl
theorem Jd (s:List UInt8) (i:Nat):NG (kZ (aq s i).1):=by
 have h:=pK s i;unfold kZ NG;rcases h with h|⟨h1,h2,h3⟩
 ·rw[if_pos h];omega
 ·rw[if_neg (by omega)];omega
theorem Cd (s:List UInt8) (hl:s.length<=1000000):Sp Tryz.prog gl 106 [.str s] (.tup [i6 (jC s).1,i6 (jC s).2]):=by
 refine QB rfl rfl ?_;unfold jC;by_cases e:s=[]
 ·subst e;rw[if_pos rfl];simp[L5];refine cP (α:=Nat) (fun i=>⟨[(0,.str []),(4,.ptr (.n 8) 0),(10,.itp 10)],[(.n 8,[i6 0,i6 0,.bool false,.str [119,100,104,109,115],.bool false]),(.it 10,[.itr [] 0])],[]⟩) (fun i=>True) (fun i=>1) ?_ 0 ?_ ?_
  ·rintro K i hK _;clear hK;simp
  ·exact True.intro
  ·apply aC<;>simp
 rw[if_neg e];have en:(s==[])=false:=cH.2 e;obtain ⟨R,hR⟩: ∃R,R=qn (ay s 0) ⟨0,0,false,0,false⟩:=⟨_,rfl⟩;have hR2:=pR (ay s 0) ⟨0,0,false,0,false⟩;rw[<-hR] at hR2;rw[<-hR2];clear hR2;simp[L5];refine cP (α:=Nat×Sx) (fun y=>⟨[(0,.str s),(4,.ptr (.n 8) 0),(10,.itp 10)],[(.n 8,y.2.box),(.it 10,[.itr s y.1])],[]⟩)
  (fun y=>y.1<=s.length/\Jb y.2/\qn (ay s y.1) y.2=R) (fun y=>s.length - y.1) ?_ (0,⟨0,0,false,0,false⟩) ?_ ?_
 ·rintro K ⟨i,x⟩ hK ⟨h1,h2,h3⟩;simp only at h1 h2 h3;by_cases g:i<s.length
  ·rw[bp g,qn] at h3;have sr:=oG s i g;have sp:=cN s i;have sw:=jl s i g;have T:=fun (e:Nat) (he:(Id.n 8).isNw e=false)=>As x h2 (kZ (aq s i).1) (Jd s i) e (.n 8) rfl he
   have so:=h2.step (aq s i).1;rw[Jc] at T;have bx0:x.box.length=5:=rfl;have bx1:bm x.box=[]:=rfl;have by0:(x.take (aq s i).1).1.box.length=5:=rfl;have by1:bm (x.take (aq s i).1).1.box=[]:=rfl;have fin:qn (ay s (i+(aq s i).2)) (x.take (aq s i).1).1=R-> ∀σ',il σ' ⟨[(0,.str s),(4,.ptr (.n 8) 0),(10,.itp 10)],[(.n 8,(x.take (aq s i).1).1.box),(.it 10,[.itr s (i+(aq s i).2)])],[]⟩->K σ':=
    fun hh σ' hσ=>hK (i+(aq s i).2,(x.take (aq s i).1).1) σ' ⟨sw,so,hh⟩ (by simp only;omega) hσ
   clear hK hR so;generalize (x.take (aq s i).1).2=ok,(x.take (aq s i).1).1=y,kZ (aq s i).1=r,(aq s i).2=w at*;cases ok
   ·rw[if_neg (by decide)] at h3;subst h3;clear fin;unfold Sx.box Ll at*;simp[g,sr,DN];refine bg _ _ (T _ rfl) ?_;simp
   ·rw[if_pos rfl] at h3;have fin:=fin h3;clear h3;generalize DN R=Q at*;unfold Sx.box Ll at*;simp[g,sr];refine bg _ _ (T _ rfl) ?_;simp;refine fin _ ?_;apply aC<;>simp
  ·rw[aS g,qn] at h3;subst h3;clear hK hR;unfold DN;dsimp only;obtain ⟨sum,p,dg,j,far⟩:=x;unfold Sx.box Ll;dsimp only;cases dg
   ·rw[if_neg (by decide)];cases far
    ·rw[if_neg (by decide)];simp[g,e,en]
    ·rw[if_pos rfl];simp[g,e,en]
   ·rw[if_pos rfl];simp[g,e,en]
 ·exact ⟨jq _,⟨by simp,by simp,by simp⟩,hR.symm⟩
 ·apply aC<;>simp[Sx.box,Ll,uh]
end Go.Ai
