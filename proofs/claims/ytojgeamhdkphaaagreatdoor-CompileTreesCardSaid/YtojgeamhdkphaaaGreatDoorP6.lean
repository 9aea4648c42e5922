/- P6: a part of the proof. Conditions: as each theorem says. -/
import Derived.Test.YtojgeamhdkphaaaGreatDoorP5
import Derived.Shelf.Strings.Fields
import Derived.Shelf.Strings.Search2
import Derived.Lib.SplitLaws
import Derived.Lib.IndexBytes
import Derived.Lib.Bytealg
set_option maxHeartbeats 4000000
set_option linter.unusedSimpArgs false
set_option linter.unusedVariables false
set_option maxRecDepth 20000
namespace Go.Ai
open Go.Proofs Go.Shelf
theorem Eu (s p:List UInt8):Sp Tryz.prog gl 156 [.str s,.str p] (.tup [.str (Lib.trimPrefix s p),.bool (Lib.hasPrefix s p)]):=
 Az HO (by kernel_rfl) (by kernel_rfl) s p
theorem nI (s:List UInt8) (hs:s.length<=1000000):Sp Tryz.prog gl 99 [.str s,.str [48,49,50,51,52,53,54,55,56,57]] (.str (Lib.trimS s [48,49,50,51,52,53,54,55,56,57])):=by
 refine m9 zK.f160 (by kernel_rfl) (by kernel_rfl) ?_;intro S gb w vs hvs hag;simp only[aa] at hvs;obtain ⟨v1,_,rfl,p1,v2,_,rfl,p2,rfl⟩:=hvs;simp only[PR] at p1 p2;subst p1;subst p2;refine (Any.strings_Trim_laid zK (by kernel_rfl) ⟨s.toArray⟩ ⟨[48,49,50,51,52,53,54,55,56,57].toArray⟩ w (by simp only[ByteArray.size,List.size_toArray];omega) (by decide) (ascii_of_all (by decide))).mono ?_;rintro e w' ⟨rfl,h⟩;exact ⟨_,rfl,h,by simp only[PR]⟩
set_option maxRecDepth 100000 in
theorem L8 (b:UInt8):([48,49,50,51,52,53,54,55,56,57]:List UInt8).contains b=bF b:=by
 have h: ∀n:Fin 256,([48,49,50,51,52,53,54,55,56,57]:List UInt8).contains (UInt8.ofNat n.1)=decide (48<=n.1/\n.1<=57):=by decide
 have h2:=h ⟨b.toNat,b.toNat_lt⟩;rw[UInt8.ofNat_toNat] at h2;exact h2
theorem wX {α:Type} (p:α->Bool): ∀l:List α,l.dropWhile p=[]↔l.all p=true
 |[]=>by simp
 |a::l=>by
  have ih:=wX p l;rw[List.dropWhile_cons,List.all_cons];cases h:p a
  ·simp
  ·simpa using ih
theorem p6 (s:List UInt8):(Lib.trimS s [48,49,50,51,52,53,54,55,56,57]==[])=s.all bF:=by
 have e:(fun b:UInt8=>([48,49,50,51,52,53,54,55,56,57]:List UInt8).contains b)=bF:=funext L8;unfold Lib.trimS Lib.trimLeftS Lib.trimRightS;rw[e,Bool.eq_iff_iff,cY,wX,List.all_reverse];constructor
 ·intro h;have h2:s.reverse.dropWhile bF=[]:=by
   cases g:s.reverse.dropWhile bF with
   |nil=>rfl
   |cons a t=>
    have ha:bF a=false:=by
     have:=List.head?_dropWhile_not bF s.reverse
     rw[g] at this;simpa using this
    rw[g,List.all_cons,ha] at h;cases h
  rw[wX,List.all_reverse] at h2;exact h2
 ·intro h;rw[<-List.all_reverse,<-wX] at h;rw[h];rfl
def ek:Ren:={
 f:=fun x=>match x with
  |219=>148
  |217=>165
  |225=>166
  |224=>167
  |267=>168
  |266=>182
  |314=>183
  |n=>n
 t:=fun x=>match x with
  |9=>9
  |3=>3
  |4=>4
  |5=>5
  |46=>208
  |146=>245
  |51=>50
  |n=>n
 g:=fun x=>match x with
  |1=>2
  |n=>n}
set_option maxRecDepth 100000 in
theorem J7:Lays.n219 Tryz.prog ek where
 mixed:=by kernel_rfl
 f217:=Eq.trans Tryz.func165 (congrArg some (show Tryz.f165=Body.n217 ek by kernel_rfl))
 f219:=Eq.trans Tryz.func148 (congrArg some (show Tryz.f148=Body.n219 ek by kernel_rfl))
 f224:=Eq.trans Tryz.func167 (congrArg some (show Tryz.f167=Body.n224 ek by kernel_rfl))
 f225:=Eq.trans Tryz.func166 (congrArg some (show Tryz.f166=Body.n225 ek by kernel_rfl))
 f266:=Eq.trans Tryz.func182 (congrArg some (show Tryz.f182=Body.n266 ek by kernel_rfl))
 f267:=Eq.trans Tryz.func168 (congrArg some (show Tryz.f168=Body.n267 ek by kernel_rfl))
 f314:=Eq.trans Tryz.func183 (congrArg some (show Tryz.f183=Body.n314 ek by kernel_rfl))
 t3:=Tryz.underlying3
 a3:=Tryz.isAgg3
 z3:=Tryz.sizeOf3
 v3:=Tryz.zeroValue3
 t4:=Tryz.underlying4
 a4:=Tryz.isAgg4
 z4:=Tryz.sizeOf4
 v4:=Tryz.zeroValue4
 t5:=Tryz.underlying5
 a5:=Tryz.isAgg5
 z5:=Tryz.sizeOf5
 v5:=Tryz.zeroValue5
 t9:=Tryz.underlying9
 a9:=Tryz.isAgg9
 z9:=Tryz.sizeOf9
 v9:=Tryz.zeroValue9
 t46:=Tryz.underlying208
 a46:=Tryz.isAgg208
 z46:=Tryz.sizeOf208
 v46:=Tryz.zeroValue208
 t51:=Tryz.underlying50
 a51:=Tryz.isAgg50
 z51:=Tryz.sizeOf50
 v51:=Tryz.zeroValue50
 t146:=Tryz.underlying245
 a146:=Tryz.isAgg245
 z146:=Tryz.sizeOf245
 v146:=Tryz.zeroValue245
 g1:=by kernel_rfl
theorem oU (c:UInt8): ∀(a:List UInt8),(∀b∈a,b≠c)->Lib.indexByte a c= -1
 |[],_=>rfl
 |b::r,h=>by
  have hb:b≠c:=h b (by simp);rw[Lib.indexByte,oU c r (fun x hx=>h x (by simp[hx]))];simp[hb]
theorem zL (c:UInt8): ∀(a r:List UInt8),(∀b∈a,b≠c)->Lib.indexByte (a++c::r) c=(a.length:Int)
 |[],r,_=>by simp[Lib.indexByte]
 |b::a,r,h=>by
  have hb:b≠c:=h b (by simp);have ih:=zL c a r (fun x hx=>h x (by simp[hx]));rw[cT,Lib.indexByte,ih];have h1:((a.length:Int)== -1)=false:=by rw[bJ];omega
  simp[hb,h1]
theorem NQ (c:UInt8): ∀(s:List UInt8),(∀b∈s,b≠c)\/ ∃a r,s=a++c::r/\ ∀b∈a,b≠c
 |[]=> .inl (by simp)
 |b::s=>by
  by_cases hb:b=c
  ·subst hb;exact .inr ⟨[],s,rfl,by simp⟩
  ·rcases NQ c s with h|⟨a,r,rfl,h⟩
   ·left;intro x hx;rcases o8.1 hx with rfl|hx
    ·exact hb
    ·exact h x hx
   ·right;refine ⟨b::a,r,rfl,fun x hx=>?_⟩;rcases o8.1 hx with rfl|hx
    ·exact hb
    ·exact h x hx
theorem HP {p:UInt8->Bool}: ∀ {a:List UInt8},(∀b∈a,p b=true)->a.takeWhile p=a
 |[],_=>rfl
 |b::a,h=>by
  rw[List.takeWhile_cons,if_pos (h b (by simp)),HP (fun x hx=>h x (by simp[hx]))]
theorem HQ {p:UInt8->Bool} {c:UInt8} (hc:p c=false): ∀ {a r:List UInt8},(∀b∈a,p b=true)->(a++c::r).takeWhile p=a
 |[],r,_=>by simp[hc]
 |b::a,r,h=>by
  rw[cT,List.takeWhile_cons,if_pos (h b (by simp)),HQ hc (fun x hx=>h x (by simp[hx]))]
def lw (s:List UInt8):Nat×Bool:=
 if eY s=true then (if 3<(aC s 0).length then (101,true) else (min (ID (aC s 0) s.length).1 101,(ID (aC s 0) s.length).2)) else (0,false)
theorem sW (s:List UInt8) (hl:s.length<=1000000):Sp Tryz.prog gl 128 [.str s] (.tup [.int .u32 (lw s).1,.bool (lw s).2]):=by
 refine PT rfl rfl ?_;have TR:=nI s hl;have TN:=p6 s;have RC:=zH s hl;have PN:=oT s hl s.length hl;unfold lw;generalize (aC s 0).length=rc,ID (aC s 0) s.length=q at*;obtain ⟨n,o⟩:=q;dsimp only at PN ⊢;generalize Lib.trimS s [48,49,50,51,52,53,54,55,56,57]=tr at*;by_cases e:s=[]
 ·subst e;clear PN TN TR RC;rw[if_neg (by decide)];simp[Ak]
 have en:(s==[])=false:=bJ.2 e;have g0:0<s.length:=Ix.2 e;have hh:s.headD 0=s[0]:=by
  cases s with
  |nil=>exact absurd rfl e
  |cons a t=>rfl
 have ie:s.isEmpty=false:=by rw[List.isEmpty_eq_false_iff];exact e
 have N8:s[0]=48↔(s[0].toNat:Int)=48:=by
  constructor
  ·intro h;rw[h];rfl
  ·intro h;exact Oe.1 (by show s[0].toNat=48;omega)
 have od:eY s=(s.all bF&&(s[0]!=48||s.length==1)):=by
  unfold eY;rw[ie,hh];rfl
 rw[od,<-TN];clear TN od hh ie;by_cases c1:(s[0].toNat:Int)=48
 ·have e1:(s[0]!=48)=false:=by rw[bne_eq_false_iff_eq];exact N8.2 c1
  rw[e1,Bool.false_or];by_cases c2:1<s.length
  ·have c2':(1:Int)<s.length:=by omega
   rw[show (s.length==1)=false by rw[bJ];omega,Qi,if_neg (by decide)];clear PN TR RC;simp[Ak,e,en,g0,c1,c2,c2']
  ·have c2': ¬(1:Int)<s.length:=by omega
   rw[show (s.length==1)=true by rw[cY];omega,Bool.and_true];cases ht:(tr==[])
   ·have ht1:(tr !=[])=true:=by unfold bne;rw[ht];rfl
    have ht2: ¬tr=[]:=fun h=>by rw[h] at ht;cases ht
    rw[if_neg (by decide)];clear PN RC;simp[Ak,e,en,g0,c1,c2,c2'];apply ab TR;simp[ht1,ht2,show tr.isEmpty=false by rw[List.isEmpty_eq_false_iff];exact ht2]
   have ht2:tr=[]:=by simpa using ht
   subst ht2;rw[if_pos rfl];simp[Ak,e,en,g0,c1,c2,c2'];apply ab TR;simp;apply ab RC;by_cases cr:3<rc
   ·have cr':(3:Int)<rc:=by omega
    rw[if_pos cr];simp[cr,cr']
   have cr': ¬(3:Int)<rc:=by omega
   rw[if_neg cr];simp[cr,cr'];apply ab PN;have cm:((min n 101:Nat):Int)=(if 101<(n:Int) then 101 else (n:Int)):=by split<;>omega
   simp[cm]
 ·have e1:(s[0]!=48)=true:=by rw[bne_iff_ne];exact fun h=>c1 (N8.1 h)
  have c1':((s[0].toNat:Int)==48)=false:=bJ.2 c1;rw[e1,Bool.true_or,Bool.and_true];cases ht:(tr==[])
  ·have ht1:(tr !=[])=true:=by unfold bne;rw[ht];rfl
   have ht2: ¬tr=[]:=fun h=>by rw[h] at ht;cases ht
   rw[if_neg (by decide)];clear PN RC;simp[Ak,e,en,g0,c1,c1'];apply ab TR;simp[ht1,ht2,show tr.isEmpty=false by rw[List.isEmpty_eq_false_iff];exact ht2]
  have ht2:tr=[]:=by simpa using ht
  subst ht2;rw[if_pos rfl];simp[Ak,e,en,g0,c1,c1'];apply ab TR;simp;apply ab RC;by_cases cr:3<rc
  ·have cr':(3:Int)<rc:=by omega
   rw[if_pos cr];simp[cr,cr']
  have cr': ¬(3:Int)<rc:=by omega
  rw[if_neg cr];simp[cr,cr'];apply ab PN;have cm:((min n 101:Nat):Int)=(if 101<(n:Int) then 101 else (n:Int)):=by split<;>omega
  simp[cm]
theorem uV (s:List UInt8) (c:UInt8):Sp Tryz.prog gl 148 [.str s,.str [c]] (i6 (Lib.indexByte s c)):=
 AB J7 (by kernel_rfl) (by kernel_rfl) s c
def dP (c:UInt8) (b:UInt8):Bool:=b !=c
theorem zM (c:UInt8) (s:List UInt8):Lib.indexByte s c=if (s.takeWhile (dP c)).length<s.length then ((s.takeWhile (dP c)).length:Int) else -1:=by
 rcases NQ c s with h|⟨a,r,rfl,h⟩
 ·have e:s.takeWhile (dP c)=s:=HP fun b hb=>by simp[dP,h b hb]
  rw[oU c s h,e,if_neg (Nat.lt_irrefl _)]
 ·have e:(a++c::r).takeWhile (dP c)=a:=HQ (by simp[dP]) fun b hb=>by simp[dP,h b hb]
  rw[zL c a r h,e,if_pos (by simp)]
theorem zN (c:UInt8): ∀(s:List UInt8),s.take (s.takeWhile (dP c)).length=s.takeWhile (dP c)
 |[]=>rfl
 |b::s=>by
  rw[List.takeWhile_cons];split
  ·rw[jG,List.take_succ_cons,zN c s]
  ·rfl
def uW (c:UInt8) (s:List UInt8):AV:=if (s.takeWhile (dP c)).length<s.length then .tup [.str (s.takeWhile (dP c)),.str (s.drop ((s.takeWhile (dP c)).length+1)),.bool true] else .tup [.str s,.str [],.bool false]
theorem BC (c:UInt8) (s:List UInt8) (hl:s.length<=1000000):Sp Tryz.prog gl 146 [.str s,.str [c]] (uW c s):=by
 refine P5 rfl rfl ?_;have IX:=uV s c;rw[zM] at IX;have ht:=zN c s;unfold uW;by_cases h:(s.takeWhile (dP c)).length<s.length
 ·rw[if_pos h] at IX ⊢;generalize (s.takeWhile (dP c)).length=n at*;have t1:IntKind.i64.wrap ((n:Int)+1)=(n+1:Nat):=by rw[ay]<;>omega
  have q1:(0:Int)<=n:=by omega
  have q2:(n:Int)<=s.length:=by omega
  have q5:n<=s.length:=by omega
  have q3:((n+1:Nat):Int)<=s.length:=by omega
  have q4:(0:Int)<=((n+1:Nat):Int):=by omega
  have e1:((n+1:Nat):Int).toNat=n+1:=by omega
  have e2:List.drop (n+1) (s.take s.length)=s.drop (n+1):=by rw[pr]
  generalize ((n+1:Nat):Int)=m at*;simp[Le];refine aZ _ IX ?_;simp[q1];simp only[t1];simp[q1,q2,q3,q4,q5,e1,ht]
 ·rw[if_neg h] at IX ⊢;clear ht;simp[Le];refine aZ _ IX ?_;simp
theorem sX (c:UInt8) (s:List UInt8) (hl:s.length<=1000000):Sp Tryz.prog gl 127 [.str s,.str [c]] (uW c s):=by
 refine PS rfl rfl ?_;have C:=BC c s hl;unfold uW at C ⊢;by_cases h:(s.takeWhile (dP c)).length<s.length
 ·rw[if_pos h] at C ⊢;simp[Lc];refine aZ _ C ?_;simp
 ·rw[if_neg h] at C ⊢;simp[Lc];refine aZ _ C ?_;simp
theorem oV (s:List UInt8):(aq s).length=s.length:=by simp[aq]
theorem zO (s:List UInt8) (i:Nat) (h:i<s.length) (h2:i<(aq s).length):(aq s)[i]=[.int .u8 s[i].toNat]:=by simp[aq]
theorem HT (s:List UInt8) (h0:s≠[]) (hd:s.all bF=true) (hl:s.length<=18):Sp Tryz.prog gl 149 [.str s,i6 10,i6 64] (.tup [u (bj s),.nili]):=by
 refine P7 rfl rfl ?_;have en:(s==[])=false:=bJ.2 h0;obtain ⟨RR,hRR⟩: ∃R,R=aq s:=⟨_,rfl⟩;have rl:=oV s;have rat:=zO s;rw[<-hRR] at rl;simp only[<-hRR] at rat;have b18: ∀i,i<=s.length->bj (s.take i)<1000000000000000000:=fun i hi=>by
  have:=HH (s.take i) (by
   rw[iW] at hd ⊢;exact fun x hx=>hd x (E9 hx))
  refine Ao this ?_
  have:(10:Nat)^(s.take i).length<=10^18:=Nat.pow_le_pow_right (by decide) (by rw[An];omega)
  simpa using this
 have x1:IntKind.u64.wrap 64=64:=by decide
 have x2:IntKind.u64.wrap (2^min 64 IntKind.u64.bits)=0:=by decide
 have x3:IntKind.u64.wrap (-1)=18446744073709551615:=by decide
 have x4:IntKind.u8.wrap 10=10:=by decide
 have x5:IntKind.u64.wrap 10=10:=by decide
 have u0:bj []=0:=rfl;simp[MZ,h0,en,x1,x2,x3,<-hRR];refine aY (α:=Nat) (fun i=>⟨[(1,i6 10),(8,.bool false),(10,u 1844674407370955162),(11,u 18446744073709551615),(12,.bool false),(13,u (bj (s.take i))),(99,.sl RR),(100,i6 s.length),(101,i6 i)],[],[]⟩)
  (fun i=>i<=s.length) (fun i=>s.length - i) ?_ 0 (gN _) ?_
 ·rintro K i hK h1;by_cases g:i<s.length
  ·have g':(i:Int)<s.length:=by omega
   have gR:i<RR.length:=by omega
   have ra:=rat i g gR;have dq:=(uU _).1 (iW.1 hd _ (o9 g));have t1:IntKind.i64.wrap ((i:Int)+1)=(i+1:Nat):=by rw[ay]<;>omega
   have fin:=fun σ' hσ=>hK (i+1) σ' g (by omega) hσ
   rw[Am g,nG] at fin;have vl:=b18 i h1;clear hK rat b18 hd;generalize bj (s.take i)=v,s[i]=c at*;have q1:((c.toNat:Int)==95)=false:=bJ.2 (by omega);have q2:(48:Int)<=c.toNat:=by omega
   have q3:(c.toNat:Int)<=57:=by omega
   have w1:IntKind.u8.wrap ((c.toNat:Int) - 48)=((c.toNat - 48:Nat):Int):=by rw[Ch]<;>omega
   have dl:c.toNat - 48<=9:=by omega
   generalize c.toNat - 48=d at*;have q4: ¬(10:Int)<=d:=by omega
   have q5: ¬(1844674407370955162:Int)<=v:=by omega
   have w2:IntKind.u64.wrap ((v:Int)*10)=((10*v:Nat):Int):=by rw[eU]<;>omega
   have w3:IntKind.u64.wrap (d:Int)=d:=by rw[eU]<;>omega
   have w4:IntKind.u64.wrap (((10*v:Nat):Int)+d)=((10*v+d:Nat):Int):=by rw[eU]<;>omega
   have q6: ¬((10*v+d:Nat):Int)<((10*v:Nat):Int):=by omega
   have q7: ¬(18446744073709551615:Int)<((10*v+d:Nat):Int):=by omega
   generalize 10*v+d=z2 at*;generalize 10*v=z1 at*;simp[g,g',gR,rl,ra,q1,q2,q3,w1,x4,q4,q5,x5,w2,w3,w4,q6,q7];refine fin _ ?_;apply aj<;>simp[t1]
  ·obtain rfl:i=s.length:=by omega
   have g': ¬(s.length:Int)<s.length:=by omega
   rw[pr];clear hK;simp[g']
 ·apply aj<;>simp[x1,x2,x3,u0,hRR,oV]
theorem HY (s:List UInt8) (h0:s≠[]) (hd:s.all bF=true) (hl:s.length<=18):Sp Tryz.prog gl 131 [.str s,i6 10,i6 64] (.tup [u (bj s),.nili]):=by
 refine PX rfl rfl ?_;have H:=HT s h0 hd hl;generalize bj s=n at*;simp[MT];refine bB _ _ ((H.h)) ?_;simp
theorem RK (tl:List UInt8) (h0:tl≠[]) (h3: ¬3<tl.length):bj ((tl++[48,48]).take 3)=BB tl 3:=by
 rcases tl with _|⟨a,_|⟨b,_|⟨c,_|⟨d,t⟩⟩⟩⟩
 ·exact absurd rfl h0
 ·simp[bj,BB,IC]
 ·simp[bj,BB,IC]
 ·simp[bj,BB,IC]
 ·simp at h3
theorem sY (tl:List UInt8) (h0:tl≠[]) (h3: ¬3<tl.length):((tl++[48,48]).take 3).length=3:=by
 have:=Ix.2 h0
 rw[An,gJ];simp;omega
theorem HZ (tl:List UInt8) (h:tl.all bF=true):((tl++[48,48]).take 3).all bF=true:=by
 rw[iW] at h ⊢;intro x hx;rcases lN.1 (E9 hx) with hx|hx
 ·exact h x hx
 ·simp at hx;subst hx;rfl
theorem wY (s:List UInt8) (hl:s.length<=1000000) (hp:(s.takeWhile (dP 46)).length<s.length):
  Sp Tryz.prog gl 105 [.str s] (di 4 (HM (s.takeWhile (dP 46)) (s.drop ((s.takeWhile (dP 46)).length+1)))).av:=by
 refine PI rfl rfl ?_;have CB:=sX 46 s hl;unfold uW at CB;rw[if_pos hp] at CB;have hl1:(s.takeWhile (dP 46)).length<=1000000:=by omega
 have hl2:(s.drop ((s.takeWhile (dP 46)).length+1)).length<=1000000:=by rw[BX];omega
 generalize s.drop ((s.takeWhile (dP 46)).length+1)=tl at*;generalize s.takeWhile (dP 46)=hd at*;have NU:=oR hd hl1;have TR:=nI tl hl2;have TN:=p6 tl;have nlt:=J3 hd;unfold HM;generalize ma hd=q,Lib.trimS tl [48,49,50,51,52,53,54,55,56,57]=tr at*;obtain ⟨n,e⟩:=q;unfold J2 at NU;dsimp only at NU nlt ⊢;have dgF:wV tl=(tl.all bF&&decide (0<tl.length)):=rfl;have te:tl=[]->wV tl=false:=by rintro rfl;rfl
 have tf:tl.all bF=false->wV tl=false:=fun h=>by rw[dgF,h,jC]
 have tg:tl≠[]->tl.all bF=true->wV tl=true:=fun h1 h2=>by
  rw[dgF,h2,iX,jm (Ix.2 h1)]
 by_cases e0:e=0
 ·subst e0;rw[if_pos rfl] at NU;by_cases c1:tl=[]
  ·rw[if_pos (.inl (te c1))];subst c1;unfold di TV.av;simp[q9];apply ab CB;simp;refine bB _ _ ((NU.h)) ?_;simp
  have c1':(tl==[])=false:=bJ.2 c1;by_cases c2:3<tl.length
  ·have c2':(3:Int)<tl.length:=by omega
   rw[if_pos (.inr c2)];unfold di TV.av;simp[q9];apply ab CB;simp;refine bB _ _ ((NU.h)) ?_;simp[c1,c1',c2,c2']
  have c2': ¬(3:Int)<tl.length:=by omega
  cases c3:tl.all bF
  ·rw[c3] at TN;have k1:(tr !=[])=true:=by unfold bne;rw[TN];rfl
   have k2: ¬tr=[]:=fun h=>by rw[h] at TN;cases TN
   rw[if_pos (.inl (tf c3))];unfold di TV.av;simp[q9];apply ab CB;simp;refine bB _ _ ((NU.h)) ?_;simp[c1,c1',c2,c2'];apply ab TR;simp[k1,k2,show tr.isEmpty=false by rw[List.isEmpty_eq_false_iff];exact k2]
  rw[c3] at TN;have k2:tr=[]:=by simpa using TN
  subst k2;rw[if_neg (by rintro (h|h);rw[tg c1 c3] at h;cases h;exact c2 h),if_neg (by decide)];have f3:=RK tl c1 c2;have PU:=HY ((tl++[48,48]).take 3) (fun h=>by have:=sY tl c1 c2;rw[h] at this;cases this) (HZ tl c3) (by rw[sY tl c1 c2];omega);rw[f3] at PU;have fl:BB tl 3<1000:=HN tl (J5 (tg c1 c3)) 3;have fle:=sY tl c1 c2;have fle':3<=(tl++[48,48]).length:=by rw[An] at fle;omega
  have fle2:(3:Int)<=((tl++[48,48]).length:Int):=by omega
  have fle3:3<=tl.length+2:=by simpa using fle'
  have fle4:(3:Int)<=(tl.length:Int)+2:=by omega
  have fle5:1<=tl.length:=by omega
  have fle6:tl.length<=9223372036854775805:=by omega
  clear fle f3 tg tf te dgF;generalize BB tl 3=t at*;have TM:=nn n 1000 nlt (by omega);have XA:=p0 (n*1000) t (by omega) (by omega);rw[if_pos (by omega)] at XA;have ws: ∀z,wide z= .agg [u (z / 18446744073709551616),u (z%18446744073709551616)]:=fun _=>rfl
  have wt:wide t= .agg [u 0,u t]:=by rw[ws,Nat.div_eq_of_lt (by omega),Mo (by omega)]
  rw[wt] at XA;have w3:=ws (n*1000);rw[w3] at TM XA;have h2:n*1000+t<18446744073709551616\/18446744073709551616<=n*1000+t:=by omega
  have hs:n*1000+t<340282366920938463463374607431768211456:=by omega
  rcases h2 with h2|h2
  ·have w2:wide (n*1000+t)= .agg [u 0,u (n*1000+t:Nat)]:=by rw[ws,Nat.div_eq_of_lt h2,Mo h2]
   rw[w2] at XA;rw[if_neg (by omega),Nat.mul_comm 1000 n];unfold di;dsimp only;rw[if_pos rfl];unfold TV.av;clear w2 w3 ws wt h2 hs;generalize n*1000+t=z,n*1000 / 18446744073709551616=a1,n*1000%18446744073709551616=a0 at*;simp[q9];apply ab CB;simp;refine bB _ _ ((NU.h)) ?_;simp[c1,c1',c2,c2'];apply ab TR;simp[fle',fle2,fle3,fle4,fle5,fle6];refine bB _ _ ((PU.h)) ?_;simp;apply ab TM;simp;apply ab XA;simp
  ·obtain ⟨h1,hh1⟩: ∃h1,h1=(n*1000+t) / 18446744073709551616:=⟨_,rfl⟩;have g1:0<h1:=by omega
   have g1':(0:Int)<h1:=by omega
   have w2:=ws (n*1000+t);rw[<-hh1] at w2;rw[w2] at XA;rw[if_pos (by omega)];unfold di;dsimp only;rw[if_neg (by decide)];unfold TV.av;clear w2 w3 ws wt h2 hs hh1;generalize (n*1000+t)%18446744073709551616=z,n*1000 / 18446744073709551616=a1,n*1000%18446744073709551616=a0 at*;simp[q9];apply ab CB;simp;refine bB _ _ ((NU.h)) ?_;simp[c1,c1',c2,c2'];apply ab TR;simp[fle',fle2,fle3,fle4,fle5,fle6];refine bB _ _ ((PU.h)) ?_;simp;apply ab TM;simp;apply ab XA;simp[g1,g1']
 ·rw[if_neg e0] at NU;by_cases e5:e=5
  ·subst e5
   have:(if wV tl=false\/3<tl.length then ((0:Nat),(5:Int)) else if (5:Int)≠0 then (0,5) else if (18446744073709551615 - BB tl 3) / 1000<n then (0,8) else (1000*n+BB tl 3,0))=(0,5):=by
    split
    ·rfl
    ·rfl
   rw[this];unfold di TV.av;simp[q9];apply ab CB;simp;refine bB _ _ ((NU.h)) ?_;simp
  have e5':(e==5)=false:=bJ.2 e5;by_cases c1:tl=[]
  ·rw[if_pos (.inl (te c1))];subst c1;unfold di TV.av;simp[q9];apply ab CB;simp;refine bB _ _ ((NU.h)) ?_;simp[e5,e5']
  have c1':(tl==[])=false:=bJ.2 c1;by_cases c2:3<tl.length
  ·have c2':(3:Int)<tl.length:=by omega
   rw[if_pos (.inr c2)];unfold di TV.av;simp[q9];apply ab CB;simp;refine bB _ _ ((NU.h)) ?_;simp[e5,e5',c1,c1',c2,c2']
  have c2': ¬(3:Int)<tl.length:=by omega
  cases c3:tl.all bF
  ·rw[c3] at TN;have k1:(tr !=[])=true:=by unfold bne;rw[TN];rfl
   have k2: ¬tr=[]:=fun h=>by rw[h] at TN;cases TN
   rw[if_pos (.inl (tf c3))];unfold di TV.av;simp[q9];apply ab CB;simp;refine bB _ _ ((NU.h)) ?_;simp[e5,e5',c1,c1',c2,c2'];apply ab TR;simp[k1,k2,show tr.isEmpty=false by rw[List.isEmpty_eq_false_iff];exact k2]
  rw[c3] at TN;have k2:tr=[]:=by simpa using TN
  subst k2;rw[if_neg (by rintro (h|h);rw[tg c1 c3] at h;cases h;exact c2 h),if_pos e0];unfold di;dsimp only;rw[if_neg e0];unfold TV.av;simp[q9];apply ab CB;simp;refine bB _ _ ((NU.h)) ?_;simp[e5,e5',c1,c1',c2,c2'];apply ab TR;simp
def dZ (r:Int):Nat:=if r=119 then 0 else if r=100 then 1 else if r=104 then 2 else if r=109 then 3 else if r=115 then 4 else 5
def t7 (j:Nat):Nat:=if j=0 then 1000000 else if j=1 then 604800 else if j=2 then 86400 else if j=3 then 3600 else if j=4 then 60 else 1
theorem wZ (r:Int):(dZ r=5/\bX r=0)\/(dZ r<5/\bX r=t7 (dZ r+1)):=by
 unfold dZ bX;repeat' split
 all_goals first|exact .inr ⟨by decide,by decide⟩|exact .inl ⟨rfl,rfl⟩
theorem J8 {i j:Nat} (hi:i<5) (hj:j<=5):t7 j<=t7 (i+1)↔i<j:=by
 have h: ∀a:Fin 5,∀b:Fin 6,(t7 b.1<=t7 (a.1+1)↔a.1<b.1):=by decide
 exact h ⟨i,hi⟩ ⟨j,by omega⟩
theorem H0 (j:Nat):1<=t7 j/\t7 j<=1000000:=by
 unfold t7;repeat' split
 all_goals omega
def J9:List Int->Nat->Nat->Bool->Nat->Bool->Nat×Int
 |[],sum,p,dg,j,far=>if dg=true then (0,5) else if far=true then (0,8) else (sum,0)
 |r::l,sum,p,dg,j,far=>
  if eu r=true then J9 l sum (min (p*10+(r - 48).toNat) 253402300800) true j (far||decide (253402300799<p*10+(r - 48).toNat))
  else if dZ r<j\/dZ r=5\/dg=false then (0,5)
  else J9 l (min (sum+min (p*bX r) 253402300800) 253402300800) 0 false (dZ r+1) ((far||decide (253402300799<p*bX r))||decide (253402300799<sum+min (p*bX r) 253402300800))
def jT (s:List UInt8):Nat×Int:=if s=[] then (0,5) else J9 (aC s 0) 0 0 false 0 false
theorem zP {r:Int} (h:r<0\/128<=r):dZ r=5/\bX r=0/\eu r=false:=by
 unfold dZ bX eu;refine ⟨?_,?_,ik (by omega)⟩
 ·rw[if_neg (by omega),if_neg (by omega),if_neg (by omega),if_neg (by omega),if_neg (by omega)]
 ·rw[if_neg (by omega),if_neg (by omega),if_neg (by omega),if_neg (by omega),if_neg (by omega)]
theorem Ka (s:List UInt8): ∀k i n la sm fr,s.length - i<=k-> ∀sum p dg j far,j<=5->la=t7 j->p=min n 253402300800->far=(fr||decide (253402300799<n))->(fr=false->sum=sm)->(dg=false->n=0)->sm<=253402300799->
  J9 (aC s i) sum p dg j far=EZ (s.drop i) dg n la sm fr:=by
 intro k;induction k with
 |zero=>
  intro i n la sm fr h sum p dg j far hj hla hp hfar hsum hdg hsm;rw[bp (by omega),IP (by omega),J9,EZ];cases dg
  ·rw[if_neg Bool.false_ne_true,if_neg Bool.false_ne_true]
   have:=hdg rfl
   subst this;rw[show decide (253402300799<0)=false from rfl,KC] at hfar;subst hfar;cases far
   ·rw[if_neg Bool.false_ne_true,if_neg Bool.false_ne_true,hsum rfl]
   ·rfl
  ·rfl
 |succ k ih=>
  intro i n la sm fr h sum p dg j far hj hla hp hfar hsum hdg hsm;by_cases g:i<s.length
  rotate_left
  ·rw[bp g,IP (by omega),J9,EZ];cases dg
   ·rw[if_neg Bool.false_ne_true,if_neg Bool.false_ne_true]
    have:=hdg rfl
    subst this;rw[show decide (253402300799<0)=false from rfl,KC] at hfar;subst hfar;cases far
    ·rw[if_neg Bool.false_ne_true,if_neg Bool.false_ne_true,hsum rfl]
    ·rfl
   ·rfl
  rw[bW g,rb g,J9,EZ];rcases p4 s i g with ⟨a,e⟩|⟨a,e⟩
  rotate_left
  ·have u1:=zP e;have u2:=zP (r:=(s[i].toNat:Int)) (by omega);have d2:bF s[i]=false:=by
    cases hd:bF s[i]
    ·rfl
    ·have:=(uU _).1 hd
     omega
   rw[u1.2.2,u1.1,u2.2.1,d2,if_neg Bool.false_ne_true,if_neg Bool.false_ne_true,if_pos (Or.inr (Or.inl rfl)),if_pos (Or.inr (Or.inl rfl))]
  ·rw[e];dsimp only;have hd:eu (s[i].toNat:Int)=bF s[i]:=by
    unfold eu bF;rw[Bool.eq_iff_iff,IM,IM];omega
   rw[hd];cases hD:bF s[i]
   ·rw[if_neg Bool.false_ne_true,if_neg Bool.false_ne_true];have U:=wZ (s[i].toNat:Int);have c:(dZ (s[i].toNat:Int)<j\/dZ (s[i].toNat:Int)=5\/dg=false)↔(dg=false\/bX (s[i].toNat:Int)=0\/la<=bX (s[i].toNat:Int)):=by
     rw[hla];rcases U with ⟨h1,h2⟩|⟨h1,h2⟩
     ·rw[h1,h2];simp
     ·rw[h2,J8 h1 hj]
      have:=H0 (dZ (s[i].toNat:Int)+1)
      constructor
      ·rintro (h|h|h)
       ·exact .inr (.inr h)
       ·omega
       ·exact .inl h
      ·rintro (h|h|h)
       ·exact .inr (.inr h)
       ·omega
       ·exact .inl h
    by_cases cc:(dg=false\/bX (s[i].toNat:Int)=0\/la<=bX (s[i].toNat:Int))
    ·rw[if_pos cc,if_pos (c.2 cc)]
    rw[if_neg cc,if_neg (fun h=>cc (c.1 h))];have u0:1<=bX (s[i].toNat:Int):=by omega
    have U:dZ (s[i].toNat:Int)<5/\bX (s[i].toNat:Int)=t7 (dZ (s[i].toNat:Int)+1):=by
     rcases U with ⟨h1,h2⟩|h
     ·omega
     ·exact h
    clear c cc;generalize dZ (s[i].toNat:Int)=ix at*;have un':=U.2;generalize hun:bX (s[i].toNat:Int)=un at*;have dv:253402300799 / un<n↔253402300799<n*un:=by rw[Nat.div_lt_iff_lt_mul (by omega)]
    have big:253402300800<=n->253402300799<n*un:=fun h=>by
     have:=Nat.le_mul_of_pos_right n (show 0<un by omega)
     omega
    have big':253402300799<253402300800*un:=by
     have:=Nat.le_mul_of_pos_right 253402300800 (show 0<un by omega)
     omega
    by_cases v1:253402300799 / un<n
    ·rw[if_pos v1];have v2:=dv.1 v1;refine ih (i+1) _ _ _ _ (by omega) _ _ _ _ _ (by omega) un' rfl ?_ (fun h=>by cases h) (fun _=>rfl) hsm;rw[Bool.true_or]
     have:253402300799<p*un:=by
      subst hp;by_cases c:n<=253402300800
      ·rw[Nat.min_eq_left c];exact v2
      ·rw[Nat.min_eq_right (by omega)];exact big'
     rw[jm this,Bool.or_true,Bool.true_or]
    rw[if_neg v1];have v2: ¬253402300799<n*un:=fun h=>v1 (dv.2 h)
    have n1:n<253402300800:=by
     rcases Nat.lt_or_ge n 253402300800 with h|h
     ·exact h
     ·exact absurd (big h) v2
    have pn:p=n:=by omega
    subst pn;clear hp big big' dv v1;rw[ik (show ¬253402300799<p by omega),KC] at hfar;subst hfar;generalize p*un=a at*;rw[ik v2,KC,Nat.min_eq_left (show a<=253402300800 by omega)];by_cases v3:253402300799<sm+a
    ·rw[if_pos v3];refine ih (i+1) _ _ _ _ (by omega) _ _ _ _ _ (by omega) un' rfl ?_ (fun h=>by cases h) (fun _=>rfl) (by omega);rw[Bool.true_or];cases far
     ·rw[hsum rfl,jm v3];rfl
     ·rfl
    ·rw[if_neg v3];refine ih (i+1) _ _ _ _ (by omega) _ _ _ _ _ (by omega) un' rfl ?_ ?_ (fun _=>rfl) (by omega)
     ·rw[show decide (253402300799<0)=false from rfl,KC];cases far
      ·rw[hsum rfl,ik v3];rfl
      ·rfl
     ·intro h;subst h;rw[hsum rfl];omega
   ·rw[if_pos rfl,if_pos rfl,show ((s[i].toNat:Int) - 48).toNat=s[i].toNat - 48 by omega];generalize s[i].toNat - 48=d at*;refine ih (i+1) _ _ _ _ (by omega) _ _ _ _ _ hj hla ?_ ?_ hsum (fun h=>by cases h) hsm
    ·subst hp;by_cases c:n<=253402300799
     ·rw[if_pos c];omega
     ·rw[if_neg c];omega
    ·subst hp hfar;by_cases c:n<=253402300799
     ·rw[if_pos c,ik (show ¬253402300799<n by omega),KC];congr 1
      rw[Nat.min_eq_left (by omega),Nat.mul_comm]
     ·rw[if_neg c,jm (show 253402300799<n by omega),Bool.or_true,Bool.true_or]
theorem H4 (s:List UInt8):jT s=Da s:=by
 unfold jT Da;by_cases e:s=[]
 ·rw[if_pos e,if_pos e]
 ·rw[if_neg e,if_neg e,<-xj (l:=s)];conv=>lhs;rw[xj]
  exact Ka s s.length 0 0 1000000 0 false (by omega) 0 0 false 0 false (by omega) rfl rfl rfl (fun _=>rfl) (fun _=>rfl) (by omega)
theorem Ev (s:List UInt8) (c:UInt8):Sp Tryz.prog gl 182 [.str s,.int .u8 c.toNat] (i6 (Lib.indexByte s c)):=by
 refine yW (fn:=Tryz.f182) (e:=Extern.BytealgIndexByte.indexByte) Tryz.func182 (by kernel_rfl) (by kernel_rfl) (by kernel_rfl) (by kernel_rfl) ?_;intro S gb w vs h;simp only[aa,PR] at h;obtain ⟨_,_,rfl,rfl,_,_,rfl,rfl,rfl⟩:=h;refine ⟨_,Lib.run_indexByteString _ _ w,?_⟩;simp[PR]
theorem Ew (s:List UInt8) (c:UInt8):Sp Tryz.prog gl 165 [.str s,.int .u8 c.toNat] (i6 (Lib.indexByte s c)):=by
 refine Qd rfl rfl ?_;have H:=Ev s c;generalize Lib.indexByte s c=k at*;simp[M2];apply ab H;simp
theorem uX (s:List UInt8) (c:UInt8):Sp Tryz.prog gl 175 [.str s,.int .u8 c.toNat] (i6 (Lib.indexByte s c)):=by
 refine Qe rfl rfl ?_;have H:=Ew s c;generalize Lib.indexByte s c=k at*;simp[M3];apply ab H;simp
def ME (r:Int):Prop:=(0<=r/\r<55296)\/(57343<r/\r<=1114111)
theorem Ex (r:Int) (h:ME r):Sp Tryz.prog gl 176 [i3 r] (.bool true):=by
 refine M4 rfl rfl ?_;by_cases c:r<55296
 ·have c0:0<=r:=by rcases h with h|h<;>omega
  simp[xy,c,c0]
 ·have c0:0<=r:=by rcases h with h|h<;>omega
  have c1:57343<r:=by rcases h with h|h<;>omega
  have c2:r<=1114111:=by rcases h with h|h<;>omega
  simp[xy,c,c0,c1,c2]
theorem H5 (r:Int) (h:ME r) (hr:128<=r): ∃a c,(Utf8.encode r).data.toList=a++[c]/\1<=a.length/\a.length<=3/\128<=c.toNat:=by
 have hv:Utf8.valid r=true:=by
  unfold Utf8.valid;simp;rcases h with h|h<;>omega
 have top: ∀n:Nat,128<=(UInt8.ofNat (128+n%64)).toNat:=fun n=>by
  rw[UInt8.toNat_ofNat'];omega
 unfold Utf8.encode;simp only[hv,if_true];rw[if_neg (by omega)];split
 ·exact ⟨[_],_,rfl,by simp,by simp,top _⟩
 ·split
  ·exact ⟨[_,_],_,rfl,by simp,by simp,top _⟩
  ·exact ⟨[_,_,_],_,rfl,by simp,by simp,top _⟩
def Kb (s:List UInt8) (r:Int):Int:=if r<128 then Lib.indexByte s (UInt8.ofNat r.toNat) else -1
theorem H6 (s:List UInt8) (hl:s.length<=1000) (hs: ∀b∈s,b.toNat<128) (r:Int) (h:ME r):Sp Tryz.prog gl 154 [.str s,i3 r] (i6 (Kb s r)):=by
 refine Qa rfl rfl ?_;have h0:0<=r:=by rcases h with h|h<;>omega
 unfold Kb;by_cases c1:r<128
 ·rw[if_pos c1];have w:IntKind.u8.wrap r=((UInt8.ofNat r.toNat).toNat:Int):=by
   rw[UInt8.toNat_ofNat',Ch]<;>omega
  have H:=uX s (UInt8.ofNat r.toNat);generalize Lib.indexByte s (UInt8.ofNat r.toNat)=k,((UInt8.ofNat r.toNat).toNat:Int)=z at*;simp[IL,c1,h0,w];apply ab H;simp
 rw[if_neg c1];by_cases c2:r=65533
 ·subst c2;simp[IL];refine aY (α:=Nat) (fun i=>⟨[(0,.str s),(175,.itp 175)],[(.it 175,[.itr s i])],[]⟩)
   (fun i=>i<=s.length) (fun i=>s.length - i) ?_ 0 ?_ ?_
  ·rintro K i hK h1;by_cases g:i<s.length
   ·have sr:=hY s i g;have sa:=hs _ (o9 g);rcases p4 s i g with ⟨a,e⟩|⟨a,e⟩
    rotate_left
    ·omega
    rw[e,if_neg (by omega)] at sr;have n1:((s[i].toNat:Int)==65533)=false:=bJ.2 (by omega);have n2: ¬(s[i].toNat:Int)=65533:=by omega
    have fin:=fun σ' hσ=>hK (i+1) σ' (by omega) (by omega) hσ
    clear hK e;generalize (s[i].toNat:Int)=z at*;simp[g,sr,n1,n2];refine fin _ ?_;apply aj<;>simp
   ·clear hK;simp[g]
  ·exact gN _
  ·apply aj<;>simp
 have c2':(r==65533)=false:=bJ.2 c2;have V:=Ex r h;obtain ⟨a,c,he,a1,a3,hc⟩:=H5 r h (by omega);have hcn: ∀b∈s,b≠c:=fun b hb e=>by
  have:=hs b hb
  rw[e] at this;omega
 have hlen:(a++[c]).length=a.length+1:=by simp
 have hat: ∀h2,(a++[c])[a.length]'h2=c:=fun h2=>by simp
 have hlt:a.length<(a++[c]).length:=by omega
 generalize a++[c]=bs at*;have w1:IntKind.i64.wrap ((bs.length:Int) - 1)=(a.length:Nat):=by rw[ay]<;>omega
 generalize a.length=n at*;simp[IL,c1,c2,c2',h0];apply ab V;simp[he,w1];refine aY (α:=Nat) (fun i=>⟨[(0,.str s),(1,i3 r),(7,.str bs),(8,i6 n),(9,i6 n),(10,i6 0)],[],[]⟩)
   (fun i=>True) (fun i=>1) ?_ 0 ?_ ?_
 ·rintro K i hK h1;clear hK h1;by_cases g:n<s.length
  ·have g':(n:Int)<s.length:=by omega
   have hsn:((s[n].toNat:Int)!=(c.toNat:Int))=true:=by
    rw[bne_iff_ne];intro e;exact hcn _ (o9 g) (Oe.1 (by omega))
   have t1:IntKind.i64.wrap ((n:Int)+1)=(n+1:Nat):=by rw[ay]<;>omega
   have H:=uX (s.drop (n+1)) c;rw[oU c (s.drop (n+1)) (fun b hb=>hcn b (List.mem_of_mem_drop hb))] at H;have q1:n+1<=s.length:=by omega
   have q2:((n+1:Nat):Int)<=s.length:=by omega
   have q3:(0:Int)<=((n+1:Nat):Int):=by omega
   have q4:((n+1:Nat):Int).toNat=n+1:=by omega
   generalize ((n+1:Nat):Int)=m at*;simp[g,g',hsn,hlt,hat,t1,q1,q2,q3,q4];apply ab H;simp
  ·have g': ¬(n:Int)<s.length:=by omega
   simp[g,g']
 ·exact True.intro
 ·apply aj<;>simp
def ua:List UInt8:=[119,100,104,109,115]
theorem L9 (j:Nat): ∀b∈ua.drop j,b.toNat<128:=fun b hb=>by
 have: ∀b∈ua,b.toNat<128:=by decide
 exact this b (List.mem_of_mem_drop hb)
theorem Ey {r:Int} (h:dZ r=5):r≠119/\r≠100/\r≠104/\r≠109/\r≠115:=by
 unfold dZ at h;refine ⟨?_,?_,?_,?_,?_⟩<;>rintro rfl<;>revert h<;>decide
theorem H7 (j:Nat) (hj:j<=5) (r:Int) (h0:0<=r):Kb (ua.drop j) r=if j<=dZ r/\dZ r<5 then ((dZ r - j:Nat):Int) else -1:=by
 by_cases h:dZ r=5
 ·have n:=Ey h;rw[h,if_neg (by omega)];unfold Kb;split
  ·rename_i c;refine oU _ _ fun b hb=>?_
   have hb:=List.mem_of_mem_drop hb;have t:(UInt8.ofNat r.toNat).toNat=r.toNat:=by rw[UInt8.toNat_ofNat'];omega
   intro e;rw[<-e] at t;simp[ua] at hb;rcases hb with rfl|rfl|rfl|rfl|rfl<;>(simp at t;omega)
  ·rfl
 ·have hr:r=119\/r=100\/r=104\/r=109\/r=115:=by
   unfold dZ at h;by_cases h1:r=119
   ·exact .inl h1
   by_cases h2:r=100
   ·exact .inr (.inl h2)
   by_cases h3:r=104
   ·exact .inr (.inr (.inl h3))
   by_cases h4:r=109
   ·exact .inr (.inr (.inr (.inl h4)))
   by_cases h5:r=115
   ·exact .inr (.inr (.inr (.inr h5)))
   rw[if_neg h1,if_neg h2,if_neg h3,if_neg h4,if_neg h5] at h;exact absurd rfl h
  have hj:j=0\/j=1\/j=2\/j=3\/j=4\/j=5:=by omega
  rcases hr with rfl|rfl|rfl|rfl|rfl<;>rcases hj with rfl|rfl|rfl|rfl|rfl|rfl<;>decide
def Kc (sum p:Nat) (dg:Bool) (left:List UInt8) (far:Bool):List AV:=[i6 sum,i6 p,.bool dg,.str left,.bool far]
theorem BD (n sum p:Nat) (dg:Bool) (left:List UInt8) (far:Bool) (d:Nat) (b:Id) (hb:b.isIt=false) (hbd:b.isNw d=false):
  bh Tryz.prog gl 153 d ⟨[.ptr b 0,i6 n],[(b,Kc sum p dg left far)],[]⟩ ⟨i6 (min n 253402300800:Nat),[(b,Kc sum p dg left (far||decide (253402300799<n)))],[]⟩:=by
 refine P9 rfl ?_;have hib:=ai hbd;unfold Kc;simp only[aw,aW,aO,AV.mp,aX,Pl.mp];by_cases c:253402300799<n
 ·have c':(253402300799:Int)<n:=by omega
  have e:((min n 253402300800:Nat):Int)=253402300800:=by omega
  rw[jm c,Bool.or_true,e];simp[Lf,c,c'];apply am<;>simp[hib,hb]
 ·have c': ¬(253402300799:Int)<n:=by omega
  have e:((min n 253402300800:Nat):Int)=n:=by omega
  rw[ik c,KC,e];simp[Lf,c,c'];apply am<;>simp[hib,hb]
structure Sx where
 sum:Nat
 p:Nat
 dg:Bool
 j:Nat
 far:Bool
def Sx.box (x:Sx):List AV:=Kc x.sum x.p x.dg (ua.drop x.j) x.far
def Sx.take (x:Sx) (r:Int):Sx×Bool:=
 if eu r=true then ({x with p:=min (x.p*10+(r - 48).toNat) 253402300800,dg:=true,far:=x.far||decide (253402300799<x.p*10+(r - 48).toNat)},true)
 else if dZ r<x.j\/dZ r=5\/x.dg=false then (x,false)
 else (⟨min (x.sum+min (x.p*bX r) 253402300800) 253402300800,0,false,dZ r+1,(x.far||decide (253402300799<x.p*bX r))||decide (253402300799<x.sum+min (x.p*bX r) 253402300800)⟩,true)
structure H8 (x:Sx):Prop where
 s:x.sum<=253402300800
 p:x.p<=253402300800
 j:x.j<=5
theorem H8.step {x:Sx} (h:H8 x) (r:Int):H8 (x.take r).1:=by
 have h1:=h.s;have h2:=h.p;have h3:=h.j;have u5:dZ r<=5:=by
  have:=wZ r
  omega
 unfold Sx.take;split
 ·exact ⟨h1,Nat.min_le_right _ _,h3⟩
 ·split
  ·exact h
  ·rename_i c;exact ⟨Nat.min_le_right _ _,gN _,by simp only;omega⟩
theorem zQ (x:Sx) (h:H8 x) (r:Int) (hr:ME r) (d:Nat) (b:Id) (hb:b.isIt=false) (hbd:b.isNw d=false):
  bh Tryz.prog gl 134 d ⟨[.ptr b 0,i3 r],[(b,x.box)],[]⟩ ⟨.bool (x.take r).2,[(b,(x.take r).1.box)],[]⟩:=by
 refine P0 rfl ?_;have hib:=ai hbd;have hs:=h.s;have hp:=h.p;have hj:=h.j;obtain ⟨sum,p,dg,j,far⟩:=x;simp only at hs hp hj;have h0:0<=r:=by rcases hr with h|h<;>omega
 unfold Sx.take Sx.box;dsimp only;have R:=H6 (ua.drop j) (by rw[BX];simp[ua];omega) (L9 j) r hr;have HE:=fun (n sum p:Nat) (dg:Bool) (left:List UInt8) (far:Bool) (e:Nat)=>BD n sum p dg left far e (.up b) hb
 unfold Kc at*;cases hd:eu r
 ·rw[if_neg (by decide)];have d0: ¬(48<=r/\r<=57):=fun q=>by unfold eu at hd;rw[jm q] at hd;cases hd
  have IU:=H7 j hj r h0;have U:=BA r;have ul:=HL r;have wl:ua.length=5:=rfl;rw[IU] at R;by_cases c1:dZ r<j\/dZ r=5\/dg=false
  ·rw[if_pos c1];by_cases c2:j<=dZ r/\dZ r<5
   ·have hdg:dg=false:=by
     rcases c1 with c|c|c
     ·omega
     ·omega
     ·exact c
    subst hdg;rw[if_pos c2] at R;generalize dZ r - j=q,ua.drop j=left at*;have q0: ¬(q:Int)<0:=by omega
    clear IU c1 c2 HE;simp only[aw,aW,aO,AV.mp,aX,Pl.mp];by_cases d1:48<=r
    ·have d2: ¬r<=57:=by omega
     simp[xw,d1,d2];apply ab R;simp[q0];apply am<;>simp[hib,hb]
    ·simp[xw,d1];apply ab R;simp[q0];apply am<;>simp[hib,hb]
   ·rw[if_neg c2] at R;generalize ua.drop j=left at*;clear IU c1 c2 HE;simp only[aw,aW,aO,AV.mp,aX,Pl.mp];by_cases d1:48<=r
    ·have d2: ¬r<=57:=by omega
     simp[xw,d1,d2];apply ab R;simp;apply am<;>simp[hib,hb]
    ·simp[xw,d1];apply ab R;simp;apply am<;>simp[hib,hb]
  rw[if_neg c1];have c2:j<=dZ r/\dZ r<5:=by
   have:=wZ r
   omega
  have hdg:dg=true:=by
   cases dg
   ·exact absurd (.inr (.inr rfl)) c1
   ·rfl
  subst hdg;rw[if_pos c2] at R;have hdr:(ua.drop j).drop (dZ r - j+1)=ua.drop (dZ r+1):=by
   rw[List.drop_drop];congr 1
   omega
  have hll:(ua.drop j).length=5 - j:=by rw[BX,wl]
  obtain ⟨q,hq⟩: ∃q,q=dZ r - j:=⟨_,rfl⟩;have qb:q+1<=(ua.drop j).length:=by omega
  rw[<-hq] at R hdr;have a0:p*bX r<=253402300800*604800:=Nat.mul_le_mul hp ul;have w1:IntKind.i64.wrap ((p:Int)*(bX r:Int))=((p*bX r:Nat):Int):=by
   rw[<-Int.natCast_mul,ay]<;>omega
  have HA:=HE (p*bX r) sum p true (ua.drop j) far;have w2:IntKind.i64.wrap ((sum:Int)+((min (p*bX r) 253402300800:Nat):Int))=((sum+min (p*bX r) 253402300800:Nat):Int):=by
   rw[ay]<;>omega
  have HB:=HE (sum+min (p*bX r) 253402300800) sum p true (ua.drop j) (far||decide (253402300799<p*bX r));generalize decide (253402300799<sum+min (p*bX r) 253402300800)=f2,decide (253402300799<p*bX r)=f1,min (sum+min (p*bX r) 253402300800) 253402300800=s2 at*;generalize sum+min (p*bX r) 253402300800=s1 at*;generalize min (p*bX r) 253402300800=a1 at*;generalize p*bX r=a at*;generalize bX r=un,ua.drop (dZ r+1)=left2,ua.drop j=left at*;have q0: ¬(q:Int)<0:=by omega
  have q1:(0:Int)<=((q+1:Nat):Int):=by omega
  have q2:((q+1:Nat):Int)<=left.length:=by omega
  have q3:((q+1:Nat):Int).toNat=q+1:=by omega
  have t1:IntKind.i64.wrap ((q:Int)+1)=((q+1:Nat):Int):=by rw[ay]<;>omega
  generalize ((q+1:Nat):Int)=m at*;clear IU c1 c2 hq a0;simp only[aw,aW,aO,AV.mp,aX,Pl.mp];by_cases d1:48<=r
  ·have d2: ¬r<=57:=by omega
   simp[xw,d1,d2];apply ab R;simp[q0];apply ab U;simp[w1];refine fA _ _ (HA _ rfl) ⟨?_,?_,?_,?_,?_,?_,?_⟩ ⟨?_,?_,?_⟩ ?_;iterate 10 (· simp[Pl.isB,Pl.isF,mT,KF,AV.pid,hb])
   simp[w2];refine fA _ _ (HB _ rfl) ⟨?_,?_,?_,?_,?_,?_,?_⟩ ⟨?_,?_,?_⟩ ?_;iterate 10 (· simp[Pl.isB,Pl.isF,mT,KF,AV.pid,hb])
   simp[t1,q1,q2,q3,hdr];apply am<;>simp[hib,hb]
  ·simp[xw,d1];apply ab R;simp[q0];apply ab U;simp[w1];refine fA _ _ (HA _ rfl) ⟨?_,?_,?_,?_,?_,?_,?_⟩ ⟨?_,?_,?_⟩ ?_;iterate 10 (· simp[Pl.isB,Pl.isF,mT,KF,AV.pid,hb])
   simp[w2];refine fA _ _ (HB _ rfl) ⟨?_,?_,?_,?_,?_,?_,?_⟩ ⟨?_,?_,?_⟩ ?_;iterate 10 (· simp[Pl.isB,Pl.isF,mT,KF,AV.pid,hb])
   simp[t1,q1,q2,q3,hdr];apply am<;>simp[hib,hb]
 ·rw[if_pos rfl];have d0:48<=r/\r<=57:=by unfold eu at hd;exact Iy hd
  clear R;obtain ⟨k,hk⟩: ∃k:Nat,r=k+48:=⟨(r - 48).toNat,by omega⟩;have w1:IntKind.i64.wrap ((p:Int)*10)=(p*10:Nat):=by rw[ay]<;>omega
  have w2:IntKind.i32.wrap (r - 48)=k:=by rw[cN]<;>omega
  have w3:IntKind.i64.wrap (k:Int)=k:=by rw[ay]<;>omega
  have w4:IntKind.i64.wrap (((p*10:Nat):Int)+k)=(p*10+k:Nat):=by rw[ay]<;>omega
  rw[show (r - 48).toNat=k by omega];have HE:=HE (p*10+k) sum p dg (ua.drop j) far;clear hk;generalize p*10+k=z,ua.drop j=left,((p*10:Nat):Int)=y at*;simp only[aw,aW,aO,AV.mp,aX,Pl.mp];simp[xw,d0.1,d0.2,w1,w2,w3,w4];refine aF _ _ (HE _ rfl) (by constructor<;>simp[hb]) ?_
  simp;apply am<;>simp[hib,hb]
def qB:List Int->Sx->Option Sx
 |[],x=>some x
 |r::l,x=>if (x.take r).2=true then qB l (x.take r).1 else none
def Db:Option Sx->Nat×Int
 |none=>(0,5)
 |some x=>if x.dg=true then (0,5) else if x.far=true then (0,8) else (x.sum,0)
theorem p7: ∀(l:List Int) (x:Sx),Db (qB l x)=J9 l x.sum x.p x.dg x.j x.far
 |[],x=>rfl
 |r::l,x=>by
  rw[qB,J9];unfold Sx.take;by_cases c:eu r=true
  ·rw[if_pos c,if_pos c];dsimp only;rw[if_pos rfl,p7 l]
  ·rw[if_neg c,if_neg c];by_cases c2:dZ r<x.j\/dZ r=5\/x.dg=false
   ·rw[if_pos c2,if_pos c2];rfl
   ·rw[if_neg c2,if_neg c2];dsimp only;rw[if_pos rfl,p7 l]
theorem H9 (x:Sx) (r:Int):x.take (pZ r)=x.take r:=by
 unfold pZ;split
 ·rename_i c;subst c;unfold Sx.take;rw[show eu 65533=false from rfl,show eu (-1)=false from rfl,if_neg Bool.false_ne_true,if_neg Bool.false_ne_true,show dZ 65533=5 from rfl,show dZ (-1)=5 from rfl,if_pos (Or.inr (Or.inl rfl)),if_pos (Or.inr (Or.inl rfl))]
 ·rfl
theorem Ia (s:List UInt8) (i:Nat):ME (pZ (ax s i).1):=by
 have h:=uQ s i;unfold pZ ME;rcases h with h|⟨h1,h2,h3⟩
 ·rw[if_pos h];omega
 ·rw[if_neg (by omega)];omega
theorem BE (s:List UInt8) (hl:s.length<=1000000):Sp Tryz.prog gl 106 [.str s] (.tup [i6 (jT s).1,i6 (jT s).2]):=by
 refine PJ rfl rfl ?_;unfold jT;by_cases e:s=[]
 ·subst e;rw[if_pos rfl];simp[K7];refine aY (α:=Nat) (fun i=>⟨[(0,.str []),(4,.ptr (.n 8) 0),(10,.itp 10)],[(.n 8,[i6 0,i6 0,.bool false,.str [119,100,104,109,115],.bool false]),(.it 10,[.itr [] 0])],[]⟩) (fun i=>True) (fun i=>1) ?_ 0 ?_ ?_
  ·rintro K i hK _;clear hK;simp
  ·exact True.intro
  ·apply aj<;>simp
 rw[if_neg e];have en:(s==[])=false:=bJ.2 e;obtain ⟨R,hR⟩: ∃R,R=qB (aC s 0) ⟨0,0,false,0,false⟩:=⟨_,rfl⟩;have hR2:=p7 (aC s 0) ⟨0,0,false,0,false⟩;rw[<-hR] at hR2;rw[<-hR2];clear hR2;simp[K7];refine aY (α:=Nat×Sx) (fun y=>⟨[(0,.str s),(4,.ptr (.n 8) 0),(10,.itp 10)],[(.n 8,y.2.box),(.it 10,[.itr s y.1])],[]⟩)
  (fun y=>y.1<=s.length/\H8 y.2/\qB (aC s y.1) y.2=R) (fun y=>s.length - y.1) ?_ (0,⟨0,0,false,0,false⟩) ?_ ?_
 ·rintro K ⟨i,x⟩ hK ⟨h1,h2,h3⟩;simp only at h1 h2 h3;by_cases g:i<s.length
  ·rw[bW g,qB] at h3;have sr:=oQ s i g;have sp:=cX s i;have sw:=kN s i g;have T:=fun (e:Nat) (he:(Id.n 8).isNw e=false)=>zQ x h2 (pZ (ax s i).1) (Ia s i) e (.n 8) rfl he
   have so:=h2.step (ax s i).1;rw[H9] at T;have bx0:x.box.length=5:=rfl;have bx1:bR x.box=[]:=rfl;have by0:(x.take (ax s i).1).1.box.length=5:=rfl;have by1:bR (x.take (ax s i).1).1.box=[]:=rfl;have fin:qB (aC s (i+(ax s i).2)) (x.take (ax s i).1).1=R-> ∀σ',fx σ' ⟨[(0,.str s),(4,.ptr (.n 8) 0),(10,.itp 10)],[(.n 8,(x.take (ax s i).1).1.box),(.it 10,[.itr s (i+(ax s i).2)])],[]⟩->K σ':=
    fun hh σ' hσ=>hK (i+(ax s i).2,(x.take (ax s i).1).1) σ' ⟨sw,so,hh⟩ (by simp only;omega) hσ
   clear hK hR so;generalize (x.take (ax s i).1).2=ok,(x.take (ax s i).1).1=y,pZ (ax s i).1=r,(ax s i).2=w at*;cases ok
   ·rw[if_neg (by decide)] at h3;subst h3;clear fin;unfold Sx.box Kc at*;simp[g,sr,Db];refine bB _ _ (T _ rfl) ?_;simp
   ·rw[if_pos rfl] at h3;have fin:=fin h3;clear h3;generalize Db R=Q at*;unfold Sx.box Kc at*;simp[g,sr];refine bB _ _ (T _ rfl) ?_;simp;refine fin _ ?_;apply aj<;>simp
  ·rw[bp g,qB] at h3;subst h3;clear hK hR;unfold Db;dsimp only;obtain ⟨sum,p,dg,j,far⟩:=x;unfold Sx.box Kc;dsimp only;cases dg
   ·rw[if_neg (by decide)];cases far
    ·rw[if_neg (by decide)];simp[g,e,en]
    ·rw[if_pos rfl];simp[g,e,en]
   ·rw[if_pos rfl];simp[g,e,en]
 ·exact ⟨gN _,⟨by simp,by simp,by simp⟩,hR.symm⟩
 ·apply aj<;>simp[Sx.box,Kc,ua]
end Go.Ai
