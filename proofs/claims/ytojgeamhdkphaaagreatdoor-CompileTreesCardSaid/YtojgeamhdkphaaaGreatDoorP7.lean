/- P7: a part of the proof. Conditions: as each theorem says. -/
import Derived.Test.YtojgeamhdkphaaaGreatDoorP6
set_option maxHeartbeats 4000000
set_option linter.unusedSimpArgs false
set_option linter.unusedVariables false
set_option maxRecDepth 20000
namespace Go.Ai
open Go.Proofs
def uY (h:Nat×Bool) (t:Nat×Bool):Nat×Int:=
 if h.2=false\/t.2=false then (0,5) else if 100<h.1\/(h.1=100/\0<t.1) then (0,8) else ((h.1*10000%4294967296+t.1)%4294967296,0)
def Ib (s:List UInt8):Nat×Int:=
 if mb s [37]=false then (0,5)
 else if ((dY s [37]).takeWhile (dP 46)).length<(dY s [37]).length then
  uY (lw ((dY s [37]).takeWhile (dP 46))) ((ID (aC ((dY s [37]).drop (((dY s [37]).takeWhile (dP 46)).length+1)) 0) 4).1,
   (ID (aC ((dY s [37]).drop (((dY s [37]).takeWhile (dP 46)).length+1)) 0) 4).2&&!mb ((dY s [37]).drop (((dY s [37]).takeWhile (dP 46)).length+1)) [48])
 else uY (lw (dY s [37])) (0,true)
def NS (b:List UInt8) (d:Nat):Nat:=BB b d*10000+BB (b.drop (d+1)) 4
def RM (s b:List UInt8) (d:Nat):Nat×Int:=
 if (b.take d).all bF=false\/(b.drop (d+1)).all bF=false then (0,5)
 else if (d<b.length/\(b.length - 1 - d<1\/4<b.length - 1 - d\/cF s (b.length - 1)=48))\/d=0\/(cF s 0=48/\1<d) then (0,5)
 else if 3<d then (0,8)
 else if 1000000<NS b d then (0,8) else (NS b d,0)
def RP (s:List UInt8):Nat×Int:=
 if s.length<2\/cF s (s.length - 1)≠37 then (0,5)
 else RM s (s.take (s.length - 1)) ((s.take (s.length - 1)).takeWhile (dP 46)).length
theorem Ez (s t:List UInt8):(dY s t).length<=s.length:=by
 unfold dY;split
 ·rw[An];omega
 ·exact gp _
theorem zR (s:List UInt8) (hl:s.length<=1000000):Sp Tryz.prog gl 103 [.str s] (.tup [.int .u32 (Ib s).1,i6 (Ib s).2]):=by
 refine PG rfl rfl ?_;have CS:=zG s [37] hl (by simp);have bl:=Ez s [37];unfold Ib;generalize dY s [37]=b at*;have hb:b.length<=1000000:=by omega
 cases hs:mb s [37]
 ·rw[hs] at CS;rw[if_pos rfl];clear bl;simp[nR];apply ab CS;simp
 rw[hs] at CS;rw[if_neg (by decide)];have CB:=sX 46 b hb;unfold uW at CB;by_cases g:(b.takeWhile (dP 46)).length<b.length
 ·rw[if_pos g] at CB ⊢;have W:=sW (b.takeWhile (dP 46)) (by omega);have PN:=oT (b.drop ((b.takeWhile (dP 46)).length+1)) (by rw[BX];omega) 4 (by omega);have HS:=oS (b.drop ((b.takeWhile (dP 46)).length+1)) [48] (by rw[BX];omega) (by simp);clear g hb bl hs;generalize b.drop ((b.takeWhile (dP 46)).length+1)=tl at*;generalize b.takeWhile (dP 46)=hd at*;generalize lw hd=wh,ID (aC tl 0) 4=q,mb tl [48]=sb at*;obtain ⟨n,o⟩:=wh;obtain ⟨m,i⟩:=q;unfold uY;dsimp only at W PN ⊢;cases o
  ·rw[if_pos (.inl rfl)];cases i
   ·simp[nR];apply ab CS;simp;apply ab CB;simp;apply ab W;simp;apply ab PN;simp
   ·simp[nR];apply ab CS;simp;apply ab CB;simp;apply ab W;simp;apply ab PN;simp;apply ab HS;simp
  cases i
  ·rw[if_pos (.inr rfl)];simp[nR];apply ab CS;simp;apply ab CB;simp;apply ab W;simp;apply ab PN;simp
  cases sb
  rotate_left
  ·rw[if_pos (.inr rfl)];simp[nR];apply ab CS;simp;apply ab CB;simp;apply ab W;simp;apply ab PN;simp;apply ab HS;simp
  rw[if_neg (by rintro (h|h)<;>cases h)];have w1:IntKind.u32.wrap ((n:Int)*10000)=((n*10000%4294967296:Nat):Int):=by
   rw[gV];omega
  have w2:IntKind.u32.wrap (((n*10000%4294967296:Nat):Int)+(m:Int))=(((n*10000%4294967296+m)%4294967296:Nat):Int):=by
   rw[gV];omega
  generalize (n*10000%4294967296+m)%4294967296=z,((n*10000%4294967296:Nat):Int)=y at*;by_cases c1:100<n
  ·have c1':(100:Int)<n:=by omega
   rw[if_pos (.inl c1)];simp[nR];apply ab CS;simp;apply ab CB;simp;apply ab W;simp;apply ab PN;simp;apply ab HS;simp[c1,c1']
  have c1': ¬(100:Int)<n:=by omega
  by_cases c2:n=100
  ·subst c2;have w1':IntKind.u32.wrap 1000000=y:=by rw[<-w1];rfl
   by_cases c3:0<m
   ·have c3':(0:Int)<m:=by omega
    rw[if_pos (.inr ⟨rfl,c3⟩)];simp[nR];apply ab CS;simp;apply ab CB;simp;apply ab W;simp;apply ab PN;simp;apply ab HS;simp[c3,c3']
   ·have c3': ¬(0:Int)<m:=by omega
    rw[if_neg (by omega)];simp[nR];apply ab CS;simp;apply ab CB;simp;apply ab W;simp;apply ab PN;simp;apply ab HS;simp[c3,c3',w1',w2]
  ·have c2':((n:Int)==100)=false:=bJ.2 (by omega);rw[if_neg (by omega)];simp[nR];apply ab CS;simp;apply ab CB;simp;apply ab W;simp;apply ab PN;simp;apply ab HS;simp[c1,c1',c2,c2',w1,w2]
 ·rw[if_neg g] at CB ⊢;have W:=sW b hb;clear g hb bl hs;generalize lw b=wh at*;obtain ⟨n,o⟩:=wh;unfold uY;dsimp only at W ⊢;cases o
  ·rw[if_pos (.inl rfl)];simp[nR];apply ab CS;simp;apply ab CB;simp;apply ab W;simp
  rw[if_neg (by rintro (h|h)<;>cases h)];have w1:IntKind.u32.wrap ((n:Int)*10000)=((n*10000%4294967296:Nat):Int):=by
   rw[gV];omega
  have w2:IntKind.u32.wrap ((n*10000%4294967296:Nat):Int)=(((n*10000%4294967296+0)%4294967296:Nat):Int):=by
   rw[gV];omega
  generalize (n*10000%4294967296+0)%4294967296=z,((n*10000%4294967296:Nat):Int)=y at*;by_cases c1:100<n
  ·have c1':(100:Int)<n:=by omega
   rw[if_pos (.inl c1)];simp[nR];apply ab CS;simp;apply ab CB;simp;apply ab W;simp[c1,c1']
  have c1': ¬(100:Int)<n:=by omega
  rw[if_neg (by omega)];by_cases c2:n=100
  ·subst c2;have w1':IntKind.u32.wrap 1000000=y:=by rw[<-w1];rfl
   simp[nR];apply ab CS;simp;apply ab CB;simp;apply ab W;simp[w1',w2]
  ·have c2':((n:Int)==100)=false:=bJ.2 (by omega);simp[nR];apply ab CS;simp;apply ab CB;simp;apply ab W;simp[c1,c1',c2,c2',w1,w2]
def zS (c:UInt8) (s:List UInt8):Bool:=decide ((s.takeWhile (dP c)).length<s.length)
theorem EA (s:List UInt8):Sp Tryz.prog gl 130 [.str s,.str [46]] (i6 (Lib.indexByte s 46)):=by
 refine PW rfl rfl ?_;have IX:=uV s 46;generalize Lib.indexByte s 46=k at*;simp[MR];apply ab IX;simp
theorem EB (s:List UInt8):Sp Tryz.prog gl 104 [.str s,.str [46]] (.bool (zS 46 s)):=by
 refine PH rfl rfl ?_;have IX:=EA s;have e:=zM 46 s;have hb:zS 46 s=decide (0<=Lib.indexByte s 46):=by
  unfold zS;rw[e];split
  ·rename_i h;rw[jm h,jm (by omega)]
  ·rename_i h;rw[ik h,ik (by omega)]
 rw[hb];clear hb e;generalize Lib.indexByte s 46=k at*;simp[MN];apply ab IX;simp
theorem Ma (s:List UInt8):(Ib s).1<4294967296:=by
 have h: ∀a b,(uY a b).1<4294967296:=fun a b=>by
  unfold uY;split
  ·simp
  ·split
   ·simp
   ·exact Nat.mod_lt _ (by decide)
 unfold Ib;split
 ·simp
 ·split
  ·exact h _ _
  ·exact h _ _
theorem sZ: ∀(l:List UInt8) (dg:Bool) (n la sm:Nat) (fr:Bool),sm<=253402300799->(EZ l dg n la sm fr).1<=253402300799
 |[],dg,n,la,sm,fr,h=>by
  rw[EZ];split
  ·simp
  ·split
   ·simp
   ·exact h
 |c::l,dg,n,la,sm,fr,h=>by
  rw[EZ];split
  ·exact sZ l _ _ _ _ _ h
  ·split
   ·simp
   ·split
    ·exact sZ l _ _ _ _ _ h
    ·split
     ·exact sZ l _ _ _ _ _ (by omega)
     ·exact sZ l _ _ _ _ _ (by omega)
theorem Ic (s:List UInt8):(jT s).1<=253402300799:=by
 rw[H4];unfold Da;split
 ·simp
 ·exact sZ _ _ _ _ _ _ (by omega)
theorem oW (v:TV):eP v.av=some v.av:=by cases v<;>simp[TV.av]
def vR (w:List UInt8):Int:=if w=[] then 32 else pZ (ax w 0).1
def sV (w:List UInt8):TV:=
 if eu (vR w)=false then (if dH w=true then .t 1 w 0 else .e 5)
 else if w.all bF=true then di 3 (ma w)
 else if mb w [37]=true then di 5 (Ib w)
 else if zS 46 w=true then di 4 (HM (w.takeWhile (dP 46)) (w.drop ((w.takeWhile (dP 46)).length+1)))
 else di 6 (jT w)
theorem zT (w:List UInt8) (hl:w.length<=900000):Sp Tryz.prog gl 85 [.str w] (sV w).av:=by
 refine U4 rfl rfl ?_;have D:=qx (vR w);have NM:=nA w hl;have TR:=nI w (by omega);have TN:=p6 w;have NU:=oR w (by omega);have HS:=oS w [37] (by omega) (by simp);have PP:=zR w (by omega);have CC:=EB w;have SP:=BE w (by omega);have FA:=fun h=>wY w (by omega) h
 have pl:=Ma w;have sl:=Ic w;have T5:=nH 5 (Ib w).1 (Ib w).2;have T6:=nH 6 (jT w).1 (jT w).2;have T3:=nH 3 (ma w).1 0;have hb:zS 46 w=true->(w.takeWhile (dP 46)).length<w.length:=fun h=>by unfold zS at h;exact Iy h
 unfold sV;generalize di 4 (HM (w.takeWhile (dP 46)) (w.drop ((w.takeWhile (dP 46)).length+1)))=f4,zS 46 w=has,mb w [37]=suf,Lib.trimS w [48,49,50,51,52,53,54,55,56,57]=tr,Ib w=q5,jT w=q6,ma w=q3,dH w=nm at*;obtain ⟨n5,e5⟩:=q5;obtain ⟨n6,e6⟩:=q6;obtain ⟨n3,e3⟩:=q3;dsimp only at PP SP T5 T6 T3 pl sl;have w5:IntKind.u64.wrap (n5:Int)=n5:=by rw[eU]<;>omega
 have w6:IntKind.u64.wrap (n6:Int)=n6:=by rw[eU]<;>omega
 obtain ⟨R,hR⟩: ∃R:TV,R=if eu (vR w)=false then (if nm=true then .t 1 w 0 else .e 5)
  else if w.all bF=true then di 3 (n3,e3)
  else if suf=true then di 5 (n5,e5)
  else if has=true then f4
  else di 6 (n6,e6):=⟨_,rfl⟩
 rw[<-hR];have i3w:IntKind.i32.wrap 32=32:=by decide
 simp[Ti];refine aY (α:=Nat) (fun _=>⟨[(0,.str w),(2,.nili),(3,i3 32),(13,.itp 13)],[(.it 13,[.itr w 0])],[]⟩) (fun _=>True) (fun _=>1) ?_ 0 trivial ?_
 ·rintro K _ hK _;clear hK;by_cases e:w=[]
  ·have ev:vR w=32:=if_pos e;subst e;rw[ev] at D hR;rw[show eu 32=false from rfl] at D hR;rw[if_pos rfl] at hR;clear T3 T5 T6 FA SP CC PP HS NU TR;cases nm
   ·rw[if_neg (by decide)] at hR;subst hR;unfold TV.av;simp;apply ab D;simp;apply ab NM;simp
   ·rw[if_pos rfl] at hR;subst hR;unfold TV.av;simp;apply ab D;simp;apply ab NM;simp;apply ab D;simp
  have g:0<w.length:=Ix.2 e;have ev:vR w=pZ (ax w 0).1:=if_neg e;have sr:=oQ w 0 g;rw[<-ev] at sr;clear ev;generalize vR w=r,(ax w 0).2=wd at*;cases hd:eu r
  ·rw[hd] at D hR;rw[if_pos rfl] at hR;clear T3 T5 T6 FA SP CC PP HS NU TR;cases nm
   ·rw[if_neg (by decide)] at hR;subst hR;unfold TV.av;simp[g,sr];apply ab D;simp;apply ab NM;simp
   ·rw[if_pos rfl] at hR;subst hR;unfold TV.av;simp[g,sr];apply ab D;simp;apply ab NM;simp;apply ab D;simp
  rw[hd] at D hR;rw[if_neg (by decide)] at hR;clear NM;cases ha:w.all bF
  ·rw[ha] at TN hR;have k1:(tr==[])=false:=TN;have k2: ¬tr=[]:=fun h=>by rw[h] at TN;cases TN
   have k3:tr.isEmpty=false:=by rw[List.isEmpty_eq_false_iff];exact k2
   rw[if_neg (by decide)] at hR;clear T3 NU;cases suf
   ·rw[if_neg (by decide)] at hR;clear T5 PP;cases has
    ·rw[if_neg (by decide)] at hR;subst hR;have hsh:=oW (di 6 (n6,e6));generalize (di 6 (n6,e6)).av=out at*;clear FA;simp[g,sr];apply ab D;simp;apply ab D;simp;apply ab TR;simp[k1,k2,k3];apply ab HS;simp;apply ab CC;simp;apply ab SP;simp[w6];refine bB _ _ ((T6.h)) ?_;simp[hsh]
    ·rw[if_pos rfl] at hR;subst hR;have FA:=FA (hb rfl);have hsh:=oW R;generalize R.av=out at*;clear T6 SP;simp[g,sr];apply ab D;simp;apply ab D;simp;apply ab TR;simp[k1,k2,k3];apply ab HS;simp;apply ab CC;simp;refine bB _ _ ((FA.h)) ?_;simp[hsh]
   ·rw[if_pos rfl] at hR;subst hR;have hsh:=oW (di 5 (n5,e5));generalize (di 5 (n5,e5)).av=out at*;clear FA T6 SP CC;simp[g,sr];apply ab D;simp;apply ab D;simp;apply ab TR;simp[k1,k2,k3];apply ab HS;simp;apply ab PP;simp[w5];refine bB _ _ ((T5.h)) ?_;simp[hsh]
  ·rw[ha] at TN hR;have k2:tr=[]:=by simpa using TN
   subst k2;rw[if_pos rfl] at hR;subst hR;clear FA T6 SP CC T5 PP HS;unfold J2 at NU;dsimp only at NU;by_cases c3:e3=0
   ·subst c3;rw[if_pos rfl] at NU;have hsh:=oW (di 3 (n3,0));generalize (di 3 (n3,0)).av=out at*;simp[g,sr];apply ab D;simp;apply ab D;simp;apply ab TR;simp;refine bB _ _ ((NU.h)) ?_;simp;refine bB _ _ ((T3.h)) ?_;simp[hsh]
   ·rw[if_neg c3] at NU;have et:(di 3 (n3,e3))= .e e3:=by unfold di;rw[if_neg c3]
    rw[et];unfold TV.av;clear T3;simp[g,sr];apply ab D;simp;apply ab D;simp;apply ab TR;simp;refine bB _ _ ((NU.h)) ?_;simp;refine bB _ _ ((NU.h)) ?_;simp
 ·apply aj<;>simp
def Vl (s:List UInt8):TV:=
 if wV s=true then di 3 (ma s)
 else if cF s (s.length - 1)=37 then di 5 (RP s)
 else if zS 46 s=true then di 4 (HM (s.takeWhile (dP 46)) (s.drop ((s.takeWhile (dP 46)).length+1)))
 else di 6 (Da s)
def rV (m:List Int):TV:=
 if m=[]\/eu (m.headD 0)=false then (if dH (aM m)=true then .t 1 (aM m) 0 else .e 5)
 else Vl (aM m)
open Go.Shelf
def nJ:Ren:={
 f:=fun x=>match x with
  |168=>180
  |242=>190
  |278=>193
  |n=>eA.f n
 t:=fun x=>match x with
  |21=>21
  |46=>208
  |51=>50
  |n=>eA.t n
 g:=fun x=>x}
set_option maxRecDepth 100000 in
theorem Mb:Lays.n168 Tryz.prog nJ where
 mixed:=aJ.mixed
 f168:=Eq.trans Tryz.func180 (congrArg some (show Tryz.f180=Body.n168 nJ by kernel_rfl))
 f240:=Eq.trans Tryz.func189 (congrArg some (show Tryz.f189=Body.n240 nJ by kernel_rfl))
 f242:=Eq.trans Tryz.func190 (congrArg some (show Tryz.f190=Body.n242 nJ by kernel_rfl))
 f276:=Eq.trans Tryz.func192 (congrArg some (show Tryz.f192=Body.n276 nJ by kernel_rfl))
 f278:=Eq.trans Tryz.func193 (congrArg some (show Tryz.f193=Body.n278 nJ by kernel_rfl))
 t0:=aJ.t0
 a0:=aJ.a0
 z0:=aJ.z0
 v0:=aJ.v0
 t3:=aJ.t3
 a3:=aJ.a3
 z3:=aJ.z3
 v3:=aJ.v3
 t4:=aJ.t4
 a4:=aJ.a4
 z4:=aJ.z4
 v4:=aJ.v4
 t5:=p5.t5
 a5:=p5.a5
 z5:=p5.z5
 v5:=p5.v5
 t9:=aJ.t9
 a9:=aJ.a9
 z9:=aJ.z9
 v9:=aJ.v9
 t20:=aJ.t20
 a20:=aJ.a20
 z20:=aJ.z20
 v20:=aJ.v20
 t21:=Tryz.underlying21
 a21:=Tryz.isAgg21
 z21:=Tryz.sizeOf21
 v21:=Tryz.zeroValue21
 t37:=aJ.t37
 a37:=aJ.a37
 z37:=aJ.z37
 v37:=aJ.v37
 t46:=Tryz.underlying208
 a46:=Tryz.isAgg208
 z46:=Tryz.sizeOf208
 v46:=Tryz.zeroValue208
 t51:=Tryz.underlying50
 a51:=Tryz.isAgg50
 z51:=Tryz.sizeOf50
 v51:=Tryz.zeroValue50
 t70:=aJ.t70
 a70:=aJ.a70
 z70:=aJ.z70
 v70:=aJ.v70
 t72:=aJ.t72
 a72:=aJ.a72
 z72:=aJ.z72
 v72:=aJ.v72
 t75:=aJ.t75
 a75:=aJ.a75
 z75:=aJ.z75
 v75:=aJ.v75
 t164:=aJ.t164
 a164:=aJ.a164
 z164:=aJ.z164
 v164:=aJ.v164
theorem Mc:Builder.Extra Tryz.prog nJ where
 sizeBuilder:=by kernel_rfl
 liesBuilder:=by kernel_rfl
 t5:=Tryz.underlying5
 a5:=Tryz.isAgg5
 z5:=Tryz.sizeOf5
 v5:=Tryz.zeroValue5
 infoByte:=by kernel_rfl
 cellsByte:=by kernel_rfl
 sizeByte:=by kernel_rfl
 neB5:=by decide
theorem BF (r:Nat) (h:r<=1114111):fq (r:Int)->Lib.byteCells (iK r)=Lib.runeCells (r:Int):=by
 intro hr;have b8: ∀n:Nat,n<256->((UInt8.ofNat n).toNat:Int)=n:=fun n hn=>by rw[UInt8.toNat_ofNat_of_lt' (by simpa using hn)]
 unfold iK Lib.byteCells Lib.runeCells;by_cases c1:r<128
 ·rw[if_pos c1,Lib.encodeRuneZ_one (by omega) (by omega)];simp only[gL,lS,b8 r (by omega)]
 rw[if_neg c1];by_cases c2:r<2048
 ·rw[if_pos c2,Lib.encodeRuneZ_two (by omega) (by omega)];simp only[gL,lS,b8 (192+r / 64) (by omega),b8 (128+r%64) (by omega)];rfl
 rw[if_neg c2];by_cases c3:r<65536
 ·rw[if_pos c3,Lib.encodeRuneZ_three (by rcases hr with h|h<;>omega)];simp only[gL,lS,b8 (224+r / 4096) (by omega),b8 (128+r / 64%64) (by omega),b8 (128+r%64) (by omega)];rfl
 rw[if_neg c3,Lib.encodeRuneZ_four (by omega) (by omega)];simp only[gL,lS,b8 (240+r / 262144) (by omega),b8 (128+r / 4096%64) (by omega),b8 (128+r / 64%64) (by omega),b8 (128+r%64) (by omega)];rfl
theorem w9 {d:Nat} {b:Id} (hit:b.isIt=false) (hnwb:b.isNw d=false) {T n:Nat} (hT:rB Tryz.prog 224 T n) {c0:AV} (hc0:c0= .nilT b T n\/c0= .ptr b 0) (rest:List AV) (l:List UInt8) (r:Nat) (hr:fq (r:Int)) (h:r<=1114111) (hl:l.length+4<=140737488355328):
  bh Tryz.prog gl 180 d ⟨[.ptr b 0,.int .i32 r],[(b,c0:: .sl (aq l)::rest)],[(.b b 1,bk 5)]⟩ ⟨.tup [.int .i64 (iK r).length,.undef],[(b,.ptr b 0:: .sl (aq (l++iK r))::rest)],[(.b b 1,bk 5)]⟩:=
 Fm Mb Mc (by kernel_rfl) (by kernel_rfl) hit hnwb (T:=T) (n:=n) (hc0.imp (fun h=>⟨h,hT⟩) id) (rest:=rest) l (iK r) r hr (BF r h hr) hl
def qK (r:Int):Int:=if eu r=true then r - 48 else if 97<=r/\r<=102 then r - 87 else -1
theorem EC (r:Int):Sp Tryz.prog gl 188 [i3 r] (i3 (qK r)):=by
 refine Qh rfl rfl ?_;have D:=jP r;unfold qK;cases hd:eu r
 ·rw[hd] at D;rw[if_neg (by decide)];by_cases c1:97<=r
  ·by_cases c2:r<=102
   ·rw[if_pos ⟨c1,c2⟩];have t1:IntKind.i32.wrap (r - 97)=r - 97:=by rw[cN]<;>omega
    have t2:IntKind.i32.wrap (r - 97+10)=r - 87:=by rw[cN]<;>omega
    simp[E8];apply ab D;simp[c1,c2,t1,t2]
   ·rw[if_neg (fun h=>c2 h.2)];simp[E8];apply ab D;simp[c1,c2]
  ·rw[if_neg (fun h=>c1 h.1)];simp[E8];apply ab D;simp[c1]
 ·rw[hd] at D;rw[if_pos rfl];have hh:48<=r/\r<=57:=by unfold eu at hd;exact Iy hd
  have t1:IntKind.i32.wrap (r - 48)=r - 48:=by rw[cN]<;>omega
  simp[E8];apply ab D;simp[t1]
def mc (r:Int):Bool:=decide (0<=r/\r<55296)||decide (57343<r/\r<=1114111)
theorem s5 (r:Int):mc r=true↔fq r:=by
 unfold mc fq;rw[Fa,IM,IM]
theorem BG (r:Int):Sp Tryz.prog gl 176 [i3 r] (.bool (mc r)):=by
 refine M4 rfl rfl ?_;unfold mc;by_cases d1:0<=r
 ·by_cases d2:r<55296
  ·simp[xy,d1,d2]
  ·by_cases c1:57343<r
   ·by_cases c2:r<=1114111
    ·simp[xy,d1,d2,c1,c2]
    ·simp[xy,d1,d2,c1,c2]
   ·simp[xy,d1,d2,c1]
 ·have d2: ¬57343<r:=by omega
  simp[xy,d1,d2]
structure Rd where
 out:List Int
 st:Int
 n:Nat
 c:Nat
def cE (b:Id):List Int->List AV
 |[]=>[.nilT b 226 5,.nils]
 |r::l=>[.ptr b 0,.sl (aq (aM (r::l)))]
def cj (b:Id):List Int->List (Pl×Nat)
 |[]=>[]
 |r::l=>[(.b b 1,bk 5)]
def gu (b:Id) (x:Rd):List AV:=cE b x.out++[i6 x.st,i3 x.n,i6 x.c]
def md (x:Rd) (r:Int):Rd×Bool:=
 if r=34\/r=92 then ({x with st:=0,out:=x.out++[r]},true)
 else if r=110 then ({x with st:=0,out:=x.out++[10]},true)
 else if r=116 then ({x with st:=0,out:=x.out++[9]},true)
 else if r=117 then ({x with st:=2},true)
 else ({x with st:=0},false)
def jU (x:Rd) (r:Int):Rd×Bool:=
 if 0<=qK r/\x.c<6 then ({x with n:=16*x.n+(qK r).toNat,c:=x.c+1},true)
 else if r≠125\/x.c=0\/mc x.n=false then (x,false)
 else ({x with out:=x.out++[(x.n:Int)],st:=0},true)
theorem nK:rB Tryz.prog 224 226 5:=by unfold rB;kernel_rfl
theorem kO (b:Id) (l:List Int) (r:Nat):cE b (l++[(r:Int)])=[.ptr b 0,.sl (aq (aM l++iK r))]:=by
 have e:aM (l++[(r:Int)])=aM l++iK r:=by
  rw[oO]
  have:nD (r:Int)=iK r:=by unfold nD;rw[if_neg (by omega),Int.toNat_natCast]
  rw[aM,aM,BV,this]
 rw[<-e];cases l<;>rfl
theorem kP (b:Id) (l:List Int) (r:Int):cj b (l++[r])=[(.b b 1,bk 5)]:=by cases l<;>rfl
theorem zU (x:Rd) (hl:x.out.length<=1000000) (r:Int) (d:Nat) (b:Id) (hb:b.isIt=false) (hbd:b.isNw d=false):
  bh Tryz.prog gl 178 d ⟨[.ptr b 0,i3 r],[(b,gu b x)],cj b x.out⟩ ⟨.bool (md x r).2,[(b,gu b (md x r).1)],cj b (md x r).1.out⟩:=by
 refine Qf rfl ?_;have hib:=ai hbd;have ne: ∀z:Int,¬r=z->(r==z)=false:=fun z h=>bJ.2 h
 have tl:=kM x.out;have W:=fun (q:Nat) (hq:fq (q:Int)) (hq2:q<=1114111) (c0:AV) (hc0:c0= .nilT (.up b) 226 5\/c0= .ptr (.up b) 0) e he=>w9 (d:=e) (b:= .up b) hb he nK hc0 [i6 0,i3 x.n,i6 x.c] (aM x.out) q hq hq2 (by omega)
 unfold md;by_cases c1:r=34\/r=92
 ·rw[if_pos c1];dsimp only;obtain ⟨q,rfl⟩: ∃q:Nat,r=q:=⟨r.toNat,by omega⟩;have hq:fq (q:Int):=by unfold fq;omega
  have W:=W q hq (by omega);unfold gu;rw[kO,kP];have c1':((q:Int)==34)=true\/(((q:Int)==34)=false/\((q:Int)==92)=true):=by
   by_cases h:(q:Int)=34
   ·left;rw[h];rfl
   ·right;exact ⟨bJ.2 h,by rw[cY];omega⟩
  cases hx:x.out with
  |nil=>
   rw[hx] at W;have W:=W _ (.inl rfl);rw[show aM []=[] from rfl,dB] at W ⊢;rw[show aq []=[] from rfl] at W;generalize aq (iK q)=B at*;simp only[cE,cj];simp only[aw,aW,aO,AV.mp,aX,Pl.mp,cT,dB];rcases c1' with c1'|⟨c1',c2'⟩
   ·simp[pp,c1'];refine aF _ _ (W _ rfl) (by constructor<;>simp[hb]) ?_
    simp;apply am<;>simp[hib,hb]
   ·simp[pp,c1',c2'];refine aF _ _ (W _ rfl) (by constructor<;>simp[hb]) ?_
    simp;apply am<;>simp[hib,hb]
  |cons a l=>
   rw[hx] at W;have W:=W _ (.inr rfl);generalize aq (aM (a::l)++iK q)=B at*;simp only[cE,cj];generalize aq (aM (a::l))=B0 at*;simp only[aw,aW,aO,AV.mp,aX,Pl.mp,cT,dB];rcases c1' with c1'|⟨c1',c2'⟩
   ·simp[pp,c1'];refine aF _ _ (W _ rfl) (by constructor<;>simp[hb]) ?_
    simp;apply am<;>simp[hib,hb]
   ·simp[pp,c1',c2'];refine aF _ _ (W _ rfl) (by constructor<;>simp[hb]) ?_
    simp;apply am<;>simp[hib,hb]
 rw[if_neg c1];have n1:=ne 34 (fun h=>c1 (.inl h));have n2:=ne 92 (fun h=>c1 (.inr h));by_cases c3:r=110
 ·rw[if_pos c3];subst c3;dsimp only;have W:=W 10 (by unfold fq;omega) (by omega);unfold gu;rw[show (10:Int)=((10:Nat):Int) from rfl,kO,kP];cases hx:x.out with
  |nil=>
   rw[hx] at W;have W:=W _ (.inl rfl);rw[show aM []=[] from rfl,dB] at W ⊢;rw[show aq []=[] from rfl] at W;generalize aq (iK 10)=B at*;simp only[cE,cj];simp only[aw,aW,aO,AV.mp,aX,Pl.mp,cT,dB];simp[pp];refine aF _ _ (W _ rfl) (by constructor<;>simp[hb]) ?_
   simp;apply am<;>simp[hib,hb]
  |cons a l=>
   rw[hx] at W;have W:=W _ (.inr rfl);generalize aq (aM (a::l)++iK 10)=B at*;simp only[cE,cj];generalize aq (aM (a::l))=B0 at*;simp only[aw,aW,aO,AV.mp,aX,Pl.mp,cT,dB];simp[pp];refine aF _ _ (W _ rfl) (by constructor<;>simp[hb]) ?_
   simp;apply am<;>simp[hib,hb]
 rw[if_neg c3];have n3:=ne 110 c3;by_cases c4:r=116
 ·rw[if_pos c4];subst c4;dsimp only;have W:=W 9 (by unfold fq;omega) (by omega);unfold gu;rw[show (9:Int)=((9:Nat):Int) from rfl,kO,kP];cases hx:x.out with
  |nil=>
   rw[hx] at W;have W:=W _ (.inl rfl);rw[show aM []=[] from rfl,dB] at W ⊢;rw[show aq []=[] from rfl] at W;generalize aq (iK 9)=B at*;simp only[cE,cj];simp only[aw,aW,aO,AV.mp,aX,Pl.mp,cT,dB];simp[pp];refine aF _ _ (W _ rfl) (by constructor<;>simp[hb]) ?_
   simp;apply am<;>simp[hib,hb]
  |cons a l=>
   rw[hx] at W;have W:=W _ (.inr rfl);generalize aq (aM (a::l)++iK 9)=B at*;simp only[cE,cj];generalize aq (aM (a::l))=B0 at*;simp only[aw,aW,aO,AV.mp,aX,Pl.mp,cT,dB];simp[pp];refine aF _ _ (W _ rfl) (by constructor<;>simp[hb]) ?_
   simp;apply am<;>simp[hib,hb]
 rw[if_neg c4];have n4:=ne 116 c4;clear W;by_cases c5:r=117
 ·rw[if_pos c5];subst c5;dsimp only;unfold gu;cases hx:x.out with
  |nil=>
   simp only[cE,cj];simp only[aw,aW,aO,AV.mp,aX,Pl.mp,cT,dB];simp[pp];apply am<;>simp[hib,hb]
  |cons a l=>
   simp only[cE,cj];generalize aq (aM (a::l))=B0 at*;simp only[aw,aW,aO,AV.mp,aX,Pl.mp,cT,dB];simp[pp];apply am<;>simp[hib,hb]
 rw[if_neg c5];have n5:=ne 117 c5;dsimp only;unfold gu;cases hx:x.out with
 |nil=>
  simp only[cE,cj];simp only[aw,aW,aO,AV.mp,aX,Pl.mp,cT,dB];simp[pp,n1,n2,n3,n4,n5];apply am<;>simp[hib,hb]
 |cons a l=>
  simp only[cE,cj];generalize aq (aM (a::l))=B0 at*;simp only[aw,aW,aO,AV.mp,aX,Pl.mp,cT,dB];simp[pp,n1,n2,n3,n4,n5];apply am<;>simp[hib,hb]
theorem Dc (r:Int):qK r<16:=by
 unfold qK eu;split
 ·rename_i h
  have:=Iy h
  omega
 ·split<;>omega
theorem Md (x h:Nat) (hx:x<16777216) (hh:h<16):bits BinOp.or IntKind.i32 ((x*16:Nat):Int) (h:Int)=((16*x+h:Nat):Int):=by
 have hx2:x*16|||h=16*x+h:=by
  rw[show x*16=2^4*x by omega,<-Nat.two_pow_add_eq_or_of_lt (by omega)]
 have h1:(BitVec.ofInt 32 ((x*16:Nat):Int)).toNat=x*16:=by
  rw[BitVec.ofInt_natCast,BitVec.toNat_ofNat];exact Mo (by omega)
 have h2:(BitVec.ofInt 32 (h:Int)).toNat=h:=by
  rw[BitVec.ofInt_natCast,BitVec.toNat_ofNat];exact Mo (by omega)
 show IntKind.i32.wrap ((BitVec.ofInt 32 ((x*16:Nat):Int)|||BitVec.ofInt 32 (h:Int)).toNat:Int)=_;rw[BitVec.toNat_or,h1,h2,hx2,cN]<;>omega
theorem Kd (x:Nat) (hx:x<16777216):IntKind.i32.wrap ((x:Int)*2^(min 4 IntKind.i32.bits))=((x*16:Nat):Int):=by
 have e:(2:Int)^(min 4 IntKind.i32.bits)=16:=by decide
 rw[e,cN]<;>omega
theorem ub (x:Rd) (hl:x.out.length<=1000000) (hc:x.c<=6) (hn:x.n<16^x.c) (r:Int) (d:Nat) (b:Id) (hb:b.isIt=false) (hbd:b.isNw d=false):
  bh Tryz.prog gl 179 d ⟨[.ptr b 0,i3 r],[(b,gu b x)],cj b x.out⟩ ⟨.bool (jU x r).2,[(b,gu b (jU x r).1)],cj b (jU x r).1.out⟩:=by
 refine Qg rfl ?_;have hib:=ai hbd;have tl:=kM x.out;have HX:=EC r;have hlt:=Dc r;have nlt:x.n<16777216:=Ao hn (jH (Nat.pow_le_pow_right (by omega) hc) (by decide));have VS:=BG (x.n:Int);unfold jU;by_cases c1:0<=qK r/\x.c<6
 ·rw[if_pos c1];dsimp only;obtain ⟨h,hh⟩: ∃h:Nat,qK r=h:=⟨(qK r).toNat,by omega⟩;rw[hh] at HX hlt c1 ⊢;rw[Int.toNat_natCast];have k1:=Kd x.n nlt;have k2:=Md x.n h nlt (by omega);have k3:IntKind.i64.wrap ((x.c:Int)+1)=(x.c+1:Nat):=by rw[ay]<;>omega
  have k4:(x.c:Int)<6:=by omega
  have k5:=c1.2;have k6:=c1.1;have kk:((16*x.n+h:Nat):Int)=16*(x.n:Int)+h:=by omega
  rw[kk] at k2;generalize ((x.n*16:Nat):Int)=SV at*;unfold gu;clear VS;cases hx:x.out with
  |nil=>
   simp only[cE,cj];simp only[aw,aW,aO,AV.mp,aX,Pl.mp,cT,dB];simp[pq];apply ab HX;simp[k1,k2,k3,k4,k5,k6];apply am<;>simp[hib,hb]
  |cons a l=>
   simp only[cE,cj];generalize aq (aM (a::l))=B0 at*;simp only[aw,aW,aO,AV.mp,aX,Pl.mp,cT,dB];simp[pq];apply ab HX;simp[k1,k2,k3,k4,k5,k6];apply am<;>simp[hib,hb]
 rw[if_neg c1];by_cases c2:r=125
 ·subst c2;have e:qK 125= -1:=by decide
  rw[e] at HX;by_cases c3:x.c=0
  ·rw[if_pos (.inr (.inl c3))];dsimp only;unfold gu;clear VS;cases hx:x.out with
   |nil=>
    simp only[cE,cj];simp only[aw,aW,aO,AV.mp,aX,Pl.mp,cT,dB];simp[pq];apply ab HX;simp[c3];apply am<;>simp[hib,hb,c3]
   |cons a l=>
    simp only[cE,cj];generalize aq (aM (a::l))=B0 at*;simp only[aw,aW,aO,AV.mp,aX,Pl.mp,cT,dB];simp[pq];apply ab HX;simp[c3];apply am<;>simp[hib,hb,c3]
  ·have c3':((x.c:Int)==0)=false:=bJ.2 (by omega);cases hv:mc (x.n:Int)
   ·rw[hv] at VS;rw[if_pos (.inr (.inr rfl))];dsimp only;unfold gu;cases hx:x.out with
    |nil=>
     simp only[cE,cj];simp only[aw,aW,aO,AV.mp,aX,Pl.mp,cT,dB];simp[pq];apply ab HX;simp[c3,c3'];apply ab VS;simp;apply am<;>simp[hib,hb]
    |cons a l=>
     simp only[cE,cj];generalize aq (aM (a::l))=B0 at*;simp only[aw,aW,aO,AV.mp,aX,Pl.mp,cT,dB];simp[pq];apply ab HX;simp[c3,c3'];apply ab VS;simp;apply am<;>simp[hib,hb]
   ·rw[hv] at VS;rw[if_neg (by rintro (h|h|h)<;>first|exact h rfl|exact c3 h|cases h)];dsimp only;have hq:=(s5 _).1 hv;have W:=fun (s6:Int) (c0:AV) (hc0:c0= .nilT (.up b) 226 5\/c0= .ptr (.up b) 0) (e:Nat) (he:(Id.up b).isNw e=false)=>w9 (d:=e) (b:= .up b) hb he nK hc0 [i6 s6,i3 x.n,i6 x.c] (aM x.out) x.n hq (by unfold fq at hq;omega) (by omega)
    unfold gu;rw[kO,kP];cases hx:x.out with
    |nil=>
     rw[hx] at W;have W:=fun s6=>W s6 _ (.inl rfl)
     rw[show aM []=[] from rfl] at W ⊢;simp only[dB] at W ⊢;rw[show aq []=[] from rfl] at W;generalize aq (iK x.n)=B at*;simp only[cE,cj];simp only[aw,aW,aO,AV.mp,aX,Pl.mp,cT,dB];simp[pq];apply ab HX;simp[c3,c3'];apply ab VS;simp;refine aF _ _ (W x.st _ rfl) (by constructor<;>simp[hb]) ?_
     simp;apply am<;>simp[hib,hb]
    |cons a l=>
     rw[hx] at W;have W:=fun s6=>W s6 _ (.inr rfl)
     generalize aq (aM (a::l)++iK x.n)=B at*;simp only[cE,cj];generalize aq (aM (a::l))=B0 at*;simp only[aw,aW,aO,AV.mp,aX,Pl.mp,cT,dB];simp[pq];apply ab HX;simp[c3,c3'];apply ab VS;simp;refine aF _ _ (W x.st _ rfl) (by constructor<;>simp[hb]) ?_
     simp;apply am<;>simp[hib,hb]
 ·rw[if_pos (.inl c2)];dsimp only;have c2':(r !=125)=true:=bne_iff_ne.2 c2;have c2'':(r==125)=false:=bJ.2 c2;unfold gu;clear VS;by_cases c3:0<=qK r
  ·have c4: ¬x.c<6:=fun h=>c1 ⟨c3,h⟩
   have c4': ¬(x.c:Int)<6:=by omega
   cases hx:x.out with
   |nil=>
    simp only[cE,cj];simp only[aw,aW,aO,AV.mp,aX,Pl.mp,cT,dB];simp[pq];apply ab HX;simp[c3,c4,c4',c2',c2''];apply am<;>simp[hib,hb]
   |cons a l=>
    simp only[cE,cj];generalize aq (aM (a::l))=B0 at*;simp only[aw,aW,aO,AV.mp,aX,Pl.mp,cT,dB];simp[pq];apply ab HX;simp[c3,c4,c4',c2',c2''];apply am<;>simp[hib,hb]
  ·cases hx:x.out with
   |nil=>
    simp only[cE,cj];simp only[aw,aW,aO,AV.mp,aX,Pl.mp,cT,dB];simp[pq];apply ab HX;simp[c3,c2',c2''];apply am<;>simp[hib,hb]
   |cons a l=>
    simp only[cE,cj];generalize aq (aM (a::l))=B0 at*;simp only[aw,aW,aO,AV.mp,aX,Pl.mp,cT,dB];simp[pq];apply ab HX;simp[c3,c2',c2''];apply am<;>simp[hib,hb]
def jz (x:Rd) (r:Int):Rd×Bool:=
 if x.st=1 then md x r
 else if x.st=2 then ({x with st:=3,n:=0,c:=0},decide (r=123))
 else if x.st=3 then jU x r
 else if x.st=4 then (x,false)
 else if r=34 then ({x with st:=4},true)
 else if r=92 then ({x with st:=1},true)
 else if r<32\/r=127 then (x,false)
 else ({x with out:=x.out++[r]},true)
theorem zV (x:Rd) (hl:x.out.length<=1000000) (hc:x.c<=6) (hn:x.n<16^x.c) (r:Int) (hr:fq r) (d:Nat) (b:Id) (hb:b.isIt=false) (hbd:b.isNw d=false):
  bh Tryz.prog gl 157 d ⟨[.ptr b 0,i3 r],[(b,gu b x)],cj b x.out⟩ ⟨.bool (jz x r).2,[(b,gu b (jz x r).1)],cj b (jz x r).1.out⟩:=by
 refine Qc rfl ?_;have hib:=ai hbd;have tl:=kM x.out;have ne: ∀z:Int,¬r=z->(r==z)=false:=fun z h=>bJ.2 h
 have A:=fun e=>zU x hl r e (.up b) hb
 have I:=fun e=>ub x hl hc hn r e (.up b) hb
 unfold jz;by_cases c1:x.st=1
 ·rw[if_pos c1];clear I;generalize (md x r).2=ok,(md x r).1=y at*;unfold gu at*;cases hx:x.out with
  |nil=>
   rw[hx] at A;cases hy:y.out with
   |nil=>
    rw[hy] at A;simp only[cE,cj,cT,dB] at A ⊢;simp only[aw,aW,aO,AV.mp,aX,Pl.mp,cT,dB];simp[jl,c1];refine aF _ _ (A _ rfl) (by constructor<;>simp[hb,c1]) ?_
    simp;apply am<;>simp[hib,hb]
   |cons a2 l2=>
    rw[hy] at A;simp only[cE,cj,cT,dB] at A ⊢;generalize aq (aM (a2::l2))=B1 at*;simp only[aw,aW,aO,AV.mp,aX,Pl.mp,cT,dB];simp[jl,c1];refine aF _ _ (A _ rfl) (by constructor<;>simp[hb,c1]) ?_
    simp;apply am<;>simp[hib,hb]
  |cons a l=>
   rw[hx] at A;cases hy:y.out with
   |nil=>
    rw[hy] at A;simp only[cE,cj,cT,dB] at A ⊢;generalize aq (aM (a::l))=B0 at*;simp only[aw,aW,aO,AV.mp,aX,Pl.mp,cT,dB];simp[jl,c1];refine aF _ _ (A _ rfl) (by constructor<;>simp[hb,c1]) ?_
    simp;apply am<;>simp[hib,hb]
   |cons a2 l2=>
    rw[hy] at A;simp only[cE,cj,cT,dB] at A ⊢;generalize aq (aM (a2::l2))=B1,aq (aM (a::l))=B0 at*;simp only[aw,aW,aO,AV.mp,aX,Pl.mp,cT,dB];simp[jl,c1];refine aF _ _ (A _ rfl) (by constructor<;>simp[hb,c1]) ?_
    simp;apply am<;>simp[hib,hb]
 rw[if_neg c1];have n1:(x.st==1)=false:=bJ.2 c1;clear A;by_cases c2:x.st=2
 ·rw[if_pos c2];clear I;dsimp only;have e:(r==123)=decide (r=123):=by by_cases h:r=123<;>simp[h]
  rw[<-e];unfold gu;cases hx:x.out with
  |nil=>
   simp only[cE,cj,cT,dB];simp only[aw,aW,aO,AV.mp,aX,Pl.mp,cT,dB];simp[jl,c2];apply am<;>simp[hib,hb]
  |cons a l=>
   simp only[cE,cj,cT,dB];generalize aq (aM (a::l))=B0 at*;simp only[aw,aW,aO,AV.mp,aX,Pl.mp,cT,dB];simp[jl,c2];apply am<;>simp[hib,hb]
 rw[if_neg c2];have n2:(x.st==2)=false:=bJ.2 c2;by_cases c3:x.st=3
 ·rw[if_pos c3];generalize (jU x r).2=ok,(jU x r).1=y at*;unfold gu at*;cases hx:x.out with
  |nil=>
   rw[hx] at I;cases hy:y.out with
   |nil=>
    rw[hy] at I;simp only[cE,cj,cT,dB] at I ⊢;simp only[aw,aW,aO,AV.mp,aX,Pl.mp,cT,dB];simp[jl,c3];refine aF _ _ (I _ rfl) (by constructor<;>simp[hb,c3]) ?_
    simp;apply am<;>simp[hib,hb]
   |cons a2 l2=>
    rw[hy] at I;simp only[cE,cj,cT,dB] at I ⊢;generalize aq (aM (a2::l2))=B1 at*;simp only[aw,aW,aO,AV.mp,aX,Pl.mp,cT,dB];simp[jl,c3];refine aF _ _ (I _ rfl) (by constructor<;>simp[hb,c3]) ?_
    simp;apply am<;>simp[hib,hb]
  |cons a l=>
   rw[hx] at I;cases hy:y.out with
   |nil=>
    rw[hy] at I;simp only[cE,cj,cT,dB] at I ⊢;generalize aq (aM (a::l))=B0 at*;simp only[aw,aW,aO,AV.mp,aX,Pl.mp,cT,dB];simp[jl,c3];refine aF _ _ (I _ rfl) (by constructor<;>simp[hb,c3]) ?_
    simp;apply am<;>simp[hib,hb]
   |cons a2 l2=>
    rw[hy] at I;simp only[cE,cj,cT,dB] at I ⊢;generalize aq (aM (a2::l2))=B1,aq (aM (a::l))=B0 at*;simp only[aw,aW,aO,AV.mp,aX,Pl.mp,cT,dB];simp[jl,c3];refine aF _ _ (I _ rfl) (by constructor<;>simp[hb,c3]) ?_
    simp;apply am<;>simp[hib,hb]
 rw[if_neg c3];have n3:(x.st==3)=false:=bJ.2 c3;clear I;by_cases c4:x.st=4
 ·rw[if_pos c4];dsimp only;unfold gu;cases hx:x.out with
  |nil=>
   simp only[cE,cj,cT,dB];simp only[aw,aW,aO,AV.mp,aX,Pl.mp,cT,dB];simp[jl,c4];apply am<;>simp[hib,hb,c4]
  |cons a l=>
   simp only[cE,cj,cT,dB];generalize aq (aM (a::l))=B0 at*;simp only[aw,aW,aO,AV.mp,aX,Pl.mp,cT,dB];simp[jl,c4];apply am<;>simp[hib,hb,c4]
 rw[if_neg c4];have n4:(x.st==4)=false:=bJ.2 c4;by_cases d1:r=34
 ·rw[if_pos d1];subst d1;dsimp only;unfold gu;cases hx:x.out with
  |nil=>
   simp only[cE,cj,cT,dB];simp only[aw,aW,aO,AV.mp,aX,Pl.mp,cT,dB];simp[jl,n1,n2,n3,n4];apply am<;>simp[hib,hb]
  |cons a l=>
   simp only[cE,cj,cT,dB];generalize aq (aM (a::l))=B0 at*;simp only[aw,aW,aO,AV.mp,aX,Pl.mp,cT,dB];simp[jl,n1,n2,n3,n4];apply am<;>simp[hib,hb]
 rw[if_neg d1];have m1:=ne 34 d1;by_cases d2:r=92
 ·rw[if_pos d2];subst d2;dsimp only;unfold gu;cases hx:x.out with
  |nil=>
   simp only[cE,cj,cT,dB];simp only[aw,aW,aO,AV.mp,aX,Pl.mp,cT,dB];simp[jl,n1,n2,n3,n4];apply am<;>simp[hib,hb]
  |cons a l=>
   simp only[cE,cj,cT,dB];generalize aq (aM (a::l))=B0 at*;simp only[aw,aW,aO,AV.mp,aX,Pl.mp,cT,dB];simp[jl,n1,n2,n3,n4];apply am<;>simp[hib,hb]
 rw[if_neg d2];have m2:=ne 92 d2;by_cases d3:r<32\/r=127
 ·rw[if_pos d3];dsimp only;have d4:r<32\/(¬r<32/\(r==127)=true):=by
   by_cases h:r<32
   ·exact .inl h
   ·exact .inr ⟨h,by rw[cY];omega⟩
  unfold gu;cases hx:x.out with
  |nil=>
   simp only[cE,cj,cT,dB];simp only[aw,aW,aO,AV.mp,aX,Pl.mp,cT,dB];rcases d4 with d4|⟨d4,d5⟩
   ·simp[jl,n1,n2,n3,n4,m1,m2,d4];apply am<;>simp[hib,hb]
   ·simp[jl,n1,n2,n3,n4,m1,m2,d4,d5];apply am<;>simp[hib,hb]
  |cons a l=>
   simp only[cE,cj,cT,dB];generalize aq (aM (a::l))=B0 at*;simp only[aw,aW,aO,AV.mp,aX,Pl.mp,cT,dB];rcases d4 with d4|⟨d4,d5⟩
   ·simp[jl,n1,n2,n3,n4,m1,m2,d4];apply am<;>simp[hib,hb]
   ·simp[jl,n1,n2,n3,n4,m1,m2,d4,d5];apply am<;>simp[hib,hb]
 rw[if_neg d3];have d4: ¬r<32:=fun h=>d3 (.inl h)
 have d5:=ne 127 (fun h=>d3 (.inr h));obtain ⟨q,rfl⟩: ∃q:Nat,r=q:=⟨r.toNat,by omega⟩;have W:=fun (c0:AV) (hc0:c0= .nilT (.up b) 226 5\/c0= .ptr (.up b) 0) (e:Nat) (he:(Id.up b).isNw e=false)=>w9 (d:=e) (b:= .up b) hb he nK hc0 [i6 x.st,i3 x.n,i6 x.c] (aM x.out) q hr (by unfold fq at hr;omega) (by omega)
 dsimp only;unfold gu;rw[kO,kP];cases hx:x.out with
 |nil=>
  rw[hx] at W;have W:=W _ (.inl rfl);rw[show aM []=[] from rfl] at W ⊢;simp only[dB] at W ⊢;rw[show aq []=[] from rfl] at W;generalize aq (iK q)=B at*;simp only[cE,cj];simp only[aw,aW,aO,AV.mp,aX,Pl.mp,cT,dB];simp[jl,n1,n2,n3,n4,m1,m2,d4,d5];refine aF _ _ (W _ rfl) (by constructor<;>simp[hb]) ?_
  simp;apply am<;>simp[hib,hb]
 |cons a l=>
  rw[hx] at W;have W:=W _ (.inr rfl);generalize aq (aM (a::l)++iK q)=B at*;simp only[cE,cj];generalize aq (aM (a::l))=B0 at*;simp only[aw,aW,aO,AV.mp,aX,Pl.mp,cT,dB];simp[jl,n1,n2,n3,n4,m1,m2,d4,d5];refine aF _ _ (W _ rfl) (by constructor<;>simp[hb]) ?_
  simp;apply am<;>simp[hib,hb]
structure Lb where
 n:List UInt8
 t:List UInt8
 deriving DecidableEq
structure Ru where
 n:List UInt8
 p:Bool
 l:Int
 s:Int
 f:Nat
 w:Int
 k:Int
 deriving DecidableEq
structure Gl where
 n:List UInt8
 t:Nat
 g:Int
 a:Int
 o:Int
 c:Int
 lb:List Lb
 ru:List Ru
 deriving DecidableEq
structure Cf where
 gs:List Gl
 r:Int
 v:Int
 i:Int
 x:Int
 y:Int
def Lb.row (x:Lb):List AV:=[.str x.n,.str x.t]
def Ru.row (x:Ru):List AV:=[.str x.n,.bool x.p,i6 x.l,i6 x.s,u x.f,i6 x.w,i6 x.k]
def Gl.row (x:Gl):List AV:=[.str x.n,.int .u32 x.t,i6 x.g,i6 x.a,i6 x.o,i6 x.c,.sl (x.lb.map Lb.row),.sl (x.ru.map Ru.row)]
def Cf.row (x:Cf):List AV:=[.sl (x.gs.map Gl.row),i6 x.r,i6 x.v,i6 x.i,i6 x.x,i6 x.y]
def bump (l:List (List UInt8×Nat)) (n:List UInt8):List (List UInt8×Nat):=match l with
 |[]=>[(n,1)]
 |(m,c)::r=>if n=m then (m,c+1)::r else (m,c)::bump r n
end Go.Ai
