/- P11: a part of the proof. Conditions: as each theorem says. -/
import Derived.Shelf.Strings.SlTrimAscii
import Derived.Test.YtggemlhclppciaaGreatDoorP10
set_option linter.unusedSimpArgs false
set_option linter.unusedVariables false
set_option maxRecDepth 20000
namespace Go.Ai
open Go.Proofs Go.Shelf
def aJ:Ren:={
 f:=fun x=>match x with
  |162=>127
  |232=>169
  |227=>170
  |234=>171
  |236=>172
  |228=>204
  |271=>205
  |151=>206
  |120=>226
  |197=>208
  |152=>219
  |260=>227
  |137=>238
  |119=>239
  |224=>230
  |225=>229
  |217=>228
  |266=>243
  |n=>n
 t:=fun x=>match x with
  |9=>9
  |4=>4
  |3=>3
  |5=>5
  |117=>214
  |116=>213
  |0=>0
  |124=>217
  |21=>21
  |105=>249
  |46=>173
  |119=>201
  |139=>204
  |138=>203
  |n=>n
 g:=fun x=>match x with
  |3=>0
  |4=>1
  |n=>n}
set_option maxRecDepth 100000 in
theorem sX:Lays.n162 Tryz.prog aJ where
 mixed:=by kernel_rfl
 f119:=Eq.trans Tryz.func239 (congrArg some (show Tryz.f239=Body.n119 aJ by kernel_rfl))
 f120:=Eq.trans Tryz.func226 (congrArg some (show Tryz.f226=Body.n120 aJ by kernel_rfl))
 f137:=Eq.trans Tryz.func238 (congrArg some (show Tryz.f238=Body.n137 aJ by kernel_rfl))
 f151:=Eq.trans Tryz.func206 (congrArg some (show Tryz.f206=Body.n151 aJ by kernel_rfl))
 f152:=Eq.trans Tryz.func219 (congrArg some (show Tryz.f219=Body.n152 aJ by kernel_rfl))
 f162:=Eq.trans Tryz.func127 (congrArg some (show Tryz.f127=Body.n162 aJ by kernel_rfl))
 f197:=Eq.trans Tryz.func208 (congrArg some (show Tryz.f208=Body.n197 aJ by kernel_rfl))
 f217:=Eq.trans Tryz.func228 (congrArg some (show Tryz.f228=Body.n217 aJ by kernel_rfl))
 f224:=Eq.trans Tryz.func230 (congrArg some (show Tryz.f230=Body.n224 aJ by kernel_rfl))
 f225:=Eq.trans Tryz.func229 (congrArg some (show Tryz.f229=Body.n225 aJ by kernel_rfl))
 f227:=Eq.trans Tryz.func170 (congrArg some (show Tryz.f170=Body.n227 aJ by kernel_rfl))
 f228:=Eq.trans Tryz.func204 (congrArg some (show Tryz.f204=Body.n228 aJ by kernel_rfl))
 f232:=Eq.trans Tryz.func169 (congrArg some (show Tryz.f169=Body.n232 aJ by kernel_rfl))
 f234:=Eq.trans Tryz.func171 (congrArg some (show Tryz.f171=Body.n234 aJ by kernel_rfl))
 f236:=Eq.trans Tryz.func172 (congrArg some (show Tryz.f172=Body.n236 aJ by kernel_rfl))
 f260:=Eq.trans Tryz.func227 (congrArg some (show Tryz.f227=Body.n260 aJ by kernel_rfl))
 f266:=Eq.trans Tryz.func243 (congrArg some (show Tryz.f243=Body.n266 aJ by kernel_rfl))
 f271:=Eq.trans Tryz.func205 (congrArg some (show Tryz.f205=Body.n271 aJ by kernel_rfl))
 t0:=Tryz.underlying0
 a0:=Tryz.isAgg0
 z0:=Tryz.sizeOf0
 v0:=Tryz.zeroValue0
 t3:=Tryz.underlying3
 a3:=Tryz.isAgg3
 z3:=Tryz.sizeOf3
 v3:=Tryz.zeroValue3
 t4:=Tryz.underlying4
 a4:=Tryz.isAgg4
 z4:=Tryz.sizeOf4
 v4:=Tryz.zeroValue4
 t5:=Tryz.underlying5
 a5:=Tryz.isAgg5
 z5:=Tryz.sizeOf5
 v5:=Tryz.zeroValue5
 t9:=Tryz.underlying9
 a9:=Tryz.isAgg9
 z9:=Tryz.sizeOf9
 v9:=Tryz.zeroValue9
 t21:=Tryz.underlying21
 a21:=Tryz.isAgg21
 z21:=Tryz.sizeOf21
 v21:=Tryz.zeroValue21
 t46:=Tryz.underlying173
 a46:=Tryz.isAgg173
 z46:=Tryz.sizeOf173
 v46:=Tryz.zeroValue173
 t105:=Tryz.underlying249
 a105:=Tryz.isAgg249
 z105:=Tryz.sizeOf249
 v105:=Tryz.zeroValue249
 t116:=Tryz.underlying213
 a116:=Tryz.isAgg213
 z116:=Tryz.sizeOf213
 t117:=Tryz.underlying214
 a117:=Tryz.isAgg214
 z117:=Tryz.sizeOf214
 v117:=Tryz.zeroValue214
 t119:=Tryz.underlying201
 a119:=Tryz.isAgg201
 z119:=Tryz.sizeOf201
 t124:=Tryz.underlying217
 a124:=Tryz.isAgg217
 z124:=Tryz.sizeOf217
 v124:=Tryz.zeroValue217
 t138:=Tryz.underlying203
 a138:=Tryz.isAgg203
 z138:=Tryz.sizeOf203
 v138:=Tryz.zeroValue203
 t139:=Tryz.underlying204
 a139:=Tryz.isAgg204
 z139:=Tryz.sizeOf204
 v139:=Tryz.zeroValue204
 g3:=by kernel_rfl
 g4:=by kernel_rfl
def iv (r:Nat):UInt8:=if r<10 then UInt8.ofNat (48+r) else UInt8.ofNat (87+r)
def rH (r:Nat):List UInt8:=if r<16 then [iv r] else [iv (r / 16),iv (r%16)]
def IL (r:Nat):List UInt8:=if r=34 then [92,34] else if r=92 then [92,92] else if r=10 then [92,110] else if r=9 then [92,116] else if r<32∨r=127 then [92,117,123]++(rH r++[125]) else cK r
def Ds:List Int→List UInt8
 |[]=>[]
 |r::l=>IL r.toNat++Ds l
def Dt (l:List Int):List UInt8:=34::(Ds l++[34])
theorem uq (r:Nat):(rH r).length≤2:=by unfold rH;split<;>simp
theorem Ha (r:Nat):(IL r).length≤6:=by
 have h1:=uq r;have h2:=(qS r).1;unfold IL;repeat' split
 all_goals first|omega|(simp;omega)|simp
theorem ml: ∀l:List Int,(Ds l).length≤6*l.length
 |[]=>by simp [Ds]
 |r::l=>by
  have h1:=ml l;have h2:=Ha r.toNat;simp only [Ds,cG,dT];omega
def Du (n:Nat):List UInt8:=bu (n / 1000)++(46::(UInt8.ofNat (48+n%1000 / 100)::gr 10 2 (n%1000%100)))
def eY (k:Int) (s:List UInt8) (n:Nat):List UInt8:=
 if iw k s n=false then [63]
 else if k=1 then s
 else if k=2 then Dt (ag s 0)
 else if k=3 then bu n
 else if k=4 then Du n
 else if k=5 then Dr n
 else if k=6 then qr n
 else if k=7 then [123]
 else if k=8 then [125]
 else if k=9 then [59]
 else []
theorem qu (s:List UInt8) (hs:s.length≤1000000):Sp Tryz.prog gl 127 [.str s,.str [48]] (.str (Lib.trimRightS s [48])):=by
 refine ee sX.f162 (by kernel_rfl) (by kernel_rfl) ?_;intro S gb w vs hvs hag;simp only [aa] at hvs;obtain ⟨v1,_,rfl,p1,v2,_,rfl,p2,rfl⟩:=hvs;simp only [PR] at p1 p2;subst p1;subst p2;refine (Any.strings_TrimRight_laid sX (by kernel_rfl) ⟨s.toArray⟩ ⟨[48].toArray⟩ w (by simp only [ByteArray.size,List.size_toArray];omega) (by decide) (ascii_of_all (by decide))).mono ?_;rintro e w' ⟨rfl,h⟩;exact ⟨_,rfl,h,by simp only [PR]⟩
def JT (b:Nat):List UInt8:=[UInt8.ofNat (48+b / 1000),UInt8.ofNat (48+b / 100%10),UInt8.ofNat (48+b / 10%10),UInt8.ofNat (48+b%10)]
def Et (b:Nat):List UInt8:=[UInt8.ofNat (48+b / 100),UInt8.ofNat (48+b / 10%10),UInt8.ofNat (48+b%10)]
theorem Hb (b:Nat) (h:b<10000):bu (10000+b)=49::JT b:=by
 rw [fm (by omega),fm (by omega),fm (by omega),fm (by omega),gN (by omega)];unfold JT;rw [show (10000+b) / 10 / 10 / 10 / 10=1 by omega,show (10000+b) / 10 / 10 / 10%10=b / 1000 by omega,show (10000+b) / 10 / 10%10=b / 100%10 by omega,show (10000+b) / 10%10=b / 10%10 by omega,show (10000+b)%10=b%10 by omega];rfl
theorem Hc (b:Nat) (h:b<1000):bu (1000+b)=49::Et b:=by
 rw [fm (by omega),fm (by omega),fm (by omega),gN (by omega)];unfold Et;rw [show (1000+b) / 10 / 10 / 10=1 by omega,show (1000+b) / 10 / 10%10=b / 100 by omega,show (1000+b) / 10%10=b / 10%10 by omega,show (1000+b)%10=b%10 by omega];rfl
theorem Eu: ∀a,a<10→ ∀c,c<100→(if Lib.trimRightS (Et (100*a+c)) [48]=[] then [48] else Lib.trimRightS (Et (100*a+c)) [48])=UInt8.ofNat (48+(100*a+c) / 100)::gr 10 2 ((100*a+c)%100):=by decide+kernel
theorem LU (x:Nat) (h:x<1000):(if Lib.trimRightS (Et x) [48]=[] then [48] else Lib.trimRightS (Et x) [48])=UInt8.ofNat (48+x / 100)::gr 10 2 (x%100):=by
 have:=Eu (x / 100) (by omega) (x%100) (by omega)
 rwa [Nat.div_add_mod] at this
theorem Ev: ∀a,a<100→ ∀c,c<100→Lib.trimRightS (JT (100*a+c)) [48]=gr 1000 4 (100*a+c):=by decide+kernel
theorem LV (x:Nat) (h:x<10000):Lib.trimRightS (JT x) [48]=gr 1000 4 x:=by
 have:=Ev (x / 100) (by omega) (x%100) (by omega)
 rwa [Nat.div_add_mod] at this
def Dv (t:List UInt8):List Int:=t.map fun b=>(b.toNat:Int)
theorem kC: ∀t:List UInt8,(∀b∈t,b.toNat<128)→aq (Dv t)=t
 |[],_=>rfl
 |b::t,h=>by
  have hb:=h b (by simp);have e:iy (b.toNat:Int)=[b]:=by
   unfold iy;rw [if_neg (by omega),Int.toNat_natCast];unfold cK;rw [if_pos hb,UInt8.ofNat_toNat]
  show iy (b.toNat:Int)++aq (Dv t)=b::t;rw [e,kC t (fun x hx=>h x (by simp [hx]))];rfl
theorem iP (t:List UInt8) (h: ∀b∈t,b.toNat<128):ag t 0=Dv t:=by
 have:=cC (Dv t) (fun r hr=>by
  obtain ⟨b,hb,rfl⟩:=tO.1 hr
  have:=h b hb
  unfold nW;omega)
 rw [kC t h] at this;exact this
theorem Co (n:Nat): ∃b t,bu n=b::t∧48≤b.toNat∧b.toNat≤57:=by
 have h:=ic n;cases e:bu n with
 |nil=>exact absurd e (kg n)
 |cons b t=>
  rw [e,List.all_cons,aC] at h;exact ⟨b,t,rfl,(bf b).1 h.1⟩
theorem JU (t:List UInt8) (h: ∀b∈t,b.toNat<128) (n:Nat) (r:List UInt8) (e:t=bu n++r):rV (Dv t)=xU t:=by
 obtain ⟨b,s,h1,h2,h3⟩:=Co n;unfold rV;rw [kC t h,if_neg];rw [e,h1];rintro (h|h)
 ·cases h
 ·have:cJ ((b.toNat:Nat):Int)=false:=h
  unfold cJ at this;rw [decide_eq_false_iff_not] at this;omega
theorem wG (n:Nat) (h:n<18446744073709551616):jw (bu n)=(n,0):=by
 unfold jw;rw [tF,if_pos rfl,kG,if_pos h]
theorem Ew (n:Nat):fS (bu n)=true:=by
 unfold fS;rw [ic,kL,lK];exact vz.2 (kg n)
theorem Hd (n:Nat) (h:n<18446744073709551616):xU (bu n)= .t 3 [] n:=by
 unfold xU;rw [Ew,if_pos rfl,wG n h];rfl
theorem Ex (n:Nat) (r:List UInt8):(bu n++46::r).takeWhile (bF 46)=bu n:=by
 refine Ad (by simp [bF]) fun b hb=>?_
 have:=(bf b).1 (fC.1 (ic n) b hb)
 unfold bF;rw [bne_iff_ne];rintro rfl;simp at this
theorem aZ {x:Nat} (h:x≤9):(UInt8.ofNat (48+x)).toNat=48+x:=by rw [UInt8.toNat_ofNat'];omega
theorem qv (t:List UInt8) (h0:t≠[]) (h: ∀b∈t,ay b=true):fS t=true:=by
 unfold fS;rw [fC.2 h,kL,lK];exact vz.2 h0
theorem Ba (a:Nat) (ha:a<1000):fS (UInt8.ofNat (48+a / 100)::gr 10 2 (a%100))=true∧(UInt8.ofNat (48+a / 100)::gr 10 2 (a%100)).length≤3∧jC (UInt8.ofNat (48+a / 100)::gr 10 2 (a%100)) 3=a:=by
 have hd: ∀x:Nat,x≤9→ay (UInt8.ofNat (48+x))=true:=fun x hx=>by rw [bf,aZ hx];omega
 have b9:a / 100≤9:=by omega
 by_cases c1:a%100=0
 ·rw [c1];show fS [UInt8.ofNat (48+a / 100)]=true∧_∧jC [UInt8.ofNat (48+a / 100)] 3=a;refine ⟨qv _ (by simp) (fun b hb=>by
   rw [m9] at hb;rw [hb];exact hd _ b9),by simp [gr],?_⟩
  simp only [jC,xA,List.getElem?_cons_zero,List.getElem?_cons_succ,List.getElem?_nil,aZ b9];omega
 ·have x9:a%100 / 10≤9:=by omega
  have y9:a%100%10*10 / 10≤9:=by omega
  by_cases c2:a%100%10=0
  ·have e:gr 10 2 (a%100)=[UInt8.ofNat (48+a%100 / 10)]:=by
    rw [gr,if_neg c1,c2];rfl
   rw [e];refine ⟨qv _ (by simp) (fun b hb=>by
    rw [i8,m9] at hb;rcases hb with rfl|rfl
    ·exact hd _ b9
    ·exact hd _ x9),by simp,?_⟩
   simp only [jC,xA,List.getElem?_cons_zero,List.getElem?_cons_succ,List.getElem?_nil,aZ b9,aZ x9];omega
  ·have e:gr 10 2 (a%100)=[UInt8.ofNat (48+a%100 / 10),UInt8.ofNat (48+a%100%10*10 / 10)]:=by
    rw [gr,if_neg c1,gr,if_neg (by omega)];rfl
   rw [e];refine ⟨qv _ (by simp) (fun b hb=>by
    rw [i8,i8,m9] at hb;rcases hb with rfl|rfl|rfl
    ·exact hd _ b9
    ·exact hd _ x9
    ·exact hd _ y9),by simp,?_⟩
   simp only [jC,xA,List.getElem?_cons_zero,List.getElem?_cons_succ,List.getElem?_nil,aZ b9,aZ x9,aZ y9];omega
theorem He (n:Nat) (h:n<18446744073709551616):uY (bu (n / 1000)) (UInt8.ofNat (48+n%1000 / 100)::gr 10 2 (n%1000%100))=(n,0):=by
 obtain ⟨h1,h2,h3⟩:=Ba (n%1000) (Nat.mod_lt _ (by decide));unfold uY;rw [h1,h3,if_neg (by rintro (h|h);cases h;omega),wG _ (by omega),if_neg (show ¬((0:Int)≠0) by simp),if_neg (by show ¬(18446744073709551615 - n%1000) / 1000<n / 1000;omega)];congr 1
 show 1000*(n / 1000)+n%1000=n;omega
theorem ur (a:List UInt8) (b:UInt8) (c:List UInt8) (h:ay b=false):fS (a++b::c)=false:=by
 unfold fS;rw [List.all_append,List.all_cons,h,lQ,Lp,lQ]
theorem j9 (a b:List UInt8) (h:b≠[]):aS (a++b) ((a++b).length - 1)=aS b (b.length - 1):=by
 have:=vz.2 h
 rw [cG,show a.length+b.length - 1=a.length+(b.length - 1) by omega,Br]
theorem Hf {t:List UInt8} (h: ∀b∈t,ay b=true) {i:Nat} (hi:i<t.length):48≤aS t i∧aS t i≤57:=by
 rw [kb hi];exact (bf _).1 (h _ (rL hi))
theorem Ey {t:List UInt8} (h:fS t=true):(∀b∈t,ay b=true)∧t≠[]:=by
 unfold fS at h;rw [aC,lK] at h;exact ⟨fC.1 h.1,vz.1 h.2⟩
theorem JV (n:Nat) (h:n<18446744073709551616):xU (Du n)= .t 4 [] n:=by
 obtain ⟨h1,h2,h3⟩:=Ba (n%1000) (Nat.mod_lt _ (by decide));have ff:=He n h;have tw:=Ex (n / 1000) (UInt8.ofNat (48+n%1000 / 100)::gr 10 2 (n%1000%100));obtain ⟨hm,hn⟩:=Ey h1;unfold Du;generalize UInt8.ofNat (48+n%1000 / 100)::gr 10 2 (n%1000%100)=tl at *
 generalize bu (n / 1000)=hd at *
 have hlen:hd.length<(hd++46::tl).length:=by rw [cG,dT];omega
 have hlast:aS (hd++46::tl) ((hd++46::tl).length - 1)≠37:=by
  rw [j9 hd (46::tl) (by simp)];have e:(46::tl:List UInt8)=[46]++tl:=rfl;rw [e,j9 [46] tl hn]
  have:=Hf hm (i:=tl.length - 1) (by have:=vz.2 hn;omega)
  omega
 unfold xU;rw [ur hd 46 tl (by decide),if_neg (by decide),if_neg hlast];have hb:o6 46 (hd++46::tl)=true:=by
  unfold o6;rw [tw,jE hlen]
 rw [hb,if_pos rfl,tw];have dr:(hd++46::tl).drop (hd.length+1)=tl:=by
  rw [←List.drop_drop,List.drop_left];rfl
 rw [dr,ff];rfl
theorem Hg (y:Nat) (h0:0<y) (hy:y<10000):(∀b∈gr 1000 4 y,ay b=true)∧1≤(gr 1000 4 y).length∧(gr 1000 4 y).length≤4∧jC (gr 1000 4 y) 4=y∧aS (gr 1000 4 y) ((gr 1000 4 y).length - 1)≠48:=by
 have hd: ∀x:Nat,x≤9→ay (UInt8.ofNat (48+x))=true:=fun x hx=>by rw [bf,aZ hx];omega
 have a9:y / 1000≤9:=by omega
 have b9:y%1000*10 / 1000≤9:=by omega
 have c9:y%1000*10%1000*10 / 1000≤9:=by omega
 have d9:y%1000*10%1000*10%1000*10 / 1000≤9:=by omega
 by_cases c1:y%1000=0
 ·have e:gr 1000 4 y=[UInt8.ofNat (48+y / 1000)]:=by
   rw [gr,if_neg (by omega),c1];rfl
  rw [e];refine ⟨fun b hb=>by rw [m9] at hb;rw [hb];exact hd _ a9,by simp,by simp,?_,?_⟩
  ·simp only [jC,xA,List.getElem?_cons_zero,List.getElem?_cons_succ,List.getElem?_nil,aZ a9];omega
  ·show (UInt8.ofNat (48+y / 1000)).toNat≠48;rw [aZ a9];omega
 by_cases c2:y%100=0
 ·have e:gr 1000 4 y=[UInt8.ofNat (48+y / 1000),UInt8.ofNat (48+y%1000*10 / 1000)]:=by
   rw [gr,if_neg (by omega),gr,if_neg (by omega),show y%1000*10%1000*10=0 by omega];rfl
  rw [e];refine ⟨fun b hb=>by
   rw [i8,m9] at hb;rcases hb with rfl|rfl
   ·exact hd _ a9
   ·exact hd _ b9,by simp,by simp,?_,?_⟩
  ·simp only [jC,xA,List.getElem?_cons_zero,List.getElem?_cons_succ,List.getElem?_nil,aZ a9,aZ b9];omega
  ·show (UInt8.ofNat (48+y%1000*10 / 1000)).toNat≠48;rw [aZ b9];omega
 by_cases c3:y%10=0
 ·have e:gr 1000 4 y=[UInt8.ofNat (48+y / 1000),UInt8.ofNat (48+y%1000*10 / 1000),UInt8.ofNat (48+y%1000*10%1000*10 / 1000)]:=by
   rw [gr,if_neg (by omega),gr,if_neg (by omega),gr,if_neg (by omega),show y%1000*10%1000*10%1000*10=0 by omega];rfl
  rw [e];refine ⟨fun b hb=>by
   rw [i8,i8,m9] at hb;rcases hb with rfl|rfl|rfl
   ·exact hd _ a9
   ·exact hd _ b9
   ·exact hd _ c9,by simp,by simp,?_,?_⟩
  ·simp only [jC,xA,List.getElem?_cons_zero,List.getElem?_cons_succ,List.getElem?_nil,aZ a9,aZ b9,aZ c9];omega
  ·show (UInt8.ofNat (48+y%1000*10%1000*10 / 1000)).toNat≠48;rw [aZ c9];omega
 ·have e:gr 1000 4 y=[UInt8.ofNat (48+y / 1000),UInt8.ofNat (48+y%1000*10 / 1000),UInt8.ofNat (48+y%1000*10%1000*10 / 1000),UInt8.ofNat (48+y%1000*10%1000*10%1000*10 / 1000)]:=by
   rw [gr,if_neg (by omega),gr,if_neg (by omega),gr,if_neg (by omega),gr,if_neg (by omega)];rfl
  rw [e];refine ⟨fun b hb=>by
   rw [i8,i8,i8,m9] at hb;rcases hb with rfl|rfl|rfl|rfl
   ·exact hd _ a9
   ·exact hd _ b9
   ·exact hd _ c9
   ·exact hd _ d9,by simp,by simp,?_,?_⟩
  ·simp only [jC,xA,List.getElem?_cons_zero,List.getElem?_cons_succ,List.getElem?_nil,aZ a9,aZ b9,aZ c9,aZ d9];omega
  ·show (UInt8.ofNat (48+y%1000*10%1000*10%1000*10 / 1000)).toNat≠48;rw [aZ d9];omega
theorem Hh (n:Nat):(bu n).takeWhile (bF 46)=bu n:=by
 refine vg fun b hb=>?_
 have:=(bf b).1 (fC.1 (ic n) b hb)
 unfold bF;rw [bne_iff_ne];rintro rfl;simp at this
theorem Hi (t:List UInt8) (z:Nat) (fr:List UInt8) (b:List UInt8) (hz:z≤100) (hb:b=bu z++fr) (hbt: ∀i,i<b.length→aS t i=aS b i) (y:Nat)
  (hf:(fr=[]∧y=0)∨ ∃tl,fr=46::tl∧(∀x∈tl,ay x=true)∧1≤tl.length∧tl.length≤4∧jC tl 4=y∧aS tl (tl.length - 1)≠48) (hp:z*10000+y≤1000000):
  C6 t b (bu z).length=(z*10000+y,0):=by
 have okz:=(kK (bu z)).1 (tF z);have l3:(bu z).length≤3:=fA 2 z (by omega);have l1:1≤(bu z).length:=vz.2 (kg z);have tk:b.take (bu z).length=bu z:=by rw [hb,List.take_left]
 have fu:jC b (bu z).length=z:=by
  rw [kJ b _ (by rw [hb,cG];omega),tk,kG]
 have b0:aS t 0=aS (bu z) 0:=by
  rw [hbt 0 (by rw [hb,cG];omega),hb];unfold aS;rw [List.getElem?_append_left (by omega)]
 have dr:(∀x∈b.drop ((bu z).length+1),ay x=true)∧jC (b.drop ((bu z).length+1)) 4=y∧ ¬((bu z).length<b.length∧(b.length - 1 - (bu z).length<1∨4<b.length - 1 - (bu z).length∨aS t (b.length - 1)=48)):=by
  rcases hf with ⟨rfl,rfl⟩|⟨tl,rfl,h1,h2,h3,h4,h5⟩
  ·rw [pc] at hb;have e:b.drop ((bu z).length+1)=[]:=Aq (by rw [hb];omega);rw [e];refine ⟨(fun x hx=>by cases hx),rfl,?_⟩;rw [hb];omega
  ·have e:b.drop ((bu z).length+1)=tl:=by
    rw [hb,←List.drop_drop,List.drop_left];rfl
   have bl:b.length=(bu z).length+1+tl.length:=by rw [hb,cG,dT];omega
   rw [e];refine ⟨h1,h4,?_⟩;have lst:aS t (b.length - 1)=aS tl (tl.length - 1):=by
    rw [hbt _ (by omega),hb,j9 (bu z) (46::tl) (by simp)];have e2:(46::tl:List UInt8)=[46]++tl:=rfl;rw [e2,j9 [46] tl (vz.1 (by omega))]
   rw [lst];rintro ⟨_,q|q|q⟩
   ·omega
   ·omega
   ·exact h5 q
 unfold C6 Is;rw [tk,fu,dr.2.1,fC.2 dr.1,okz.2.1];rw [if_neg (by rintro (h|h)<;>cases h),if_neg,if_neg (by omega),if_neg (by omega)];rintro (h|h|⟨h,h'⟩)
 ·exact dr.2.2 h
 ·omega
 ·rw [b0] at h;exact okz.2.2 ⟨h,h'⟩
theorem JW (p:Nat) (h:p≤1000000):xU (Dr p)= .t 5 [] p:=by
 have ez:p / 10000*10000+p%10000=p:=by omega
 have hz:p / 10000≤100:=by omega
 have hy:p%10000<10000:=Nat.mod_lt _ (by decide);unfold Dr;rw [if_neg (by omega)];generalize p / 10000=z at *
 generalize p%10000=y at *
 subst ez;obtain ⟨fr,hfr⟩: ∃fr,fr=(if y=0 then [] else [46])++gr 1000 4 y:=⟨_,rfl⟩;have et:bu z++((if y=0 then [] else [46])++(gr 1000 4 y++[37]))=bu z++fr++[37]:=by
  rw [hfr];simp [lJ]
 rw [et];have hf:(fr=[]∧y=0)∨ ∃tl,fr=46::tl∧(∀x∈tl,ay x=true)∧1≤tl.length∧tl.length≤4∧jC tl 4=y∧aS tl (tl.length - 1)≠48:=by
  by_cases c:y=0
  ·left;rw [hfr,if_pos c,c];exact ⟨rfl,rfl⟩
  ·right;refine ⟨gr 1000 4 y,?_,Hg y (by omega) hy⟩;rw [hfr,if_neg c];rfl
 clear hfr et;have l1:1≤(bu z).length:=vz.2 (kg z);have tw:(bu z++fr).takeWhile (bF 46)=bu z:=by
  rcases hf with ⟨rfl,_⟩|⟨tl,rfl,_⟩
  ·rw [pc,Hh]
  ·exact Ex z tl
 have hl:(bu z++fr++[37]).length=(bu z++fr).length+1:=by rw [cG];rfl
 have hlast:aS (bu z++fr++[37]) ((bu z++fr++[37]).length - 1)=37:=by
  rw [j9 _ [37] (by simp)];rfl
 have tk:(bu z++fr++[37]).take ((bu z++fr++[37]).length - 1)=bu z++fr:=by
  rw [hl,show (bu z++fr).length+1 - 1=(bu z++fr).length by omega,List.take_left]
 have PB:=Hi (bu z++fr++[37]) z fr (bu z++fr) hz rfl (fun i hi=>by
  unfold aS;rw [List.getElem?_append_left hi]) y hf h
 have pf:Ah (bu z++fr++[37])=(z*10000+y,0):=by
  unfold Ah;rw [if_neg (by
   rintro (h|h)
   ·rw [hl,cG] at h;omega
   ·exact h hlast),tk,tw]
  exact PB
 unfold xU;rw [show bu z++fr++[37]=(bu z++fr)++37::[] from rfl,ur (bu z++fr) 37 [] (by decide),if_neg (by decide)];rw [show (bu z++fr)++37::[]=bu z++fr++[37] from rfl,if_pos hlast,pf];rfl
theorem Bb: ∀(d:List UInt8) (n:Nat),n≤d.foldl (fun a b=>10*a+(b.toNat - 48)) n
 |[],n=>eV _
 |b::d,n=>by
  rw [List.foldl_cons];exact pJ (by omega) (Bb d _)
theorem wH: ∀(d r:List UInt8) (dg:Bool) (n la sm:Nat) (fr:Bool),(∀b∈d,ay b=true)→(d=[]→dg=true)→d.foldl (fun a b=>10*a+(b.toNat - 48)) n≤253402300799→
  uW (d++r) dg n la sm fr=uW r true (d.foldl (fun a b=>10*a+(b.toNat - 48)) n) la sm fr
 |[],r,dg,n,la,sm,fr,h,h0,hm=>by
  rw [h0 rfl];rfl
 |b::d,r,dg,n,la,sm,fr,h,h0,hm=>by
  rw [List.foldl_cons] at hm ⊢;have hn:n≤253402300799:=by
   have:=Bb d (10*n+(b.toNat - 48))
   omega
  rw [bt,uW,if_pos (h b (by simp)),if_pos hn];exact wH d r true _ la sm fr (fun x hx=>h x (by simp [hx])) (fun _=>rfl) hm
theorem sY (q u:Nat) (c:UInt8) (l:List UInt8) (la sm:Nat) (hc:ay c=false) (hu:aU c.toNat=u) (h0:0<u) (hla:u<la) (hm:sm+q*u≤253402300799):
  uW (bu q++c::l) false 0 la sm false=uW l false 0 u (sm+q*u) false:=by
 have hq:q≤q*u:=Nat.le_mul_of_pos_right _ h0;have e:=wH (bu q) (c::l) false 0 la sm false (fC.1 (ic q)) (fun h=>absurd h (kg q)) (by
  have:=kG q
  unfold aH at this;rw [this];omega)
 rw [e];have e2:(bu q).foldl (fun a b=>10*a+(b.toNat - 48)) 0=q:=kG q;rw [e2,uW,if_neg (by rw [hc];decide),hu,if_neg (by rintro (h|h|h);cases h;omega;omega),if_neg,if_neg (by omega)];intro h;rw [Nat.div_lt_iff_lt_mul h0] at h;omega
def Hj (l:List (Nat×UInt8)):Prop:= ∀n la sm,(∀p∈l,p.1<la)→sm+n≤253402300799→uW (nH l n) false 0 la sm false=(sm+n,0)
theorem mm (u:Nat) (c:UInt8) (l:List (Nat×UInt8)) (H:Hj l) (hl: ∀p∈l,p.1<u) (hc:ay c=false) (hu:aU c.toNat=u) (h0:0<u):Hj ((u,c)::l):=by
 intro n la sm hla hm;rw [nH];by_cases g:u≤n
 ·rw [if_pos g];have e:=Nat.div_add_mod n u;rw [Jq] at e;rw [sY (n / u) u c (nH l (n%u)) la sm hc hu h0 (hla (u,c) (by simp)) (by omega),H (n%u) u (sm+n / u*u) hl (by omega)];congr 1
  omega
 ·rw [if_neg g];exact H n la sm (fun p hp=>hla p (by simp [hp])) hm
theorem Hk:Hj [(1,115)]:=by
 intro n la sm hla hm;rw [nH];by_cases g:1≤n
 ·rw [if_pos g,Nat.div_one,Nat.mod_one];have e:=sY n 1 115 (nH [] 0) la sm (by decide) (by decide) (by decide) (hla (1,115) (by simp)) (by omega);rw [e,Nat.mul_one];rfl
 ·rw [if_neg g]
  have:n=0:=by omega
  subst this;rfl
theorem Hl:Hj qq:=by
 refine mm _ _ _ (mm _ _ _ (mm _ _ _ (mm _ _ _ Hk ?_ ?_ ?_ ?_) ?_ ?_ ?_ ?_) ?_ ?_ ?_ ?_) ?_ ?_ ?_ ?_;all_goals first|decide|(intro p hp;simp at hp;rcases hp with rfl|rfl|rfl|rfl<;>decide)|(intro p hp;simp at hp;rcases hp with rfl|rfl|rfl<;>decide)|(intro p hp;simp at hp;rcases hp with rfl|rfl<;>decide)|(intro p hp;simp at hp;subst hp;decide)
theorem nI: ∀(l:List (Nat×UInt8)) (n:Nat),(∀p∈l,p.2∈lL)→(∀b∈nH l n,ay b=true∨b∈lL)∧(nH l n≠[]→ ∃q c r,nH l n=bu q++c::r∧c∈lL)
 |[],n,h=>⟨fun b hb=>by simp [nH] at hb,fun h=>absurd rfl h⟩
 |(u,c)::l,n,h=>by
  have hc:=h (u,c) (by simp);rw [nH];split
  ·have ih:=nI l (n%u) (fun p hp=>h p (by simp [hp]));refine ⟨fun b hb=>?_,fun _=>⟨n / u,c,_,rfl,hc⟩⟩;rcases gg.1 hb with hb|hb
   ·exact .inl (fC.1 (ic _) b hb)
   ·rcases i8.1 hb with rfl|hb
    ·exact .inr hc
    ·exact ih.1 b hb
  ·exact nI l n (fun p hp=>h p (by simp [hp]))
theorem po (b:UInt8) (h:b∈lL):ay b=false∧b.toNat≠37∧b≠46∧b.toNat<128:=by
 have: ∀b∈lL,ay b=false∧b.toNat≠37∧b≠46∧b.toNat<128:=by decide
 exact this b h
theorem sZ (n:Nat):(∀b∈qr n,ay b=true∨b∈lL)∧ ∃q c r,qr n=bu q++c::r∧c∈lL:=by
 unfold qr;by_cases c:n=0
 ·rw [if_pos c];refine ⟨by decide,0,115,[],?_,by decide⟩;rw [gN (by omega)];rfl
 ·rw [if_neg c]
  have:=nI qq n (by decide)
  exact ⟨this.1,this.2 (fun h=>c ((uo n).1 h))⟩
theorem JX (n:Nat) (h:n≤253402300799):xU (qr n)= .t 6 [] n:=by
 obtain ⟨h1,q,c,r,h2,h3⟩:=sZ n;have hn:=po c h3;have sp:rh (qr n)=(n,0):=by
  unfold rh qr;by_cases c0:n=0
  ·subst c0;rfl
  ·rw [if_neg c0,if_neg (fun h=>c0 ((uo n).1 h))]
   have:=Hl n 1000000 0 (by decide) (by omega)
   rw [this,na]
 have ne:qr n≠[]:=by rw [h2];simp
 have l1:=vz.2 ne;have nol:aS (qr n) ((qr n).length - 1)≠37:=by
  rw [kb (by omega)];rcases h1 _ (rL (show (qr n).length - 1<(qr n).length by omega)) with h|h
  ·have:=(bf _).1 h
   omega
  ·exact (po _ h).2.1
 have no46:o6 46 (qr n)=false:=by
  unfold o6;rw [decide_eq_false_iff_not,vg fun b hb=>?_]
  ·omega
  ·unfold bF;rw [bne_iff_ne];rcases h1 b hb with h|h
   ·rintro rfl;exact absurd h (by decide)
   ·exact (po _ h).2.2.1
 have dg:fS (qr n)=false:=by
  rw [h2];exact ur (bu q) c r hn.1
 unfold xU;rw [dg,if_neg (by decide),if_neg nol,no46,if_neg (by decide),sp];rfl
theorem qw: ∀(l:List Int) (n:Nat) (la:Int),dF n la l=true→ ∀r∈l,(bN r||(cJ r||r==95||r==45))=true
 |[],n,la,h,r,hr=>by cases hr
 |x::l,n,la,h,r,hr=>by
  rw [dF,aC] at h;rcases i8.1 hr with rfl|hr
  ·have:=h.1
   rw [BI] at this ⊢;rcases this with g|g
   ·exact .inl g
   ·exact .inr (aC .. ▸g).2
  ·exact qw l (n+1) x h.2 r hr
theorem s7 {l:List Int} (h:dF 0 32 l=true): ∃r t,l=r::t∧bN r=true:=by
 cases l with
 |nil=>simp [dF] at h
 |cons r t=>
  refine ⟨r,t,rfl,?_⟩;rw [dF,aC] at h;simpa using h.1
theorem zB {r:Int} (h:bN r=true):cJ r=false:=by
 rcases mJ r with ⟨_,g⟩|⟨h1,h2,_⟩|⟨_,_,g⟩|⟨h1,h2,_⟩|⟨_,_,g⟩|⟨h1,h2,_⟩|⟨_,g⟩|⟨h1,h2,_⟩|⟨_,g⟩|⟨h1,h2,_⟩|⟨_,_,g⟩|⟨h1,h2,_⟩|⟨_,g⟩;all_goals first|(rw [g] at h;cases h)|(unfold cJ;rw [decide_eq_false_iff_not];omega)
theorem nJ (s:List UInt8) (h:dy s=true): ∀r∈ag s 0,wthn r=true:=fun r hr=>by
 have:=qw _ _ _ h r hr
 unfold wthn;simp only [BI,bP,rD] at this ⊢;rcases this with g|(g|g)|g
 ·exact .inl g
 ·exact .inr (.inl g)
 ·exact .inr (.inr (.inl g))
 ·exact .inr (.inr (.inr (.inl g)))
theorem Hm (s:List UInt8) (h:dy s=true):rV (ag s 0)= .t 1 s 0:=by
 have h':=h;unfold dy at h;obtain ⟨r,t,e,hr⟩:=s7 h;have tx:=hZ s (fun r hr=>(j8 (nJ s h' r hr)).2);unfold rV;rw [tx,if_pos,if_pos h'];right;rw [e];exact zB hr
theorem Hn (s:List UInt8) (h:dy s=true):ag s 0≠[]:=by
 obtain ⟨r,t,e,hr⟩:=s7 h;rw [e];simp
theorem uu (b:UInt8) (h:ay b=true∨b=46∨b=37∨b∈lL):wthn (b.toNat:Int)=true:=by
 rcases h with h|rfl|rfl|h
 ·have:=(bf b).1 h
  have:cJ (b.toNat:Int)=true:=by
   unfold cJ;rw [lK];omega
  unfold wthn;rw [this,Bool.true_or,Bool.or_true]
 ·decide
 ·decide
 ·revert b;decide
def JY (b:UInt8):Prop:=ay b=true∨b=46∨b=37∨b∈lL
theorem Ho {b:UInt8} (h:JY b):b.toNat<128:=by
 rcases h with h|rfl|rfl|h
 ·have:=(bf b).1 h
  omega
 ·decide
 ·decide
 ·exact (po b h).2.2.2
theorem qx (n:Nat): ∀b∈bu n,JY b:=fun b hb=> .inl (fC.1 (ic n) b hb)
theorem uw (m:Nat) (hm:0<m): ∀(f x:Nat),x<10*m→ ∀b∈gr m f x,ay b=true
 |0,x,h,b,hb=>by cases hb
 |f+1,x,h,b,hb=>by
  rw [gr] at hb;split at hb
  ·cases hb
  ·rcases i8.1 hb with rfl|hb
   ·have:x / m≤9:=by
     have:=(Nat.div_lt_iff_lt_mul hm).2 h
     omega
    generalize x / m=y at *
    rw [bf,aZ this];omega
   ·have:=Nat.mod_lt x hm
    exact uw m hm f (x%m*10) (by omega) b hb
structure lv (t:List UInt8):Prop where
 b: ∀b∈t,JY b
 f: ∃q r,t=bu q++r
theorem Ez (n:Nat):lv (bu n):=⟨qx n,n,[],by rw [pc]⟩
theorem Hp (n:Nat):lv (Du n):=by
 refine ⟨fun b hb=>?_,_,_,rfl⟩;unfold Du at hb;rcases gg.1 hb with hb|hb
 ·exact qx _ b hb
 rcases i8.1 hb with rfl|hb
 ·exact .inr (.inl rfl)
 rcases i8.1 hb with rfl|hb
 ·have:n%1000 / 100≤9:=by omega
  left;rw [bf,aZ this];omega
 ·exact .inl (uw 10 (by decide) 2 _ (by omega) b hb)
theorem Hq (p:Nat) (h:p≤1000000):lv (Dr p):=by
 unfold Dr;rw [if_neg (by omega)];refine ⟨fun b hb=>?_,_,_,rfl⟩;rcases gg.1 hb with hb|hb
 ·exact qx _ b hb
 rcases gg.1 hb with hb|hb
 ·split at hb
  ·cases hb
  ·rw [m9] at hb;exact .inr (.inl hb)
 rcases gg.1 hb with hb|hb
 ·exact .inl (uw 1000 (by decide) 4 _ (by omega) b hb)
 ·rw [m9] at hb;exact .inr (.inr (.inl hb))
theorem Hr (n:Nat):lv (qr n):=by
 obtain ⟨h1,q,c,r,h2,h3⟩:=sZ n;refine ⟨fun b hb=>?_,q,c::r,h2⟩;rcases h1 b hb with h|h
 ·exact .inl h
 ·exact .inr (.inr (.inr h))
theorem lv.lt {t:List UInt8} (h:lv t): ∀b∈t,b.toNat<128:=fun b hb=>Ho (h.b b hb)
theorem lv.runes {t:List UInt8} (h:lv t):ag t 0=Dv t:=iP t h.lt
theorem lv.wthn {t:List UInt8} (h:lv t): ∀r∈ag t 0,wthn r=true:=by
 rw [h.runes];intro r hr;obtain ⟨b,hb,rfl⟩:=tO.1 hr;exact uu b (h.b b hb)
theorem lv.ne {t:List UInt8} (h:lv t):ag t 0≠[]:=by
 obtain ⟨q,r,e⟩:=h.f;rw [h.runes,e];unfold Dv;intro g;rw [List.map_eq_nil_iff,List.append_eq_nil_iff] at g;exact kg q g.1
theorem lv.rV {t:List UInt8} (h:lv t):rV (ag t 0)=xU t:=by
 obtain ⟨q,r,e⟩:=h.f;rw [h.runes];exact JU t h.lt q r e
theorem Bc (k:Int) (s:List UInt8) (n:Nat) (hn:n<18446744073709551616) (hk:k=1∨k=3∨k=4∨k=5∨k=6) (h:iw k s n=true):
  (∀r∈ag (eY k s n) 0,wthn r=true)∧ag (eY k s n) 0≠[]∧rV (ag (eY k s n) 0)= .t k s n:=by
 have num: ∀t,lv t→xU t= .t k s n→eY k s n=t→(∀r∈ag (eY k s n) 0,wthn r=true)∧ag (eY k s n) 0≠[]∧Ai.rV (ag (eY k s n) 0)= .t k s n:=fun t h1 h2 h3=>by
  rw [h3];exact ⟨h1.wthn,h1.ne,by rw [h1.rV,h2]⟩
 rcases hk with rfl|rfl|rfl|rfl|rfl
 ·have e:eY 1 s n=s:=by
   unfold eY;rw [h];rfl
  have h':(dy s&&decide (n=0))=true:=h;rw [aC,lK] at h';obtain ⟨h1,rfl⟩:=h';rw [e];exact ⟨nJ s h1,Hn s h1,Hm s h1⟩
 ·have h':(s==[])=true:=h;rw [bP] at h';subst h';exact num (bu n) (Ez n) (Hd n hn) (by unfold eY;rw [h];rfl)
 ·have h':(s==[])=true:=h;rw [bP] at h';subst h';exact num (Du n) (Hp n) (JV n hn) (by unfold eY;rw [h];rfl)
 ·have h':((s==[])&&decide (n≤1000000))=true:=h;rw [aC,bP,lK] at h';obtain ⟨rfl,h2⟩:=h';exact num (Dr n) (Hq n h2) (JW n h2) (by unfold eY;rw [h];rfl)
 ·have h':((s==[])&&decide (n≤253402300799))=true:=h;rw [aC,bP,lK] at h';obtain ⟨rfl,h2⟩:=h';exact num (qr n) (Hr n) (JX n h2) (by unfold eY;rw [h];rfl)
end Go.Ai
