/- P8: a part of the proof. Conditions: as each theorem says. -/
import Derived.Test.YtggemlhclppciaaGreatDoorP7
import Derived.Shelf.Strings.BuilderK
import Derived.Shelf.Strings.SlTrimAscii
import Derived.Shelf.Strings.Fields
import Derived.Shelf.Strings.Search2
import Derived.Lib.SplitLaws
import Derived.Lib.IndexBytes
import Derived.Lib.Bytealg
set_option maxHeartbeats 4000000
set_option linter.unusedSimpArgs false
set_option linter.unusedVariables false
set_option maxRecDepth 20000
namespace Go.Ai
open Go.Proofs
theorem jS (s:List UInt8) (i:Nat) (h:i<s.length):(s[i].toNat<128∧ak s i=((s[i].toNat:Int),1))∨(128≤s[i].toNat∧((ak s i).1<0∨128≤(ak s i).1)):=by
 by_cases c:s[i].toNat<128
 ·left;refine ⟨c,?_⟩;unfold ak;simp only [jk h];rw [if_pos c]
 ·right;refine ⟨by omega,?_⟩;by_cases p:(ak s i).1<0∨128≤(ak s i).1
  ·exact p
  ·have:=qC (s:=s) (i:=i) rfl (by omega) (by omega)
   rw [jk h] at this;omega
def Lu:List UInt8→Nat→Option Nat
 |[],n=>some n
 |b::l,n=>if aC b=true then Lu l ((n*10%4294967296+(b.toNat - 48))%4294967296) else none
theorem bC (b:UInt8):aC b=true↔48≤b.toNat∧b.toNat≤57:=by
 unfold aC;rw [kO]
theorem Aw (s:List UInt8): ∀k i n,s.length - i≤k→uM (ai s i) n=Lu (s.drop i) n:=by
 intro k;induction k with
 |zero=>
  intro i n h;rw [aH (by omega),ui (by omega)];rfl
 |succ k ih=>
  intro i n h;by_cases g:i<s.length
  ·rw [aW g,oU g,uM,Lu];rcases jS s i g with ⟨a,e⟩|⟨a,e⟩
   ·rw [e];dsimp only;by_cases d:48≤s[i].toNat∧s[i].toNat≤57
    ·rw [if_pos (by omega),if_pos ((bC _).2 d),show ((s[i].toNat:Int) - 48).toNat=s[i].toNat - 48 by omega];exact ih _ _ (by omega)
    ·rw [if_neg (by omega),if_neg (fun q=>d ((bC _).1 q))]
   ·rw [if_neg (by omega),if_neg (fun q=>by have:=(bC _).1 q;omega)]
  ·rw [aH g,ui (by omega)];rfl
theorem Jn (s:List UInt8): ∀n,s.all aC=false→Lu s n=none:=by
 induction s with
 |nil=>intro n h;cases h
 |cons b l ih=>
  intro n h;rw [Lu];rw [List.all_cons] at h;by_cases c:aC b=true
  ·rw [if_pos c];rw [c,ib] at h;exact ih _ h
  ·rw [if_neg c]
theorem Lv (s:List UInt8): ∀n,s.all aC=true→n<10^(9 - s.length)→s.length≤9→Lu s n=some (s.foldl (fun a b=>10*a+(b.toNat - 48)) n):=by
 induction s with
 |nil=>intro n _ _ _;rfl
 |cons b l ih=>
  intro n h hn hl;rw [List.all_cons,aE] at h;have d:=(bC b).1 h.1;rw [em] at hn hl;have e9:9 - l.length=(9 - (l.length+1))+1:=by omega
  have p:10^(9 - l.length)=10*10^(9 - (l.length+1)):=by rw [e9,EI,LG]
  have p9:(10:Nat)^(9 - l.length)≤10^9:=Nat.pow_le_pow_right (by decide) (by omega);have v9:(10:Nat)^9=1000000000:=by decide
  rw [v9] at p9;generalize (10:Nat)^(9 - (l.length+1))=X at *
  rw [Lu,if_pos h.1,List.foldl_cons];have e:(n*10%4294967296+(b.toNat - 48))%4294967296=10*n+(b.toNat - 48):=by
   rw [nE (show n*10<4294967296 by omega),nE (by omega)];omega
  rw [e];exact ih _ h.2 (by omega) (by omega)
theorem N5 (s:List UInt8): ∀n,s.all aC=true→ ∃v,Lu s n=some v:=by
 induction s with
 |nil=>intro n _;exact ⟨n,rfl⟩
 |cons b l ih=>
  intro n h;rw [List.all_cons,aE] at h;rw [Lu,if_pos h.1];exact ih _ h.2
theorem jc (s:List UInt8): ∀k i,s.length - i≤k→i≤s.length→(s.drop i).all aC=true→(ai s i).length=s.length - i:=by
 intro k;induction k with
 |zero=>
  intro i h hi _;rw [aH (by omega),vZ];omega
 |succ k ih=>
  intro i h hi hd;by_cases g:i<s.length
  ·rw [oU g,List.all_cons,aE] at hd;have d:=(bC _).1 hd.1;rw [aW g,em];rcases jS s i g with ⟨a,e⟩|⟨a,e⟩
   ·rw [e];dsimp only;rw [ih (i+1) (by omega) (by omega) hd.2];omega
   ·omega
  ·rw [aH g,vZ];omega
theorem tU (s:List UInt8):ai s 0=[]↔s=[]:=by
 constructor
 ·intro h;by_cases g:0<s.length
  ·rw [aW g] at h;cases h
  ·exact AN (by omega)
 ·rintro rfl;exact aH (by simp)
theorem Ez: ∀(j n:Nat),n*10^j<4294967296→xH j n=n*10^j
 |0,n,_=>by rw [xH];simp
 |j+1,n,h=>by
  have e:n*10^(j+1)=n*10*10^j:=by rw [EI,LG (10^j) 10,Nat.mul_assoc]
  rw [e] at h ⊢;have q:1≤10^j:=Nat.pos_of_ne_zero (by simp)
  have:n*10≤n*10*10^j:=Nat.le_mul_of_pos_right _ q
  rw [xH,nE (by omega),Ez j (n*10) h]
theorem Lw (s:List UInt8) (m:Nat) (h:s.all aC=false∨s=[]∨m<s.length):xI (ai s 0) m=(0,false):=by
 unfold xI;rw [Aw s s.length 0 0 (by omega),A7];cases hd:s.all aC
 ·rw [Jn s 0 hd]
 ·obtain ⟨v,hv⟩:=N5 s 0 hd;rw [hv];dsimp only;rw [if_pos];rcases h with h|h|h
  ·rw [hd] at h;cases h
  ·exact .inl ((tU s).2 h)
  ·right;rw [jc s s.length 0 (by omega) (by omega) hd];exact h
theorem Jo (s:List UInt8) (m:Nat) (h1:s.all aC=true) (h2:s≠[]) (h3:s.length≤m) (h4:m≤9):xI (ai s 0) m=(aL s*10^(m - s.length),true):=by
 unfold xI;rw [Aw s s.length 0 0 (by omega),A7,Lv s 0 h1 (Nat.pos_of_ne_zero (by simp)) (by omega)];dsimp only;have rd:=jc s s.length 0 (by omega) (by omega) h1;rw [if_neg (by rintro (h|h);exact h2 ((tU s).1 h);omega),rd,Nat.sub_zero];have hu:=tA s h1;have e:aL s=s.foldl (fun a b=>10*a+(b.toNat - 48)) 0:=rfl;rw [←e];have b:aL s*10^(m - s.length)<4294967296:=by
  have h5:aL s*10^(m - s.length)<10^s.length*10^(m - s.length):=Nat.mul_lt_mul_of_pos_right hu (Nat.pos_of_ne_zero (by simp));rw [←Nat.pow_add,show s.length+(m - s.length)=m by omega] at h5;have h6:(10:Nat)^m≤10^9:=Nat.pow_le_pow_right (by decide) h4;have v9:(10:Nat)^9=1000000000:=by decide
  omega
 rw [Ez _ _ b]
open Go.Shelf
def aK:Ren:={
 f:=fun x=>match x with
  |160=>142
  |232=>169
  |231=>182
  |227=>170
  |234=>171
  |233=>183
  |236=>172
  |235=>184
  |228=>204
  |271=>205
  |151=>206
  |197=>208
  |120=>226
  |152=>219
  |260=>227
  |137=>238
  |119=>239
  |224=>230
  |225=>229
  |217=>228
  |266=>243
  |n=>n
 t:=fun x=>match x with
  |9=>9
  |4=>4
  |3=>3
  |5=>5
  |117=>214
  |116=>213
  |0=>0
  |124=>217
  |21=>21
  |105=>249
  |46=>173
  |119=>201
  |139=>204
  |138=>203
  |n=>n
 g:=fun x=>match x with
  |3=>0
  |4=>1
  |n=>n}
set_option maxRecDepth 100000 in
theorem Ax:Lays.n160 Tryz.prog aK where
 mixed:=by kernel_rfl
 f119:=Eq.trans Tryz.func239 (congrArg some (show Tryz.f239=Body.n119 aK by kernel_rfl))
 f120:=Eq.trans Tryz.func226 (congrArg some (show Tryz.f226=Body.n120 aK by kernel_rfl))
 f137:=Eq.trans Tryz.func238 (congrArg some (show Tryz.f238=Body.n137 aK by kernel_rfl))
 f151:=Eq.trans Tryz.func206 (congrArg some (show Tryz.f206=Body.n151 aK by kernel_rfl))
 f152:=Eq.trans Tryz.func219 (congrArg some (show Tryz.f219=Body.n152 aK by kernel_rfl))
 f160:=Eq.trans Tryz.func142 (congrArg some (show Tryz.f142=Body.n160 aK by kernel_rfl))
 f197:=Eq.trans Tryz.func208 (congrArg some (show Tryz.f208=Body.n197 aK by kernel_rfl))
 f217:=Eq.trans Tryz.func228 (congrArg some (show Tryz.f228=Body.n217 aK by kernel_rfl))
 f224:=Eq.trans Tryz.func230 (congrArg some (show Tryz.f230=Body.n224 aK by kernel_rfl))
 f225:=Eq.trans Tryz.func229 (congrArg some (show Tryz.f229=Body.n225 aK by kernel_rfl))
 f227:=Eq.trans Tryz.func170 (congrArg some (show Tryz.f170=Body.n227 aK by kernel_rfl))
 f228:=Eq.trans Tryz.func204 (congrArg some (show Tryz.f204=Body.n228 aK by kernel_rfl))
 f231:=Eq.trans Tryz.func182 (congrArg some (show Tryz.f182=Body.n231 aK by kernel_rfl))
 f232:=Eq.trans Tryz.func169 (congrArg some (show Tryz.f169=Body.n232 aK by kernel_rfl))
 f233:=Eq.trans Tryz.func183 (congrArg some (show Tryz.f183=Body.n233 aK by kernel_rfl))
 f234:=Eq.trans Tryz.func171 (congrArg some (show Tryz.f171=Body.n234 aK by kernel_rfl))
 f235:=Eq.trans Tryz.func184 (congrArg some (show Tryz.f184=Body.n235 aK by kernel_rfl))
 f236:=Eq.trans Tryz.func172 (congrArg some (show Tryz.f172=Body.n236 aK by kernel_rfl))
 f260:=Eq.trans Tryz.func227 (congrArg some (show Tryz.f227=Body.n260 aK by kernel_rfl))
 f266:=Eq.trans Tryz.func243 (congrArg some (show Tryz.f243=Body.n266 aK by kernel_rfl))
 f271:=Eq.trans Tryz.func205 (congrArg some (show Tryz.f205=Body.n271 aK by kernel_rfl))
 t0:=Tryz.underlying0
 a0:=Tryz.isAgg0
 z0:=Tryz.sizeOf0
 v0:=Tryz.zeroValue0
 t3:=Tryz.underlying3
 a3:=Tryz.isAgg3
 z3:=Tryz.sizeOf3
 v3:=Tryz.zeroValue3
 t4:=Tryz.underlying4
 a4:=Tryz.isAgg4
 z4:=Tryz.sizeOf4
 v4:=Tryz.zeroValue4
 t5:=Tryz.underlying5
 a5:=Tryz.isAgg5
 z5:=Tryz.sizeOf5
 v5:=Tryz.zeroValue5
 t9:=Tryz.underlying9
 a9:=Tryz.isAgg9
 z9:=Tryz.sizeOf9
 v9:=Tryz.zeroValue9
 t21:=Tryz.underlying21
 a21:=Tryz.isAgg21
 z21:=Tryz.sizeOf21
 v21:=Tryz.zeroValue21
 t46:=Tryz.underlying173
 a46:=Tryz.isAgg173
 z46:=Tryz.sizeOf173
 v46:=Tryz.zeroValue173
 t105:=Tryz.underlying249
 a105:=Tryz.isAgg249
 z105:=Tryz.sizeOf249
 v105:=Tryz.zeroValue249
 t116:=Tryz.underlying213
 a116:=Tryz.isAgg213
 z116:=Tryz.sizeOf213
 t117:=Tryz.underlying214
 a117:=Tryz.isAgg214
 z117:=Tryz.sizeOf214
 v117:=Tryz.zeroValue214
 t119:=Tryz.underlying201
 a119:=Tryz.isAgg201
 z119:=Tryz.sizeOf201
 t124:=Tryz.underlying217
 a124:=Tryz.isAgg217
 z124:=Tryz.sizeOf217
 v124:=Tryz.zeroValue217
 t138:=Tryz.underlying203
 a138:=Tryz.isAgg203
 z138:=Tryz.sizeOf203
 v138:=Tryz.zeroValue203
 t139:=Tryz.underlying204
 a139:=Tryz.isAgg204
 z139:=Tryz.sizeOf204
 v139:=Tryz.zeroValue204
 g3:=by kernel_rfl
 g4:=by kernel_rfl
theorem nr (s:List UInt8) (hs:s.length≤1000000):Sp Tryz.prog gl 142 [.str s,.str [48,49,50,51,52,53,54,55,56,57]] (.str (Lib.trimS s [48,49,50,51,52,53,54,55,56,57])):=by
 refine fx Ax.f160 (by kernel_rfl) (by kernel_rfl) ?_;intro S gb w vs hvs hag;simp only [aa] at hvs;obtain ⟨v1,_,rfl,p1,v2,_,rfl,p2,rfl⟩:=hvs;simp only [PR] at p1 p2;subst p1;subst p2;refine (Any.strings_Trim_laid Ax (by kernel_rfl) ⟨s.toArray⟩ ⟨[48,49,50,51,52,53,54,55,56,57].toArray⟩ w (by simp only [ByteArray.size,List.size_toArray];omega) (by decide) (ascii_of_all (by decide))).mono ?_;rintro e w' ⟨rfl,h⟩;exact ⟨_,rfl,h,by simp only [PR]⟩
set_option maxRecDepth 100000 in
theorem N6 (b:UInt8):([48,49,50,51,52,53,54,55,56,57]:List UInt8).contains b=aC b:=by
 have h: ∀n:Fin 256,([48,49,50,51,52,53,54,55,56,57]:List UInt8).contains (UInt8.ofNat n.1)=decide (48≤n.1∧n.1≤57):=by decide
 have h2:=h ⟨b.toNat,b.toNat_lt⟩;rw [UInt8.ofNat_toNat] at h2;exact h2
theorem xJ {α:Type} (p:α→Bool): ∀l:List α,l.dropWhile p=[]↔l.all p=true
 |[]=>by simp
 |a::l=>by
  have ih:=xJ p l;rw [List.dropWhile_cons,List.all_cons];cases h:p a
  ·simp
  ·simpa using ih
theorem pU (s:List UInt8):(Lib.trimS s [48,49,50,51,52,53,54,55,56,57]==[])=s.all aC:=by
 have e:(fun b:UInt8=>([48,49,50,51,52,53,54,55,56,57]:List UInt8).contains b)=aC:=funext N6;unfold Lib.trimS Lib.trimLeftS Lib.trimRightS;rw [e,Bool.eq_iff_iff,bP,xJ,List.all_reverse];constructor
 ·intro h;have h2:s.reverse.dropWhile aC=[]:=by
   cases g:s.reverse.dropWhile aC with
   |nil=>rfl
   |cons a t=>
    have ha:aC a=false:=by
     have:=List.head?_dropWhile_not aC s.reverse
     rw [g] at this;simpa using this
    rw [g,List.all_cons,ha] at h;cases h
  rw [xJ,List.all_reverse] at h2;exact h2
 ·intro h;rw [←List.all_reverse,←xJ] at h;rw [h];rfl
def dK:Ren:={
 f:=fun x=>match x with
  |219=>214
  |217=>228
  |225=>229
  |224=>230
  |267=>231
  |266=>243
  |314=>244
  |n=>n
 t:=fun x=>match x with
  |9=>9
  |3=>3
  |4=>4
  |5=>5
  |46=>173
  |146=>220
  |51=>39
  |n=>n
 g:=fun x=>match x with
  |1=>3
  |n=>n}
set_option maxRecDepth 100000 in
theorem Lx:Lays.n219 Tryz.prog dK where
 mixed:=by kernel_rfl
 f217:=Eq.trans Tryz.func228 (congrArg some (show Tryz.f228=Body.n217 dK by kernel_rfl))
 f219:=Eq.trans Tryz.func214 (congrArg some (show Tryz.f214=Body.n219 dK by kernel_rfl))
 f224:=Eq.trans Tryz.func230 (congrArg some (show Tryz.f230=Body.n224 dK by kernel_rfl))
 f225:=Eq.trans Tryz.func229 (congrArg some (show Tryz.f229=Body.n225 dK by kernel_rfl))
 f266:=Eq.trans Tryz.func243 (congrArg some (show Tryz.f243=Body.n266 dK by kernel_rfl))
 f267:=Eq.trans Tryz.func231 (congrArg some (show Tryz.f231=Body.n267 dK by kernel_rfl))
 f314:=Eq.trans Tryz.func244 (congrArg some (show Tryz.f244=Body.n314 dK by kernel_rfl))
 t3:=Tryz.underlying3
 a3:=Tryz.isAgg3
 z3:=Tryz.sizeOf3
 v3:=Tryz.zeroValue3
 t4:=Tryz.underlying4
 a4:=Tryz.isAgg4
 z4:=Tryz.sizeOf4
 v4:=Tryz.zeroValue4
 t5:=Tryz.underlying5
 a5:=Tryz.isAgg5
 z5:=Tryz.sizeOf5
 v5:=Tryz.zeroValue5
 t9:=Tryz.underlying9
 a9:=Tryz.isAgg9
 z9:=Tryz.sizeOf9
 v9:=Tryz.zeroValue9
 t46:=Tryz.underlying173
 a46:=Tryz.isAgg173
 z46:=Tryz.sizeOf173
 v46:=Tryz.zeroValue173
 t51:=Tryz.underlying39
 a51:=Tryz.isAgg39
 z51:=Tryz.sizeOf39
 v51:=Tryz.zeroValue39
 t146:=Tryz.underlying220
 a146:=Tryz.isAgg220
 z146:=Tryz.sizeOf220
 v146:=Tryz.zeroValue220
 g1:=by kernel_rfl
theorem oQ (c:UInt8): ∀(a:List UInt8),(∀b∈a,b≠c)→Lib.indexByte a c= -1
 |[],_=>rfl
 |b::r,h=>by
  have hb:b≠c:=h b (by simp);rw [Lib.indexByte,oQ c r (fun x hx=>h x (by simp [hx]))];simp [hb]
theorem Ay (c:UInt8): ∀(a r:List UInt8),(∀b∈a,b≠c)→Lib.indexByte (a++c::r) c=(a.length:Int)
 |[],r,_=>by simp [Lib.indexByte]
 |b::a,r,h=>by
  have hb:b≠c:=h b (by simp);have ih:=Ay c a r (fun x hx=>h x (by simp [hx]));rw [bH,Lib.indexByte,ih];have h1:((a.length:Int)== -1)=false:=by rw [cI];omega
  simp [hb,h1]
theorem PT (c:UInt8): ∀(s:List UInt8),(∀b∈s,b≠c)∨ ∃a r,s=a++c::r∧ ∀b∈a,b≠c
 |[]=> .inl (by simp)
 |b::s=>by
  by_cases hb:b=c
  ·subst hb;exact .inr ⟨[],s,rfl,by simp⟩
  ·rcases PT c s with h|⟨a,r,rfl,h⟩
   ·left;intro x hx;rcases jU.1 hx with rfl|hx
    ·exact hb
    ·exact h x hx
   ·right;refine ⟨b::a,r,rfl,fun x hx=>?_⟩;rcases jU.1 hx with rfl|hx
    ·exact hb
    ·exact h x hx
theorem xK {p:UInt8→Bool}: ∀ {a:List UInt8},(∀b∈a,p b=true)→a.takeWhile p=a
 |[],_=>rfl
 |b::a,h=>by
  rw [List.takeWhile_cons,if_pos (h b (by simp)),xK (fun x hx=>h x (by simp [hx]))]
theorem C7 {p:UInt8→Bool} {c:UInt8} (hc:p c=false): ∀ {a r:List UInt8},(∀b∈a,p b=true)→(a++c::r).takeWhile p=a
 |[],r,_=>by simp [hc]
 |b::a,r,h=>by
  rw [bH,List.takeWhile_cons,if_pos (h b (by simp)),C7 hc (fun x hx=>h x (by simp [hx]))]
def fF (s:List UInt8):Nat×Bool:=
 if bJ s=true then (if 3<(ai s 0).length then (101,true) else (min (xI (ai s 0) s.length).1 101,(xI (ai s 0) s.length).2)) else (0,false)
theorem tV (s:List UInt8) (hl:s.length≤1000000):Sp Tryz.prog gl 189 [.str s] (.tup [.int .u32 (fF s).1,.bool (fF s).2]):=by
 refine R7 rfl rfl ?_;have TR:=nr s hl;have TN:=pU s;have RC:=As s hl;have PN:=oP s hl s.length hl;unfold fF;generalize (ai s 0).length=rc at *
 generalize xI (ai s 0) s.length=q at *
 obtain ⟨n,o⟩:=q;dsimp only at PN ⊢;generalize Lib.trimS s [48,49,50,51,52,53,54,55,56,57]=tr at *
 by_cases e:s=[]
 ·subst e;clear PN TN TR RC;rw [if_neg (by decide)];simp [A4]
 have en:(s==[])=false:=cI.2 e;have g0:0<s.length:=xO.2 e;have hh:s.headD 0=s[0]:=by
  cases s with
  |nil=>exact absurd rfl e
  |cons a t=>rfl
 have ie:s.isEmpty=false:=by rw [List.isEmpty_eq_false_iff];exact e
 have h48:s[0]=48↔(s[0].toNat:Int)=48:=by
  constructor
  ·intro h;rw [h];rfl
  ·intro h;exact Og.1 (by show s[0].toNat=48;omega)
 have od:bJ s=(s.all aC&&(s[0]!=48||s.length==1)):=by
  unfold bJ;rw [ie,hh];rfl
 rw [od,←TN];clear TN od hh ie;by_cases c1:(s[0].toNat:Int)=48
 ·have e1:(s[0]!=48)=false:=by rw [bne_eq_false_iff_eq];exact h48.2 c1
  rw [e1,Bool.false_or];by_cases c2:1<s.length
  ·have c2':(1:Int)<s.length:=by omega
   rw [show (s.length==1)=false by rw [cI];omega,Mz,if_neg (by decide)];clear PN TR RC;simp [A4,e,en,g0,c1,c2,c2']
  ·have c2': ¬(1:Int)<s.length:=by omega
   rw [show (s.length==1)=true by rw [bP];omega,Bool.and_true];cases ht:(tr==[])
   ·have ht1:(tr !=[])=true:=by unfold bne;rw [ht];rfl
    have ht2: ¬tr=[]:=fun h=>by rw [h] at ht;cases ht
    rw [if_neg (by decide)];clear PN RC;simp [A4,e,en,g0,c1,c2,c2'];apply ab TR;simp [ht1,ht2,show tr.isEmpty=false by rw [List.isEmpty_eq_false_iff];exact ht2]
   have ht2:tr=[]:=by simpa using ht
   subst ht2;rw [if_pos rfl];simp [A4,e,en,g0,c1,c2,c2'];apply ab TR;simp;apply ab RC;by_cases cr:3<rc
   ·have cr':(3:Int)<rc:=by omega
    rw [if_pos cr];simp [cr,cr']
   have cr': ¬(3:Int)<rc:=by omega
   rw [if_neg cr];simp [cr,cr'];apply ab PN;have cm:((min n 101:Nat):Int)=(if 101<(n:Int) then 101 else (n:Int)):=by split<;>omega
   simp [cm]
 ·have e1:(s[0]!=48)=true:=by rw [bne_iff_ne];exact fun h=>c1 (h48.1 h)
  have c1':((s[0].toNat:Int)==48)=false:=cI.2 c1;rw [e1,Bool.true_or,Bool.and_true];cases ht:(tr==[])
  ·have ht1:(tr !=[])=true:=by unfold bne;rw [ht];rfl
   have ht2: ¬tr=[]:=fun h=>by rw [h] at ht;cases ht
   rw [if_neg (by decide)];clear PN RC;simp [A4,e,en,g0,c1,c1'];apply ab TR;simp [ht1,ht2,show tr.isEmpty=false by rw [List.isEmpty_eq_false_iff];exact ht2]
  have ht2:tr=[]:=by simpa using ht
  subst ht2;rw [if_pos rfl];simp [A4,e,en,g0,c1,c1'];apply ab TR;simp;apply ab RC;by_cases cr:3<rc
  ·have cr':(3:Int)<rc:=by omega
   rw [if_pos cr];simp [cr,cr']
  have cr': ¬(3:Int)<rc:=by omega
  rw [if_neg cr];simp [cr,cr'];apply ab PN;have cm:((min n 101:Nat):Int)=(if 101<(n:Int) then 101 else (n:Int)):=by split<;>omega
  simp [cm]
theorem vS (s:List UInt8) (c:UInt8):Sp Tryz.prog gl 214 [.str s,.str [c]] (i6 (Lib.indexByte s c)):=
 Bg Lx (by kernel_rfl) (by kernel_rfl) s c
def bW (c:UInt8) (b:UInt8):Bool:=b !=c
theorem Az (c:UInt8) (s:List UInt8):Lib.indexByte s c=if (s.takeWhile (bW c)).length<s.length then ((s.takeWhile (bW c)).length:Int) else -1:=by
 rcases PT c s with h|⟨a,r,rfl,h⟩
 ·have e:s.takeWhile (bW c)=s:=xK fun b hb=>by simp [bW,h b hb]
  rw [oQ c s h,e,if_neg (Nat.lt_irrefl _)]
 ·have e:(a++c::r).takeWhile (bW c)=a:=C7 (by simp [bW]) fun b hb=>by simp [bW,h b hb]
  rw [Ay c a r h,e,if_pos (by simp)]
theorem tW (c:UInt8): ∀(s:List UInt8),s.take (s.takeWhile (bW c)).length=s.takeWhile (bW c)
 |[]=>rfl
 |b::s=>by
  rw [List.takeWhile_cons];split
  ·rw [em,List.take_succ_cons,tW c s]
  ·rfl
def vT (c:UInt8) (s:List UInt8):AV:=if (s.takeWhile (bW c)).length<s.length then .tup [.str (s.takeWhile (bW c)),.str (s.drop ((s.takeWhile (bW c)).length+1)),.bool true] else .tup [.str s,.str [],.bool false]
theorem C8 (c:UInt8) (s:List UInt8) (hl:s.length≤1000000):Sp Tryz.prog gl 212 [.str s,.str [c]] (vT c s):=by
 refine Sl rfl rfl ?_;have IX:=vS s c;rw [Az] at IX;have ht:=tW c s;unfold vT;by_cases h:(s.takeWhile (bW c)).length<s.length
 ·rw [if_pos h] at IX ⊢;generalize (s.takeWhile (bW c)).length=n at *
  have t1:IntKind.i64.wrap ((n:Int)+1)=(n+1:Nat):=by rw [aj]<;>omega
  have q1:(0:Int)≤n:=by omega
  have q2:(n:Int)≤s.length:=by omega
  have q5:n≤s.length:=by omega
  have q3:((n+1:Nat):Int)≤s.length:=by omega
  have q4:(0:Int)≤((n+1:Nat):Int):=by omega
  have e1:((n+1:Nat):Int).toNat=n+1:=by omega
  have e2:List.drop (n+1) (s.take s.length)=s.drop (n+1):=by rw [qJ]
  generalize ((n+1:Nat):Int)=m at *
  simp [Mx];refine ay _ IX ?_;simp [q1];simp only [t1];simp [q1,q2,q3,q4,q5,e1,ht]
 ·rw [if_neg h] at IX ⊢;clear ht;simp [Mx];refine ay _ IX ?_;simp
theorem tX (c:UInt8) (s:List UInt8) (hl:s.length≤1000000):Sp Tryz.prog gl 188 [.str s,.str [c]] (vT c s):=by
 refine R6 rfl rfl ?_;have C:=C8 c s hl;unfold vT at C ⊢;by_cases h:(s.takeWhile (bW c)).length<s.length
 ·rw [if_pos h] at C ⊢;simp [Mu];refine ay _ C ?_;simp
 ·rw [if_neg h] at C ⊢;simp [Mu];refine ay _ C ?_;simp
theorem oR (s:List UInt8):(ag s).length=s.length:=by simp [ag]
theorem AA (s:List UInt8) (i:Nat) (h:i<s.length) (h2:i<(ag s).length):(ag s)[i]=[.int .u8 s[i].toNat]:=by simp [ag]
theorem Jp (s:List UInt8) (h0:s≠[]) (hd:s.all aC=true) (hl:s.length≤18):Sp Tryz.prog gl 215 [.str s,i6 10,i6 64] (.tup [u (aL s),.nili]):=by
 refine Sn rfl rfl ?_;have en:(s==[])=false:=cI.2 h0;obtain ⟨RR,hRR⟩: ∃R,R=ag s:=⟨_,rfl⟩;have rl:=oR s;have rat:=AA s;rw [←hRR] at rl;simp only [←hRR] at rat;have b18: ∀i,i≤s.length→aL (s.take i)<1000000000000000000:=fun i hi=>by
  have:=tA (s.take i) (by
   rw [gE] at hd ⊢;exact fun x hx=>hd x (A5 hx))
  refine vX this ?_
  have:(10:Nat)^(s.take i).length≤10^18:=Nat.pow_le_pow_right (by decide) (by rw [rH];omega)
  simpa using this
 have x1:IntKind.u64.wrap 64=64:=by decide
 have x2:IntKind.u64.wrap (2^min 64 IntKind.u64.bits)=0:=by decide
 have x3:IntKind.u64.wrap (-1)=18446744073709551615:=by decide
 have x4:IntKind.u8.wrap 10=10:=by decide
 have x5:IntKind.u64.wrap 10=10:=by decide
 have u0:aL []=0:=rfl;simp [O3,h0,en,x1,x2,x3,←hRR];refine aP (α:=Nat) (fun i=>⟨[(1,i6 10),(8,.bool false),(10,u 1844674407370955162),(11,u 18446744073709551615),(12,.bool false),(13,u (aL (s.take i))),(99,.sl RR),(100,i6 s.length),(101,i6 i)],[],[]⟩)
  (fun i=>i≤s.length) (fun i=>s.length - i) ?_ 0 (iA _) ?_
 ·rintro K i hK h1;by_cases g:i<s.length
  ·have g':(i:Int)<s.length:=by omega
   have gR:i<RR.length:=by omega
   have ra:=rat i g gR;have dq:=(bC _).1 (gE.1 hd _ (ml g));have t1:IntKind.i64.wrap ((i:Int)+1)=(i+1:Nat):=by rw [aj]<;>omega
   have fin:=fun σ' hσ=>hK (i+1) σ' g (by omega) hσ
   rw [Dg g,gA] at fin;have vl:=b18 i h1;clear hK rat b18 hd;generalize aL (s.take i)=v at *
   generalize s[i]=c at *
   have q1:((c.toNat:Int)==95)=false:=cI.2 (by omega);have q2:(48:Int)≤c.toNat:=by omega
   have q3:(c.toNat:Int)≤57:=by omega
   have w1:IntKind.u8.wrap ((c.toNat:Int) - 48)=((c.toNat - 48:Nat):Int):=by rw [dx]<;>omega
   have dl:c.toNat - 48≤9:=by omega
   generalize c.toNat - 48=d at *
   have q4: ¬(10:Int)≤d:=by omega
   have q5: ¬(1844674407370955162:Int)≤v:=by omega
   have w2:IntKind.u64.wrap ((v:Int)*10)=((10*v:Nat):Int):=by rw [a6]<;>omega
   have w3:IntKind.u64.wrap (d:Int)=d:=by rw [a6]<;>omega
   have w4:IntKind.u64.wrap (((10*v:Nat):Int)+d)=((10*v+d:Nat):Int):=by rw [a6]<;>omega
   have q6: ¬((10*v+d:Nat):Int)<((10*v:Nat):Int):=by omega
   have q7: ¬(18446744073709551615:Int)<((10*v+d:Nat):Int):=by omega
   generalize 10*v+d=z2 at *
   generalize 10*v=z1 at *
   simp [g,g',gR,rl,ra,q1,q2,q3,w1,x4,q4,q5,x5,w2,w3,w4,q6,q7];refine fin _ ?_;apply ae<;>simp [t1]
  ·obtain rfl:i=s.length:=by omega
   have g': ¬(s.length:Int)<s.length:=by omega
   rw [qJ];clear hK;simp [g']
 ·apply ae<;>simp [x1,x2,x3,u0,hRR,oR]
theorem Jq (s:List UInt8) (h0:s≠[]) (hd:s.all aC=true) (hl:s.length≤18):Sp Tryz.prog gl 192 [.str s,i6 10,i6 64] (.tup [u (aL s),.nili]):=by
 refine Sa rfl rfl ?_;have H:=Jp s h0 hd hl;generalize aL s=n at *
 simp [OU];refine aB _ _ ((H.h)) ?_;simp
theorem Up (tl:List UInt8) (h0:tl≠[]) (h3: ¬3<tl.length):aL ((tl++[48,48]).take 3)=kG tl 3:=by
 rcases tl with _|⟨a,_|⟨b,_|⟨c,_|⟨d,t⟩⟩⟩⟩
 ·exact absurd rfl h0
 ·simp [aL,kG,Au]
 ·simp [aL,kG,Au]
 ·simp [aL,kG,Au]
 ·simp at h3
theorem tY (tl:List UInt8) (h0:tl≠[]) (h3: ¬3<tl.length):((tl++[48,48]).take 3).length=3:=by
 have:=xO.2 h0
 rw [rH,cG];simp;omega
theorem Jr (tl:List UInt8) (h:tl.all aC=true):((tl++[48,48]).take 3).all aC=true:=by
 rw [gE] at h ⊢;intro x hx;rcases iB.1 (A5 hx) with hx|hx
 ·exact h x hx
 ·simp at hx;subst hx;rfl
theorem xL (s:List UInt8) (hl:s.length≤1000000) (hp:(s.takeWhile (bW 46)).length<s.length):
  Sp Tryz.prog gl 148 [.str s] (bZ 4 (C5 (s.takeWhile (bW 46)) (s.drop ((s.takeWhile (bW 46)).length+1)))).av:=by
 refine RO rfl rfl ?_;have CB:=tX 46 s hl;unfold vT at CB;rw [if_pos hp] at CB;have hl1:(s.takeWhile (bW 46)).length≤1000000:=by omega
 have hl2:(s.drop ((s.takeWhile (bW 46)).length+1)).length≤1000000:=by rw [uk];omega
 generalize s.drop ((s.takeWhile (bW 46)).length+1)=tl at *
 generalize s.takeWhile (bW 46)=hd at *
 have NU:=oN hd hl1;have TR:=nr tl hl2;have TN:=pU tl;have nlt:=Lt hd;unfold C5;generalize kA hd=q at *
 generalize Lib.trimS tl [48,49,50,51,52,53,54,55,56,57]=tr at *
 obtain ⟨n,e⟩:=q;unfold Ls at NU;dsimp only at NU nlt ⊢;have dgF:iO tl=(tl.all aC&&decide (0<tl.length)):=rfl;have te:tl=[]→iO tl=false:=by rintro rfl;rfl
 have tf:tl.all aC=false→iO tl=false:=fun h=>by rw [dgF,h,iR]
 have tg:tl≠[]→tl.all aC=true→iO tl=true:=fun h1 h2=>by
  rw [dgF,h2,ib,io (xO.2 h1)]
 by_cases e0:e=0
 ·subst e0;rw [if_pos rfl] at NU;by_cases c1:tl=[]
  ·rw [if_pos (.inl (te c1))];subst c1;unfold bZ TV.av;simp [rE];apply ab CB;simp;refine aB _ _ ((NU.h)) ?_;simp
  have c1':(tl==[])=false:=cI.2 c1;by_cases c2:3<tl.length
  ·have c2':(3:Int)<tl.length:=by omega
   rw [if_pos (.inr c2)];unfold bZ TV.av;simp [rE];apply ab CB;simp;refine aB _ _ ((NU.h)) ?_;simp [c1,c1',c2,c2']
  have c2': ¬(3:Int)<tl.length:=by omega
  cases c3:tl.all aC
  ·rw [c3] at TN;have k1:(tr !=[])=true:=by unfold bne;rw [TN];rfl
   have k2: ¬tr=[]:=fun h=>by rw [h] at TN;cases TN
   rw [if_pos (.inl (tf c3))];unfold bZ TV.av;simp [rE];apply ab CB;simp;refine aB _ _ ((NU.h)) ?_;simp [c1,c1',c2,c2'];apply ab TR;simp [k1,k2,show tr.isEmpty=false by rw [List.isEmpty_eq_false_iff];exact k2]
  rw [c3] at TN;have k2:tr=[]:=by simpa using TN
  subst k2;rw [if_neg (by rintro (h|h);rw [tg c1 c3] at h;cases h;exact c2 h),if_neg (by decide)];have f3:=Up tl c1 c2;have PU:=Jq ((tl++[48,48]).take 3) (fun h=>by have:=tY tl c1 c2;rw [h] at this;cases this) (Jr tl c3) (by rw [tY tl c1 c2];omega);rw [f3] at PU;have fl:kG tl 3<1000:=C6 tl (Ey (tg c1 c3)) 3;have fle:=tY tl c1 c2;have fle':3≤(tl++[48,48]).length:=by rw [rH] at fle;omega
  have fle2:(3:Int)≤((tl++[48,48]).length:Int):=by omega
  have fle3:3≤tl.length+2:=by simpa using fle'
  have fle4:(3:Int)≤(tl.length:Int)+2:=by omega
  have fle5:1≤tl.length:=by omega
  have fle6:tl.length≤9223372036854775805:=by omega
  clear fle f3 tg tf te dgF;generalize kG tl 3=t at *
  have TM:=mV n 1000 nlt (by omega);have XA:=pQ (n*1000) t (by omega) (by omega);rw [if_pos (by omega)] at XA;have ws: ∀z,wide z= .agg [u (z / 18446744073709551616),u (z%18446744073709551616)]:=fun _=>rfl
  have wt:wide t= .agg [u 0,u t]:=by rw [ws,Nat.div_eq_of_lt (by omega),nE (by omega)]
  rw [wt] at XA;have w3:=ws (n*1000);rw [w3] at TM XA;have h2:n*1000+t<18446744073709551616∨18446744073709551616≤n*1000+t:=by omega
  have hs:n*1000+t<340282366920938463463374607431768211456:=by omega
  rcases h2 with h2|h2
  ·have w2:wide (n*1000+t)= .agg [u 0,u (n*1000+t:Nat)]:=by rw [ws,Nat.div_eq_of_lt h2,nE h2]
   rw [w2] at XA;rw [if_neg (by omega),LG 1000 n];unfold bZ;dsimp only;rw [if_pos rfl];unfold TV.av;clear w2 w3 ws wt h2 hs;generalize n*1000+t=z at *
   generalize n*1000 / 18446744073709551616=a1 at *
   generalize n*1000%18446744073709551616=a0 at *
   simp [rE];apply ab CB;simp;refine aB _ _ ((NU.h)) ?_;simp [c1,c1',c2,c2'];apply ab TR;simp [fle',fle2,fle3,fle4,fle5,fle6];refine aB _ _ ((PU.h)) ?_;simp;apply ab TM;simp;apply ab XA;simp
  ·obtain ⟨h1,hh1⟩: ∃h1,h1=(n*1000+t) / 18446744073709551616:=⟨_,rfl⟩;have g1:0<h1:=by omega
   have g1':(0:Int)<h1:=by omega
   have w2:=ws (n*1000+t);rw [←hh1] at w2;rw [w2] at XA;rw [if_pos (by omega)];unfold bZ;dsimp only;rw [if_neg (by decide)];unfold TV.av;clear w2 w3 ws wt h2 hs hh1;generalize (n*1000+t)%18446744073709551616=z at *
   generalize n*1000 / 18446744073709551616=a1 at *
   generalize n*1000%18446744073709551616=a0 at *
   simp [rE];apply ab CB;simp;refine aB _ _ ((NU.h)) ?_;simp [c1,c1',c2,c2'];apply ab TR;simp [fle',fle2,fle3,fle4,fle5,fle6];refine aB _ _ ((PU.h)) ?_;simp;apply ab TM;simp;apply ab XA;simp [g1,g1']
 ·rw [if_neg e0] at NU;by_cases e5:e=5
  ·subst e5
   have:(if iO tl=false∨3<tl.length then ((0:Nat),(5:Int)) else if (5:Int)≠0 then (0,5) else if (18446744073709551615 - kG tl 3) / 1000<n then (0,8) else (1000*n+kG tl 3,0))=(0,5):=by
    split
    ·rfl
    ·rfl
   rw [this];unfold bZ TV.av;simp [rE];apply ab CB;simp;refine aB _ _ ((NU.h)) ?_;simp
  have e5':(e==5)=false:=cI.2 e5;by_cases c1:tl=[]
  ·rw [if_pos (.inl (te c1))];subst c1;unfold bZ TV.av;simp [rE];apply ab CB;simp;refine aB _ _ ((NU.h)) ?_;simp [e5,e5']
  have c1':(tl==[])=false:=cI.2 c1;by_cases c2:3<tl.length
  ·have c2':(3:Int)<tl.length:=by omega
   rw [if_pos (.inr c2)];unfold bZ TV.av;simp [rE];apply ab CB;simp;refine aB _ _ ((NU.h)) ?_;simp [e5,e5',c1,c1',c2,c2']
  have c2': ¬(3:Int)<tl.length:=by omega
  cases c3:tl.all aC
  ·rw [c3] at TN;have k1:(tr !=[])=true:=by unfold bne;rw [TN];rfl
   have k2: ¬tr=[]:=fun h=>by rw [h] at TN;cases TN
   rw [if_pos (.inl (tf c3))];unfold bZ TV.av;simp [rE];apply ab CB;simp;refine aB _ _ ((NU.h)) ?_;simp [e5,e5',c1,c1',c2,c2'];apply ab TR;simp [k1,k2,show tr.isEmpty=false by rw [List.isEmpty_eq_false_iff];exact k2]
  rw [c3] at TN;have k2:tr=[]:=by simpa using TN
  subst k2;rw [if_neg (by rintro (h|h);rw [tg c1 c3] at h;cases h;exact c2 h),if_pos e0];unfold bZ;dsimp only;rw [if_neg e0];unfold TV.av;simp [rE];apply ab CB;simp;refine aB _ _ ((NU.h)) ?_;simp [e5,e5',c1,c1',c2,c2'];apply ab TR;simp
def dC (r:Int):Nat:=if r=119 then 0 else if r=100 then 1 else if r=104 then 2 else if r=109 then 3 else if r=115 then 4 else 5
def uN (j:Nat):Nat:=if j=0 then 1000000 else if j=1 then 604800 else if j=2 then 86400 else if j=3 then 3600 else if j=4 then 60 else 1
theorem xM (r:Int):(dC r=5∧aY r=0)∨(dC r<5∧aY r=uN (dC r+1)):=by
 unfold dC aY;repeat' split
 all_goals first|exact .inr ⟨by decide,by decide⟩|exact .inl ⟨rfl,rfl⟩
theorem Ly {i j:Nat} (hi:i<5) (hj:j≤5):uN j≤uN (i+1)↔i<j:=by
 have h: ∀a:Fin 5,∀b:Fin 6,(uN b.1≤uN (a.1+1)↔a.1<b.1):=by decide
 exact h ⟨i,hi⟩ ⟨j,by omega⟩
theorem Js (j:Nat):1≤uN j∧uN j≤1000000:=by
 unfold uN;repeat' split
 all_goals omega
def Lz:List Int→Nat→Nat→Bool→Nat→Bool→Nat×Int
 |[],sum,p,dg,j,far=>if dg=true then (0,5) else if far=true then (0,8) else (sum,0)
 |r::l,sum,p,dg,j,far=>
  if cT r=true then Lz l sum (min (p*10+(r - 48).toNat) 253402300800) true j (far||decide (253402300799<p*10+(r - 48).toNat))
  else if dC r<j∨dC r=5∨dg=false then (0,5)
  else Lz l (min (sum+min (p*aY r) 253402300800) 253402300800) 0 false (dC r+1) ((far||decide (253402300799<p*aY r))||decide (253402300799<sum+min (p*aY r) 253402300800))
def kH (s:List UInt8):Nat×Int:=if s=[] then (0,5) else Lz (ai s 0) 0 0 false 0 false
theorem AB {r:Int} (h:r<0∨128≤r):dC r=5∧aY r=0∧cT r=false:=by
 unfold dC aY cT;refine ⟨?_,?_,jd (by omega)⟩
 ·rw [if_neg (by omega),if_neg (by omega),if_neg (by omega),if_neg (by omega),if_neg (by omega)]
 ·rw [if_neg (by omega),if_neg (by omega),if_neg (by omega),if_neg (by omega),if_neg (by omega)]
theorem LA (s:List UInt8): ∀k i n la sm fr,s.length - i≤k→ ∀sum p dg j far,j≤5→la=uN j→p=min n 253402300800→far=(fr||decide (253402300799<n))→(fr=false→sum=sm)→(dg=false→n=0)→sm≤253402300799→
  Lz (ai s i) sum p dg j far=xE (s.drop i) dg n la sm fr:=by
 intro k;induction k with
 |zero=>
  intro i n la sm fr h sum p dg j far hj hla hp hfar hsum hdg hsm;rw [aH (by omega),ui (by omega),Lz,xE];cases dg
  ·rw [if_neg Bool.false_ne_true,if_neg Bool.false_ne_true]
   have:=hdg rfl
   subst this;rw [show decide (253402300799<0)=false from rfl,MA] at hfar;subst hfar;cases far
   ·rw [if_neg Bool.false_ne_true,if_neg Bool.false_ne_true,hsum rfl]
   ·rfl
  ·rfl
 |succ k ih=>
  intro i n la sm fr h sum p dg j far hj hla hp hfar hsum hdg hsm;by_cases g:i<s.length
  rotate_left
  ·rw [aH g,ui (by omega),Lz,xE];cases dg
   ·rw [if_neg Bool.false_ne_true,if_neg Bool.false_ne_true]
    have:=hdg rfl
    subst this;rw [show decide (253402300799<0)=false from rfl,MA] at hfar;subst hfar;cases far
    ·rw [if_neg Bool.false_ne_true,if_neg Bool.false_ne_true,hsum rfl]
    ·rfl
   ·rfl
  rw [aW g,oU g,Lz,xE];rcases jS s i g with ⟨a,e⟩|⟨a,e⟩
  rotate_left
  ·have u1:=AB e;have u2:=AB (r:=(s[i].toNat:Int)) (by omega);have d2:aC s[i]=false:=by
    cases hd:aC s[i]
    ·rfl
    ·have:=(bC _).1 hd
     omega
   rw [u1.2.2,u1.1,u2.2.1,d2,if_neg Bool.false_ne_true,if_neg Bool.false_ne_true,if_pos (Or.inr (Or.inl rfl)),if_pos (Or.inr (Or.inl rfl))]
  ·rw [e];dsimp only;have hd:cT (s[i].toNat:Int)=aC s[i]:=by
    unfold cT aC;rw [Bool.eq_iff_iff,kO,kO];omega
   rw [hd];cases hD:aC s[i]
   ·rw [if_neg Bool.false_ne_true,if_neg Bool.false_ne_true];have U:=xM (s[i].toNat:Int);have c:(dC (s[i].toNat:Int)<j∨dC (s[i].toNat:Int)=5∨dg=false)↔(dg=false∨aY (s[i].toNat:Int)=0∨la≤aY (s[i].toNat:Int)):=by
     rw [hla];rcases U with ⟨h1,h2⟩|⟨h1,h2⟩
     ·rw [h1,h2];simp
     ·rw [h2,Ly h1 hj]
      have:=Js (dC (s[i].toNat:Int)+1)
      constructor
      ·rintro (h|h|h)
       ·exact .inr (.inr h)
       ·omega
       ·exact .inl h
      ·rintro (h|h|h)
       ·exact .inr (.inr h)
       ·omega
       ·exact .inl h
    by_cases cc:(dg=false∨aY (s[i].toNat:Int)=0∨la≤aY (s[i].toNat:Int))
    ·rw [if_pos cc,if_pos (c.2 cc)]
    rw [if_neg cc,if_neg (fun h=>cc (c.1 h))];have u0:1≤aY (s[i].toNat:Int):=by omega
    have U:dC (s[i].toNat:Int)<5∧aY (s[i].toNat:Int)=uN (dC (s[i].toNat:Int)+1):=by
     rcases U with ⟨h1,h2⟩|h
     ·omega
     ·exact h
    clear c cc;generalize dC (s[i].toNat:Int)=ix at *
    have un':=U.2;generalize hun:aY (s[i].toNat:Int)=un at *
    have dv:253402300799 / un<n↔253402300799<n*un:=by rw [Nat.div_lt_iff_lt_mul (by omega)]
    have big:253402300800≤n→253402300799<n*un:=fun h=>by
     have:=Nat.le_mul_of_pos_right n (show 0<un by omega)
     omega
    have big':253402300799<253402300800*un:=by
     have:=Nat.le_mul_of_pos_right 253402300800 (show 0<un by omega)
     omega
    by_cases v1:253402300799 / un<n
    ·rw [if_pos v1];have v2:=dv.1 v1;refine ih (i+1) _ _ _ _ (by omega) _ _ _ _ _ (by omega) un' rfl ?_ (fun h=>by cases h) (fun _=>rfl) hsm;rw [Bool.true_or]
     have:253402300799<p*un:=by
      subst hp;by_cases c:n≤253402300800
      ·rw [Nat.min_eq_left c];exact v2
      ·rw [Nat.min_eq_right (by omega)];exact big'
     rw [io this,Bool.or_true,Bool.true_or]
    rw [if_neg v1];have v2: ¬253402300799<n*un:=fun h=>v1 (dv.2 h)
    have n1:n<253402300800:=by
     rcases Nat.lt_or_ge n 253402300800 with h|h
     ·exact h
     ·exact absurd (big h) v2
    have pn:p=n:=by omega
    subst pn;clear hp big big' dv v1;rw [jd (show ¬253402300799<p by omega),MA] at hfar;subst hfar;generalize p*un=a at *
    rw [jd v2,MA,Nat.min_eq_left (show a≤253402300800 by omega)];by_cases v3:253402300799<sm+a
    ·rw [if_pos v3];refine ih (i+1) _ _ _ _ (by omega) _ _ _ _ _ (by omega) un' rfl ?_ (fun h=>by cases h) (fun _=>rfl) (by omega);rw [Bool.true_or];cases far
     ·rw [hsum rfl,io v3];rfl
     ·rfl
    ·rw [if_neg v3];refine ih (i+1) _ _ _ _ (by omega) _ _ _ _ _ (by omega) un' rfl ?_ ?_ (fun _=>rfl) (by omega)
     ·rw [show decide (253402300799<0)=false from rfl,MA];cases far
      ·rw [hsum rfl,jd v3];rfl
      ·rfl
     ·intro h;subst h;rw [hsum rfl];omega
   ·rw [if_pos rfl,if_pos rfl,show ((s[i].toNat:Int) - 48).toNat=s[i].toNat - 48 by omega];generalize s[i].toNat - 48=d at *
    refine ih (i+1) _ _ _ _ (by omega) _ _ _ _ _ hj hla ?_ ?_ hsum (fun h=>by cases h) hsm
    ·subst hp;by_cases c:n≤253402300799
     ·rw [if_pos c];omega
     ·rw [if_neg c];omega
    ·subst hp hfar;by_cases c:n≤253402300799
     ·rw [if_pos c,jd (show ¬253402300799<n by omega),MA];congr 1
      rw [Nat.min_eq_left (by omega),LG]
     ·rw [if_neg c,io (show 253402300799<n by omega),Bool.or_true,Bool.true_or]
theorem AD (s:List UInt8):kH s=vQ s:=by
 unfold kH vQ;by_cases e:s=[]
 ·rw [if_pos e,if_pos e]
 ·rw [if_neg e,if_neg e,←A7 (l:=s)];conv=>lhs;rw [A7]
  exact LA s s.length 0 0 1000000 0 false (by omega) 0 0 false 0 false (by omega) rfl rfl rfl (fun _=>rfl) (fun _=>rfl) (by omega)
theorem F5 (s:List UInt8) (c:UInt8):Sp Tryz.prog gl 243 [.str s,.int .u8 c.toNat] (i6 (Lib.indexByte s c)):=by
 refine zo (fn:=Tryz.f243) (e:=Extern.BytealgIndexByte.indexByte) Tryz.func243 (by kernel_rfl) (by kernel_rfl) (by kernel_rfl) (by kernel_rfl) ?_;intro S gb w vs h;simp only [aa,PR] at h;obtain ⟨_,_,rfl,rfl,_,_,rfl,rfl,rfl⟩:=h;refine ⟨_,Lib.run_indexByteString _ _ w,?_⟩;simp [PR]
theorem F6 (s:List UInt8) (c:UInt8):Sp Tryz.prog gl 228 [.str s,.int .u8 c.toNat] (i6 (Lib.indexByte s c)):=by
 refine Su rfl rfl ?_;have H:=F5 s c;generalize Lib.indexByte s c=k at *
 simp [O5];apply ab H;simp
theorem vU (s:List UInt8) (c:UInt8):Sp Tryz.prog gl 238 [.str s,.int .u8 c.toNat] (i6 (Lib.indexByte s c)):=by
 refine Sv rfl rfl ?_;have H:=F6 s c;generalize Lib.indexByte s c=k at *
 simp [O6];apply ab H;simp
def Oq (r:Int):Prop:=(0≤r∧r<55296)∨(57343<r∧r≤1114111)
theorem F7 (r:Int) (h:Oq r):Sp Tryz.prog gl 239 [i3 r] (.bool true):=by
 refine O7 rfl rfl ?_;by_cases c:r<55296
 ·have c0:0≤r:=by rcases h with h|h<;>omega
  simp [xY,c,c0]
 ·have c0:0≤r:=by rcases h with h|h<;>omega
  have c1:57343<r:=by rcases h with h|h<;>omega
  have c2:r≤1114111:=by rcases h with h|h<;>omega
  simp [xY,c,c0,c1,c2]
theorem Jt (r:Int) (h:Oq r) (hr:128≤r): ∃a c,(Utf8.encode r).data.toList=a++[c]∧1≤a.length∧a.length≤3∧128≤c.toNat:=by
 have hv:Utf8.valid r=true:=by
  unfold Utf8.valid;simp;rcases h with h|h<;>omega
 have top: ∀n:Nat,128≤(UInt8.ofNat (128+n%64)).toNat:=fun n=>by
  rw [UInt8.toNat_ofNat'];omega
 unfold Utf8.encode;simp only [hv,if_true];rw [if_neg (by omega)];split
 ·exact ⟨[_],_,rfl,by simp,by simp,top _⟩
 ·split
  ·exact ⟨[_,_],_,rfl,by simp,by simp,top _⟩
  ·exact ⟨[_,_,_],_,rfl,by simp,by simp,top _⟩
def LB (s:List UInt8) (r:Int):Int:=if r<128 then Lib.indexByte s (UInt8.ofNat r.toNat) else -1
theorem Ju (s:List UInt8) (hl:s.length≤1000) (hs: ∀b∈s,b.toNat<128) (r:Int) (h:Oq r):Sp Tryz.prog gl 219 [.str s,i3 r] (i6 (LB s r)):=by
 refine Sq rfl rfl ?_;have h0:0≤r:=by rcases h with h|h<;>omega
 unfold LB;by_cases c1:r<128
 ·rw [if_pos c1];have w:IntKind.u8.wrap r=((UInt8.ofNat r.toNat).toNat:Int):=by
   rw [UInt8.toNat_ofNat',dx]<;>omega
  have H:=vU s (UInt8.ofNat r.toNat);generalize Lib.indexByte s (UInt8.ofNat r.toNat)=k at *
  generalize ((UInt8.ofNat r.toNat).toNat:Int)=z at *
  simp [JS,c1,h0,w];apply ab H;simp
 rw [if_neg c1];by_cases c2:r=65533
 ·subst c2;simp [JS];refine aP (α:=Nat) (fun i=>⟨[(0,.str s),(175,.itp 175)],[(.it 175,[.itr s i])],[]⟩)
   (fun i=>i≤s.length) (fun i=>s.length - i) ?_ 0 ?_ ?_
  ·rintro K i hK h1;by_cases g:i<s.length
   ·have sr:=cS s i g;have sa:=hs _ (ml g);rcases jS s i g with ⟨a,e⟩|⟨a,e⟩
    rotate_left
    ·omega
    rw [e,if_neg (by omega)] at sr;have n1:((s[i].toNat:Int)==65533)=false:=cI.2 (by omega);have n2: ¬(s[i].toNat:Int)=65533:=by omega
    have fin:=fun σ' hσ=>hK (i+1) σ' (by omega) (by omega) hσ
    clear hK e;generalize (s[i].toNat:Int)=z at *
    simp [g,sr,n1,n2];refine fin _ ?_;apply ae<;>simp
   ·clear hK;simp [g]
  ·exact iA _
  ·apply ae<;>simp
 have c2':(r==65533)=false:=cI.2 c2;have V:=F7 r h;obtain ⟨a,c,he,a1,a3,hc⟩:=Jt r h (by omega);have hcn: ∀b∈s,b≠c:=fun b hb e=>by
  have:=hs b hb
  rw [e] at this;omega
 have hlen:(a++[c]).length=a.length+1:=by simp
 have hat: ∀h2,(a++[c])[a.length]'h2=c:=fun h2=>by simp
 have hlt:a.length<(a++[c]).length:=by omega
 generalize a++[c]=bs at *
 have w1:IntKind.i64.wrap ((bs.length:Int) - 1)=(a.length:Nat):=by rw [aj]<;>omega
 generalize a.length=n at *
 simp [JS,c1,c2,c2',h0];apply ab V;simp [he,w1];refine aP (α:=Nat) (fun i=>⟨[(0,.str s),(1,i3 r),(7,.str bs),(8,i6 n),(9,i6 n),(10,i6 0)],[],[]⟩)
   (fun i=>True) (fun i=>1) ?_ 0 ?_ ?_
 ·rintro K i hK h1;clear hK h1;by_cases g:n<s.length
  ·have g':(n:Int)<s.length:=by omega
   have hsn:((s[n].toNat:Int)!=(c.toNat:Int))=true:=by
    rw [bne_iff_ne];intro e;exact hcn _ (ml g) (Og.1 (by omega))
   have t1:IntKind.i64.wrap ((n:Int)+1)=(n+1:Nat):=by rw [aj]<;>omega
   have H:=vU (s.drop (n+1)) c;rw [oQ c (s.drop (n+1)) (fun b hb=>hcn b (List.mem_of_mem_drop hb))] at H;have q1:n+1≤s.length:=by omega
   have q2:((n+1:Nat):Int)≤s.length:=by omega
   have q3:(0:Int)≤((n+1:Nat):Int):=by omega
   have q4:((n+1:Nat):Int).toNat=n+1:=by omega
   generalize ((n+1:Nat):Int)=m at *
   simp [g,g',hsn,hlt,hat,t1,q1,q2,q3,q4];apply ab H;simp
  ·have g': ¬(n:Int)<s.length:=by omega
   simp [g,g']
 ·exact True.intro
 ·apply ae<;>simp
end Go.Ai
