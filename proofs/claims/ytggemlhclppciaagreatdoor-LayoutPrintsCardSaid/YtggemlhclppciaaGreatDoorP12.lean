/- P12: a part of the proof. Conditions: as each theorem says. -/
import Derived.Shelf.Strings.SlTrimAscii
import Derived.Test.YtggemlhclppciaaGreatDoorP11
set_option maxHeartbeats 4000000
set_option linter.unusedSimpArgs false
set_option linter.unusedVariables false
set_option maxRecDepth 20000
namespace Go.Ai
open Go.Proofs Go.Shelf
def aN:Ren:={
 f:=fun x=>match x with
  |162=>127
  |232=>169
  |227=>170
  |234=>171
  |236=>172
  |228=>204
  |271=>205
  |151=>206
  |120=>226
  |197=>208
  |152=>219
  |260=>227
  |137=>238
  |119=>239
  |224=>230
  |225=>229
  |217=>228
  |266=>243
  |n=>n
 t:=fun x=>match x with
  |9=>9
  |4=>4
  |3=>3
  |5=>5
  |117=>214
  |116=>213
  |0=>0
  |124=>217
  |21=>21
  |105=>249
  |46=>173
  |119=>201
  |139=>204
  |138=>203
  |n=>n
 g:=fun x=>match x with
  |3=>0
  |4=>1
  |n=>n}
set_option maxRecDepth 100000 in
theorem vu:Lays.n162 Tryz.prog aN where
 mixed:=by kernel_rfl
 f119:=Eq.trans Tryz.func239 (congrArg some (show Tryz.f239=Body.n119 aN by kernel_rfl))
 f120:=Eq.trans Tryz.func226 (congrArg some (show Tryz.f226=Body.n120 aN by kernel_rfl))
 f137:=Eq.trans Tryz.func238 (congrArg some (show Tryz.f238=Body.n137 aN by kernel_rfl))
 f151:=Eq.trans Tryz.func206 (congrArg some (show Tryz.f206=Body.n151 aN by kernel_rfl))
 f152:=Eq.trans Tryz.func219 (congrArg some (show Tryz.f219=Body.n152 aN by kernel_rfl))
 f162:=Eq.trans Tryz.func127 (congrArg some (show Tryz.f127=Body.n162 aN by kernel_rfl))
 f197:=Eq.trans Tryz.func208 (congrArg some (show Tryz.f208=Body.n197 aN by kernel_rfl))
 f217:=Eq.trans Tryz.func228 (congrArg some (show Tryz.f228=Body.n217 aN by kernel_rfl))
 f224:=Eq.trans Tryz.func230 (congrArg some (show Tryz.f230=Body.n224 aN by kernel_rfl))
 f225:=Eq.trans Tryz.func229 (congrArg some (show Tryz.f229=Body.n225 aN by kernel_rfl))
 f227:=Eq.trans Tryz.func170 (congrArg some (show Tryz.f170=Body.n227 aN by kernel_rfl))
 f228:=Eq.trans Tryz.func204 (congrArg some (show Tryz.f204=Body.n228 aN by kernel_rfl))
 f232:=Eq.trans Tryz.func169 (congrArg some (show Tryz.f169=Body.n232 aN by kernel_rfl))
 f234:=Eq.trans Tryz.func171 (congrArg some (show Tryz.f171=Body.n234 aN by kernel_rfl))
 f236:=Eq.trans Tryz.func172 (congrArg some (show Tryz.f172=Body.n236 aN by kernel_rfl))
 f260:=Eq.trans Tryz.func227 (congrArg some (show Tryz.f227=Body.n260 aN by kernel_rfl))
 f266:=Eq.trans Tryz.func243 (congrArg some (show Tryz.f243=Body.n266 aN by kernel_rfl))
 f271:=Eq.trans Tryz.func205 (congrArg some (show Tryz.f205=Body.n271 aN by kernel_rfl))
 t0:=Tryz.underlying0
 a0:=Tryz.isAgg0
 z0:=Tryz.sizeOf0
 v0:=Tryz.zeroValue0
 t3:=Tryz.underlying3
 a3:=Tryz.isAgg3
 z3:=Tryz.sizeOf3
 v3:=Tryz.zeroValue3
 t4:=Tryz.underlying4
 a4:=Tryz.isAgg4
 z4:=Tryz.sizeOf4
 v4:=Tryz.zeroValue4
 t5:=Tryz.underlying5
 a5:=Tryz.isAgg5
 z5:=Tryz.sizeOf5
 v5:=Tryz.zeroValue5
 t9:=Tryz.underlying9
 a9:=Tryz.isAgg9
 z9:=Tryz.sizeOf9
 v9:=Tryz.zeroValue9
 t21:=Tryz.underlying21
 a21:=Tryz.isAgg21
 z21:=Tryz.sizeOf21
 v21:=Tryz.zeroValue21
 t46:=Tryz.underlying173
 a46:=Tryz.isAgg173
 z46:=Tryz.sizeOf173
 v46:=Tryz.zeroValue173
 t105:=Tryz.underlying249
 a105:=Tryz.isAgg249
 z105:=Tryz.sizeOf249
 v105:=Tryz.zeroValue249
 t116:=Tryz.underlying213
 a116:=Tryz.isAgg213
 z116:=Tryz.sizeOf213
 t117:=Tryz.underlying214
 a117:=Tryz.isAgg214
 z117:=Tryz.sizeOf214
 v117:=Tryz.zeroValue214
 t119:=Tryz.underlying201
 a119:=Tryz.isAgg201
 z119:=Tryz.sizeOf201
 t124:=Tryz.underlying217
 a124:=Tryz.isAgg217
 z124:=Tryz.sizeOf217
 v124:=Tryz.zeroValue217
 t138:=Tryz.underlying203
 a138:=Tryz.isAgg203
 z138:=Tryz.sizeOf203
 v138:=Tryz.zeroValue203
 t139:=Tryz.underlying204
 a139:=Tryz.isAgg204
 z139:=Tryz.sizeOf204
 v139:=Tryz.zeroValue204
 g3:=by kernel_rfl
 g4:=by kernel_rfl
def gX (r:Nat):UInt8:=if r<10 then UInt8.ofNat (48+r) else UInt8.ofNat (87+r)
def qk (r:Nat):List UInt8:=if r<16 then [gX r] else [gX (r / 16),gX (r%16)]
theorem sG (r:Nat) (h:r<16):Sp Tryz.prog gl 101 [i3 r] (.str [gX r]):=by
 refine Oy rfl rfl ?_;have w0:(r:Int).tmod 16=r:=by rw [Int.tmod_eq_emod_of_nonneg (by omega)];omega
 have w1:IntKind.i32.wrap (r:Int)=r:=by rw [aR]<;>omega
 have w2:IntKind.i32.wrap ((r:Int)+1)=((r+1:Nat):Int):=by rw [aR]<;>omega
 have hd:List.drop r (List.take (r+1) ([48,49,50,51,52,53,54,55,56,57,97,98,99,100,101,102]:List UInt8))=[gX r]:=by
  have: ∀q:Fin 16,List.drop q.1 (List.take (q.1+1) ([48,49,50,51,52,53,54,55,56,57,97,98,99,100,101,102]:List UInt8))=[gX q.1]:=by decide
  exact this ⟨r,h⟩
 obtain ⟨m,hm⟩: ∃m,m=r+1:=⟨_,rfl⟩;rw [←hm] at w2 hd;have q1:r≤m:=by omega
 have q2:m≤16:=by omega
 have q3:(r:Int)≤m:=by omega
 have q4:(m:Int)≤16:=by omega
 have q5: ¬(16:Int)≤r:=by omega
 have q6: ¬16≤r:=by omega
 generalize [gX r]=R at *
 simp [Mg,w0,w1,w2,q1,q2,q3,q4,q5,q6,hd]
theorem Fh (r:Nat) (h:r<256):Sp Tryz.prog gl 101 [i3 r] (.str (qk r)):=by
 by_cases c:r<16
 ·unfold qk;rw [if_pos c];exact sG r c
 refine Oy rfl rfl ?_;have H:=sG (r / 16) (by omega);have w0:(r:Int).tmod 16=((r%16:Nat):Int):=rfl;have w3:IntKind.i32.wrap ((r:Int) / 16)=((r / 16:Nat):Int):=by rw [aR]<;>omega
 have hd:List.drop (r%16) (List.take (r%16+1) ([48,49,50,51,52,53,54,55,56,57,97,98,99,100,101,102]:List UInt8))=[gX (r%16)]:=by
  have: ∀q:Fin 16,List.drop q.1 (List.take (q.1+1) ([48,49,50,51,52,53,54,55,56,57,97,98,99,100,101,102]:List UInt8))=[gX q.1]:=by decide
  exact this ⟨r%16,Nat.mod_lt _ (by decide)⟩
 have m16:r%16<16:=Nat.mod_lt _ (by decide);have q5:(16:Int)≤r:=by omega
 have q6:16≤r:=by omega
 unfold qk;rw [if_neg c];generalize r%16=x at *
 generalize r / 16=y at *
 have w1:IntKind.i32.wrap (x:Int)=x:=by rw [aR]<;>omega
 have w2:IntKind.i32.wrap ((x:Int)+1)=((x+1:Nat):Int):=by rw [aR]<;>omega
 obtain ⟨m,hm⟩: ∃m,m=x+1:=⟨_,rfl⟩;rw [←hm] at w2 hd;have q1:x≤m:=by omega
 have q2:m≤16:=by omega
 have q3:(x:Int)≤m:=by omega
 have q4:(m:Int)≤16:=by omega
 generalize gX x=X at *
 generalize gX y=Y at *
 simp [Mg,w0,w1,w2,q1,q2,q3,q4,q5,q6,hd,w3];apply ab H;simp
def JK (r:Nat):List UInt8:=if r=34 then [92,34] else if r=92 then [92,92] else if r=10 then [92,110] else if r=9 then [92,116] else if r<32∨r=127 then [92,117,123]++(qk r++[125]) else cX r
def zA:List Int→List UInt8
 |[]=>[]
 |r::l=>JK r.toNat++zA l
def AU (l:List Int):List UInt8:=34::(zA l++[34])
theorem qY (r:Nat):(qk r).length≤2:=by unfold qk;split<;>simp
theorem DV (r:Nat):(JK r).length≤6:=by
 have h1:=qY r;have h2:=(tI r).1;unfold JK;repeat' split
 all_goals first|omega|(simp;omega)|simp
theorem lQ: ∀l:List Int,(zA l).length≤6*l.length
 |[]=>by simp [zA]
 |r::l=>by
  have h1:=lQ l;have h2:=DV r.toNat;simp only [zA,cG,em];omega
theorem zB (s:List UInt8) (hl:s.length≤100000) (hg: ∀r∈ai s 0,0≤r):Sp Tryz.prog gl 71 [.str s] (.str (AU (ai s 0))):=by
 refine VE rfl rfl ?_;have RS:=kr s (by omega);have hlen:=iL s s.length 0 (by omega);have hok:=fE s s.length 0 (by omega);generalize ai s 0=l at *
 have hr: ∀r∈l,0≤r∧r≤1114111:=fun r h=>by
  have:=hg r h
  rcases hok r h with h|h<;>omega
 have rl:=fY l;have rat:=Ah l;generalize a7 l=RR at *
 have el:=lQ l;unfold AU;obtain ⟨R,hR⟩: ∃R,R=34::zA l:=⟨_,rfl⟩;have RL:R.length≤700000:=by rw [hR,em];omega
 have e0:34::(zA l++[34])=R++[34]:=by rw [hR];rfl
 rw [e0];simp [UP];apply ab RS;simp;refine aP (α:=List UInt8×Nat) (fun y=>⟨[(3,.str y.1),(4,.sl RR),(5,i6 y.2)],[],[]⟩) (fun y=>y.2≤l.length∧y.1++zA (l.drop y.2)=R) (fun y=>l.length - y.2) ?_ ([34],0) ?_ ?_
 ·rintro K ⟨cur,i⟩ hK ⟨h1,h2⟩;simp only at h1 h2;have cl:cur.length≤700000:=by
   rw [←h2,cG] at RL;omega
  by_cases g:i<l.length
  ·have g':(i:Int)<l.length:=by omega
   have gR:i<RR.length:=by omega
   have ra:=rat i g gR;have t1:IntKind.i64.wrap ((i:Int)+1)=(i+1:Nat):=by rw [aj]<;>omega
   have hri:=hr _ (ml g);rw [oU g,zA] at h2;obtain ⟨q,hq⟩: ∃q:Nat,l[i]=q:=⟨l[i].toNat,by omega⟩;rw [hq] at ra h2 hri;rw [Int.toNat_natCast] at h2;have fin:=fun σ' hσ=>hK (cur++JK q,i+1) σ' ⟨g,by simp only;rw [jq];exact h2⟩ (by simp only;omega) hσ
   have el2:=DV q;have l0: ∀x:List UInt8,x.length≤6→cur.length+x.length≤9223372036854775807:=fun x hx=>by omega
   have l1:cur.length+2≤9223372036854775807:=by omega
   have l2:cur.length≤9223372036854775805:=by omega
   have BY:=Ag q (by omega);clear hK h2 hq rat hr hok hg RS;unfold JK at fin el2;have ne: ∀z:Nat,¬q=z→((q:Int)==(z:Int))=false:=fun z h=>cI.2 (by omega)
   by_cases c1:q=34
   ·subst c1;rw [if_pos rfl] at fin;simp [g,g',gR,ra,rl,l1,l2];refine fin _ ?_;apply ae<;>simp [t1]
   rw [if_neg c1] at fin el2;have d1:((q:Int)==34)=false:=ne 34 c1;by_cases c2:q=92
   ·subst c2;rw [if_pos rfl] at fin;simp [g,g',gR,ra,rl,l1,l2];refine fin _ ?_;apply ae<;>simp [t1]
   rw [if_neg c2] at fin el2;have d2:((q:Int)==92)=false:=ne 92 c2;by_cases c3:q=10
   ·subst c3;rw [if_pos rfl] at fin;simp [g,g',gR,ra,rl,l1,l2];refine fin _ ?_;apply ae<;>simp [t1]
   rw [if_neg c3] at fin el2;have d3:((q:Int)==10)=false:=ne 10 c3;by_cases c4:q=9
   ·subst c4;rw [if_pos rfl] at fin;simp [g,g',gR,ra,rl,l1,l2];refine fin _ ?_;apply ae<;>simp [t1]
   rw [if_neg c4] at fin el2;have d4:((q:Int)==9)=false:=ne 9 c4;by_cases c5:q<32∨q=127
   ·rw [if_pos c5] at fin;have HX:=Fh q (by omega);have hxl:=qY q;generalize qk q=hx at *
    have m1:cur.length+3+hx.length≤9223372036854775807:=by omega
    have m2:cur.length+3≤9223372036854775807:=by omega
    have m3:cur.length≤9223372036854775804:=by omega
    have m4:cur.length+(hx.length+3)≤9223372036854775807:=by omega
    have m5:cur.length+(hx.length+3)+1≤9223372036854775807:=by omega
    have m6:cur.length+(hx.length+1+1+1)≤9223372036854775807:=by omega
    have m7:cur.length+(hx.length+1+1+1)≤9223372036854775806:=by omega
    have m8:cur.length+(hx.length+3)≤9223372036854775806:=by omega
    have m9:cur.length+3+hx.length≤9223372036854775806:=by omega
    rcases c5 with c5|c5
    ·have c5':(q:Int)<32:=by omega
     simp [g,g',gR,ra,rl,d1,d2,d3,d4,c1,c2,c3,c4,c5,c5',m2,m3];apply ab HX;simp [m1,m2,m3,m4,m5,m6,m7,m8,m9];refine fin _ ?_;apply ae<;>simp [t1]
    ·subst c5;simp [g,g',gR,ra,rl,m2,m3];apply ab HX;simp [m1,m2,m3,m4,m5,m6,m7,m8,m9];refine fin _ ?_;apply ae<;>simp [t1]
   ·rw [if_neg c5] at fin el2;have c5': ¬(q:Int)<32:=by omega
    have c6:((q:Int)==127)=false:=ne 127 (by omega);have c7: ¬q<32:=by omega
    have m1:=l0 (cX q) el2;generalize cX q=bs at *
    have c8: ¬q=127:=by omega
    simp [g,g',gR,ra,rl,d1,d2,d3,d4,c1,c2,c3,c4,c5',c6,c7,c8];apply ab BY;simp [m1];refine fin _ ?_;apply ae<;>simp [t1]
  ·obtain rfl:i=l.length:=by omega
   rw [A6,zA,nA] at h2;subst h2;have g': ¬(l.length:Int)<l.length:=by omega
   have l2:cur.length≤9223372036854775806:=by omega
   clear hK;simp [g',rl,l2]
 ·exact ⟨iA _,hR.symm⟩
 ·apply ae<;>simp
def DW (n:Nat):List UInt8:=bg (n / 1000)++(46::(UInt8.ofNat (48+n%1000 / 100)::fO 10 2 (n%1000%100)))
def fP (k:Int) (s:List UInt8) (n:Nat):List UInt8:=
 if gZ k s n=false then [63]
 else if k=1 then s
 else if k=2 then AU (ai s 0)
 else if k=3 then bg n
 else if k=4 then DW n
 else if k=5 then AT n
 else if k=6 then pz n
 else if k=7 then [123]
 else if k=8 then [125]
 else if k=9 then [59]
 else []
theorem M6 (k:Int) (hk:k=1) (s:List UInt8) (n:Nat) (l c:Int) (hl:s.length≤100000) (hn:n<18446744073709551616) (hr:gZ k s n=true):Sp Tryz.prog gl 46 [cV k s n l c] (.str s):=by
 refine Gz rfl rfl ?_;have RG:=bS k s n l c (by omega);rw [hr] at RG;have d1:(k==1)=true:=by subst hk;decide
 clear hk;unfold cV at *
 simp [Gj];apply ab RG;simp [d1]
theorem M7 (k:Int) (hk:k=2) (s:List UInt8) (n:Nat) (l c:Int) (hl:s.length≤100000) (hn:n<18446744073709551616) (hg: ∀r∈ai s 0,0≤r) (hr:gZ k s n=true):Sp Tryz.prog gl 46 [cV k s n l c] (.str (AU (ai s 0))):=by
 refine Gz rfl rfl ?_;have RG:=bS k s n l c (by omega);rw [hr] at RG;have QU:=zB s hl hg;generalize AU (ai s 0)=out at *
 have d1:(k==1)=false:=by subst hk;decide
 have d2:(k==2)=true:=by subst hk;decide
 clear hk;unfold cV at *
 simp [Gj];apply ab RG;simp [d1];refine gx (fun _=>?_) (fun h=>by rw [d2] at h;cases h);simp;apply ab QU;simp
theorem M8 (k:Int) (hk:k=3) (s:List UInt8) (n:Nat) (l c:Int) (hl:s.length≤100000) (hn:n<18446744073709551616) (hr:gZ k s n=true):Sp Tryz.prog gl 46 [cV k s n l c] (.str (bg n)):=by
 refine Gz rfl rfl ?_;have RG:=bS k s n l c (by omega);rw [hr] at RG;have DG:=mE n hn;generalize bg n=out at *
 have d1:(k==1)=false:=by subst hk;decide
 have d2:(k==2)=false:=by subst hk;decide
 have d3:(k==3)=true:=by subst hk;decide
 clear hk;unfold cV at *
 simp [Gj];apply ab RG;simp [d1,d2];refine gx (fun _=>?_) (fun h=>by rw [d3] at h;cases h);simp;apply ab DG;simp
theorem M9 (k:Int) (hk:k=5) (s:List UInt8) (n:Nat) (l c:Int) (hl:s.length≤100000) (hn:n<18446744073709551616) (hm:n≤1000000) (hr:gZ k s n=true):Sp Tryz.prog gl 46 [cV k s n l c] (.str (AT n)):=by
 refine Gz rfl rfl ?_;have RG:=bS k s n l c (by omega);rw [hr] at RG;have SH:=zy n (by omega);have w:IntKind.u32.wrap (n:Int)=n:=by rw [cJ]<;>omega
 generalize AT n=out at *
 have d1:(k==1)=false:=by subst hk;decide
 have d2:(k==2)=false:=by subst hk;decide
 have d3:(k==3)=false:=by subst hk;decide
 have d4:(k==4)=false:=by subst hk;decide
 have d5:(k==5)=true:=by subst hk;decide
 clear hk;unfold cV at *
 simp [Gj];apply ab RG;simp [d1,d2,d3,d4];refine gx (fun _=>?_) (fun h=>by rw [d5] at h;cases h);simp [w];apply ab SH;simp
theorem Na (k:Int) (hk:k=6) (s:List UInt8) (n:Nat) (l c:Int) (hl:s.length≤100000) (hn:n<18446744073709551616) (hm:n≤253402300799) (hr:gZ k s n=true):Sp Tryz.prog gl 46 [cV k s n l c] (.str (pz n)):=by
 refine Gz rfl rfl ?_;have RG:=bS k s n l c (by omega);rw [hr] at RG;have SN:=wS n hm;have w:IntKind.i64.wrap (n:Int)=n:=by rw [aj]<;>omega
 generalize pz n=out at *
 have d1:(k==1)=false:=by subst hk;decide
 have d2:(k==2)=false:=by subst hk;decide
 have d3:(k==3)=false:=by subst hk;decide
 have d4:(k==4)=false:=by subst hk;decide
 have d5:(k==5)=false:=by subst hk;decide
 have d6:(k==6)=true:=by subst hk;decide
 clear hk;unfold cV at *
 simp [Gj];apply ab RG;simp [d1,d2,d3,d4,d5];refine gx (fun _=>?_) (fun h=>by rw [d6] at h;cases h);simp [w];apply ab SN;simp
theorem Nb (k:Int) (hk:k=7) (s:List UInt8) (n:Nat) (l c:Int) (hl:s.length≤100000) (hn:n<18446744073709551616) (hr:gZ k s n=true):Sp Tryz.prog gl 46 [cV k s n l c] (.str [123]):=by
 refine Gz rfl rfl ?_;have RG:=bS k s n l c (by omega);rw [hr] at RG;have d1:(k==1)=false:=by subst hk;decide
 have d2:(k==2)=false:=by subst hk;decide
 have d3:(k==3)=false:=by subst hk;decide
 have d4:(k==4)=false:=by subst hk;decide
 have d5:(k==5)=false:=by subst hk;decide
 have d6:(k==6)=false:=by subst hk;decide
 have d7:(k==7)=true:=by subst hk;decide
 clear hk;unfold cV at *
 simp [Gj];apply ab RG;simp [d1,d2,d3,d4,d5,d6,d7]
theorem Nc (k:Int) (hk:k=8) (s:List UInt8) (n:Nat) (l c:Int) (hl:s.length≤100000) (hn:n<18446744073709551616) (hr:gZ k s n=true):Sp Tryz.prog gl 46 [cV k s n l c] (.str [125]):=by
 refine Gz rfl rfl ?_;have RG:=bS k s n l c (by omega);rw [hr] at RG;have d1:(k==1)=false:=by subst hk;decide
 have d2:(k==2)=false:=by subst hk;decide
 have d3:(k==3)=false:=by subst hk;decide
 have d4:(k==4)=false:=by subst hk;decide
 have d5:(k==5)=false:=by subst hk;decide
 have d6:(k==6)=false:=by subst hk;decide
 have d7:(k==7)=false:=by subst hk;decide
 have d8:(k==8)=true:=by subst hk;decide
 clear hk;unfold cV at *
 simp [Gj];apply ab RG;simp [d1,d2,d3,d4,d5,d6,d7,d8]
theorem Nd (k:Int) (hk:k=9) (s:List UInt8) (n:Nat) (l c:Int) (hl:s.length≤100000) (hn:n<18446744073709551616) (hr:gZ k s n=true):Sp Tryz.prog gl 46 [cV k s n l c] (.str [59]):=by
 refine Gz rfl rfl ?_;have RG:=bS k s n l c (by omega);rw [hr] at RG;have d1:(k==1)=false:=by subst hk;decide
 have d2:(k==2)=false:=by subst hk;decide
 have d3:(k==3)=false:=by subst hk;decide
 have d4:(k==4)=false:=by subst hk;decide
 have d5:(k==5)=false:=by subst hk;decide
 have d6:(k==6)=false:=by subst hk;decide
 have d7:(k==7)=false:=by subst hk;decide
 have d8:(k==8)=false:=by subst hk;decide
 have d9:(k==9)=true:=by subst hk;decide
 clear hk;unfold cV at *
 simp [Gj];apply ab RG;simp [d1,d2,d3,d4,d5,d6,d7,d8,d9]
theorem Nf (k:Int) (hk:k=0) (s:List UInt8) (n:Nat) (l c:Int) (hl:s.length≤100000) (hr:gZ k s n=true):Sp Tryz.prog gl 46 [cV k s n l c] (.str []):=by
 refine Gz rfl rfl ?_;have RG:=bS k s n l c (by omega);rw [hr] at RG;have d1:(k==1)=false:=by subst hk;decide
 have d2:(k==2)=false:=by subst hk;decide
 have d3:(k==3)=false:=by subst hk;decide
 have d4:(k==4)=false:=by subst hk;decide
 have d5:(k==5)=false:=by subst hk;decide
 have d6:(k==6)=false:=by subst hk;decide
 have d7:(k==7)=false:=by subst hk;decide
 have d8:(k==8)=false:=by subst hk;decide
 have d9:(k==9)=false:=by subst hk;decide
 clear hk;unfold cV at *
 simp [Gj];apply ab RG;simp [d1,d2,d3,d4,d5,d6,d7,d8,d9]
theorem Kr (k:Int) (s:List UInt8) (n:Nat) (l c:Int) (hl:s.length≤100000) (hr:gZ k s n=false):Sp Tryz.prog gl 46 [cV k s n l c] (.str [63]):=by
 refine Gz rfl rfl ?_;have RG:=bS k s n l c (by omega);rw [hr] at RG;unfold cV at *
 simp [Gj];apply ab RG;simp
theorem Ng (k:Int) (hk:k=4) (s:List UInt8) (n:Nat) (l c:Int) (hl:s.length≤100000) (hn:n<18446744073709551616) (hr:gZ k s n=true):Sp Tryz.prog gl 46 [cV k s n l c] (.str (DW n)):=by
 refine Gz rfl rfl ?_;have RG:=bS k s n l c (by omega);rw [hr] at RG;have d1:(k==1)=false:=by subst hk;decide
 have d2:(k==2)=false:=by subst hk;decide
 have d3:(k==3)=false:=by subst hk;decide
 have d4:(k==4)=true:=by subst hk;decide
 clear hk;have DG:=mE (n / 1000) (by omega);have DL:(bg (n / 1000)).length≤20:=cP 19 _ (by omega);have u1:(n:Int).tmod 1000=((n%1000:Nat):Int):=rfl;have u2:IntKind.u64.wrap ((n%1000:Nat):Int)=((n%1000:Nat):Int):=by rw [a6]<;>omega
 have u3:IntKind.u64.wrap ((n:Int) / 1000)=((n / 1000:Nat):Int):=by rw [a6]<;>omega
 have a1:n%1000<1000:=Nat.mod_lt _ (by decide);unfold DW;generalize bg (n / 1000)=hd at *
 generalize n / 1000=q at *
 generalize n%1000=a at *
 have v1:(a:Int).tmod 100=((a%100:Nat):Int):=rfl;have v2:IntKind.u64.wrap ((a%100:Nat):Int)=((a%100:Nat):Int):=by rw [a6]<;>omega
 have v3:IntKind.u64.wrap ((a:Int) / 100)=((a / 100:Nat):Int):=by rw [a6]<;>omega
 have b9:a / 100≤9:=by omega
 have x9:a%100<100:=Nat.mod_lt _ (by decide);generalize a%100=x0 at *
 generalize a / 100=b at *
 have v4:IntKind.u8.wrap (b:Int)=b:=by rw [dx]<;>omega
 have v5:IntKind.u8.wrap (48+(b:Int))=48+b:=by rw [dx]<;>omega
 have v6:((48:Int)+(b:Int)).toNat=48+b:=by omega
 have vD:48+UInt8.ofNat b=UInt8.ofNat (48+b):=by simp
 generalize UInt8.ofNat (48+b)=D0 at *
 obtain ⟨R,hR⟩: ∃R,R=hd++(46::(D0::fO 10 2 x0)):=⟨_,rfl⟩;rw [←hR];have ll1:hd.length+1≤9223372036854775807:=by omega
 have ll2:hd.length≤9223372036854775806:=by omega
 have ll3:hd.length≤9223372036854775805:=by omega
 have ll4:hd.length+1+1≤9223372036854775807:=by omega
 have ll5:hd.length+2≤9223372036854775807:=by omega
 unfold cV at *
 simp [Gj];apply ab RG;simp [d1,d2,d3];refine gx (fun _=>?_) (fun h=>by rw [d4] at h;cases h);simp [u1,u2,u3];apply ab DG;simp [ll1,ll2,ll3,ll4,ll5,u1,u2,u3,v1,v2,v3,v4,v5,v6,vD];refine aP (α:=List UInt8×Nat×Nat) (fun y=>⟨[(3,u y.2.1),(4,.str y.1)],[],[]⟩) (fun y=>y.2.1<100∧y.2.2≤2∧(y.2.2=1→y.2.1%10=0)∧(y.2.2=0→y.2.1=0)∧y.1.length+y.2.2≤100∧y.1++fO 10 y.2.2 y.2.1=R) (fun y=>y.2.2) ?_ (hd++[46,D0],x0,2) ?_ ?_
 ·rintro K ⟨cur,x,f⟩ hK ⟨h1,h2,h3,h4,h5,h6⟩;simp only at h1 h2 h3 h4 h5 h6;by_cases e0:x=0
  ·subst e0;rw [show fO 10 f 0=[] by cases f<;>rfl,nA] at h6;subst h6;clear hK;simp
  ·obtain ⟨f,rfl⟩: ∃g,f=g+1:=by
    refine ⟨f - 1,?_⟩;rcases Nat.eq_zero_or_pos f with hf|hf
    ·exact absurd (h4 hf) e0
    ·omega
   rw [fO,if_neg e0] at h6;have fin:=fun σ' hσ=>hK (cur++[UInt8.ofNat (48+x / 10)],x%10*10,f) σ' ⟨by simp only;omega,by simp only;omega,by simp only;omega,by
    simp only;intro hf
    have:=h3 (by omega)
    omega,by simp only [cG,uc];omega,by simp only;rw [jq];exact h6⟩ (by simp only;omega) hσ
   have xp:(0:Int)<x:=by omega
   have xp':0<x:=by omega
   have l1:cur.length+1≤9223372036854775807:=by omega
   have l2:cur.length≤9223372036854775806:=by omega
   have t1:IntKind.u64.wrap ((x:Int) / 10)=((x / 10:Nat):Int):=by rw [a6]<;>omega
   have t5:(x:Int).tmod 10=((x%10:Nat):Int):=rfl;have t6:IntKind.u64.wrap ((x%10:Nat):Int)=((x%10:Nat):Int):=by rw [a6]<;>omega
   have t7:IntKind.u64.wrap (((x%10:Nat):Int)*10)=((x%10*10:Nat):Int):=by rw [a6]<;>omega
   have q9:x / 10≤9:=by omega
   clear hK h6 h3 h4 hR DG RG;generalize x%10*10=x' at *
   generalize ((x%10:Nat):Int)=r at *
   generalize x / 10=z at *
   have t2:IntKind.u8.wrap (z:Int)=z:=by rw [dx]<;>omega
   have t3:IntKind.u8.wrap (48+(z:Int))=48+z:=by rw [dx]<;>omega
   have t4:((48:Int)+(z:Int)).toNat=48+z:=by omega
   have tD:48+UInt8.ofNat z=UInt8.ofNat (48+z):=by simp
   generalize UInt8.ofNat (48+z)=D at *
   simp [xp,xp',t1,t2,t3,t4,t5,t6,t7,l1,l2];refine fin _ ?_;apply ae<;>simp [t1,t2,t3,t4,t5,t6,t7,tD]
 ·exact ⟨x9,eI _,by simp only;omega,by simp only;omega,by simp only [cG,em,vZ];omega,by rw [hR];simp⟩
 ·apply ae<;>simp [u1,u2,u3,v1,v2,v3,v4,v5,v6,vD]
theorem Fi (k:Int) (s:List UInt8) (n:Nat) (l c:Int) (hl:s.length≤100000) (hn:n<18446744073709551616):Sp Tryz.prog gl 46 [cV k s n l c] (.str (fP k s n)):=by
 unfold fP;cases hr:gZ k s n
 ·rw [if_pos rfl];exact Kr k s n l c hl hr
 rw [if_neg (by decide)];have hr':=hr;unfold gZ at hr';by_cases c1:k=1
 ·rw [if_pos c1];exact M6 k c1 s n l c hl hn hr
 rw [if_neg c1] at hr' ⊢;by_cases c2:k=2
 ·rw [if_pos c2] at hr' ⊢;rw [aE] at hr';have hg:=hr'.1;unfold dJ at hg;rw [gE] at hg;exact M7 k c2 s n l c hl hn (fun r h=>AO (hg r h)) hr
 rw [if_neg c2] at hr' ⊢;by_cases c3:k=3
 ·rw [if_pos c3];exact M8 k c3 s n l c hl hn hr
 rw [if_neg c3];by_cases c4:k=4
 ·rw [if_pos c4];exact Ng k c4 s n l c hl hn hr
 rw [if_neg c4];rw [if_neg (by rintro (h|h);exact c3 h;exact c4 h)] at hr';by_cases c5:k=5
 ·rw [if_pos c5] at hr' ⊢;rw [aE,kO] at hr';exact M9 k c5 s n l c hl hn hr'.2 hr
 rw [if_neg c5] at hr' ⊢;by_cases c6:k=6
 ·rw [if_pos c6] at hr' ⊢;rw [aE,kO] at hr';exact Na k c6 s n l c hl hn hr'.2 hr
 rw [if_neg c6] at hr' ⊢;by_cases c7:k=7
 ·rw [if_pos c7];exact Nb k c7 s n l c hl hn hr
 rw [if_neg c7];by_cases c8:k=8
 ·rw [if_pos c8];exact Nc k c8 s n l c hl hn hr
 rw [if_neg c8];by_cases c9:k=9
 ·rw [if_pos c9];exact Nd k c9 s n l c hl hn hr
 rw [if_neg c9];by_cases c0:k=0
 ·exact Nf k c0 s n l c hl hr
 ·rw [if_neg (by rintro (h|h|h|h);exact c0 h;exact c7 h;exact c8 h;exact c9 h)] at hr';cases hr'
theorem sH (s:List UInt8) (hs:s.length≤1000000):Sp Tryz.prog gl 127 [.str s,.str [48]] (.str (Lib.trimRightS s [48])):=by
 refine fx vu.f162 (by kernel_rfl) (by kernel_rfl) ?_;intro S gb w vs hvs hag;simp only [aa] at hvs;obtain ⟨v1,_,rfl,p1,v2,_,rfl,p2,rfl⟩:=hvs;simp only [PR] at p1 p2;subst p1;subst p2;refine (Any.strings_TrimRight_laid vu (by kernel_rfl) ⟨s.toArray⟩ ⟨[48].toArray⟩ w (by simp only [ByteArray.size,List.size_toArray];omega) (by decide) (ascii_of_all (by decide))).mono ?_;rintro e w' ⟨rfl,h⟩;exact ⟨_,rfl,h,by simp only [PR]⟩
def Nh (b:Nat):List UInt8:=[UInt8.ofNat (48+b / 1000),UInt8.ofNat (48+b / 100%10),UInt8.ofNat (48+b / 10%10),UInt8.ofNat (48+b%10)]
def HJ (b:Nat):List UInt8:=[UInt8.ofNat (48+b / 100),UInt8.ofNat (48+b / 10%10),UInt8.ofNat (48+b%10)]
theorem Ks (b:Nat) (h:b<10000):bg (10000+b)=49::Nh b:=by
 rw [eY (by omega),eY (by omega),eY (by omega),eY (by omega),fZ (by omega)];unfold Nh;rw [show (10000+b) / 10 / 10 / 10 / 10=1 by omega,show (10000+b) / 10 / 10 / 10%10=b / 1000 by omega,show (10000+b) / 10 / 10%10=b / 100%10 by omega,show (10000+b) / 10%10=b / 10%10 by omega,show (10000+b)%10=b%10 by omega];rfl
theorem Kt (b:Nat) (h:b<1000):bg (1000+b)=49::HJ b:=by
 rw [eY (by omega),eY (by omega),eY (by omega),fZ (by omega)];unfold HJ;rw [show (1000+b) / 10 / 10 / 10=1 by omega,show (1000+b) / 10 / 10%10=b / 100 by omega,show (1000+b) / 10%10=b / 10%10 by omega,show (1000+b)%10=b%10 by omega];rfl
theorem HK: ∀a,a<10→ ∀c,c<100→(if Lib.trimRightS (HJ (100*a+c)) [48]=[] then [48] else Lib.trimRightS (HJ (100*a+c)) [48])=UInt8.ofNat (48+(100*a+c) / 100)::fO 10 2 ((100*a+c)%100):=by decide+kernel
theorem Py (x:Nat) (h:x<1000):(if Lib.trimRightS (HJ x) [48]=[] then [48] else Lib.trimRightS (HJ x) [48])=UInt8.ofNat (48+x / 100)::fO 10 2 (x%100):=by
 have:=HK (x / 100) (by omega) (x%100) (by omega)
 rwa [Nat.div_add_mod] at this
theorem HL: ∀a,a<100→ ∀c,c<100→Lib.trimRightS (Nh (100*a+c)) [48]=fO 1000 4 (100*a+c):=by decide+kernel
theorem Pz (x:Nat) (h:x<10000):Lib.trimRightS (Nh x) [48]=fO 1000 4 x:=by
 have:=HL (x / 100) (by omega) (x%100) (by omega)
 rwa [Nat.div_add_mod] at this
def Gu (t:List UInt8):List Int:=t.map fun b=>(b.toNat:Int)
theorem lR: ∀t:List UInt8,(∀b∈t,b.toNat<128)→au (Gu t)=t
 |[],_=>rfl
 |b::t,h=>by
  have hb:=h b (by simp);have e:jn (b.toNat:Int)=[b]:=by
   unfold jn;rw [if_neg (by omega),Int.toNat_natCast];unfold cX;rw [if_pos hb,UInt8.ofNat_toNat]
  show jn (b.toNat:Int)++au (Gu t)=b::t;rw [e,lR t (fun x hx=>h x (by simp [hx]))];rfl
theorem jJ (t:List UInt8) (h: ∀b∈t,b.toNat<128):ai t 0=Gu t:=by
 have:=dS (Gu t) (fun r hr=>by
  obtain ⟨b,hb,rfl⟩:=vY.1 hr
  have:=h b hb
  unfold ug;omega)
 rw [lR t h] at this;exact this
theorem Fj (n:Nat): ∃b t,bg n=b::t∧48≤b.toNat∧b.toNat≤57:=by
 have h:=i8 n;cases e:bg n with
 |nil=>exact absurd e (lz n)
 |cons b t=>
  rw [e,List.all_cons,aE] at h;exact ⟨b,t,rfl,(bC b).1 h.1⟩
theorem Ni (t:List UInt8) (h: ∀b∈t,b.toNat<128) (n:Nat) (r:List UInt8) (e:t=bg n++r):rV (Gu t)=Dd t:=by
 obtain ⟨b,s,h1,h2,h3⟩:=Fj n;unfold rV;rw [lR t h,if_neg];rw [e,h1];rintro (h|h)
 ·cases h
 ·have:cT ((b.toNat:Nat):Int)=false:=h
  unfold cT at this;rw [decide_eq_false_iff_not] at this;omega
theorem zC (n:Nat) (h:n<18446744073709551616):kA (bg n)=(n,0):=by
 unfold kA;rw [vJ,if_pos rfl,lU,if_pos h]
theorem HM (n:Nat):iO (bg n)=true:=by
 unfold iO;rw [i8,ib,kO];exact xO.2 (lz n)
theorem Ku (n:Nat) (h:n<18446744073709551616):Dd (bg n)= .t 3 [] n:=by
 unfold Dd;rw [HM,if_pos rfl,zC n h];rfl
theorem HN (n:Nat) (r:List UInt8):(bg n++46::r).takeWhile (bW 46)=bg n:=by
 refine C7 (by simp [bW]) fun b hb=>?_
 have:=(bC b).1 (gE.1 (i8 n) b hb)
 unfold bW;rw [bne_iff_ne];rintro rfl;simp at this
theorem bj {x:Nat} (h:x≤9):(UInt8.ofNat (48+x)).toNat=48+x:=by rw [UInt8.toNat_ofNat'];omega
theorem sI (t:List UInt8) (h0:t≠[]) (h: ∀b∈t,aC b=true):iO t=true:=by
 unfold iO;rw [gE.2 h,ib,kO];exact xO.2 h0
theorem DX (a:Nat) (ha:a<1000):iO (UInt8.ofNat (48+a / 100)::fO 10 2 (a%100))=true∧(UInt8.ofNat (48+a / 100)::fO 10 2 (a%100)).length≤3∧kG (UInt8.ofNat (48+a / 100)::fO 10 2 (a%100)) 3=a:=by
 have hd: ∀x:Nat,x≤9→aC (UInt8.ofNat (48+x))=true:=fun x hx=>by rw [bC,bj hx];omega
 have b9:a / 100≤9:=by omega
 by_cases c1:a%100=0
 ·rw [c1];show iO [UInt8.ofNat (48+a / 100)]=true∧_∧kG [UInt8.ofNat (48+a / 100)] 3=a;refine ⟨sI _ (by simp) (fun b hb=>by
   rw [oZ] at hb;rw [hb];exact hd _ b9),by simp [fO],?_⟩
  simp only [kG,Au,List.getElem?_cons_zero,List.getElem?_cons_succ,List.getElem?_nil,bj b9];omega
 ·have x9:a%100 / 10≤9:=by omega
  have y9:a%100%10*10 / 10≤9:=by omega
  by_cases c2:a%100%10=0
  ·have e:fO 10 2 (a%100)=[UInt8.ofNat (48+a%100 / 10)]:=by
    rw [fO,if_neg c1,c2];rfl
   rw [e];refine ⟨sI _ (by simp) (fun b hb=>by
    rw [jU,oZ] at hb;rcases hb with rfl|rfl
    ·exact hd _ b9
    ·exact hd _ x9),by simp,?_⟩
   simp only [kG,Au,List.getElem?_cons_zero,List.getElem?_cons_succ,List.getElem?_nil,bj b9,bj x9];omega
  ·have e:fO 10 2 (a%100)=[UInt8.ofNat (48+a%100 / 10),UInt8.ofNat (48+a%100%10*10 / 10)]:=by
    rw [fO,if_neg c1,fO,if_neg (by omega)];rfl
   rw [e];refine ⟨sI _ (by simp) (fun b hb=>by
    rw [jU,jU,oZ] at hb;rcases hb with rfl|rfl|rfl
    ·exact hd _ b9
    ·exact hd _ x9
    ·exact hd _ y9),by simp,?_⟩
   simp only [kG,Au,List.getElem?_cons_zero,List.getElem?_cons_succ,List.getElem?_nil,bj b9,bj x9,bj y9];omega
theorem Kv (n:Nat) (h:n<18446744073709551616):C5 (bg (n / 1000)) (UInt8.ofNat (48+n%1000 / 100)::fO 10 2 (n%1000%100))=(n,0):=by
 obtain ⟨h1,h2,h3⟩:=DX (n%1000) (Nat.mod_lt _ (by decide));unfold C5;rw [h1,h3,if_neg (by rintro (h|h);cases h;omega),zC _ (by omega),if_neg (show ¬((0:Int)≠0) by simp),if_neg (by show ¬(18446744073709551615 - n%1000) / 1000<n / 1000;omega)];congr 1
 show 1000*(n / 1000)+n%1000=n;omega
theorem wT (a:List UInt8) (b:UInt8) (c:List UInt8) (h:aC b=false):iO (a++b::c)=false:=by
 unfold iO;rw [List.all_append,List.all_cons,h,iR,Mz,iR]
theorem lv (a b:List UInt8) (h:b≠[]):aX (a++b) ((a++b).length - 1)=aX b (b.length - 1):=by
 have:=xO.2 h
 rw [cG,show a.length+b.length - 1=a.length+(b.length - 1) by omega,Ep]
theorem Kw {t:List UInt8} (h: ∀b∈t,aC b=true) {i:Nat} (hi:i<t.length):48≤aX t i∧aX t i≤57:=by
 rw [jk hi];exact (bC _).1 (h _ (ml hi))
theorem HO {t:List UInt8} (h:iO t=true):(∀b∈t,aC b=true)∧t≠[]:=by
 unfold iO at h;rw [aE,kO] at h;exact ⟨gE.1 h.1,xO.1 h.2⟩
theorem Nj (n:Nat) (h:n<18446744073709551616):Dd (DW n)= .t 4 [] n:=by
 obtain ⟨h1,h2,h3⟩:=DX (n%1000) (Nat.mod_lt _ (by decide));have ff:=Kv n h;have tw:=HN (n / 1000) (UInt8.ofNat (48+n%1000 / 100)::fO 10 2 (n%1000%100));obtain ⟨hm,hn⟩:=HO h1;unfold DW;generalize UInt8.ofNat (48+n%1000 / 100)::fO 10 2 (n%1000%100)=tl at *
 generalize bg (n / 1000)=hd at *
 have hlen:hd.length<(hd++46::tl).length:=by rw [cG,em];omega
 have hlast:aX (hd++46::tl) ((hd++46::tl).length - 1)≠37:=by
  rw [lv hd (46::tl) (by simp)];have e:(46::tl:List UInt8)=[46]++tl:=rfl;rw [e,lv [46] tl hn]
  have:=Kw hm (i:=tl.length - 1) (by have:=xO.2 hn;omega)
  omega
 unfold Dd;rw [wT hd 46 tl (by decide),if_neg (by decide),if_neg hlast];have hb:qP 46 (hd++46::tl)=true:=by
  unfold qP;rw [tw,io hlen]
 rw [hb,if_pos rfl,tw];have dr:(hd++46::tl).drop (hd.length+1)=tl:=by
  rw [←List.drop_drop,List.drop_left];rfl
 rw [dr,ff];rfl
theorem Kx (y:Nat) (h0:0<y) (hy:y<10000):(∀b∈fO 1000 4 y,aC b=true)∧1≤(fO 1000 4 y).length∧(fO 1000 4 y).length≤4∧kG (fO 1000 4 y) 4=y∧aX (fO 1000 4 y) ((fO 1000 4 y).length - 1)≠48:=by
 have hd: ∀x:Nat,x≤9→aC (UInt8.ofNat (48+x))=true:=fun x hx=>by rw [bC,bj hx];omega
 have a9:y / 1000≤9:=by omega
 have b9:y%1000*10 / 1000≤9:=by omega
 have c9:y%1000*10%1000*10 / 1000≤9:=by omega
 have d9:y%1000*10%1000*10%1000*10 / 1000≤9:=by omega
 by_cases c1:y%1000=0
 ·have e:fO 1000 4 y=[UInt8.ofNat (48+y / 1000)]:=by
   rw [fO,if_neg (by omega),c1];rfl
  rw [e];refine ⟨fun b hb=>by rw [oZ] at hb;rw [hb];exact hd _ a9,by simp,by simp,?_,?_⟩
  ·simp only [kG,Au,List.getElem?_cons_zero,List.getElem?_cons_succ,List.getElem?_nil,bj a9];omega
  ·show (UInt8.ofNat (48+y / 1000)).toNat≠48;rw [bj a9];omega
 by_cases c2:y%100=0
 ·have e:fO 1000 4 y=[UInt8.ofNat (48+y / 1000),UInt8.ofNat (48+y%1000*10 / 1000)]:=by
   rw [fO,if_neg (by omega),fO,if_neg (by omega),show y%1000*10%1000*10=0 by omega];rfl
  rw [e];refine ⟨fun b hb=>by
   rw [jU,oZ] at hb;rcases hb with rfl|rfl
   ·exact hd _ a9
   ·exact hd _ b9,by simp,by simp,?_,?_⟩
  ·simp only [kG,Au,List.getElem?_cons_zero,List.getElem?_cons_succ,List.getElem?_nil,bj a9,bj b9];omega
  ·show (UInt8.ofNat (48+y%1000*10 / 1000)).toNat≠48;rw [bj b9];omega
 by_cases c3:y%10=0
 ·have e:fO 1000 4 y=[UInt8.ofNat (48+y / 1000),UInt8.ofNat (48+y%1000*10 / 1000),UInt8.ofNat (48+y%1000*10%1000*10 / 1000)]:=by
   rw [fO,if_neg (by omega),fO,if_neg (by omega),fO,if_neg (by omega),show y%1000*10%1000*10%1000*10=0 by omega];rfl
  rw [e];refine ⟨fun b hb=>by
   rw [jU,jU,oZ] at hb;rcases hb with rfl|rfl|rfl
   ·exact hd _ a9
   ·exact hd _ b9
   ·exact hd _ c9,by simp,by simp,?_,?_⟩
  ·simp only [kG,Au,List.getElem?_cons_zero,List.getElem?_cons_succ,List.getElem?_nil,bj a9,bj b9,bj c9];omega
  ·show (UInt8.ofNat (48+y%1000*10%1000*10 / 1000)).toNat≠48;rw [bj c9];omega
 ·have e:fO 1000 4 y=[UInt8.ofNat (48+y / 1000),UInt8.ofNat (48+y%1000*10 / 1000),UInt8.ofNat (48+y%1000*10%1000*10 / 1000),UInt8.ofNat (48+y%1000*10%1000*10%1000*10 / 1000)]:=by
   rw [fO,if_neg (by omega),fO,if_neg (by omega),fO,if_neg (by omega),fO,if_neg (by omega)];rfl
  rw [e];refine ⟨fun b hb=>by
   rw [jU,jU,jU,oZ] at hb;rcases hb with rfl|rfl|rfl|rfl
   ·exact hd _ a9
   ·exact hd _ b9
   ·exact hd _ c9
   ·exact hd _ d9,by simp,by simp,?_,?_⟩
  ·simp only [kG,Au,List.getElem?_cons_zero,List.getElem?_cons_succ,List.getElem?_nil,bj a9,bj b9,bj c9,bj d9];omega
  ·show (UInt8.ofNat (48+y%1000*10%1000*10%1000*10 / 1000)).toNat≠48;rw [bj d9];omega
theorem Kz (n:Nat):(bg n).takeWhile (bW 46)=bg n:=by
 refine xK fun b hb=>?_
 have:=(bC b).1 (gE.1 (i8 n) b hb)
 unfold bW;rw [bne_iff_ne];rintro rfl;simp at this
theorem KA (t:List UInt8) (z:Nat) (fr:List UInt8) (b:List UInt8) (hz:z≤100) (hb:b=bg z++fr) (hbt: ∀i,i<b.length→aX t i=aX b i) (y:Nat)
  (hf:(fr=[]∧y=0)∨ ∃tl,fr=46::tl∧(∀x∈tl,aC x=true)∧1≤tl.length∧tl.length≤4∧kG tl 4=y∧aX tl (tl.length - 1)≠48) (hp:z*10000+y≤1000000):
  JB t b (bg z).length=(z*10000+y,0):=by
 have okz:=(lZ (bg z)).1 (vJ z);have l3:(bg z).length≤3:=cP 2 z (by omega);have l1:1≤(bg z).length:=xO.2 (lz z);have tk:b.take (bg z).length=bg z:=by rw [hb,List.take_left]
 have fu:kG b (bg z).length=z:=by
  rw [lY b _ (by rw [hb,cG];omega),tk,lU]
 have b0:aX t 0=aX (bg z) 0:=by
  rw [hbt 0 (by rw [hb,cG];omega),hb];unfold aX;rw [List.getElem?_append_left (by omega)]
 have dr:(∀x∈b.drop ((bg z).length+1),aC x=true)∧kG (b.drop ((bg z).length+1)) 4=y∧ ¬((bg z).length<b.length∧(b.length - 1 - (bg z).length<1∨4<b.length - 1 - (bg z).length∨aX t (b.length - 1)=48)):=by
  rcases hf with ⟨rfl,rfl⟩|⟨tl,rfl,h1,h2,h3,h4,h5⟩
  ·rw [nA] at hb;have e:b.drop ((bg z).length+1)=[]:=ui (by rw [hb];omega);rw [e];refine ⟨(fun x hx=>by cases hx),rfl,?_⟩;rw [hb];omega
  ·have e:b.drop ((bg z).length+1)=tl:=by
    rw [hb,←List.drop_drop,List.drop_left];rfl
   have bl:b.length=(bg z).length+1+tl.length:=by rw [hb,cG,em];omega
   rw [e];refine ⟨h1,h4,?_⟩;have lst:aX t (b.length - 1)=aX tl (tl.length - 1):=by
    rw [hbt _ (by omega),hb,lv (bg z) (46::tl) (by simp)];have e2:(46::tl:List UInt8)=[46]++tl:=rfl;rw [e2,lv [46] tl (xO.1 (by omega))]
   rw [lst];rintro ⟨_,q|q|q⟩
   ·omega
   ·omega
   ·exact h5 q
 unfold JB LD;rw [tk,fu,dr.2.1,gE.2 dr.1,okz.2.1];rw [if_neg (by rintro (h|h)<;>cases h),if_neg,if_neg (by omega),if_neg (by omega)];rintro (h|h|⟨h,h'⟩)
 ·exact dr.2.2 h
 ·omega
 ·rw [b0] at h;exact okz.2.2 ⟨h,h'⟩
theorem Nk (p:Nat) (h:p≤1000000):Dd (AT p)= .t 5 [] p:=by
 have ez:p / 10000*10000+p%10000=p:=by omega
 have hz:p / 10000≤100:=by omega
 have hy:p%10000<10000:=Nat.mod_lt _ (by decide);unfold AT;rw [if_neg (by omega)];generalize p / 10000=z at *
 generalize p%10000=y at *
 subst ez;obtain ⟨fr,hfr⟩: ∃fr,fr=(if y=0 then [] else [46])++fO 1000 4 y:=⟨_,rfl⟩;have et:bg z++((if y=0 then [] else [46])++(fO 1000 4 y++[37]))=bg z++fr++[37]:=by
  rw [hfr];simp [jq]
 rw [et];have hf:(fr=[]∧y=0)∨ ∃tl,fr=46::tl∧(∀x∈tl,aC x=true)∧1≤tl.length∧tl.length≤4∧kG tl 4=y∧aX tl (tl.length - 1)≠48:=by
  by_cases c:y=0
  ·left;rw [hfr,if_pos c,c];exact ⟨rfl,rfl⟩
  ·right;refine ⟨fO 1000 4 y,?_,Kx y (by omega) hy⟩;rw [hfr,if_neg c];rfl
 clear hfr et;have l1:1≤(bg z).length:=xO.2 (lz z);have tw:(bg z++fr).takeWhile (bW 46)=bg z:=by
  rcases hf with ⟨rfl,_⟩|⟨tl,rfl,_⟩
  ·rw [nA,Kz]
  ·exact HN z tl
 have hl:(bg z++fr++[37]).length=(bg z++fr).length+1:=by rw [cG];rfl
 have hlast:aX (bg z++fr++[37]) ((bg z++fr++[37]).length - 1)=37:=by
  rw [lv _ [37] (by simp)];rfl
 have tk:(bg z++fr++[37]).take ((bg z++fr++[37]).length - 1)=bg z++fr:=by
  rw [hl,show (bg z++fr).length+1 - 1=(bg z++fr).length by omega,List.take_left]
 have PB:=KA (bg z++fr++[37]) z fr (bg z++fr) hz rfl (fun i hi=>by
  unfold aX;rw [List.getElem?_append_left hi]) y hf h
 have pf:JC (bg z++fr++[37])=(z*10000+y,0):=by
  unfold JC;rw [if_neg (by
   rintro (h|h)
   ·rw [hl,cG] at h;omega
   ·exact h hlast),tk,tw]
  exact PB
 unfold Dd;rw [show bg z++fr++[37]=(bg z++fr)++37::[] from rfl,wT (bg z++fr) 37 [] (by decide),if_neg (by decide)];rw [show (bg z++fr)++37::[]=bg z++fr++[37] from rfl,if_pos hlast,pf];rfl
theorem DY: ∀(d:List UInt8) (n:Nat),n≤d.foldl (fun a b=>10*a+(b.toNat - 48)) n
 |[],n=>eI _
 |b::d,n=>by
  rw [List.foldl_cons];exact qT (by omega) (DY d _)
theorem zD: ∀(d r:List UInt8) (dg:Bool) (n la sm:Nat) (fr:Bool),(∀b∈d,aC b=true)→(d=[]→dg=true)→d.foldl (fun a b=>10*a+(b.toNat - 48)) n≤253402300799→
  xE (d++r) dg n la sm fr=xE r true (d.foldl (fun a b=>10*a+(b.toNat - 48)) n) la sm fr
 |[],r,dg,n,la,sm,fr,h,h0,hm=>by
  rw [h0 rfl];rfl
 |b::d,r,dg,n,la,sm,fr,h,h0,hm=>by
  rw [List.foldl_cons] at hm ⊢;have hn:n≤253402300799:=by
   have:=DY d (10*n+(b.toNat - 48))
   omega
  rw [bH,xE,if_pos (h b (by simp)),if_pos hn];exact zD d r true _ la sm fr (fun x hx=>h x (by simp [hx])) (fun _=>rfl) hm
theorem vw (q u:Nat) (c:UInt8) (l:List UInt8) (la sm:Nat) (hc:aC c=false) (hu:aY c.toNat=u) (h0:0<u) (hla:u<la) (hm:sm+q*u≤253402300799):
  xE (bg q++c::l) false 0 la sm false=xE l false 0 u (sm+q*u) false:=by
 have hq:q≤q*u:=Nat.le_mul_of_pos_right _ h0;have e:=zD (bg q) (c::l) false 0 la sm false (gE.1 (i8 q)) (fun h=>absurd h (lz q)) (by
  have:=lU q
  unfold aL at this;rw [this];omega)
 rw [e];have e2:(bg q).foldl (fun a b=>10*a+(b.toNat - 48)) 0=q:=lU q;rw [e2,xE,if_neg (by rw [hc];decide),hu,if_neg (by rintro (h|h|h);cases h;omega;omega),if_neg,if_neg (by omega)];intro h;rw [Nat.div_lt_iff_lt_mul h0] at h;omega
def KC (l:List (Nat×UInt8)):Prop:= ∀n la sm,(∀p∈l,p.1<la)→sm+n≤253402300799→xE (lu l n) false 0 la sm false=(sm+n,0)
theorem og (u:Nat) (c:UInt8) (l:List (Nat×UInt8)) (H:KC l) (hl: ∀p∈l,p.1<u) (hc:aC c=false) (hu:aY c.toNat=u) (h0:0<u):KC ((u,c)::l):=by
 intro n la sm hla hm;rw [lu];by_cases g:u≤n
 ·rw [if_pos g];have e:=Nat.div_add_mod n u;rw [LG] at e;rw [vw (n / u) u c (lu l (n%u)) la sm hc hu h0 (hla (u,c) (by simp)) (by omega),H (n%u) u (sm+n / u*u) hl (by omega)];congr 1
  omega
 ·rw [if_neg g];exact H n la sm (fun p hp=>hla p (by simp [hp])) hm
theorem KD:KC [(1,115)]:=by
 intro n la sm hla hm;rw [lu];by_cases g:1≤n
 ·rw [if_pos g,Nat.div_one,Nat.mod_one];have e:=vw n 1 115 (lu [] 0) la sm (by decide) (by decide) (by decide) (hla (1,115) (by simp)) (by omega);rw [e,Nat.mul_one];rfl
 ·rw [if_neg g]
  have:n=0:=by omega
  subst this;rfl
theorem KE:KC kE:=by
 refine og _ _ _ (og _ _ _ (og _ _ _ (og _ _ _ KD ?_ ?_ ?_ ?_) ?_ ?_ ?_ ?_) ?_ ?_ ?_ ?_) ?_ ?_ ?_ ?_;all_goals first|decide|(intro p hp;simp at hp;rcases hp with rfl|rfl|rfl|rfl<;>decide)|(intro p hp;simp at hp;rcases hp with rfl|rfl|rfl<;>decide)|(intro p hp;simp at hp;rcases hp with rfl|rfl<;>decide)|(intro p hp;simp at hp;subst hp;decide)
theorem pA: ∀(l:List (Nat×UInt8)) (n:Nat),(∀p∈l,p.2∈nB)→(∀b∈lu l n,aC b=true∨b∈nB)∧(lu l n≠[]→ ∃q c r,lu l n=bg q++c::r∧c∈nB)
 |[],n,h=>⟨fun b hb=>by simp [lu] at hb,fun h=>absurd rfl h⟩
 |(u,c)::l,n,h=>by
  have hc:=h (u,c) (by simp);rw [lu];split
  ·have ih:=pA l (n%u) (fun p hp=>h p (by simp [hp]));refine ⟨fun b hb=>?_,fun _=>⟨n / u,c,_,rfl,hc⟩⟩;rcases iB.1 hb with hb|hb
   ·exact .inl (gE.1 (i8 _) b hb)
   ·rcases jU.1 hb with rfl|hb
    ·exact .inr hc
    ·exact ih.1 b hb
  ·exact pA l n (fun p hp=>h p (by simp [hp]))
theorem qZ (b:UInt8) (h:b∈nB):aC b=false∧b.toNat≠37∧b≠46∧b.toNat<128:=by
 have: ∀b∈nB,aC b=false∧b.toNat≠37∧b≠46∧b.toNat<128:=by decide
 exact this b h
theorem vx (n:Nat):(∀b∈pz n,aC b=true∨b∈nB)∧ ∃q c r,pz n=bg q++c::r∧c∈nB:=by
 unfold pz;by_cases c:n=0
 ·rw [if_pos c];refine ⟨by decide,0,115,[],?_,by decide⟩;rw [fZ (by omega)];rfl
 ·rw [if_neg c]
  have:=pA kE n (by decide)
  exact ⟨this.1,this.2 (fun h=>c ((qX n).1 h))⟩
theorem Nl (n:Nat) (h:n≤253402300799):Dd (pz n)= .t 6 [] n:=by
 obtain ⟨h1,q,c,r,h2,h3⟩:=vx n;have hn:=qZ c h3;have sp:vQ (pz n)=(n,0):=by
  unfold vQ pz;by_cases c0:n=0
  ·subst c0;rfl
  ·rw [if_neg c0,if_neg (fun h=>c0 ((qX n).1 h))]
   have:=KE n 1000000 0 (by decide) (by omega)
   rw [this,mM]
 have ne:pz n≠[]:=by rw [h2];simp
 have l1:=xO.2 ne;have nol:aX (pz n) ((pz n).length - 1)≠37:=by
  rw [jk (by omega)];rcases h1 _ (ml (show (pz n).length - 1<(pz n).length by omega)) with h|h
  ·have:=(bC _).1 h
   omega
  ·exact (qZ _ h).2.1
 have no46:qP 46 (pz n)=false:=by
  unfold qP;rw [decide_eq_false_iff_not,xK fun b hb=>?_]
  ·omega
  ·unfold bW;rw [bne_iff_ne];rcases h1 b hb with h|h
   ·rintro rfl;exact absurd h (by decide)
   ·exact (qZ _ h).2.2.1
 have dg:iO (pz n)=false:=by
  rw [h2];exact wT (bg q) c r hn.1
 unfold Dd;rw [dg,if_neg (by decide),if_neg nol,no46,if_neg (by decide),sp];rfl
theorem sJ: ∀(l:List Int) (n:Nat) (la:Int),cO n la l=true→ ∀r∈l,(bB r||(cT r||r==95||r==45))=true
 |[],n,la,h,r,hr=>by cases hr
 |x::l,n,la,h,r,hr=>by
  rw [cO,aE] at h;rcases jU.1 hr with rfl|hr
  ·have:=h.1
   rw [EE] at this ⊢;rcases this with g|g
   ·exact .inl g
   ·exact .inr (aE .. ▸g).2
  ·exact sJ l (n+1) x h.2 r hr
theorem vy {l:List Int} (h:cO 0 32 l=true): ∃r t,l=r::t∧bB r=true:=by
 cases l with
 |nil=>simp [cO] at h
 |cons r t=>
  refine ⟨r,t,rfl,?_⟩;rw [cO,aE] at h;simpa using h.1
theorem B8 {r:Int} (h:bB r=true):cT r=false:=by
 rcases kt r with ⟨_,g⟩|⟨h1,h2,_⟩|⟨_,_,g⟩|⟨h1,h2,_⟩|⟨_,_,g⟩|⟨h1,h2,_⟩|⟨_,g⟩|⟨h1,h2,_⟩|⟨_,g⟩|⟨h1,h2,_⟩|⟨_,_,g⟩|⟨h1,h2,_⟩|⟨_,g⟩;all_goals first|(rw [g] at h;cases h)|(unfold cT;rw [decide_eq_false_iff_not];omega)
theorem vz (s:List UInt8) (h:du s=true): ∀r∈ai s 0,wthn r=true:=fun r hr=>by
 have:=sJ _ _ _ h r hr
 unfold wthn;simp only [EE,bP,o5] at this ⊢;rcases this with g|(g|g)|g
 ·exact .inl g
 ·exact .inr (.inl g)
 ·exact .inr (.inr (.inl g))
 ·exact .inr (.inr (.inr (.inl g)))
theorem KF (s:List UInt8) (h:du s=true):rV (ai s 0)= .t 1 s 0:=by
 have h':=h;unfold du at h;obtain ⟨r,t,e,hr⟩:=vy h;have tx:=lr s (fun r hr=>(oa (vz s h' r hr)).2);unfold rV;rw [tx,if_pos,if_pos h'];right;rw [e];exact B8 hr
theorem KG (s:List UInt8) (h:du s=true):ai s 0≠[]:=by
 obtain ⟨r,t,e,hr⟩:=vy h;rw [e];simp
theorem wU (b:UInt8) (h:aC b=true∨b=46∨b=37∨b∈nB):wthn (b.toNat:Int)=true:=by
 rcases h with h|rfl|rfl|h
 ·have:=(bC b).1 h
  have:cT (b.toNat:Int)=true:=by
   unfold cT;rw [kO];omega
  unfold wthn;rw [this,Bool.true_or,Bool.or_true]
 ·decide
 ·decide
 ·revert b;decide
end Go.Ai
