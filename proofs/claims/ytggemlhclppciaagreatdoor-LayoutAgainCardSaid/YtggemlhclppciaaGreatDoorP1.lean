/- P1: a part of the proof. Conditions: as each theorem says. -/
import Derived.Test.YtggemlhclppciaaGreatDoorCode
import Derived.Test.YtggemlhclppciaaGreatDoorLib10
import Derived.Shelf.Strings.Repeat
import Derived.Shelf.Lays
import Derived.Shelf.LaysM
import Derived.Shelf.Small.Wraps
import Derived.Shelf.Strings.BuilderX
import Derived.Shelf.Strings.SplitCore
import Derived.Shelf.Unicode.ValidAny
import Derived.Laws.Bits64b
set_option maxHeartbeats 4000000
set_option linter.unusedSimpArgs false
set_option linter.unusedVariables false
set_option maxRecDepth 20000
namespace Go.Ai
open Go.Proofs Go.Shelf
def aW:Ren:={
 f:=fun x=>match x with
  |105=>98
  |212=>134
  |99=>135
  |165=>136
  |166=>97
  |170=>137
  |169=>40
  |263=>176
  |264=>177
  |206=>178
  |240=>133
  |241=>179
  |276=>175
  |277=>207
  |n=>n
 t:=fun x=>match x with
  |9=>9
  |3=>3
  |4=>4
  |20=>20
  |0=>0
  |46=>173
  |109=>174
  |5=>5
  |72=>69
  |76=>138
  |51=>39
  |146=>220
  |53=>44
  |148=>222
  |70=>66
  |37=>67
  |75=>137
  |127=>106
  |164=>218
  |80=>73
  |n=>n
 g:=fun x=>x}
set_option maxRecDepth 100000 in
theorem A4:Lays.n105 Tryz.prog aW where
 mixed:=by kernel_rfl
 f99:=Eq.trans Tryz.func135 (congrArg some (show Tryz.f135=Body.n99 aW by kernel_rfl))
 f105:=Eq.trans Tryz.func98 (congrArg some (show Tryz.f98=Body.n105 aW by kernel_rfl))
 f165:=Eq.trans Tryz.func136 (congrArg some (show Tryz.f136=Body.n165 aW by kernel_rfl))
 f166:=Eq.trans Tryz.func97 (congrArg some (show Tryz.f97=Body.n166 aW by kernel_rfl))
 f169:=Eq.trans Tryz.func40 (congrArg some (show Tryz.f40=Body.n169 aW by kernel_rfl))
 f170:=Eq.trans Tryz.func137 (congrArg some (show Tryz.f137=Body.n170 aW by kernel_rfl))
 f206:=Eq.trans Tryz.func178 (congrArg some (show Tryz.f178=Body.n206 aW by kernel_rfl))
 f212:=Eq.trans Tryz.func134 (congrArg some (show Tryz.f134=Body.n212 aW by kernel_rfl))
 f240:=Eq.trans Tryz.func133 (congrArg some (show Tryz.f133=Body.n240 aW by kernel_rfl))
 f241:=Eq.trans Tryz.func179 (congrArg some (show Tryz.f179=Body.n241 aW by kernel_rfl))
 f263:=Eq.trans Tryz.func176 (congrArg some (show Tryz.f176=Body.n263 aW by kernel_rfl))
 f264:=Eq.trans Tryz.func177 (congrArg some (show Tryz.f177=Body.n264 aW by kernel_rfl))
 f276:=Eq.trans Tryz.func175 (congrArg some (show Tryz.f175=Body.n276 aW by kernel_rfl))
 f277:=Eq.trans Tryz.func207 (congrArg some (show Tryz.f207=Body.n277 aW by kernel_rfl))
 t0:=Tryz.underlying0
 a0:=Tryz.isAgg0
 z0:=Tryz.sizeOf0
 v0:=Tryz.zeroValue0
 t3:=Tryz.underlying3
 a3:=Tryz.isAgg3
 z3:=Tryz.sizeOf3
 v3:=Tryz.zeroValue3
 t4:=Tryz.underlying4
 a4:=Tryz.isAgg4
 z4:=Tryz.sizeOf4
 v4:=Tryz.zeroValue4
 t5:=Tryz.underlying5
 a5:=Tryz.isAgg5
 z5:=Tryz.sizeOf5
 v5:=Tryz.zeroValue5
 t9:=Tryz.underlying9
 a9:=Tryz.isAgg9
 z9:=Tryz.sizeOf9
 v9:=Tryz.zeroValue9
 t20:=Tryz.underlying20
 a20:=Tryz.isAgg20
 z20:=Tryz.sizeOf20
 v20:=Tryz.zeroValue20
 t37:=Tryz.underlying67
 a37:=Tryz.isAgg67
 z37:=Tryz.sizeOf67
 v37:=Tryz.zeroValue67
 t46:=Tryz.underlying173
 a46:=Tryz.isAgg173
 z46:=Tryz.sizeOf173
 v46:=Tryz.zeroValue173
 t51:=Tryz.underlying39
 a51:=Tryz.isAgg39
 z51:=Tryz.sizeOf39
 v51:=Tryz.zeroValue39
 t53:=Tryz.underlying44
 a53:=Tryz.isAgg44
 z53:=Tryz.sizeOf44
 v53:=Tryz.zeroValue44
 t70:=Tryz.underlying66
 a70:=Tryz.isAgg66
 z70:=Tryz.sizeOf66
 v70:=Tryz.zeroValue66
 t72:=Tryz.underlying69
 a72:=Tryz.isAgg69
 z72:=Tryz.sizeOf69
 v72:=Tryz.zeroValue69
 t75:=Tryz.underlying137
 a75:=Tryz.isAgg137
 z75:=Tryz.sizeOf137
 v75:=Tryz.zeroValue137
 t76:=Tryz.underlying138
 a76:=Tryz.isAgg138
 z76:=Tryz.sizeOf138
 v76:=Tryz.zeroValue138
 t109:=Tryz.underlying174
 a109:=Tryz.isAgg174
 z109:=Tryz.sizeOf174
 v109:=Tryz.zeroValue174
 t127:=Tryz.underlying106
 a127:=Tryz.isAgg106
 z127:=Tryz.sizeOf106
 v127:=Tryz.zeroValue106
 t146:=Tryz.underlying220
 a146:=Tryz.isAgg220
 z146:=Tryz.sizeOf220
 v146:=Tryz.zeroValue220
 t148:=Tryz.underlying222
 a148:=Tryz.isAgg222
 z148:=Tryz.sizeOf222
 v148:=Tryz.zeroValue222
 t164:=Tryz.underlying218
 a164:=Tryz.isAgg218
 z164:=Tryz.sizeOf218
 v164:=Tryz.zeroValue218
def aY:Ren:={
 f:=fun x=>match x with
  |167=>100
  |156=>99
  |165=>136
  |166=>97
  |169=>40
  |240=>133
  |241=>179
  |276=>175
  |277=>207
  |n=>n
 t:=fun x=>match x with
  |31=>104
  |9=>9
  |3=>3
  |4=>4
  |0=>0
  |20=>20
  |72=>69
  |76=>138
  |70=>66
  |37=>67
  |75=>137
  |127=>106
  |164=>218
  |5=>5
  |80=>73
  |n=>n
 g:=fun x=>x}
set_option maxRecDepth 100000 in
theorem au:Lays.n156 Tryz.prog aY where
 mixed:=by kernel_rfl
 f156:=Eq.trans Tryz.func99 (congrArg some (show Tryz.f99=Body.n156 aY by kernel_rfl))
 f165:=Eq.trans Tryz.func136 (congrArg some (show Tryz.f136=Body.n165 aY by kernel_rfl))
 f166:=Eq.trans Tryz.func97 (congrArg some (show Tryz.f97=Body.n166 aY by kernel_rfl))
 f169:=Eq.trans Tryz.func40 (congrArg some (show Tryz.f40=Body.n169 aY by kernel_rfl))
 f240:=Eq.trans Tryz.func133 (congrArg some (show Tryz.f133=Body.n240 aY by kernel_rfl))
 f241:=Eq.trans Tryz.func179 (congrArg some (show Tryz.f179=Body.n241 aY by kernel_rfl))
 f276:=Eq.trans Tryz.func175 (congrArg some (show Tryz.f175=Body.n276 aY by kernel_rfl))
 f277:=Eq.trans Tryz.func207 (congrArg some (show Tryz.f207=Body.n277 aY by kernel_rfl))
 t0:=Tryz.underlying0
 a0:=Tryz.isAgg0
 z0:=Tryz.sizeOf0
 v0:=Tryz.zeroValue0
 t3:=Tryz.underlying3
 a3:=Tryz.isAgg3
 z3:=Tryz.sizeOf3
 v3:=Tryz.zeroValue3
 t4:=Tryz.underlying4
 a4:=Tryz.isAgg4
 z4:=Tryz.sizeOf4
 v4:=Tryz.zeroValue4
 t9:=Tryz.underlying9
 a9:=Tryz.isAgg9
 z9:=Tryz.sizeOf9
 v9:=Tryz.zeroValue9
 t20:=Tryz.underlying20
 a20:=Tryz.isAgg20
 z20:=Tryz.sizeOf20
 v20:=Tryz.zeroValue20
 t31:=Tryz.underlying104
 a31:=Tryz.isAgg104
 z31:=Tryz.sizeOf104
 v31:=Tryz.zeroValue104
 t37:=Tryz.underlying67
 a37:=Tryz.isAgg67
 z37:=Tryz.sizeOf67
 v37:=Tryz.zeroValue67
 t70:=Tryz.underlying66
 a70:=Tryz.isAgg66
 z70:=Tryz.sizeOf66
 v70:=Tryz.zeroValue66
 t72:=Tryz.underlying69
 a72:=Tryz.isAgg69
 z72:=Tryz.sizeOf69
 v72:=Tryz.zeroValue69
 t75:=Tryz.underlying137
 a75:=Tryz.isAgg137
 z75:=Tryz.sizeOf137
 v75:=Tryz.zeroValue137
 t76:=Tryz.underlying138
 a76:=Tryz.isAgg138
 z76:=Tryz.sizeOf138
 v76:=Tryz.zeroValue138
 t127:=Tryz.underlying106
 a127:=Tryz.isAgg106
 z127:=Tryz.sizeOf106
 v127:=Tryz.zeroValue106
 t164:=Tryz.underlying218
 a164:=Tryz.isAgg218
 z164:=Tryz.sizeOf218
 v164:=Tryz.zeroValue218
def kX:Ren:={
 f:=fun x=>match x with
  |283=>165
  |n=>n
 t:=fun x=>match x with
  |3=>3
  |9=>9
  |4=>4
  |n=>n
 g:=fun x=>x}
set_option maxRecDepth 100000 in
theorem Cc:Lays.n283 Tryz.prog kX where
 mixed:=by kernel_rfl
 f283:=Eq.trans Tryz.func165 (congrArg some (show Tryz.f165=Body.n283 kX by kernel_rfl))
 t3:=Tryz.underlying3
 a3:=Tryz.isAgg3
 z3:=Tryz.sizeOf3
 v3:=Tryz.zeroValue3
 t4:=Tryz.underlying4
 a4:=Tryz.isAgg4
 z4:=Tryz.sizeOf4
 v4:=Tryz.zeroValue4
 t9:=Tryz.underlying9
 a9:=Tryz.isAgg9
 z9:=Tryz.sizeOf9
 v9:=Tryz.zeroValue9
def fH:Ren:={
 f:=fun x=>match x with
  |284=>166
  |129=>200
  |317=>199
  |318=>201
  |n=>n
 t:=fun x=>match x with
  |53=>44
  |3=>3
  |212=>245
  |0=>0
  |4=>4
  |46=>173
  |5=>5
  |9=>9
  |n=>n
 g:=fun x=>match x with
  |17=>2
  |n=>n}
set_option maxRecDepth 100000 in
theorem A5:LaysM.n284 Tryz.prog fH where
 mixed:=by kernel_rfl
 f129:=Eq.trans Tryz.func200 (congrArg some (show Tryz.f200=Body.n129 fH by kernel_rfl))
 f284:=Eq.trans Tryz.func166 (congrArg some (show Tryz.f166=Body.n284 fH by kernel_rfl))
 f317:=Eq.trans Tryz.func199 (congrArg some (show Tryz.f199=Body.n317 fH by kernel_rfl))
 f318:=Eq.trans Tryz.func201 (congrArg some (show Tryz.f201=Body.n318 fH by kernel_rfl))
 t0:=Tryz.underlying0
 a0:=Tryz.isAgg0
 z0:=Tryz.sizeOf0
 v0:=Tryz.zeroValue0
 t3:=Tryz.underlying3
 a3:=Tryz.isAgg3
 z3:=Tryz.sizeOf3
 v3:=Tryz.zeroValue3
 t4:=Tryz.underlying4
 a4:=Tryz.isAgg4
 z4:=Tryz.sizeOf4
 v4:=Tryz.zeroValue4
 t5:=Tryz.underlying5
 a5:=Tryz.isAgg5
 z5:=Tryz.sizeOf5
 v5:=Tryz.zeroValue5
 t9:=Tryz.underlying9
 a9:=Tryz.isAgg9
 z9:=Tryz.sizeOf9
 v9:=Tryz.zeroValue9
 t46:=Tryz.underlying173
 a46:=Tryz.isAgg173
 z46:=Tryz.sizeOf173
 v46:=Tryz.zeroValue173
 t53:=Tryz.underlying44
 a53:=Tryz.isAgg44
 z53:=Tryz.sizeOf44
 v53:=Tryz.zeroValue44
 t212:=Tryz.underlying245
 a212:=Tryz.isAgg245
 z212:=Tryz.sizeOf245
 v212:=Tryz.zeroValue245
 g17:=by kernel_rfl
 i0:=by kernel_rfl
 i3:=by kernel_rfl
 i4:=by kernel_rfl
 i5:=by kernel_rfl
 i9:=by kernel_rfl
 i46:=by kernel_rfl
 i53:=by kernel_rfl
 i212:=by kernel_rfl
 m17:=by kernel_rfl
def oF:Ren:={
 f:=fun x=>match x with
  |285=>167
  |n=>n
 t:=fun x=>match x with
  |37=>67
  |53=>44
  |3=>3
  |4=>4
  |51=>39
  |9=>9
  |5=>5
  |0=>0
  |n=>n
 g:=fun x=>x}
set_option maxRecDepth 100000 in
theorem A6:Lays.n285 Tryz.prog oF where
 mixed:=by kernel_rfl
 f285:=Eq.trans Tryz.func167 (congrArg some (show Tryz.f167=Body.n285 oF by kernel_rfl))
 t0:=Tryz.underlying0
 a0:=Tryz.isAgg0
 z0:=Tryz.sizeOf0
 v0:=Tryz.zeroValue0
 t3:=Tryz.underlying3
 a3:=Tryz.isAgg3
 z3:=Tryz.sizeOf3
 v3:=Tryz.zeroValue3
 t4:=Tryz.underlying4
 a4:=Tryz.isAgg4
 z4:=Tryz.sizeOf4
 v4:=Tryz.zeroValue4
 t5:=Tryz.underlying5
 a5:=Tryz.isAgg5
 z5:=Tryz.sizeOf5
 v5:=Tryz.zeroValue5
 t9:=Tryz.underlying9
 a9:=Tryz.isAgg9
 z9:=Tryz.sizeOf9
 v9:=Tryz.zeroValue9
 t37:=Tryz.underlying67
 a37:=Tryz.isAgg67
 z37:=Tryz.sizeOf67
 v37:=Tryz.zeroValue67
 t51:=Tryz.underlying39
 a51:=Tryz.isAgg39
 z51:=Tryz.sizeOf39
 v51:=Tryz.zeroValue39
 t53:=Tryz.underlying44
 a53:=Tryz.isAgg44
 z53:=Tryz.sizeOf44
 v53:=Tryz.zeroValue44
def iu:Ren:={
 f:=fun x=>match x with
  |196=>123
  |259=>163
  |n=>n
 t:=fun x=>match x with
  |9=>9
  |4=>4
  |3=>3
  |5=>5
  |12=>12
  |119=>201
  |0=>0
  |46=>173
  |139=>204
  |138=>203
  |53=>44
  |n=>n
 g:=fun x=>match x with
  |3=>0
  |4=>1
  |n=>n}
set_option maxRecDepth 100000 in
theorem Cd:Lays.n196 Tryz.prog iu where
 mixed:=by kernel_rfl
 f196:=Eq.trans Tryz.func123 (congrArg some (show Tryz.f123=Body.n196 iu by kernel_rfl))
 f259:=Eq.trans Tryz.func163 (congrArg some (show Tryz.f163=Body.n259 iu by kernel_rfl))
 t0:=Tryz.underlying0
 a0:=Tryz.isAgg0
 z0:=Tryz.sizeOf0
 v0:=Tryz.zeroValue0
 t3:=Tryz.underlying3
 a3:=Tryz.isAgg3
 z3:=Tryz.sizeOf3
 v3:=Tryz.zeroValue3
 t4:=Tryz.underlying4
 a4:=Tryz.isAgg4
 z4:=Tryz.sizeOf4
 v4:=Tryz.zeroValue4
 t5:=Tryz.underlying5
 a5:=Tryz.isAgg5
 z5:=Tryz.sizeOf5
 v5:=Tryz.zeroValue5
 t9:=Tryz.underlying9
 a9:=Tryz.isAgg9
 z9:=Tryz.sizeOf9
 v9:=Tryz.zeroValue9
 t12:=Tryz.underlying12
 a12:=Tryz.isAgg12
 z12:=Tryz.sizeOf12
 v12:=Tryz.zeroValue12
 t46:=Tryz.underlying173
 a46:=Tryz.isAgg173
 z46:=Tryz.sizeOf173
 v46:=Tryz.zeroValue173
 t53:=Tryz.underlying44
 a53:=Tryz.isAgg44
 z53:=Tryz.sizeOf44
 v53:=Tryz.zeroValue44
 t119:=Tryz.underlying201
 a119:=Tryz.isAgg201
 z119:=Tryz.sizeOf201
 t138:=Tryz.underlying203
 a138:=Tryz.isAgg203
 z138:=Tryz.sizeOf203
 v138:=Tryz.zeroValue203
 t139:=Tryz.underlying204
 a139:=Tryz.isAgg204
 z139:=Tryz.sizeOf204
 v139:=Tryz.zeroValue204
 g3:=by kernel_rfl
 g4:=by kernel_rfl
def f9:Ren:={
 f:=fun x=>match x with
  |103=>220
  |210=>240
  |206=>178
  |n=>n
 t:=fun x=>match x with
  |9=>9
  |4=>4
  |24=>228
  |3=>3
  |n=>n
 g:=fun x=>x}
set_option maxRecDepth 100000 in
theorem Em:Lays.n103 Tryz.prog f9 where
 mixed:=by kernel_rfl
 f103:=Eq.trans Tryz.func220 (congrArg some (show Tryz.f220=Body.n103 f9 by kernel_rfl))
 f206:=Eq.trans Tryz.func178 (congrArg some (show Tryz.f178=Body.n206 f9 by kernel_rfl))
 f210:=Eq.trans Tryz.func240 (congrArg some (show Tryz.f240=Body.n210 f9 by kernel_rfl))
 t3:=Tryz.underlying3
 a3:=Tryz.isAgg3
 z3:=Tryz.sizeOf3
 v3:=Tryz.zeroValue3
 t4:=Tryz.underlying4
 a4:=Tryz.isAgg4
 z4:=Tryz.sizeOf4
 v4:=Tryz.zeroValue4
 t9:=Tryz.underlying9
 a9:=Tryz.isAgg9
 z9:=Tryz.sizeOf9
 v9:=Tryz.zeroValue9
 t24:=Tryz.underlying228
 a24:=Tryz.isAgg228
 z24:=Tryz.sizeOf228
 v24:=Tryz.zeroValue228
abbrev u (n:Nat):AV:= .int .u64 n
def wide (n:Nat):AV:= .agg [u (n / 18446744073709551616),u (n%18446744073709551616)]
abbrev i6 (n:Int):AV:= .int .i64 n

theorem PE (x:Int):x.fdiv (2^min 32 IntKind.u64.bits)=x / 4294967296:=by
 have:(2:Int)^min 32 IntKind.u64.bits=4294967296:=by decide
 rw [this];exact Int.fdiv_eq_ediv_of_nonneg _ (by decide)
theorem zn (n:Int) (h1:0≤n) (h2:n<18446744073709551616):bits BinOp.and IntKind.u64 n 4294967295=n%4294967296:=by
 obtain ⟨m,rfl⟩:=Int.eq_ofNat_of_zero_le h1
 have:=bits_and_u64_nat m 4294967295 (by omega) (by omega)
 rw [show ((4294967295:Nat):Int)=4294967295 from rfl] at this;rw [this,show (4294967295:Nat)=2^32 - 1 from rfl,Nat.and_two_pow_sub_one_eq_mod];omega
theorem G9 (x1 x0 y1 y0:Int) (h1:0≤x1) (h2:x1<4294967296) (h3:0≤x0) (h4:x0<4294967296) (h5:0≤y1) (h6:y1<4294967296) (h7:0≤y0) (h8:y0<4294967296):
  ((x1*y1%18446744073709551616+(x1*y0%18446744073709551616+x0*y0%18446744073709551616 / 4294967296)%18446744073709551616 / 4294967296)%18446744073709551616+
   ((x1*y0%18446744073709551616+x0*y0%18446744073709551616 / 4294967296)%18446744073709551616%4294967296+x0*y1%18446744073709551616)%18446744073709551616 / 4294967296)%18446744073709551616
   =(x1*4294967296+x0)*(y1*4294967296+y0) / 18446744073709551616:=by
 have e:(x1*4294967296+x0)*(y1*4294967296+y0)=x1*y1*18446744073709551616+(x1*y0+x0*y1)*4294967296+x0*y0:=by
  simp only [Int.add_mul,Int.mul_add]
  have:x1*4294967296*(y1*4294967296)=x1*y1*18446744073709551616:=by
   rw [show (18446744073709551616:Int)=4294967296*4294967296 from rfl];ac_rfl
  rw [this,show x1*4294967296*y0=x1*y0*4294967296 by ac_rfl,show x0*(y1*4294967296)=x0*y1*4294967296 by ac_rfl];omega
 rw [e];have b: ∀a c:Int,0≤a→a<4294967296→0≤c→c<4294967296→0≤a*c∧a*c≤18446744065119617025:=fun a c ha hb hc hd=>by
  refine ⟨Int.mul_nonneg ha hc,?_⟩
  have:=Int.mul_le_mul (show a≤4294967295 by omega) (show c≤4294967295 by omega) hc (by decide)
  simpa using this
 have b1:=b x1 y1 h1 h2 h5 h6;have b2:=b x1 y0 h1 h2 h7 h8;have b3:=b x0 y1 h3 h4 h5 h6;have b4:=b x0 y0 h3 h4 h7 h8;generalize x1*y1=p at *
 generalize x1*y0=q at *
 generalize x0*y1=r at *
 generalize x0*y0=s at *
 omega
theorem LN (x y:Nat) (hx:x<18446744073709551616) (hy:y<18446744073709551616):Sp Tryz.prog gl 177 [u x,u y] (.tup [u (x*y / 18446744073709551616),u (x*y%18446744073709551616)]):=by
 refine NQ rfl rfl ?_;simp [K7];have wm: ∀n:Int,0≤n%18446744073709551616∧n%18446744073709551616<18446744073709551616:=fun n=>by omega
 rw [zn x (by omega) (by omega),zn y (by omega) (by omega)];simp only [PE,B4];rw [zn _ (wm _).1 (wm _).2]
 have:=G9 (x / 4294967296) (x%4294967296) (y / 4294967296) (y%4294967296) (by omega) (by omega) (by omega) (by omega) (by omega) (by omega) (by omega) (by omega)
 refine ⟨?_,trivial⟩;rw [this];congr 2<;>omega
theorem lr (x y:Nat) (hx:x<18446744073709551616) (hy:y<18446744073709551616):Sp Tryz.prog gl 194 [u x,u y] (wide (x*y)):=by
 refine N2 rfl rfl ?_;simp [Le];refine aT _ (LN x y hx hy) ?_;simp [wide]
theorem dE:Builder.Extra Tryz.prog aY where
 sizeBuilder:=by kernel_rfl
 liesBuilder:=by kernel_rfl
 t5:=Tryz.underlying5
 a5:=Tryz.isAgg5
 z5:=Tryz.sizeOf5
 v5:=Tryz.zeroValue5
 infoByte:=by kernel_rfl
 cellsByte:=by kernel_rfl
 sizeByte:=by kernel_rfl
 neB5:=by decide
theorem Ce (xs:List (List UInt8)) (sep:List UInt8) (hN:xs.length≤140737488355328) (hlen:(Lib.join xs sep).length≤140737488355328):Sp Tryz.prog gl 99 [.sl (a8 xs),.str sep] (.str (Lib.join xs sep)):=
 yL au dE (by kernel_rfl) (by kernel_rfl) xs sep hN hlen
theorem JP:Builder.Extra Tryz.prog aW where
 sizeBuilder:=by kernel_rfl
 liesBuilder:=by kernel_rfl
 t5:=Tryz.underlying5
 a5:=Tryz.isAgg5
 z5:=Tryz.sizeOf5
 v5:=Tryz.zeroValue5
 infoByte:=by kernel_rfl
 cellsByte:=by kernel_rfl
 sizeByte:=by kernel_rfl
 neB5:=by decide
theorem En (s:List UInt8) (c:Nat) (hc:c≤9223372036854775807) (hlen:s.length*c≤140737488355328):Sp Tryz.prog gl 98 [.str s,i6 c] (.str (Lib.repeatL s c)):=by
 refine ee (A4).f105 (by kernel_rfl) (by kernel_rfl) ?_;intro S gb w vs hvs hag;simp only [aa] at hvs;obtain ⟨v1,_,rfl,p1,v2,_,rfl,p2,rfl⟩:=hvs;simp only [PR] at p1 p2 ⊢;subst p1;subst p2;exact (Any.strings_Repeat A4 JP ⟨s.toArray⟩ c w hc (by rw [Lib.size_eq];simpa using hlen)).mono fun e w' ⟨he,hw⟩=>⟨_,he,hw,rfl⟩
theorem A7 {d:Nat} {b:Id} (hit:b.isIt=false) (hnwb:b.isNw d=false) {c0:AV} (hc0:c0= .nilT b 69 2∨c0= .ptr b 0) (l s:List UInt8) (hl:l.length+s.length≤140737488355328):
  b7 Tryz.prog gl 97 d ⟨[.ptr b 0,.str s],[(b,[c0,.sl (ae l)])],[(.b b 1,bk 5)]⟩ ⟨.tup [.int .i64 s.length,.undef],[(b,[.ptr b 0,.sl (ae (l++s))])],[(.b b 1,bk 5)]⟩:=
 vI (L:={au with}) dE (by kernel_rfl) (by kernel_rfl) hit hnwb (T:=69) (n:=2) (hc0.imp (fun h=>⟨h,by unfold fW;kernel_rfl⟩) id) (rest:=[]) l s hl
theorem A8 {d:Nat} {b:Id} (hit:b.isIt=false) (hnwb:b.isNw d=false) {c0:AV} (l:List UInt8) (h0:l≠[]):
  b7 Tryz.prog gl 40 d ⟨[.ptr b 0],[(b,[c0,.sl (ae l)])],[(.b b 1,bk 5)]⟩ ⟨.str l,[(b,[c0,.sl (ae l)])],[]⟩:=
 pS (L:={au with}) dE (by kernel_rfl) (by kernel_rfl) hit hnwb (rest:=[]) l h0
theorem Cg (s p:List UInt8):Sp Tryz.prog gl 220 [.str s,.str p] (.tup [.str (Lib.trimPrefix s p),.bool (Lib.hasPrefix s p)]):=
 yN Em (by kernel_rfl) (by kernel_rfl) s p
set_option maxRecDepth 100000 in
theorem JQ:Lays.n167 Tryz.prog aY:={au with t5:=dE.t5,a5:=dE.a5,z5:=dE.z5,v5:=dE.v5,f167:=Eq.trans Tryz.func100 (congrArg some (show Tryz.f100=Body.n167 aY by kernel_rfl))}
def fI (d:Nat):List UInt8:=Lib.repeatL [32,32] d
theorem qk (d:Nat):(fI d).length=2*d:=by
 unfold fI;rw [Lib.repeatL_length];simp;omega
theorem wC:fW Tryz.prog 69 71 3:=by unfold fW;kernel_rfl
theorem wD {d:Nat} {b:Id} (hit:b.isIt=false) (hnwb:b.isNw d=false) {c0:AV} (hc0:c0= .nilT b 71 3∨c0= .ptr b 0) (l s:List UInt8) (n:Nat) (hl:l.length+s.length≤140737488355328):
  b7 Tryz.prog gl 97 d ⟨[.ptr b 0,.str s],[(b,[c0,.sl (ae l),i6 n])],[(.b b 1,bk 5)]⟩ ⟨.tup [.int .i64 s.length,.undef],[(b,[.ptr b 0,.sl (ae (l++s)),i6 n])],[(.b b 1,bk 5)]⟩:=
 vI (L:={au with}) dE (by kernel_rfl) (by kernel_rfl) hit hnwb (T:=71) (n:=3) (hc0.imp (fun h=>⟨h,wC⟩) id) (rest:=[i6 n]) l s hl
theorem Eo {d:Nat} {b:Id} (hit:b.isIt=false) (hnwb:b.isNw d=false) (l:List UInt8) (n:Nat) (c:UInt8) (hl:l.length+1≤140737488355328):
  b7 Tryz.prog gl 100 d ⟨[.ptr b 0,.int .u8 c.toNat],[(b,[.ptr b 0,.sl (ae l),i6 n])],[(.b b 1,bk 5)]⟩ ⟨.undef,[(b,[.ptr b 0,.sl (ae (l++[c])),i6 n])],[(.b b 1,bk 5)]⟩:=
 DN JQ dE (by kernel_rfl) (by kernel_rfl) hit hnwb (T:=71) (n:=3) (.inr rfl) (rest:=[i6 n]) l c hl
theorem lu (d:Nat) (b:Id) (hb:b.isIt=false) (hbd:b.isNw d=false) (c0:AV) (hc0:c0= .nilT b 71 3∨c0= .ptr b 0) (l:List UInt8) (n:Nat) (hn:n≤100000) (ws:List (List UInt8)) (hw:ws.length≤1000000) (hl:l.length+(Lib.join ws [32]).length≤100000000000000):
  b7 Tryz.prog gl 65 d ⟨[.ptr b 0,.sl (a8 ws)],[(b,[c0,.sl (ae l),i6 n])],[(.b b 1,bk 5)]⟩ ⟨.tup [],[(b,[.ptr b 0,.sl (ae (l++(fI n++(Lib.join ws [32]++[10])))),i6 n])],[(.b b 1,bk 5)]⟩:=by
 refine QQ rfl ?_;have hic:=aP hbd;have J:=Ce ws [32] (by omega) (by omega);have hi:=qk n;have RP:=En [32,32] n (by omega) (by simp;omega);rw [show Lib.repeatL [32,32] n=fI n from rfl] at RP;have W:=fun (e:Nat) (c1:AV) hc=>wD (d:=e) (b:= .up b) hb rfl (c0:=c1) hc l (fI n) n (by omega)
 have W2:=fun (e:Nat)=>wD (d:=e) (b:= .up b) hb rfl (c0:= .ptr (.up b) 0) (.inr rfl) (l++fI n) (Lib.join ws [32]) n (by rw [cG];omega)
 have B:=fun (e:Nat)=>Eo (d:=e) (b:= .up b) hb rfl (l++fI n++Lib.join ws [32]) n 10 (by simp;omega)
 rw [show l++(fI n++(Lib.join ws [32]++[10]))=l++fI n++Lib.join ws [32]++[10] by simp];generalize Lib.join ws [32]=j at *
 generalize l++fI n++j++[10]=r2 at *
 generalize l++fI n++j=r3 at *
 simp only [az,bE,a7,AV.mp,bK];have e10:(10:UInt8).toNat=10:=rfl;simp only [e10] at B;rcases hc0 with rfl|rfl
 ·have W1:=fun e=>W e (.nilT (.up b) 71 3) (.inl rfl)
  clear W;generalize l++fI n=r1 at *
  generalize fI n=r0 at *
  simp [Nk];apply ab RP;simp;refine ax _ _ (W1 _) ?_;simp;apply ab J;simp;refine ax _ _ (W2 _) ?_;simp;refine ax _ _ (B _) ?_;simp;refine f8 ⟨?_,?_,?_,?_,?_,?_⟩<;>simp [hic,hb]
 ·have W1:=fun e=>W e (.ptr (.up b) 0) (.inr rfl)
  clear W;generalize l++fI n=r1 at *
  generalize fI n=r0 at *
  simp [Nk];apply ab RP;simp;refine ax _ _ (W1 _) ?_;simp;apply ab J;simp;refine ax _ _ (W2 _) ?_;simp;refine ax _ _ (B _) ?_;simp;refine f8 ⟨?_,?_,?_,?_,?_,?_⟩<;>simp [hic,hb]
structure Tk where
 k:Int
 t:List UInt8
 n:Nat
 ln:Int
 co:Int
 deriving DecidableEq
def Tk.row (x:Tk):List AV:=[i6 x.k,.str x.t,u x.n,i6 x.ln,i6 x.co]
inductive It where
 |mk (n:List UInt8) (ws:List Tk) (b:Bool) (ks:List It) (ln co:Int)
mutual
def It.row:It→List AV
 | .mk n ws b ks ln co=>[.str n,.sl (ws.map Tk.row),.bool b,.sl (aw ks),i6 ln,i6 co]
def aw:List It→List (List AV)
 |[]=>[]
 |x::r=>x.row::aw r
end
theorem ql: ∀a b:List It,aw (a++b)=aw a++aw b
 |[],b=>rfl
 |x::a,b=>by rw [bt,aw,aw,ql a b,bt]
theorem ew: ∀a:List It,(aw a).length=a.length
 |[]=>rfl
 |x::a=>by rw [aw,dT,dT,ew a]
theorem uk: ∀a:List It,∀r∈aw a,r.length=6
 |[],r,h=>by cases h
 | .mk n ws b ks ln co::a,r,h=>by
  rw [aw,i8] at h;rcases h with rfl|h
  ·rw [It.row];rfl
  ·exact uk a r h
mutual
def ga:It→Nat
 | .mk _ _ _ ks _ _=>1+bM ks
def bM:List It→Nat
 |[]=>0
 |x::r=>ga x+bM r
end
mutual
def o5:It→Nat
 | .mk _ _ _ ks _ _=>1+dX ks
def dX:List It→Nat
 |[]=>0
 |x::r=>max (o5 x) (dX r)
end
mutual
def JR:It→Prop
 | .mk _ ws b ks _ _=>ws.length≤6∧(∀w∈ws,1≤w.k∧w.k≤6)∧(b=false→ks=[])∧Dq ks
def Dq:List It→Prop
 |[]=>True
 |x::r=>JR x∧Dq r
end
theorem iO: ∀(L:List It) (i:Nat) (h:i<L.length) (h2:i<(aw L).length),(aw L)[i]=L[i].row
 |x::L,0,h,h2=>rfl
 |x::L,i+1,h,h2=>by
  simp only [aw,List.getElem_cons_succ];exact iO L i _ _
theorem ph: ∀ {L:List It} {x:It},x∈L→ga x≤bM L
 |y::L,x,h=>by
  rw [bM];rcases i8.1 h with rfl|h
  ·omega
  ·have:=ph h;omega
theorem hY: ∀L:List It,L.length≤bM L
 |[]=>jI _
 | .mk n ws b ks ln co::L=>by
  have:=hY L
  rw [bM,ga,dT];omega
mutual
def sT:It→Nat→List (List AV)
 | .mk n ws b ks ln co,d=>[i6 d,.agg [.str n,.sl (ws.map Tk.row),.bool b,.sl (aw ks),i6 ln,i6 co]]::bJ ks (d+1)
def bJ:List It→Nat→List (List AV)
 |[],_=>[]
 |x::r,d=>sT x d++bJ r d
end
theorem nF: ∀(a b:List It) (d:Nat),bJ (a++b) d=bJ a d++bJ b d
 |[],b,d=>rfl
 |x::a,b,d=>by rw [bt,bJ,bJ,nF a b,lJ]
theorem Ep (L:List It) (i:Nat) (h:i<L.length) (d:Nat):bJ L d=bJ (L.take i) d++(sT L[i] d++bJ (L.drop (i+1)) d):=by
 conv=>lhs;rw [←Gj i L,sf h]
 rw [nF,bJ]
theorem zo (L:List It) (i:Nat) (h:i<L.length) (d:Nat):bJ (L.take (i+1)) d=bJ (L.take i) d++sT L[i] d:=by
 rw [Gy h,nF,bJ,bJ,pc]
theorem A9: ∀ {L:List It} {x:It},x∈L→o5 x≤dX L
 |y::L,x,h=>by
  rw [dX];rcases i8.1 h with rfl|h
  ·exact Nat.le_max_left _ _
  ·exact pJ (A9 h) (Nat.le_max_right _ _)
theorem zp: ∀(N:Nat) (L:List It) (d:Nat),bM L≤N→bM L≤100000→d+dX L≤100000→G7 Tryz.prog gl 63 [.sl (aw L),i6 d] (bJ L d):=by
 intro N;induction N with
 |zero=>
  intro L d h hc hd;have hL:L=[]:=by
   have:=hY L
   exact Dh (by omega)
  subst hL;refine Qc rfl rfl ?_;intro l ts k hseg;simp only [Mi,qj,wz,zm,aw,bJ,vA,rE,bt,bO];simp;refine A0 (α:=Unit) (fun _=>⟨[(0,.sl []),(1,i6 d),(2,.yv l),(9,.sl []),(10,i6 0),(11,i6 0)],[],[]⟩) (fun _=>k) (fun _=>True) (fun _=>0) ?_ () trivial ?_
  ·rintro K x hK _;clear hK;simp only [qj,wz];simp [oE]
  ·apply am<;>simp
 |succ N ih=>
  intro L d h hc hd;refine Qc rfl rfl ?_;intro l ts k hseg;have rl:=ew L;have rat:=iO L;have ll:=hY L;obtain ⟨RN,hRN⟩: ∃RN,RN=(bJ L d).length:=⟨_,rfl⟩;rw [←hRN] at hseg ⊢;generalize aw L=RR at *
  simp only [Mi,qj,wz,zm,bt,bO];simp;refine A0 (α:=Nat) (fun i=>⟨[(0,.sl RR),(1,i6 d),(2,.yv l),(9,.sl RR),(10,i6 RR.length),(11,i6 i)],[],[]⟩) (fun i=>k+(bJ (L.take i) d).length) (fun i=>i≤L.length) (fun i=>L.length - i) ?_ 0 (jI _) ?_
  ·rintro K i hK h1;have t1:IntKind.i64.wrap ((i:Int)+1)=(i+1:Nat):=by rw [an]<;>omega
   have t2:IntKind.i64.wrap ((d:Int)+1)=(d+1:Nat):=by rw [an]<;>omega
   by_cases g:i<L.length
   ·have g':(i:Int)<RR.length:=by omega
    have gR:i<RR.length:=by omega
    have rai:=rat i g gR;have hx1:=ph (rL g);have hx2:=A9 (rL g);have fin:=fun σ' hσ=>hK (i+1) σ' (by omega) (by omega) hσ
    have hat:=Ep L i g d;rw [zo L i g] at fin;clear hK rat;generalize L[i]=x at *
    obtain ⟨xn,ws,xb,ks,xl,xc⟩:=x;rw [ga] at hx1;rw [o5] at hx2;rw [It.row] at rai;rw [sT] at hat fin;have IH:=ih ks (d+1) (by omega) (by omega) (by omega);have hlen:RN=(bJ (L.take i) d).length+(1+(bJ ks (d+1)).length+(bJ (L.drop (i+1)) d).length):=by
     rw [hRN,hat];simp [cG];omega
    have s0:ts[k+(bJ (L.take i) d).length]?=some [i6 d,.agg [.str xn,.sl (ws.map Tk.row),.bool xb,.sl (aw ks),i6 xl,i6 xc]]:=by
     rw [hseg _ (by omega),hat,List.getElem?_append_right (eV _),Nat.sub_self];rfl
    have s1: ∀q,q<(bJ ks (d+1)).length→ts[k+(bJ (L.take i) d).length+1+q]?=(bJ ks (d+1))[q]?:=by
     intro q hq;rw [show k+(bJ (L.take i) d).length+1+q=k+((bJ (L.take i) d).length+1+q) from by omega,hseg _ (by omega),hat,List.getElem?_append_right (by omega),show (bJ (L.take i) d).length+1+q - (bJ (L.take i) d).length=q+1 from by omega,bt,List.getElem?_cons_succ,List.getElem?_append_left hq]
    rw [cG,dT,←DE,Lq (bJ ks (d+1)).length 1,←DE] at fin;clear hat hlen hseg;generalize aw ks=IR at *
    generalize ws.map Tk.row=WR at *
    generalize bJ ks (d+1)=TK at *
    generalize (bJ (L.take i) d).length=m at *
    simp only [qj,wz,zm];simp [g',gR,rai];simp only [JO,lq];simp;refine G8 rfl rfl s0 rfl ?_ ?_
    ·simp only [lq];simp [t2];refine A3 rfl IH rfl rfl rfl s1 rfl ?_ ?_
     ·simp only [lq,j7];simp;refine fin _ ?_;apply am<;>simp [t1]
     ·simp only [lq,j7];simp [oE]
    ·simp only [lq];simp;refine Cb rfl ?_;simp only [lq,j7];simp [oE]
   ·obtain rfl:i=L.length:=by omega
    have g': ¬(L.length:Int)<RR.length:=by omega
    clear hK;rw [sg] at *
    rw [←hRN];simp only [qj,wz];simp [g',oE]
  ·apply am<;>simp
theorem Ch (L:List It) (b:Id) (hb:b.isIt=false) (hc:bM L≤100000) (hd:dX L≤90000):JM Tryz.prog gl 62 [.ptr b 0] [(b,[.sl (aw L)])] (bJ L 1):=by
 refine QO hb rfl ?_;intro l;have D:=zp _ L 1 (eV _) hc (by omega);generalize aw L=RR at *
 generalize bJ L 1=TT at *
 simp only [Nj,lq];simp;refine A3 rfl D rfl rfl rfl (fun i hi=>by rw [na]) rfl ?_ ?_
 ·simp only [j7];simp
 ·simp only [j7];simp
theorem Ci (L:List It) (d:Nat):b7 Tryz.prog gl 32 d ⟨[.sl (aw L)],[],[]⟩ ⟨.fn 62 [.ptr (.nw d (.n 1)) 0],[(.nw d (.n 1),[.sl (aw L)])],[]⟩:=by
 refine QA rfl ?_;generalize aw L=RR at *
 simp only [az,bE,a7,AV.mp,bK,Pl.mp];simp [P0];apply ai<;>simp
end Go.Ai
