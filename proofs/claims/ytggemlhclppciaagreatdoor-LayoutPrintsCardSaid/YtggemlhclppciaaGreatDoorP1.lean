/- P1: a part of the proof. Conditions: as each theorem says. -/
import Derived.Test.YtggemlhclppciaaGreatDoorCode
import Derived.Test.YtggemlhclppciaaGreatDoorLib10
import Derived.Shelf.Strings.Repeat
import Derived.Shelf.Lays
import Derived.Shelf.LaysM
import Derived.Shelf.Small.Wraps
import Derived.Shelf.Strings.BuilderX
import Derived.Shelf.Strings.SplitCore
import Derived.Shelf.Unicode.ValidAny
import Derived.Laws.Bits64b
set_option maxHeartbeats 4000000
set_option linter.unusedSimpArgs false
set_option linter.unusedVariables false
set_option maxRecDepth 20000
namespace Go.Ai
open Go.Proofs Go.Shelf
def bf:Ren:={
 f:=fun x=>match x with
  |105=>98
  |212=>134
  |99=>135
  |165=>136
  |166=>97
  |170=>137
  |169=>40
  |263=>176
  |264=>177
  |206=>178
  |240=>133
  |241=>179
  |276=>175
  |277=>207
  |n=>n
 t:=fun x=>match x with
  |9=>9
  |3=>3
  |4=>4
  |20=>20
  |0=>0
  |46=>173
  |109=>174
  |5=>5
  |72=>69
  |76=>138
  |51=>39
  |146=>220
  |53=>44
  |148=>222
  |70=>66
  |37=>67
  |75=>137
  |127=>106
  |164=>218
  |80=>73
  |n=>n
 g:=fun x=>x}
set_option maxRecDepth 100000 in
theorem DO:Lays.n105 Tryz.prog bf where
 mixed:=by kernel_rfl
 f99:=Eq.trans Tryz.func135 (congrArg some (show Tryz.f135=Body.n99 bf by kernel_rfl))
 f105:=Eq.trans Tryz.func98 (congrArg some (show Tryz.f98=Body.n105 bf by kernel_rfl))
 f165:=Eq.trans Tryz.func136 (congrArg some (show Tryz.f136=Body.n165 bf by kernel_rfl))
 f166:=Eq.trans Tryz.func97 (congrArg some (show Tryz.f97=Body.n166 bf by kernel_rfl))
 f169:=Eq.trans Tryz.func40 (congrArg some (show Tryz.f40=Body.n169 bf by kernel_rfl))
 f170:=Eq.trans Tryz.func137 (congrArg some (show Tryz.f137=Body.n170 bf by kernel_rfl))
 f206:=Eq.trans Tryz.func178 (congrArg some (show Tryz.f178=Body.n206 bf by kernel_rfl))
 f212:=Eq.trans Tryz.func134 (congrArg some (show Tryz.f134=Body.n212 bf by kernel_rfl))
 f240:=Eq.trans Tryz.func133 (congrArg some (show Tryz.f133=Body.n240 bf by kernel_rfl))
 f241:=Eq.trans Tryz.func179 (congrArg some (show Tryz.f179=Body.n241 bf by kernel_rfl))
 f263:=Eq.trans Tryz.func176 (congrArg some (show Tryz.f176=Body.n263 bf by kernel_rfl))
 f264:=Eq.trans Tryz.func177 (congrArg some (show Tryz.f177=Body.n264 bf by kernel_rfl))
 f276:=Eq.trans Tryz.func175 (congrArg some (show Tryz.f175=Body.n276 bf by kernel_rfl))
 f277:=Eq.trans Tryz.func207 (congrArg some (show Tryz.f207=Body.n277 bf by kernel_rfl))
 t0:=Tryz.underlying0
 a0:=Tryz.isAgg0
 z0:=Tryz.sizeOf0
 v0:=Tryz.zeroValue0
 t3:=Tryz.underlying3
 a3:=Tryz.isAgg3
 z3:=Tryz.sizeOf3
 v3:=Tryz.zeroValue3
 t4:=Tryz.underlying4
 a4:=Tryz.isAgg4
 z4:=Tryz.sizeOf4
 v4:=Tryz.zeroValue4
 t5:=Tryz.underlying5
 a5:=Tryz.isAgg5
 z5:=Tryz.sizeOf5
 v5:=Tryz.zeroValue5
 t9:=Tryz.underlying9
 a9:=Tryz.isAgg9
 z9:=Tryz.sizeOf9
 v9:=Tryz.zeroValue9
 t20:=Tryz.underlying20
 a20:=Tryz.isAgg20
 z20:=Tryz.sizeOf20
 v20:=Tryz.zeroValue20
 t37:=Tryz.underlying67
 a37:=Tryz.isAgg67
 z37:=Tryz.sizeOf67
 v37:=Tryz.zeroValue67
 t46:=Tryz.underlying173
 a46:=Tryz.isAgg173
 z46:=Tryz.sizeOf173
 v46:=Tryz.zeroValue173
 t51:=Tryz.underlying39
 a51:=Tryz.isAgg39
 z51:=Tryz.sizeOf39
 v51:=Tryz.zeroValue39
 t53:=Tryz.underlying44
 a53:=Tryz.isAgg44
 z53:=Tryz.sizeOf44
 v53:=Tryz.zeroValue44
 t70:=Tryz.underlying66
 a70:=Tryz.isAgg66
 z70:=Tryz.sizeOf66
 v70:=Tryz.zeroValue66
 t72:=Tryz.underlying69
 a72:=Tryz.isAgg69
 z72:=Tryz.sizeOf69
 v72:=Tryz.zeroValue69
 t75:=Tryz.underlying137
 a75:=Tryz.isAgg137
 z75:=Tryz.sizeOf137
 v75:=Tryz.zeroValue137
 t76:=Tryz.underlying138
 a76:=Tryz.isAgg138
 z76:=Tryz.sizeOf138
 v76:=Tryz.zeroValue138
 t109:=Tryz.underlying174
 a109:=Tryz.isAgg174
 z109:=Tryz.sizeOf174
 v109:=Tryz.zeroValue174
 t127:=Tryz.underlying106
 a127:=Tryz.isAgg106
 z127:=Tryz.sizeOf106
 v127:=Tryz.zeroValue106
 t146:=Tryz.underlying220
 a146:=Tryz.isAgg220
 z146:=Tryz.sizeOf220
 v146:=Tryz.zeroValue220
 t148:=Tryz.underlying222
 a148:=Tryz.isAgg222
 z148:=Tryz.sizeOf222
 v148:=Tryz.zeroValue222
 t164:=Tryz.underlying218
 a164:=Tryz.isAgg218
 z164:=Tryz.sizeOf218
 v164:=Tryz.zeroValue218
def bh:Ren:={
 f:=fun x=>match x with
  |167=>100
  |156=>99
  |165=>136
  |166=>97
  |169=>40
  |240=>133
  |241=>179
  |276=>175
  |277=>207
  |n=>n
 t:=fun x=>match x with
  |31=>104
  |9=>9
  |3=>3
  |4=>4
  |0=>0
  |20=>20
  |72=>69
  |76=>138
  |70=>66
  |37=>67
  |75=>137
  |127=>106
  |164=>218
  |5=>5
  |80=>73
  |n=>n
 g:=fun x=>x}
set_option maxRecDepth 100000 in
theorem ax:Lays.n156 Tryz.prog bh where
 mixed:=by kernel_rfl
 f156:=Eq.trans Tryz.func99 (congrArg some (show Tryz.f99=Body.n156 bh by kernel_rfl))
 f165:=Eq.trans Tryz.func136 (congrArg some (show Tryz.f136=Body.n165 bh by kernel_rfl))
 f166:=Eq.trans Tryz.func97 (congrArg some (show Tryz.f97=Body.n166 bh by kernel_rfl))
 f169:=Eq.trans Tryz.func40 (congrArg some (show Tryz.f40=Body.n169 bh by kernel_rfl))
 f240:=Eq.trans Tryz.func133 (congrArg some (show Tryz.f133=Body.n240 bh by kernel_rfl))
 f241:=Eq.trans Tryz.func179 (congrArg some (show Tryz.f179=Body.n241 bh by kernel_rfl))
 f276:=Eq.trans Tryz.func175 (congrArg some (show Tryz.f175=Body.n276 bh by kernel_rfl))
 f277:=Eq.trans Tryz.func207 (congrArg some (show Tryz.f207=Body.n277 bh by kernel_rfl))
 t0:=Tryz.underlying0
 a0:=Tryz.isAgg0
 z0:=Tryz.sizeOf0
 v0:=Tryz.zeroValue0
 t3:=Tryz.underlying3
 a3:=Tryz.isAgg3
 z3:=Tryz.sizeOf3
 v3:=Tryz.zeroValue3
 t4:=Tryz.underlying4
 a4:=Tryz.isAgg4
 z4:=Tryz.sizeOf4
 v4:=Tryz.zeroValue4
 t9:=Tryz.underlying9
 a9:=Tryz.isAgg9
 z9:=Tryz.sizeOf9
 v9:=Tryz.zeroValue9
 t20:=Tryz.underlying20
 a20:=Tryz.isAgg20
 z20:=Tryz.sizeOf20
 v20:=Tryz.zeroValue20
 t31:=Tryz.underlying104
 a31:=Tryz.isAgg104
 z31:=Tryz.sizeOf104
 v31:=Tryz.zeroValue104
 t37:=Tryz.underlying67
 a37:=Tryz.isAgg67
 z37:=Tryz.sizeOf67
 v37:=Tryz.zeroValue67
 t70:=Tryz.underlying66
 a70:=Tryz.isAgg66
 z70:=Tryz.sizeOf66
 v70:=Tryz.zeroValue66
 t72:=Tryz.underlying69
 a72:=Tryz.isAgg69
 z72:=Tryz.sizeOf69
 v72:=Tryz.zeroValue69
 t75:=Tryz.underlying137
 a75:=Tryz.isAgg137
 z75:=Tryz.sizeOf137
 v75:=Tryz.zeroValue137
 t76:=Tryz.underlying138
 a76:=Tryz.isAgg138
 z76:=Tryz.sizeOf138
 v76:=Tryz.zeroValue138
 t127:=Tryz.underlying106
 a127:=Tryz.isAgg106
 z127:=Tryz.sizeOf106
 v127:=Tryz.zeroValue106
 t164:=Tryz.underlying218
 a164:=Tryz.isAgg218
 z164:=Tryz.sizeOf218
 v164:=Tryz.zeroValue218
def mw:Ren:={
 f:=fun x=>match x with
  |283=>165
  |n=>n
 t:=fun x=>match x with
  |3=>3
  |9=>9
  |4=>4
  |n=>n
 g:=fun x=>x}
set_option maxRecDepth 100000 in
theorem E6:Lays.n283 Tryz.prog mw where
 mixed:=by kernel_rfl
 f283:=Eq.trans Tryz.func165 (congrArg some (show Tryz.f165=Body.n283 mw by kernel_rfl))
 t3:=Tryz.underlying3
 a3:=Tryz.isAgg3
 z3:=Tryz.sizeOf3
 v3:=Tryz.zeroValue3
 t4:=Tryz.underlying4
 a4:=Tryz.isAgg4
 z4:=Tryz.sizeOf4
 v4:=Tryz.zeroValue4
 t9:=Tryz.underlying9
 a9:=Tryz.isAgg9
 z9:=Tryz.sizeOf9
 v9:=Tryz.zeroValue9
def gK:Ren:={
 f:=fun x=>match x with
  |284=>166
  |129=>200
  |317=>199
  |318=>201
  |n=>n
 t:=fun x=>match x with
  |53=>44
  |3=>3
  |212=>245
  |0=>0
  |4=>4
  |46=>173
  |5=>5
  |9=>9
  |n=>n
 g:=fun x=>match x with
  |17=>2
  |n=>n}
set_option maxRecDepth 100000 in
theorem DP:LaysM.n284 Tryz.prog gK where
 mixed:=by kernel_rfl
 f129:=Eq.trans Tryz.func200 (congrArg some (show Tryz.f200=Body.n129 gK by kernel_rfl))
 f284:=Eq.trans Tryz.func166 (congrArg some (show Tryz.f166=Body.n284 gK by kernel_rfl))
 f317:=Eq.trans Tryz.func199 (congrArg some (show Tryz.f199=Body.n317 gK by kernel_rfl))
 f318:=Eq.trans Tryz.func201 (congrArg some (show Tryz.f201=Body.n318 gK by kernel_rfl))
 t0:=Tryz.underlying0
 a0:=Tryz.isAgg0
 z0:=Tryz.sizeOf0
 v0:=Tryz.zeroValue0
 t3:=Tryz.underlying3
 a3:=Tryz.isAgg3
 z3:=Tryz.sizeOf3
 v3:=Tryz.zeroValue3
 t4:=Tryz.underlying4
 a4:=Tryz.isAgg4
 z4:=Tryz.sizeOf4
 v4:=Tryz.zeroValue4
 t5:=Tryz.underlying5
 a5:=Tryz.isAgg5
 z5:=Tryz.sizeOf5
 v5:=Tryz.zeroValue5
 t9:=Tryz.underlying9
 a9:=Tryz.isAgg9
 z9:=Tryz.sizeOf9
 v9:=Tryz.zeroValue9
 t46:=Tryz.underlying173
 a46:=Tryz.isAgg173
 z46:=Tryz.sizeOf173
 v46:=Tryz.zeroValue173
 t53:=Tryz.underlying44
 a53:=Tryz.isAgg44
 z53:=Tryz.sizeOf44
 v53:=Tryz.zeroValue44
 t212:=Tryz.underlying245
 a212:=Tryz.isAgg245
 z212:=Tryz.sizeOf245
 v212:=Tryz.zeroValue245
 g17:=by kernel_rfl
 i0:=by kernel_rfl
 i3:=by kernel_rfl
 i4:=by kernel_rfl
 i5:=by kernel_rfl
 i9:=by kernel_rfl
 i46:=by kernel_rfl
 i53:=by kernel_rfl
 i212:=by kernel_rfl
 m17:=by kernel_rfl
def qj:Ren:={
 f:=fun x=>match x with
  |285=>167
  |n=>n
 t:=fun x=>match x with
  |37=>67
  |53=>44
  |3=>3
  |4=>4
  |51=>39
  |9=>9
  |5=>5
  |0=>0
  |n=>n
 g:=fun x=>x}
set_option maxRecDepth 100000 in
theorem DQ:Lays.n285 Tryz.prog qj where
 mixed:=by kernel_rfl
 f285:=Eq.trans Tryz.func167 (congrArg some (show Tryz.f167=Body.n285 qj by kernel_rfl))
 t0:=Tryz.underlying0
 a0:=Tryz.isAgg0
 z0:=Tryz.sizeOf0
 v0:=Tryz.zeroValue0
 t3:=Tryz.underlying3
 a3:=Tryz.isAgg3
 z3:=Tryz.sizeOf3
 v3:=Tryz.zeroValue3
 t4:=Tryz.underlying4
 a4:=Tryz.isAgg4
 z4:=Tryz.sizeOf4
 v4:=Tryz.zeroValue4
 t5:=Tryz.underlying5
 a5:=Tryz.isAgg5
 z5:=Tryz.sizeOf5
 v5:=Tryz.zeroValue5
 t9:=Tryz.underlying9
 a9:=Tryz.isAgg9
 z9:=Tryz.sizeOf9
 v9:=Tryz.zeroValue9
 t37:=Tryz.underlying67
 a37:=Tryz.isAgg67
 z37:=Tryz.sizeOf67
 v37:=Tryz.zeroValue67
 t51:=Tryz.underlying39
 a51:=Tryz.isAgg39
 z51:=Tryz.sizeOf39
 v51:=Tryz.zeroValue39
 t53:=Tryz.underlying44
 a53:=Tryz.isAgg44
 z53:=Tryz.sizeOf44
 v53:=Tryz.zeroValue44
def jj:Ren:={
 f:=fun x=>match x with
  |196=>123
  |259=>163
  |n=>n
 t:=fun x=>match x with
  |9=>9
  |4=>4
  |3=>3
  |5=>5
  |12=>12
  |119=>201
  |0=>0
  |46=>173
  |139=>204
  |138=>203
  |53=>44
  |n=>n
 g:=fun x=>match x with
  |3=>0
  |4=>1
  |n=>n}
set_option maxRecDepth 100000 in
theorem E7:Lays.n196 Tryz.prog jj where
 mixed:=by kernel_rfl
 f196:=Eq.trans Tryz.func123 (congrArg some (show Tryz.f123=Body.n196 jj by kernel_rfl))
 f259:=Eq.trans Tryz.func163 (congrArg some (show Tryz.f163=Body.n259 jj by kernel_rfl))
 t0:=Tryz.underlying0
 a0:=Tryz.isAgg0
 z0:=Tryz.sizeOf0
 v0:=Tryz.zeroValue0
 t3:=Tryz.underlying3
 a3:=Tryz.isAgg3
 z3:=Tryz.sizeOf3
 v3:=Tryz.zeroValue3
 t4:=Tryz.underlying4
 a4:=Tryz.isAgg4
 z4:=Tryz.sizeOf4
 v4:=Tryz.zeroValue4
 t5:=Tryz.underlying5
 a5:=Tryz.isAgg5
 z5:=Tryz.sizeOf5
 v5:=Tryz.zeroValue5
 t9:=Tryz.underlying9
 a9:=Tryz.isAgg9
 z9:=Tryz.sizeOf9
 v9:=Tryz.zeroValue9
 t12:=Tryz.underlying12
 a12:=Tryz.isAgg12
 z12:=Tryz.sizeOf12
 v12:=Tryz.zeroValue12
 t46:=Tryz.underlying173
 a46:=Tryz.isAgg173
 z46:=Tryz.sizeOf173
 v46:=Tryz.zeroValue173
 t53:=Tryz.underlying44
 a53:=Tryz.isAgg44
 z53:=Tryz.sizeOf44
 v53:=Tryz.zeroValue44
 t119:=Tryz.underlying201
 a119:=Tryz.isAgg201
 z119:=Tryz.sizeOf201
 t138:=Tryz.underlying203
 a138:=Tryz.isAgg203
 z138:=Tryz.sizeOf203
 v138:=Tryz.zeroValue203
 t139:=Tryz.underlying204
 a139:=Tryz.isAgg204
 z139:=Tryz.sizeOf204
 v139:=Tryz.zeroValue204
 g3:=by kernel_rfl
 g4:=by kernel_rfl
def ik:Ren:={
 f:=fun x=>match x with
  |103=>220
  |210=>240
  |206=>178
  |n=>n
 t:=fun x=>match x with
  |9=>9
  |4=>4
  |24=>228
  |3=>3
  |n=>n
 g:=fun x=>x}
set_option maxRecDepth 100000 in
theorem Hn:Lays.n103 Tryz.prog ik where
 mixed:=by kernel_rfl
 f103:=Eq.trans Tryz.func220 (congrArg some (show Tryz.f220=Body.n103 ik by kernel_rfl))
 f206:=Eq.trans Tryz.func178 (congrArg some (show Tryz.f178=Body.n206 ik by kernel_rfl))
 f210:=Eq.trans Tryz.func240 (congrArg some (show Tryz.f240=Body.n210 ik by kernel_rfl))
 t3:=Tryz.underlying3
 a3:=Tryz.isAgg3
 z3:=Tryz.sizeOf3
 v3:=Tryz.zeroValue3
 t4:=Tryz.underlying4
 a4:=Tryz.isAgg4
 z4:=Tryz.sizeOf4
 v4:=Tryz.zeroValue4
 t9:=Tryz.underlying9
 a9:=Tryz.isAgg9
 z9:=Tryz.sizeOf9
 v9:=Tryz.zeroValue9
 t24:=Tryz.underlying228
 a24:=Tryz.isAgg228
 z24:=Tryz.sizeOf228
 v24:=Tryz.zeroValue228
abbrev u (n:Nat):AV:= .int .u64 n
def wide (n:Nat):AV:= .agg [u (n / 18446744073709551616),u (n%18446744073709551616)]
abbrev i6 (n:Int):AV:= .int .i64 n

theorem Ug (x:Int):x.fdiv (2^min 32 IntKind.u64.bits)=x / 4294967296:=by
 have:(2:Int)^min 32 IntKind.u64.bits=4294967296:=by decide
 rw [this];exact Int.fdiv_eq_ediv_of_nonneg _ (by decide)
theorem BT (n:Int) (h1:0≤n) (h2:n<18446744073709551616):bits BinOp.and IntKind.u64 n 4294967295=n%4294967296:=by
 obtain ⟨m,rfl⟩:=Int.eq_ofNat_of_zero_le h1
 have:=bits_and_u64_nat m 4294967295 (by omega) (by omega)
 rw [show ((4294967295:Nat):Int)=4294967295 from rfl] at this;rw [this,show (4294967295:Nat)=2^32 - 1 from rfl,Nat.and_two_pow_sub_one_eq_mod];omega
theorem Kp (x1 x0 y1 y0:Int) (h1:0≤x1) (h2:x1<4294967296) (h3:0≤x0) (h4:x0<4294967296) (h5:0≤y1) (h6:y1<4294967296) (h7:0≤y0) (h8:y0<4294967296):
  ((x1*y1%18446744073709551616+(x1*y0%18446744073709551616+x0*y0%18446744073709551616 / 4294967296)%18446744073709551616 / 4294967296)%18446744073709551616+
   ((x1*y0%18446744073709551616+x0*y0%18446744073709551616 / 4294967296)%18446744073709551616%4294967296+x0*y1%18446744073709551616)%18446744073709551616 / 4294967296)%18446744073709551616
   =(x1*4294967296+x0)*(y1*4294967296+y0) / 18446744073709551616:=by
 have e:(x1*4294967296+x0)*(y1*4294967296+y0)=x1*y1*18446744073709551616+(x1*y0+x0*y1)*4294967296+x0*y0:=by
  simp only [Int.add_mul,Int.mul_add]
  have:x1*4294967296*(y1*4294967296)=x1*y1*18446744073709551616:=by
   rw [show (18446744073709551616:Int)=4294967296*4294967296 from rfl];ac_rfl
  rw [this,show x1*4294967296*y0=x1*y0*4294967296 by ac_rfl,show x0*(y1*4294967296)=x0*y1*4294967296 by ac_rfl];omega
 rw [e];have b: ∀a c:Int,0≤a→a<4294967296→0≤c→c<4294967296→0≤a*c∧a*c≤18446744065119617025:=fun a c ha hb hc hd=>by
  refine ⟨Int.mul_nonneg ha hc,?_⟩
  have:=Int.mul_le_mul (show a≤4294967295 by omega) (show c≤4294967295 by omega) hc (by decide)
  simpa using this
 have b1:=b x1 y1 h1 h2 h5 h6;have b2:=b x1 y0 h1 h2 h7 h8;have b3:=b x0 y1 h3 h4 h5 h6;have b4:=b x0 y0 h3 h4 h7 h8;generalize x1*y1=p at *
 generalize x1*y0=q at *
 generalize x0*y1=r at *
 generalize x0*y0=s at *
 omega
theorem Pv (x y:Nat) (hx:x<18446744073709551616) (hy:y<18446744073709551616):Sp Tryz.prog gl 177 [u x,u y] (.tup [u (x*y / 18446744073709551616),u (x*y%18446744073709551616)]):=by
 refine RY rfl rfl ?_;simp [OO];have wm: ∀n:Int,0≤n%18446744073709551616∧n%18446744073709551616<18446744073709551616:=fun n=>by omega
 rw [BT x (by omega) (by omega),BT y (by omega) (by omega)];simp only [Ug,EY];rw [BT _ (wm _).1 (wm _).2]
 have:=Kp (x / 4294967296) (x%4294967296) (y / 4294967296) (y%4294967296) (by omega) (by omega) (by omega) (by omega) (by omega) (by omega) (by omega) (by omega)
 refine ⟨?_,trivial⟩;rw [this];congr 2<;>omega
theorem mV (x y:Nat) (hx:x<18446744073709551616) (hy:y<18446744073709551616):Sp Tryz.prog gl 194 [u x,u y] (wide (x*y)):=by
 refine Sd rfl rfl ?_;simp [OW];refine ay _ (Pv x y hx hy) ?_;simp [wide]
theorem eC:Builder.Extra Tryz.prog bh where
 sizeBuilder:=by kernel_rfl
 liesBuilder:=by kernel_rfl
 t5:=Tryz.underlying5
 a5:=Tryz.isAgg5
 z5:=Tryz.sizeOf5
 v5:=Tryz.zeroValue5
 infoByte:=by kernel_rfl
 cellsByte:=by kernel_rfl
 sizeByte:=by kernel_rfl
 neB5:=by decide
theorem E8 (xs:List (List UInt8)) (sep:List UInt8) (hN:xs.length≤140737488355328) (hlen:(Lib.join xs sep).length≤140737488355328):Sp Tryz.prog gl 99 [.sl (bt xs),.str sep] (.str (Lib.join xs sep)):=
 Bd ax eC (by kernel_rfl) (by kernel_rfl) xs sep hN hlen
theorem M2:Builder.Extra Tryz.prog bf where
 sizeBuilder:=by kernel_rfl
 liesBuilder:=by kernel_rfl
 t5:=Tryz.underlying5
 a5:=Tryz.isAgg5
 z5:=Tryz.sizeOf5
 v5:=Tryz.zeroValue5
 infoByte:=by kernel_rfl
 cellsByte:=by kernel_rfl
 sizeByte:=by kernel_rfl
 neB5:=by decide
theorem Ho (s:List UInt8) (c:Nat) (hc:c≤9223372036854775807) (hlen:s.length*c≤140737488355328):Sp Tryz.prog gl 98 [.str s,i6 c] (.str (Lib.repeatL s c)):=by
 refine fx (DO).f105 (by kernel_rfl) (by kernel_rfl) ?_;intro S gb w vs hvs hag;simp only [aa] at hvs;obtain ⟨v1,_,rfl,p1,v2,_,rfl,p2,rfl⟩:=hvs;simp only [PR] at p1 p2 ⊢;subst p1;subst p2;exact (Any.strings_Repeat DO M2 ⟨s.toArray⟩ c w hc (by rw [Lib.size_eq];simpa using hlen)).mono fun e w' ⟨he,hw⟩=>⟨_,he,hw,rfl⟩
theorem DR {d:Nat} {b:Id} (hit:b.isIt=false) (hnwb:b.isNw d=false) {c0:AV} (hc0:c0= .nilT b 69 2∨c0= .ptr b 0) (l s:List UInt8) (hl:l.length+s.length≤140737488355328):
  cB Tryz.prog gl 97 d ⟨[.ptr b 0,.str s],[(b,[c0,.sl (ag l)])],[(.b b 1,bk 5)]⟩ ⟨.tup [.int .i64 s.length,.undef],[(b,[.ptr b 0,.sl (ag (l++s))])],[(.b b 1,bk 5)]⟩:=
 yO (L:={ax with}) eC (by kernel_rfl) (by kernel_rfl) hit hnwb (T:=69) (n:=2) (hc0.imp (fun h=>⟨h,by unfold hZ;kernel_rfl⟩) id) (rest:=[]) l s hl
theorem DS {d:Nat} {b:Id} (hit:b.isIt=false) (hnwb:b.isNw d=false) {c0:AV} (l:List UInt8) (h0:l≠[]):
  cB Tryz.prog gl 40 d ⟨[.ptr b 0],[(b,[c0,.sl (ag l)])],[(.b b 1,bk 5)]⟩ ⟨.str l,[(b,[c0,.sl (ag l)])],[]⟩:=
 rR (L:={ax with}) eC (by kernel_rfl) (by kernel_rfl) hit hnwb (rest:=[]) l h0
theorem E9 (s p:List UInt8):Sp Tryz.prog gl 220 [.str s,.str p] (.tup [.str (Lib.trimPrefix s p),.bool (Lib.hasPrefix s p)]):=
 Bf Hn (by kernel_rfl) (by kernel_rfl) s p
set_option maxRecDepth 100000 in
theorem M3:Lays.n167 Tryz.prog bh:={ax with t5:=eC.t5,a5:=eC.a5,z5:=eC.z5,v5:=eC.v5,f167:=Eq.trans Tryz.func100 (congrArg some (show Tryz.f100=Body.n167 bh by kernel_rfl))}
def eX (d:Nat):List UInt8:=Lib.repeatL [32,32] d
theorem n9 (d:Nat):(eX d).length=2*d:=by
 unfold eX;rw [Lib.repeatL_length];simp;omega
theorem zp:hZ Tryz.prog 69 71 3:=by unfold hZ;kernel_rfl
theorem zr {d:Nat} {b:Id} (hit:b.isIt=false) (hnwb:b.isNw d=false) {c0:AV} (hc0:c0= .nilT b 71 3∨c0= .ptr b 0) (l s:List UInt8) (n:Nat) (hl:l.length+s.length≤140737488355328):
  cB Tryz.prog gl 97 d ⟨[.ptr b 0,.str s],[(b,[c0,.sl (ag l),i6 n])],[(.b b 1,bk 5)]⟩ ⟨.tup [.int .i64 s.length,.undef],[(b,[.ptr b 0,.sl (ag (l++s)),i6 n])],[(.b b 1,bk 5)]⟩:=
 yO (L:={ax with}) eC (by kernel_rfl) (by kernel_rfl) hit hnwb (T:=71) (n:=3) (hc0.imp (fun h=>⟨h,zp⟩) id) (rest:=[i6 n]) l s hl
theorem Hp {d:Nat} {b:Id} (hit:b.isIt=false) (hnwb:b.isNw d=false) (l:List UInt8) (n:Nat) (c:UInt8) (hl:l.length+1≤140737488355328):
  cB Tryz.prog gl 100 d ⟨[.ptr b 0,.int .u8 c.toNat],[(b,[.ptr b 0,.sl (ag l),i6 n])],[(.b b 1,bk 5)]⟩ ⟨.undef,[(b,[.ptr b 0,.sl (ag (l++[c])),i6 n])],[(.b b 1,bk 5)]⟩:=
 GQ M3 eC (by kernel_rfl) (by kernel_rfl) hit hnwb (T:=71) (n:=3) (.inr rfl) (rest:=[i6 n]) l c hl
theorem mW (d:Nat) (b:Id) (hb:b.isIt=false) (hbd:b.isNw d=false) (c0:AV) (hc0:c0= .nilT b 71 3∨c0= .ptr b 0) (l:List UInt8) (n:Nat) (hn:n≤100000) (ws:List (List UInt8)) (hw:ws.length≤1000000) (hl:l.length+(Lib.join ws [32]).length≤100000000000000):
  cB Tryz.prog gl 65 d ⟨[.ptr b 0,.sl (bt ws)],[(b,[c0,.sl (ag l),i6 n])],[(.b b 1,bk 5)]⟩ ⟨.tup [],[(b,[.ptr b 0,.sl (ag (l++(eX n++(Lib.join ws [32]++[10])))),i6 n])],[(.b b 1,bk 5)]⟩:=by
 refine VA rfl ?_;have hic:=aV hbd;have J:=E8 ws [32] (by omega) (by omega);have hi:=n9 n;have RP:=Ho [32,32] n (by omega) (by simp;omega);rw [show Lib.repeatL [32,32] n=eX n from rfl] at RP;have W:=fun (e:Nat) (c1:AV) hc=>zr (d:=e) (b:= .up b) hb rfl (c0:=c1) hc l (eX n) n (by omega)
 have W2:=fun (e:Nat)=>zr (d:=e) (b:= .up b) hb rfl (c0:= .ptr (.up b) 0) (.inr rfl) (l++eX n) (Lib.join ws [32]) n (by rw [cG];omega)
 have B:=fun (e:Nat)=>Hp (d:=e) (b:= .up b) hb rfl (l++eX n++Lib.join ws [32]) n 10 (by simp;omega)
 rw [show l++(eX n++(Lib.join ws [32]++[10]))=l++eX n++Lib.join ws [32]++[10] by simp];generalize Lib.join ws [32]=j at *
 generalize l++eX n++j++[10]=r2 at *
 generalize l++eX n++j=r3 at *
 simp only [aF,bV,bp,AV.mp,b7];have e10:(10:UInt8).toNat=10:=rfl;simp only [e10] at B;rcases hc0 with rfl|rfl
 ·have W1:=fun e=>W e (.nilT (.up b) 71 3) (.inl rfl)
  clear W;generalize l++eX n=r1 at *
  generalize eX n=r0 at *
  simp [Q2];apply ab RP;simp;refine aB _ _ (W1 _) ?_;simp;apply ab J;simp;refine aB _ _ (W2 _) ?_;simp;refine aB _ _ (B _) ?_;simp;refine ij ⟨?_,?_,?_,?_,?_,?_⟩<;>simp [hic,hb]
 ·have W1:=fun e=>W e (.ptr (.up b) 0) (.inr rfl)
  clear W;generalize l++eX n=r1 at *
  generalize eX n=r0 at *
  simp [Q2];apply ab RP;simp;refine aB _ _ (W1 _) ?_;simp;apply ab J;simp;refine aB _ _ (W2 _) ?_;simp;refine aB _ _ (B _) ?_;simp;refine ij ⟨?_,?_,?_,?_,?_,?_⟩<;>simp [hic,hb]
structure Tk where
 k:Int
 t:List UInt8
 n:Nat
 ln:Int
 co:Int
 deriving DecidableEq
def Tk.row (x:Tk):List AV:=[i6 x.k,.str x.t,u x.n,i6 x.ln,i6 x.co]
inductive It where
 |mk (n:List UInt8) (ws:List Tk) (b:Bool) (ks:List It) (ln co:Int)
mutual
def It.row:It→List AV
 | .mk n ws b ks ln co=>[.str n,.sl (ws.map Tk.row),.bool b,.sl (ar ks),i6 ln,i6 co]
def ar:List It→List (List AV)
 |[]=>[]
 |x::r=>x.row::ar r
end
theorem sB: ∀a b:List It,ar (a++b)=ar a++ar b
 |[],b=>rfl
 |x::a,b=>by rw [bH,ar,ar,sB a b,bH]
theorem bA: ∀a:List It,(ar a).length=a.length
 |[]=>rfl
 |x::a=>by rw [ar,em,em,bA a]
theorem wQ: ∀a:List It,∀r∈ar a,r.length=6
 |[],r,h=>by cases h
 | .mk n ws b ks ln co::a,r,h=>by
  rw [ar,jU] at h;rcases h with rfl|h
  ·rw [It.row];rfl
  ·exact wQ a r h
mutual
def fC:It→Nat
 | .mk _ _ _ ks _ _=>1+aT ks
def aT:List It→Nat
 |[]=>0
 |x::r=>fC x+aT r
end
mutual
def lm:It→Nat
 | .mk _ _ _ ks _ _=>1+bN ks
def bN:List It→Nat
 |[]=>0
 |x::r=>max (lm x) (bN r)
end
mutual
def Pw:It→Prop
 | .mk _ ws b ks _ _=>ws.length≤6∧(∀w∈ws,1≤w.k∧w.k≤6)∧(b=false→ks=[])∧JJ ks
def JJ:List It→Prop
 |[]=>True
 |x::r=>Pw x∧JJ r
end
theorem sC: ∀a b:List It,aT (a++b)=aT a+aT b
 |[],b=>by rw [aT,bR,mM]
 |x::a,b=>by rw [bH,aT,aT,sC a b,EH]
theorem zt: ∀a b:List It,bN (a++b)=max (bN a) (bN b)
 |[],b=>by rw [bN,bR,Nat.zero_max]
 |x::a,b=>by rw [bH,bN,bN,zt a b,Nat.max_assoc]
theorem dW: ∀(L:List It) (i:Nat) (h:i<L.length) (h2:i<(ar L).length),(ar L)[i]=L[i].row
 |x::L,0,h,h2=>rfl
 |x::L,i+1,h,h2=>by
  simp only [ar,List.getElem_cons_succ];exact dW L i _ _
theorem iZ: ∀ {L:List It} {x:It},x∈L→fC x≤aT L
 |y::L,x,h=>by
  rw [aT];rcases jU.1 h with rfl|h
  ·omega
  ·have:=iZ h;omega
theorem vq (L:List It) (i:Nat):aT (L.take i)≤aT L:=by
 have:=sC (L.take i) (L.drop i)
 rw [EF] at this;omega
theorem eh: ∀L:List It,L.length≤aT L
 |[]=>iA _
 | .mk n ws b ks ln co::L=>by
  have:=eh L
  rw [aT,fC,em];omega
mutual
def vr:It→Nat→List (List AV)
 | .mk n ws b ks ln co,d=>[i6 d,.agg [.str n,.sl (ws.map Tk.row),.bool b,.sl (ar ks),i6 ln,i6 co]]::bY ks (d+1)
def bY:List It→Nat→List (List AV)
 |[],_=>[]
 |x::r,d=>vr x d++bY r d
end
theorem px: ∀(a b:List It) (d:Nat),bY (a++b) d=bY a d++bY b d
 |[],b,d=>rfl
 |x::a,b,d=>by rw [bH,bY,bY,px a b,jq]
theorem Hq (L:List It) (i:Nat) (h:i<L.length) (d:Nat):bY L d=bY (L.take i) d++(vr L[i] d++bY (L.drop (i+1)) d):=by
 conv=>lhs;rw [←EF i L,oU h]
 rw [px,bY]
theorem BU (L:List It) (i:Nat) (h:i<L.length) (d:Nat):bY (L.take (i+1)) d=bY (L.take i) d++vr L[i] d:=by
 rw [Dg h,px,bY,bY,nA]
theorem DT: ∀ {L:List It} {x:It},x∈L→lm x≤bN L
 |y::L,x,h=>by
  rw [bN];rcases jU.1 h with rfl|h
  ·exact Nat.le_max_left _ _
  ·exact qT (DT h) (Nat.le_max_right _ _)
theorem BV: ∀(N:Nat) (L:List It) (d:Nat),aT L≤N→aT L≤100000→d+bN L≤100000→Kn Tryz.prog gl 63 [.sl (ar L),i6 d] (bY L d):=by
 intro N;induction N with
 |zero=>
  intro L d h hc hd;have hL:L=[]:=by
   have:=eh L
   exact AN (by omega)
  subst hL;refine UM rfl rfl ?_;intro l ts k hseg;simp only [P2,sA,zn,BQ,ar,bY,vZ,rI,bH,bR];simp;refine DM (α:=Unit) (fun _=>⟨[(0,.sl []),(1,i6 d),(2,.yv l),(9,.sl []),(10,i6 0),(11,i6 0)],[],[]⟩) (fun _=>k) (fun _=>True) (fun _=>0) ?_ () trivial ?_
  ·rintro K x hK _;clear hK;simp only [sA,zn];simp [qi]
  ·apply ae<;>simp
 |succ N ih=>
  intro L d h hc hd;refine UM rfl rfl ?_;intro l ts k hseg;have rl:=bA L;have rat:=dW L;have ll:=eh L;obtain ⟨RN,hRN⟩: ∃RN,RN=(bY L d).length:=⟨_,rfl⟩;rw [←hRN] at hseg ⊢;generalize ar L=RR at *
  simp only [P2,sA,zn,BQ,bH,bR];simp;refine DM (α:=Nat) (fun i=>⟨[(0,.sl RR),(1,i6 d),(2,.yv l),(9,.sl RR),(10,i6 RR.length),(11,i6 i)],[],[]⟩) (fun i=>k+(bY (L.take i) d).length) (fun i=>i≤L.length) (fun i=>L.length - i) ?_ 0 (iA _) ?_
  ·rintro K i hK h1;have t1:IntKind.i64.wrap ((i:Int)+1)=(i+1:Nat):=by rw [aj]<;>omega
   have t2:IntKind.i64.wrap ((d:Int)+1)=(d+1:Nat):=by rw [aj]<;>omega
   by_cases g:i<L.length
   ·have g':(i:Int)<RR.length:=by omega
    have gR:i<RR.length:=by omega
    have rai:=rat i g gR;have hx1:=iZ (ml g);have hx2:=DT (ml g);have fin:=fun σ' hσ=>hK (i+1) σ' (by omega) (by omega) hσ
    have hat:=Hq L i g d;rw [BU L i g] at fin;clear hK rat;generalize L[i]=x at *
    obtain ⟨xn,ws,xb,ks,xl,xc⟩:=x;rw [fC] at hx1;rw [lm] at hx2;rw [It.row] at rai;rw [vr] at hat fin;have IH:=ih ks (d+1) (by omega) (by omega) (by omega);have hlen:RN=(bY (L.take i) d).length+(1+(bY ks (d+1)).length+(bY (L.drop (i+1)) d).length):=by
     rw [hRN,hat];simp [cG];omega
    have s0:ts[k+(bY (L.take i) d).length]?=some [i6 d,.agg [.str xn,.sl (ws.map Tk.row),.bool xb,.sl (ar ks),i6 xl,i6 xc]]:=by
     rw [hseg _ (by omega),hat,List.getElem?_append_right (eI _),Nat.sub_self];rfl
    have s1: ∀q,q<(bY ks (d+1)).length→ts[k+(bY (L.take i) d).length+1+q]?=(bY ks (d+1))[q]?:=by
     intro q hq;rw [show k+(bY (L.take i) d).length+1+q=k+((bY (L.take i) d).length+1+q) from by omega,hseg _ (by omega),hat,List.getElem?_append_right (by omega),show (bY (L.take i) d).length+1+q - (bY (L.take i) d).length=q+1 from by omega,bH,List.getElem?_cons_succ,List.getElem?_append_left hq]
    rw [cG,em,←EH,O8 (bY ks (d+1)).length 1,←EH] at fin;clear hat hlen hseg;generalize ar ks=IR at *
    generalize ws.map Tk.row=WR at *
    generalize bY ks (d+1)=TK at *
    generalize (bY (L.take i) d).length=m at *
    simp only [sA,zn,BQ];simp [g',gR,rai];simp only [M1,mU];simp;refine Ko rfl rfl s0 rfl ?_ ?_
    ·simp only [mU];simp [t2];refine DN rfl IH rfl rfl rfl s1 rfl ?_ ?_
     ·simp only [mU,lj];simp;refine fin _ ?_;apply ae<;>simp [t1]
     ·simp only [mU,lj];simp [qi]
    ·simp only [mU];simp;refine E5 rfl ?_;simp only [mU,lj];simp [qi]
   ·obtain rfl:i=L.length:=by omega
    have g': ¬(L.length:Int)<RR.length:=by omega
    clear hK;rw [qJ] at *
    rw [←hRN];simp only [sA,zn];simp [g',qi]
  ·apply ae<;>simp
theorem Fa (L:List It) (b:Id) (hb:b.isIt=false) (hc:aT L≤100000) (hd:bN L≤90000):MZ Tryz.prog gl 62 [.ptr b 0] [(b,[.sl (ar L)])] (bY L 1):=by
 refine Vy hb rfl ?_;intro l;have D:=BV _ L 1 (eI _) hc (by omega);generalize ar L=RR at *
 generalize bY L 1=TT at *
 simp only [Q1,mU];simp;refine DN rfl D rfl rfl rfl (fun i hi=>by rw [mM]) rfl ?_ ?_
 ·simp only [lj];simp
 ·simp only [lj];simp
theorem Fb (L:List It) (d:Nat):cB Tryz.prog gl 32 d ⟨[.sl (ar L)],[],[]⟩ ⟨.fn 62 [.ptr (.nw d (.n 1)) 0],[(.nw d (.n 1),[.sl (ar L)])],[]⟩:=by
 refine Ot rfl ?_;generalize ar L=RR at *
 simp only [aF,bV,bp,AV.mp,b7,Pl.mp];simp [Uy];apply am<;>simp
end Go.Ai
