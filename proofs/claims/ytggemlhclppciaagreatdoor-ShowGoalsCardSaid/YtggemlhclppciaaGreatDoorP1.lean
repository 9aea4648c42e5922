/- P1: a part of the proof: the rules, or what functions compute. Conditions: as each theorem says. -/
import Derived.Test.YtggemlhclppciaaGreatDoorCode
import Derived.Test.YtggemlhclppciaaGreatDoorLib11
import Derived.Shelf.Strings.Repeat
import Derived.Shelf.Lays
import Derived.Shelf.LaysM
import Derived.Shelf.Small.Wraps
import Derived.Shelf.Strings.BuilderX
import Derived.Shelf.Strings.SplitCore
import Derived.Shelf.Unicode.ValidAny
import Derived.Laws.Bits64b
set_option linter.unusedSimpArgs false
set_option linter.unusedVariables false
set_option maxRecDepth 20000
namespace Go.Ai
open Go.Proofs Go.Shelf
def ren_laysRep:Ren:={
 f:=fun x=>match x with
  |105=>98
  |212=>134
  |99=>135
  |165=>136
  |166=>97
  |170=>137
  |169=>40
  |263=>176
  |264=>177
  |206=>178
  |240=>133
  |241=>179
  |276=>175
  |277=>207
  |n=>n
 t:=fun x=>match x with
  |9=>9
  |3=>3
  |4=>4
  |20=>20
  |0=>0
  |46=>173
  |109=>174
  |5=>5
  |72=>69
  |76=>138
  |51=>39
  |146=>220
  |53=>44
  |148=>222
  |70=>66
  |37=>67
  |75=>137
  |127=>106
  |164=>218
  |80=>73
  |n=>n
 g:=fun x=>x}
set_option maxRecDepth 100000 in
theorem laysRep:Lays.n105 Tryz.prog ren_laysRep where
 mixed:=by kernel_rfl
 f99:=Eq.trans Tryz.func135 (congrArg some (show Tryz.f135=Body.n99 ren_laysRep by kernel_rfl))
 f105:=Eq.trans Tryz.func98 (congrArg some (show Tryz.f98=Body.n105 ren_laysRep by kernel_rfl))
 f165:=Eq.trans Tryz.func136 (congrArg some (show Tryz.f136=Body.n165 ren_laysRep by kernel_rfl))
 f166:=Eq.trans Tryz.func97 (congrArg some (show Tryz.f97=Body.n166 ren_laysRep by kernel_rfl))
 f169:=Eq.trans Tryz.func40 (congrArg some (show Tryz.f40=Body.n169 ren_laysRep by kernel_rfl))
 f170:=Eq.trans Tryz.func137 (congrArg some (show Tryz.f137=Body.n170 ren_laysRep by kernel_rfl))
 f206:=Eq.trans Tryz.func178 (congrArg some (show Tryz.f178=Body.n206 ren_laysRep by kernel_rfl))
 f212:=Eq.trans Tryz.func134 (congrArg some (show Tryz.f134=Body.n212 ren_laysRep by kernel_rfl))
 f240:=Eq.trans Tryz.func133 (congrArg some (show Tryz.f133=Body.n240 ren_laysRep by kernel_rfl))
 f241:=Eq.trans Tryz.func179 (congrArg some (show Tryz.f179=Body.n241 ren_laysRep by kernel_rfl))
 f263:=Eq.trans Tryz.func176 (congrArg some (show Tryz.f176=Body.n263 ren_laysRep by kernel_rfl))
 f264:=Eq.trans Tryz.func177 (congrArg some (show Tryz.f177=Body.n264 ren_laysRep by kernel_rfl))
 f276:=Eq.trans Tryz.func175 (congrArg some (show Tryz.f175=Body.n276 ren_laysRep by kernel_rfl))
 f277:=Eq.trans Tryz.func207 (congrArg some (show Tryz.f207=Body.n277 ren_laysRep by kernel_rfl))
 t0:=Tryz.underlying0
 a0:=Tryz.isAgg0
 z0:=Tryz.sizeOf0
 v0:=Tryz.zeroValue0
 t3:=Tryz.underlying3
 a3:=Tryz.isAgg3
 z3:=Tryz.sizeOf3
 v3:=Tryz.zeroValue3
 t4:=Tryz.underlying4
 a4:=Tryz.isAgg4
 z4:=Tryz.sizeOf4
 v4:=Tryz.zeroValue4
 t5:=Tryz.underlying5
 a5:=Tryz.isAgg5
 z5:=Tryz.sizeOf5
 v5:=Tryz.zeroValue5
 t9:=Tryz.underlying9
 a9:=Tryz.isAgg9
 z9:=Tryz.sizeOf9
 v9:=Tryz.zeroValue9
 t20:=Tryz.underlying20
 a20:=Tryz.isAgg20
 z20:=Tryz.sizeOf20
 v20:=Tryz.zeroValue20
 t37:=Tryz.underlying67
 a37:=Tryz.isAgg67
 z37:=Tryz.sizeOf67
 v37:=Tryz.zeroValue67
 t46:=Tryz.underlying173
 a46:=Tryz.isAgg173
 z46:=Tryz.sizeOf173
 v46:=Tryz.zeroValue173
 t51:=Tryz.underlying39
 a51:=Tryz.isAgg39
 z51:=Tryz.sizeOf39
 v51:=Tryz.zeroValue39
 t53:=Tryz.underlying44
 a53:=Tryz.isAgg44
 z53:=Tryz.sizeOf44
 v53:=Tryz.zeroValue44
 t70:=Tryz.underlying66
 a70:=Tryz.isAgg66
 z70:=Tryz.sizeOf66
 v70:=Tryz.zeroValue66
 t72:=Tryz.underlying69
 a72:=Tryz.isAgg69
 z72:=Tryz.sizeOf69
 v72:=Tryz.zeroValue69
 t75:=Tryz.underlying137
 a75:=Tryz.isAgg137
 z75:=Tryz.sizeOf137
 v75:=Tryz.zeroValue137
 t76:=Tryz.underlying138
 a76:=Tryz.isAgg138
 z76:=Tryz.sizeOf138
 v76:=Tryz.zeroValue138
 t109:=Tryz.underlying174
 a109:=Tryz.isAgg174
 z109:=Tryz.sizeOf174
 v109:=Tryz.zeroValue174
 t127:=Tryz.underlying106
 a127:=Tryz.isAgg106
 z127:=Tryz.sizeOf106
 v127:=Tryz.zeroValue106
 t146:=Tryz.underlying220
 a146:=Tryz.isAgg220
 z146:=Tryz.sizeOf220
 v146:=Tryz.zeroValue220
 t148:=Tryz.underlying222
 a148:=Tryz.isAgg222
 z148:=Tryz.sizeOf222
 v148:=Tryz.zeroValue222
 t164:=Tryz.underlying218
 a164:=Tryz.isAgg218
 z164:=Tryz.sizeOf218
 v164:=Tryz.zeroValue218
end Go.Ai
namespace Go.Ai
open Go.Proofs Go.Shelf
def ren_laysJoin:Ren:={
 f:=fun x=>match x with
  |167=>100
  |156=>99
  |165=>136
  |166=>97
  |169=>40
  |240=>133
  |241=>179
  |276=>175
  |277=>207
  |n=>n
 t:=fun x=>match x with
  |31=>104
  |9=>9
  |3=>3
  |4=>4
  |0=>0
  |20=>20
  |72=>69
  |76=>138
  |70=>66
  |37=>67
  |75=>137
  |127=>106
  |164=>218
  |5=>5
  |80=>73
  |n=>n
 g:=fun x=>x}
set_option maxRecDepth 100000 in
theorem laysJoin:Lays.n156 Tryz.prog ren_laysJoin where
 mixed:=by kernel_rfl
 f156:=Eq.trans Tryz.func99 (congrArg some (show Tryz.f99=Body.n156 ren_laysJoin by kernel_rfl))
 f165:=Eq.trans Tryz.func136 (congrArg some (show Tryz.f136=Body.n165 ren_laysJoin by kernel_rfl))
 f166:=Eq.trans Tryz.func97 (congrArg some (show Tryz.f97=Body.n166 ren_laysJoin by kernel_rfl))
 f169:=Eq.trans Tryz.func40 (congrArg some (show Tryz.f40=Body.n169 ren_laysJoin by kernel_rfl))
 f240:=Eq.trans Tryz.func133 (congrArg some (show Tryz.f133=Body.n240 ren_laysJoin by kernel_rfl))
 f241:=Eq.trans Tryz.func179 (congrArg some (show Tryz.f179=Body.n241 ren_laysJoin by kernel_rfl))
 f276:=Eq.trans Tryz.func175 (congrArg some (show Tryz.f175=Body.n276 ren_laysJoin by kernel_rfl))
 f277:=Eq.trans Tryz.func207 (congrArg some (show Tryz.f207=Body.n277 ren_laysJoin by kernel_rfl))
 t0:=Tryz.underlying0
 a0:=Tryz.isAgg0
 z0:=Tryz.sizeOf0
 v0:=Tryz.zeroValue0
 t3:=Tryz.underlying3
 a3:=Tryz.isAgg3
 z3:=Tryz.sizeOf3
 v3:=Tryz.zeroValue3
 t4:=Tryz.underlying4
 a4:=Tryz.isAgg4
 z4:=Tryz.sizeOf4
 v4:=Tryz.zeroValue4
 t9:=Tryz.underlying9
 a9:=Tryz.isAgg9
 z9:=Tryz.sizeOf9
 v9:=Tryz.zeroValue9
 t20:=Tryz.underlying20
 a20:=Tryz.isAgg20
 z20:=Tryz.sizeOf20
 v20:=Tryz.zeroValue20
 t31:=Tryz.underlying104
 a31:=Tryz.isAgg104
 z31:=Tryz.sizeOf104
 v31:=Tryz.zeroValue104
 t37:=Tryz.underlying67
 a37:=Tryz.isAgg67
 z37:=Tryz.sizeOf67
 v37:=Tryz.zeroValue67
 t70:=Tryz.underlying66
 a70:=Tryz.isAgg66
 z70:=Tryz.sizeOf66
 v70:=Tryz.zeroValue66
 t72:=Tryz.underlying69
 a72:=Tryz.isAgg69
 z72:=Tryz.sizeOf69
 v72:=Tryz.zeroValue69
 t75:=Tryz.underlying137
 a75:=Tryz.isAgg137
 z75:=Tryz.sizeOf137
 v75:=Tryz.zeroValue137
 t76:=Tryz.underlying138
 a76:=Tryz.isAgg138
 z76:=Tryz.sizeOf138
 v76:=Tryz.zeroValue138
 t127:=Tryz.underlying106
 a127:=Tryz.isAgg106
 z127:=Tryz.sizeOf106
 v127:=Tryz.zeroValue106
 t164:=Tryz.underlying218
 a164:=Tryz.isAgg218
 z164:=Tryz.sizeOf218
 v164:=Tryz.zeroValue218
def ren_laysSmall:Ren:={
 f:=fun x=>match x with
  |283=>165
  |n=>n
 t:=fun x=>match x with
  |3=>3
  |9=>9
  |4=>4
  |n=>n
 g:=fun x=>x}
set_option maxRecDepth 100000 in
theorem laysSmall:Lays.n283 Tryz.prog ren_laysSmall where
 mixed:=by kernel_rfl
 f283:=Eq.trans Tryz.func165 (congrArg some (show Tryz.f165=Body.n283 ren_laysSmall by kernel_rfl))
 t3:=Tryz.underlying3
 a3:=Tryz.isAgg3
 z3:=Tryz.sizeOf3
 v3:=Tryz.zeroValue3
 t4:=Tryz.underlying4
 a4:=Tryz.isAgg4
 z4:=Tryz.sizeOf4
 v4:=Tryz.zeroValue4
 t9:=Tryz.underlying9
 a9:=Tryz.isAgg9
 z9:=Tryz.sizeOf9
 v9:=Tryz.zeroValue9
def ren_laysDig:Ren:={
 f:=fun x=>match x with
  |284=>166
  |129=>200
  |317=>199
  |318=>201
  |n=>n
 t:=fun x=>match x with
  |53=>44
  |3=>3
  |212=>245
  |0=>0
  |4=>4
  |46=>173
  |5=>5
  |9=>9
  |n=>n
 g:=fun x=>match x with
  |17=>2
  |n=>n}
set_option maxRecDepth 100000 in
theorem laysDig:LaysM.n284 Tryz.prog ren_laysDig where
 mixed:=by kernel_rfl
 f129:=Eq.trans Tryz.func200 (congrArg some (show Tryz.f200=Body.n129 ren_laysDig by kernel_rfl))
 f284:=Eq.trans Tryz.func166 (congrArg some (show Tryz.f166=Body.n284 ren_laysDig by kernel_rfl))
 f317:=Eq.trans Tryz.func199 (congrArg some (show Tryz.f199=Body.n317 ren_laysDig by kernel_rfl))
 f318:=Eq.trans Tryz.func201 (congrArg some (show Tryz.f201=Body.n318 ren_laysDig by kernel_rfl))
 t0:=Tryz.underlying0
 a0:=Tryz.isAgg0
 z0:=Tryz.sizeOf0
 v0:=Tryz.zeroValue0
 t3:=Tryz.underlying3
 a3:=Tryz.isAgg3
 z3:=Tryz.sizeOf3
 v3:=Tryz.zeroValue3
 t4:=Tryz.underlying4
 a4:=Tryz.isAgg4
 z4:=Tryz.sizeOf4
 v4:=Tryz.zeroValue4
 t5:=Tryz.underlying5
 a5:=Tryz.isAgg5
 z5:=Tryz.sizeOf5
 v5:=Tryz.zeroValue5
 t9:=Tryz.underlying9
 a9:=Tryz.isAgg9
 z9:=Tryz.sizeOf9
 v9:=Tryz.zeroValue9
 t46:=Tryz.underlying173
 a46:=Tryz.isAgg173
 z46:=Tryz.sizeOf173
 v46:=Tryz.zeroValue173
 t53:=Tryz.underlying44
 a53:=Tryz.isAgg44
 z53:=Tryz.sizeOf44
 v53:=Tryz.zeroValue44
 t212:=Tryz.underlying245
 a212:=Tryz.isAgg245
 z212:=Tryz.sizeOf245
 v212:=Tryz.zeroValue245
 g17:=by kernel_rfl
 i0:=by kernel_rfl
 i3:=by kernel_rfl
 i4:=by kernel_rfl
 i5:=by kernel_rfl
 i9:=by kernel_rfl
 i46:=by kernel_rfl
 i53:=by kernel_rfl
 i212:=by kernel_rfl
 m17:=by kernel_rfl
def ren_laysFmt:Ren:={
 f:=fun x=>match x with
  |285=>167
  |n=>n
 t:=fun x=>match x with
  |37=>67
  |53=>44
  |3=>3
  |4=>4
  |51=>39
  |9=>9
  |5=>5
  |0=>0
  |n=>n
 g:=fun x=>x}
set_option maxRecDepth 100000 in
theorem laysFmt:Lays.n285 Tryz.prog ren_laysFmt where
 mixed:=by kernel_rfl
 f285:=Eq.trans Tryz.func167 (congrArg some (show Tryz.f167=Body.n285 ren_laysFmt by kernel_rfl))
 t0:=Tryz.underlying0
 a0:=Tryz.isAgg0
 z0:=Tryz.sizeOf0
 v0:=Tryz.zeroValue0
 t3:=Tryz.underlying3
 a3:=Tryz.isAgg3
 z3:=Tryz.sizeOf3
 v3:=Tryz.zeroValue3
 t4:=Tryz.underlying4
 a4:=Tryz.isAgg4
 z4:=Tryz.sizeOf4
 v4:=Tryz.zeroValue4
 t5:=Tryz.underlying5
 a5:=Tryz.isAgg5
 z5:=Tryz.sizeOf5
 v5:=Tryz.zeroValue5
 t9:=Tryz.underlying9
 a9:=Tryz.isAgg9
 z9:=Tryz.sizeOf9
 v9:=Tryz.zeroValue9
 t37:=Tryz.underlying67
 a37:=Tryz.isAgg67
 z37:=Tryz.sizeOf67
 v37:=Tryz.zeroValue67
 t51:=Tryz.underlying39
 a51:=Tryz.isAgg39
 z51:=Tryz.sizeOf39
 v51:=Tryz.zeroValue39
 t53:=Tryz.underlying44
 a53:=Tryz.isAgg44
 z53:=Tryz.sizeOf44
 v53:=Tryz.zeroValue44
def ren_laysValid:Ren:={
 f:=fun x=>match x with
  |196=>123
  |259=>163
  |n=>n
 t:=fun x=>match x with
  |9=>9
  |4=>4
  |3=>3
  |5=>5
  |12=>12
  |119=>201
  |0=>0
  |46=>173
  |139=>204
  |138=>203
  |53=>44
  |n=>n
 g:=fun x=>match x with
  |3=>0
  |4=>1
  |n=>n}
set_option maxRecDepth 100000 in
theorem laysValid:Lays.n196 Tryz.prog ren_laysValid where
 mixed:=by kernel_rfl
 f196:=Eq.trans Tryz.func123 (congrArg some (show Tryz.f123=Body.n196 ren_laysValid by kernel_rfl))
 f259:=Eq.trans Tryz.func163 (congrArg some (show Tryz.f163=Body.n259 ren_laysValid by kernel_rfl))
 t0:=Tryz.underlying0
 a0:=Tryz.isAgg0
 z0:=Tryz.sizeOf0
 v0:=Tryz.zeroValue0
 t3:=Tryz.underlying3
 a3:=Tryz.isAgg3
 z3:=Tryz.sizeOf3
 v3:=Tryz.zeroValue3
 t4:=Tryz.underlying4
 a4:=Tryz.isAgg4
 z4:=Tryz.sizeOf4
 v4:=Tryz.zeroValue4
 t5:=Tryz.underlying5
 a5:=Tryz.isAgg5
 z5:=Tryz.sizeOf5
 v5:=Tryz.zeroValue5
 t9:=Tryz.underlying9
 a9:=Tryz.isAgg9
 z9:=Tryz.sizeOf9
 v9:=Tryz.zeroValue9
 t12:=Tryz.underlying12
 a12:=Tryz.isAgg12
 z12:=Tryz.sizeOf12
 v12:=Tryz.zeroValue12
 t46:=Tryz.underlying173
 a46:=Tryz.isAgg173
 z46:=Tryz.sizeOf173
 v46:=Tryz.zeroValue173
 t53:=Tryz.underlying44
 a53:=Tryz.isAgg44
 z53:=Tryz.sizeOf44
 v53:=Tryz.zeroValue44
 t119:=Tryz.underlying201
 a119:=Tryz.isAgg201
 z119:=Tryz.sizeOf201
 t138:=Tryz.underlying203
 a138:=Tryz.isAgg203
 z138:=Tryz.sizeOf203
 v138:=Tryz.zeroValue203
 t139:=Tryz.underlying204
 a139:=Tryz.isAgg204
 z139:=Tryz.sizeOf204
 v139:=Tryz.zeroValue204
 g3:=by kernel_rfl
 g4:=by kernel_rfl
open Go.Proofs
abbrev u (n:Nat):AV:= .int .u64 n
abbrev i6 (n:Int):AV:= .int .i64 n

end Go.Ai
namespace Go.Ai
open Go.Proofs Go.Shelf
theorem extraJ:Builder.Extra Tryz.prog ren_laysJoin where
 sizeBuilder:=by kernel_rfl
 liesBuilder:=by kernel_rfl
 t5:=Tryz.underlying5
 a5:=Tryz.isAgg5
 z5:=Tryz.sizeOf5
 v5:=Tryz.zeroValue5
 infoByte:=by kernel_rfl
 cellsByte:=by kernel_rfl
 sizeByte:=by kernel_rfl
 neB5:=by decide
theorem join_spec (xs:List (List UInt8)) (sep:List UInt8) (hN:xs.length≤140737488355328) (hlen:(Lib.join xs sep).length≤140737488355328):Sp Tryz.prog gl 99 [.sl (strRows xs),.str sep] (.str (Lib.join xs sep)):=
 join_shelf laysJoin extraJ (by kernel_rfl) (by kernel_rfl) xs sep hN hlen
end Go.Ai
namespace Go.Ai
open Go.Proofs Go.Shelf
theorem extraP:Builder.Extra Tryz.prog ren_laysRep where
 sizeBuilder:=by kernel_rfl
 liesBuilder:=by kernel_rfl
 t5:=Tryz.underlying5
 a5:=Tryz.isAgg5
 z5:=Tryz.sizeOf5
 v5:=Tryz.zeroValue5
 infoByte:=by kernel_rfl
 cellsByte:=by kernel_rfl
 sizeByte:=by kernel_rfl
 neB5:=by decide
theorem rep_spec (s:List UInt8) (c:Nat) (hc:c≤9223372036854775807) (hlen:s.length*c≤140737488355328):Sp Tryz.prog gl 98 [.str s,i6 c] (.str (Lib.repeatL s c)):=by
 refine shelf_spec (laysRep).f105 (by kernel_rfl) (by kernel_rfl) ?_
 intro S gb w vs hvs hag
 simp only [PRlist] at hvs
 obtain ⟨v1,_,rfl,p1,v2,_,rfl,p2,rfl⟩:=hvs
 simp only [PR] at p1 p2 ⊢
 subst p1
 subst p2
 exact (Any.strings_Repeat laysRep extraP ⟨s.toArray⟩ c w hc (by rw [Lib.size_eq];simpa using hlen)).mono fun e w' ⟨he,hw⟩=>⟨_,he,hw,rfl⟩
end Go.Ai
namespace Go.Ai
open Go.Proofs Go.Shelf
theorem ws_spec {d:Nat} {b:Id} (hit:b.isIt=false) (hnwb:b.isNw d=false) {c0:AV} (hc0:c0= .nilT b 69 2∨c0= .ptr b 0) (l s:List UInt8) (hl:l.length+s.length≤140737488355328):
  SpH Tryz.prog gl 97 d ⟨[.ptr b 0,.str s],[(b,[c0,.sl (byteRows l)])],[(.b b 1,bk 5)]⟩ ⟨.tup [.int .i64 s.length,.undef],[(b,[.ptr b 0,.sl (byteRows (l++s))])],[(.b b 1,bk 5)]⟩:=
 ws_shelf (L:={laysJoin with}) extraJ (by kernel_rfl) (by kernel_rfl) hit hnwb (T:=69) (n:=2) (hc0.imp (fun h=>⟨h,by unfold bldAt;kernel_rfl⟩) id) (rest:=[]) l s hl
theorem st_spec {d:Nat} {b:Id} (hit:b.isIt=false) (hnwb:b.isNw d=false) {c0:AV} (l:List UInt8) (h0:l≠[]):
  SpH Tryz.prog gl 40 d ⟨[.ptr b 0],[(b,[c0,.sl (byteRows l)])],[(.b b 1,bk 5)]⟩ ⟨.str l,[(b,[c0,.sl (byteRows l)])],[]⟩:=
 st_shelf (L:={laysJoin with}) extraJ (by kernel_rfl) (by kernel_rfl) hit hnwb (rest:=[]) l h0
end Go.Ai
namespace Go.Ai
open Go.Proofs Go.Shelf
set_option maxRecDepth 100000 in
theorem laysWB:Lays.n167 Tryz.prog ren_laysJoin:={laysJoin with t5:=extraJ.t5,a5:=extraJ.a5,z5:=extraJ.z5,v5:=extraJ.v5,f167:=Eq.trans Tryz.func100 (congrArg some (show Tryz.f100=Body.n167 ren_laysJoin by kernel_rfl))}
end Go.Ai
namespace Go.Ai
open Go.Proofs Go.Shelf
def indS (d:Nat):List UInt8:=Lib.repeatL [32,32] d
theorem indS_len (d:Nat):(indS d).length=2*d:=by
 unfold indS
 rw [Lib.repeatL_length]
 simp;omega
theorem lprinter_at:bldAt Tryz.prog 69 71 3:=by unfold bldAt;kernel_rfl
theorem lws_spec {d:Nat} {b:Id} (hit:b.isIt=false) (hnwb:b.isNw d=false) {c0:AV} (hc0:c0= .nilT b 71 3∨c0= .ptr b 0) (l s:List UInt8) (n:Nat) (hl:l.length+s.length≤140737488355328):
  SpH Tryz.prog gl 97 d ⟨[.ptr b 0,.str s],[(b,[c0,.sl (byteRows l),i6 n])],[(.b b 1,bk 5)]⟩ ⟨.tup [.int .i64 s.length,.undef],[(b,[.ptr b 0,.sl (byteRows (l++s)),i6 n])],[(.b b 1,bk 5)]⟩:=
 ws_shelf (L:={laysJoin with}) extraJ (by kernel_rfl) (by kernel_rfl) hit hnwb (T:=71) (n:=3) (hc0.imp (fun h=>⟨h,lprinter_at⟩) id) (rest:=[i6 n]) l s hl
theorem lwb_spec {d:Nat} {b:Id} (hit:b.isIt=false) (hnwb:b.isNw d=false) (l:List UInt8) (n:Nat) (c:UInt8) (hl:l.length+1≤140737488355328):
  SpH Tryz.prog gl 100 d ⟨[.ptr b 0,.int .u8 c.toNat],[(b,[.ptr b 0,.sl (byteRows l),i6 n])],[(.b b 1,bk 5)]⟩ ⟨.undef,[(b,[.ptr b 0,.sl (byteRows (l++[c])),i6 n])],[(.b b 1,bk 5)]⟩:=
 wb_shelf laysWB extraJ (by kernel_rfl) (by kernel_rfl) hit hnwb (T:=71) (n:=3) (.inr rfl) (rest:=[i6 n]) l c hl
theorem lline_spec (d:Nat) (b:Id) (hb:b.isIt=false) (hbd:b.isNw d=false) (c0:AV) (hc0:c0= .nilT b 71 3∨c0= .ptr b 0) (l:List UInt8) (n:Nat) (hn:n≤100000) (ws:List (List UInt8)) (hw:ws.length≤1000000) (hl:l.length+(Lib.join ws [32]).length≤100000000000000):
  SpH Tryz.prog gl 65 d ⟨[.ptr b 0,.sl (strRows ws)],[(b,[c0,.sl (byteRows l),i6 n])],[(.b b 1,bk 5)]⟩ ⟨.tup [],[(b,[.ptr b 0,.sl (byteRows (l++(indS n++(Lib.join ws [32]++[10])))),i6 n])],[(.b b 1,bk 5)]⟩:=by
 refine h65 rfl ?_
 have hic:=inn_notNw hbd
 have J:=join_spec ws [32] (by omega) (by omega)
 have hi:=indS_len n
 have RP:=rep_spec [32,32] n (by omega) (by simp;omega)
 rw [show Lib.repeatL [32,32] n=indS n from rfl] at RP
 have W:=fun (e:Nat) (c1:AV) hc=>lws_spec (d:=e) (b:= .up b) hb rfl (c0:=c1) hc l (indS n) n (by omega)
 have W2:=fun (e:Nat)=>lws_spec (d:=e) (b:= .up b) hb rfl (c0:= .ptr (.up b) 0) (.inr rfl) (l++indS n) (Lib.join ws [32]) n (by rw [List.length_append];omega)
 have B:=fun (e:Nat)=>lwb_spec (d:=e) (b:= .up b) hb rfl (l++indS n++Lib.join ws [32]) n 10 (by simp;omega)
 rw [show l++(indS n++(Lib.join ws [32]++[10]))=l++indS n++Lib.join ws [32]++[10] by simp]
 generalize Lib.join ws [32]=j at *
 generalize l++indS n++j++[10]=r2 at *
 generalize l++indS n++j=r3 at *
 simp only [inSt,mpB,mpL,AV.mp,mpP]
 have e10:(10:UInt8).toNat=10:=rfl
 simp only [e10] at B
 rcases hc0 with rfl|rfl
 ·have W1:=fun e=>W e (.nilT (.up b) 71 3) (.inl rfl)
  clear W
  generalize l++indS n=r1 at *
  generalize indS n=r0 at *
  simp -implicitDefEqProofs [c65]
  refine onC_mk _ (RP) ?_
  simp -implicitDefEqProofs
  refine onH_mk _ _ (W1 _) ⟨?_,?_,?_,?_,?_,?_,?_⟩ ?_
  iterate 7 (· simp)
  simp -implicitDefEqProofs
  refine onC_mk _ (J) ?_
  simp -implicitDefEqProofs
  refine onH_mk _ _ (W2 _) ⟨?_,?_,?_,?_,?_,?_,?_⟩ ?_
  iterate 7 (· simp)
  simp -implicitDefEqProofs
  refine onH_mk _ _ (B _) ⟨?_,?_,?_,?_,?_,?_,?_⟩ ?_
  iterate 7 (· simp)
  simp -implicitDefEqProofs
  refine postH_n ⟨?_,?_,?_,?_,?_,?_⟩<;>simp -implicitDefEqProofs [hic,hb]
 ·have W1:=fun e=>W e (.ptr (.up b) 0) (.inr rfl)
  clear W
  generalize l++indS n=r1 at *
  generalize indS n=r0 at *
  simp -implicitDefEqProofs [c65]
  refine onC_mk _ (RP) ?_
  simp -implicitDefEqProofs
  refine onH_mk _ _ (W1 _) ⟨?_,?_,?_,?_,?_,?_,?_⟩ ?_
  iterate 7 (· simp)
  simp -implicitDefEqProofs
  refine onC_mk _ (J) ?_
  simp -implicitDefEqProofs
  refine onH_mk _ _ (W2 _) ⟨?_,?_,?_,?_,?_,?_,?_⟩ ?_
  iterate 7 (· simp)
  simp -implicitDefEqProofs
  refine onH_mk _ _ (B _) ⟨?_,?_,?_,?_,?_,?_,?_⟩ ?_
  iterate 7 (· simp)
  simp -implicitDefEqProofs
  refine postH_n ⟨?_,?_,?_,?_,?_,?_⟩<;>simp -implicitDefEqProofs [hic,hb]
end Go.Ai
namespace Go.Ai
structure Tk where
 k:Int
 t:List UInt8
 n:Nat
 ln:Int
 co:Int
 deriving DecidableEq
def Tk.row (x:Tk):List AV:=[i6 x.k,.str x.t,u x.n,i6 x.ln,i6 x.co]
inductive It where
 |mk (n:List UInt8) (ws:List Tk) (b:Bool) (ks:List It) (ln co:Int)
mutual
def It.row:It→List AV
 | .mk n ws b ks ln co=>[.str n,.sl (ws.map Tk.row),.bool b,.sl (itRows ks),i6 ln,i6 co]
def itRows:List It→List (List AV)
 |[]=>[]
 |x::r=>x.row::itRows r
end
theorem itRows_len: ∀a:List It,(itRows a).length=a.length
 |[]=>rfl
 |x::a=>by rw [itRows,List.length_cons,List.length_cons,itRows_len a]
mutual
def cntI:It→Nat
 | .mk _ _ _ ks _ _=>1+cntL ks
def cntL:List It→Nat
 |[]=>0
 |x::r=>cntI x+cntL r
end
mutual
def depI:It→Nat
 | .mk _ _ _ ks _ _=>1+depL ks
def depL:List It→Nat
 |[]=>0
 |x::r=>max (depI x) (depL r)
end
theorem itRows_at: ∀(L:List It) (i:Nat) (h:i<L.length) (h2:i<(itRows L).length),(itRows L)[i]=L[i].row
 |x::L,0,h,h2=>rfl
 |x::L,i+1,h,h2=>by
  simp only [itRows,List.getElem_cons_succ]
  exact itRows_at L i _ _
theorem cnt_mem: ∀ {L:List It} {x:It},x∈L→cntI x≤cntL L
 |y::L,x,h=>by
  rw [cntL]
  rcases List.mem_cons.1 h with rfl|h
  ·omega
  ·have:=cnt_mem h;omega
theorem len_cnt: ∀L:List It,L.length≤cntL L
 |[]=>Nat.zero_le _
 | .mk n ws b ks ln co::L=>by
  have:=len_cnt L
  rw [cntL,cntI,List.length_cons]
  omega
open Go.Proofs
mutual
def toldI:It→Nat→List (List AV)
 | .mk n ws b ks ln co,d=>[i6 d,.agg [.str n,.sl (ws.map Tk.row),.bool b,.sl (itRows ks),i6 ln,i6 co]]::toldL ks (d+1)
def toldL:List It→Nat→List (List AV)
 |[],_=>[]
 |x::r,d=>toldI x d++toldL r d
end
theorem toldL_app: ∀(a b:List It) (d:Nat),toldL (a++b) d=toldL a d++toldL b d
 |[],b,d=>rfl
 |x::a,b,d=>by rw [List.cons_append,toldL,toldL,toldL_app a b,List.append_assoc]
open Go.Proofs
theorem toldL_at (L:List It) (i:Nat) (h:i<L.length) (d:Nat):toldL L d=toldL (L.take i) d++(toldI L[i] d++toldL (L.drop (i+1)) d):=by
 conv=>lhs;rw [←List.take_append_drop i L,List.drop_eq_getElem_cons h]
 rw [toldL_app,toldL]
theorem toldL_snoc (L:List It) (i:Nat) (h:i<L.length) (d:Nat):toldL (L.take (i+1)) d=toldL (L.take i) d++toldI L[i] d:=by
 rw [List.take_succ_eq_append_getElem h,toldL_app,toldL,toldL,List.append_nil]
theorem dep_mem: ∀ {L:List It} {x:It},x∈L→depI x≤depL L
 |y::L,x,h=>by
  rw [depL]
  rcases List.mem_cons.1 h with rfl|h
  ·exact Nat.le_max_left _ _
  ·exact Nat.le_trans (dep_mem h) (Nat.le_max_right _ _)
set_option maxHeartbeats 2000000 in
theorem down_tells: ∀(N:Nat) (L:List It) (d:Nat),cntL L≤N→cntL L≤100000→d+depL L≤100000→TlH Tryz.prog gl 63 [.sl (itRows L),i6 d] (toldL L d):=by
 intro N
 induction N with
 |zero=>
  intro L d h hc hd
  have hL:L=[]:=by
   have:=len_cnt L
   exact List.eq_nil_of_length_eq_zero (by omega)
  subst hL
  refine y63 rfl rfl ?_
  intro l ts k hseg
  simp only [c63,wpY_sq,wpY_c,wpY_bl,itRows,toldL,List.length_nil,Nat.add_zero,List.cons_append,List.nil_append]
  simp -implicitDefEqProofs
  refine wpY_lpk (α:=Unit) (fun _=>⟨[(0,.sl []),(1,i6 d),(2,.yv l),(9,.sl []),(10,i6 0),(11,i6 0)],[],[]⟩) (fun _=>k) (fun _=>True) (fun _=>0) ?_ () trivial ?_
  ·rintro K x hK _
   clear hK
   simp only [wpY_sq,wpY_c]
   simp -implicitDefEqProofs [postY]
  ·refine weak_mk ?_ ?_ ?_ ?_ ?_ ?_<;>simp -implicitDefEqProofs
 |succ N ih=>
  intro L d h hc hd
  refine y63 rfl rfl ?_
  intro l ts k hseg
  have rl:=itRows_len L
  have rat:=itRows_at L
  have ll:=len_cnt L
  obtain ⟨RN,hRN⟩: ∃RN,RN=(toldL L d).length:=⟨_,rfl⟩
  rw [←hRN] at hseg ⊢
  generalize itRows L=RR at *
  simp only [c63,wpY_sq,wpY_c,wpY_bl,List.cons_append,List.nil_append]
  simp -implicitDefEqProofs
  refine wpY_lpk (α:=Nat) (fun i=>⟨[(0,.sl RR),(1,i6 d),(2,.yv l),(9,.sl RR),(10,i6 RR.length),(11,i6 i)],[],[]⟩) (fun i=>k+(toldL (L.take i) d).length) (fun i=>i≤L.length) (fun i=>L.length - i) ?_ 0 (Nat.zero_le _) ?_
  ·rintro K i hK h1
   have t1:IntKind.i64.wrap ((i:Int)+1)=(i+1:Nat):=by rw [wrap_i64]<;>omega
   have t2:IntKind.i64.wrap ((d:Int)+1)=(d+1:Nat):=by rw [wrap_i64]<;>omega
   by_cases g:i<L.length
   ·have g':(i:Int)<RR.length:=by omega
    have gR:i<RR.length:=by omega
    have rai:=rat i g gR
    have hx1:=cnt_mem (List.getElem_mem g)
    have hx2:=dep_mem (List.getElem_mem g)
    have fin:=fun σ' hσ=>hK (i+1) σ' (by omega) (by omega) hσ
    have hat:=toldL_at L i g d
    rw [toldL_snoc L i g] at fin
    clear hK rat
    generalize L[i]=x at *
    obtain ⟨xn,ws,xb,ks,xl,xc⟩:=x
    rw [cntI] at hx1
    rw [depI] at hx2
    rw [It.row] at rai
    rw [toldI] at hat fin
    have IH:=ih ks (d+1) (by omega) (by omega) (by omega)
    have hlen:RN=(toldL (L.take i) d).length+(1+(toldL ks (d+1)).length+(toldL (L.drop (i+1)) d).length):=by
     rw [hRN,hat];simp [List.length_append];omega
    have s0:ts[k+(toldL (L.take i) d).length]?=some [i6 d,.agg [.str xn,.sl (ws.map Tk.row),.bool xb,.sl (itRows ks),i6 xl,i6 xc]]:=by
     rw [hseg _ (by omega),hat,List.getElem?_append_right (Nat.le_refl _),Nat.sub_self];rfl
    have s1: ∀q,q<(toldL ks (d+1)).length→ts[k+(toldL (L.take i) d).length+1+q]?=(toldL ks (d+1))[q]?:=by
     intro q hq
     rw [show k+(toldL (L.take i) d).length+1+q=k+((toldL (L.take i) d).length+1+q) from by omega,hseg _ (by omega),hat,List.getElem?_append_right (by omega),show (toldL (L.take i) d).length+1+q - (toldL (L.take i) d).length=q+1 from by omega,List.cons_append,List.getElem?_cons_succ,List.getElem?_append_left hq]
    rw [List.length_append,List.length_cons,←Nat.add_assoc,Nat.add_comm (toldL ks (d+1)).length 1,←Nat.add_assoc] at fin
    clear hat hlen hseg
    generalize itRows ks=IR at *
    generalize ws.map Tk.row=WR at *
    generalize toldL ks (d+1)=TK at *
    generalize (toldL (L.take i) d).length=m at *
    simp only [wpY_sq,wpY_c,wpY_bl]
    simp -implicitDefEqProofs [g',gR,rai]
    simp only [wpY_rg,wpYl_o]
    simp -implicitDefEqProofs
    refine wpYl_yl rfl rfl s0 rfl ?_ ?_
    ·simp only [wpYl_o]
     simp -implicitDefEqProofs [t2]
     refine wpYl_rc rfl IH rfl rfl rfl s1 rfl ?_ ?_
     ·simp only [wpYl_o,wpYl_nil]
      simp -implicitDefEqProofs
      refine fin _ ?_
      refine weak_mk ?_ ?_ ?_ ?_ ?_ ?_<;>simp -implicitDefEqProofs [t1]
     ·simp only [wpYl_o,wpYl_nil]
      simp -implicitDefEqProofs [postY]
    ·simp only [wpYl_o]
     simp -implicitDefEqProofs
     refine wpYl_skip rfl ?_
     simp only [wpYl_o,wpYl_nil]
     simp -implicitDefEqProofs [postY]
   ·obtain rfl:i=L.length:=by omega
    have g': ¬(L.length:Int)<RR.length:=by omega
    clear hK
    rw [List.take_length] at *
    rw [←hRN]
    simp only [wpY_sq,wpY_c]
    simp -implicitDefEqProofs [g',postY]
  ·refine weak_mk ?_ ?_ ?_ ?_ ?_ ?_<;>simp -implicitDefEqProofs
open Go.Proofs
theorem walk_iter (L:List It) (b:Id) (hb:b.isIt=false) (hc:cntL L≤100000) (hd:depL L≤90000):ItH Tryz.prog gl 62 [.ptr b 0] [(b,[.sl (itRows L)])] (toldL L 1):=by
 refine i62 hb rfl ?_
 intro l
 have D:=down_tells _ L 1 (Nat.le_refl _) hc (by omega)
 generalize itRows L=RR at *
 generalize toldL L 1=TT at *
 simp only [c62,wpYl_o]
 simp -implicitDefEqProofs
 refine wpYl_rc rfl D rfl rfl rfl (fun i hi=>by rw [Nat.zero_add]) rfl ?_ ?_
 ·simp only [wpYl_nil]
  simp -implicitDefEqProofs
 ·simp only [wpYl_nil]
  simp -implicitDefEqProofs
theorem walk_spec (L:List It) (d:Nat):SpH Tryz.prog gl 32 d ⟨[.sl (itRows L)],[],[]⟩ ⟨.fn 62 [.ptr (.nw d (.n 1)) 0],[(.nw d (.n 1),[.sl (itRows L)])],[]⟩:=by
 refine h32 rfl ?_
 generalize itRows L=RR at *
 simp only [inSt,mpB,mpL,AV.mp,mpP,Pl.mp]
 simp -implicitDefEqProofs [c32]
 refine postH_r ⟨?_,?_,?_,?_,?_,?_⟩<;>simp -implicitDefEqProofs
end Go.Ai
