/- P9: a part of the proof: the rules, or what functions compute. Conditions: as each theorem says. -/
import Derived.Test.YthonkjadcpdphaaGreatDoorCode
import Derived.Test.YthonkjadcpdphaaGreatDoorAiShelf2
import Derived.Shelf.Strings.BuilderK
import Derived.Shelf.Strings.SlTrimAscii
import Derived.Shelf.Lays
import Derived.Shelf.LaysM
import Derived.Shelf.Small.Wraps
import Derived.Shelf.Strings.BuilderX
import Derived.Shelf.Strings.SplitCore
import Derived.Shelf.Unicode.ValidAny
import Derived.Test.YthonkjadcpdphaaGreatDoorP1
import Derived.Test.YthonkjadcpdphaaGreatDoorAiShelf
import Derived.Test.YthonkjadcpdphaaGreatDoorAiShelf4
import Derived.Test.YthonkjadcpdphaaGreatDoorP8
import Derived.Shelf.Strings.Fields
import Derived.Shelf.Strings.Search2
set_option linter.unusedSimpArgs false
set_option linter.unusedVariables false
set_option maxRecDepth 20000
namespace Go.Ai
open Go.Proofs Go.Shelf
def ren_laysTrim:Ren:={
 f:=fun x=>match x with
  |160=>118
  |232=>166
  |231=>165
  |227=>167
  |234=>169
  |233=>168
  |236=>171
  |235=>170
  |228=>213
  |271=>216
  |151=>215
  |197=>214
  |120=>245
  |152=>228
  |260=>244
  |137=>256
  |119=>257
  |224=>248
  |225=>247
  |217=>246
  |266=>276
  |n=>n
 t:=fun x=>match x with
  |9=>9
  |4=>4
  |3=>3
  |5=>5
  |117=>211
  |116=>210
  |0=>0
  |124=>214
  |21=>21
  |105=>257
  |46=>207
  |119=>239
  |139=>242
  |138=>241
  |n=>n
 g:=fun x=>match x with
  |3=>0
  |4=>1
  |n=>n}
set_option maxRecDepth 100000 in
theorem laysTrim:Lays.n160 Tryz.prog ren_laysTrim where
 mixed:=by kernel_rfl
 f119:=Eq.trans Tryz.func257 (congrArg some (show Tryz.f257=Body.n119 ren_laysTrim by kernel_rfl))
 f120:=Eq.trans Tryz.func245 (congrArg some (show Tryz.f245=Body.n120 ren_laysTrim by kernel_rfl))
 f137:=Eq.trans Tryz.func256 (congrArg some (show Tryz.f256=Body.n137 ren_laysTrim by kernel_rfl))
 f151:=Eq.trans Tryz.func215 (congrArg some (show Tryz.f215=Body.n151 ren_laysTrim by kernel_rfl))
 f152:=Eq.trans Tryz.func228 (congrArg some (show Tryz.f228=Body.n152 ren_laysTrim by kernel_rfl))
 f160:=Eq.trans Tryz.func118 (congrArg some (show Tryz.f118=Body.n160 ren_laysTrim by kernel_rfl))
 f197:=Eq.trans Tryz.func214 (congrArg some (show Tryz.f214=Body.n197 ren_laysTrim by kernel_rfl))
 f217:=Eq.trans Tryz.func246 (congrArg some (show Tryz.f246=Body.n217 ren_laysTrim by kernel_rfl))
 f224:=Eq.trans Tryz.func248 (congrArg some (show Tryz.f248=Body.n224 ren_laysTrim by kernel_rfl))
 f225:=Eq.trans Tryz.func247 (congrArg some (show Tryz.f247=Body.n225 ren_laysTrim by kernel_rfl))
 f227:=Eq.trans Tryz.func167 (congrArg some (show Tryz.f167=Body.n227 ren_laysTrim by kernel_rfl))
 f228:=Eq.trans Tryz.func213 (congrArg some (show Tryz.f213=Body.n228 ren_laysTrim by kernel_rfl))
 f231:=Eq.trans Tryz.func165 (congrArg some (show Tryz.f165=Body.n231 ren_laysTrim by kernel_rfl))
 f232:=Eq.trans Tryz.func166 (congrArg some (show Tryz.f166=Body.n232 ren_laysTrim by kernel_rfl))
 f233:=Eq.trans Tryz.func168 (congrArg some (show Tryz.f168=Body.n233 ren_laysTrim by kernel_rfl))
 f234:=Eq.trans Tryz.func169 (congrArg some (show Tryz.f169=Body.n234 ren_laysTrim by kernel_rfl))
 f235:=Eq.trans Tryz.func170 (congrArg some (show Tryz.f170=Body.n235 ren_laysTrim by kernel_rfl))
 f236:=Eq.trans Tryz.func171 (congrArg some (show Tryz.f171=Body.n236 ren_laysTrim by kernel_rfl))
 f260:=Eq.trans Tryz.func244 (congrArg some (show Tryz.f244=Body.n260 ren_laysTrim by kernel_rfl))
 f266:=Eq.trans Tryz.func276 (congrArg some (show Tryz.f276=Body.n266 ren_laysTrim by kernel_rfl))
 f271:=Eq.trans Tryz.func216 (congrArg some (show Tryz.f216=Body.n271 ren_laysTrim by kernel_rfl))
 t0:=Tryz.underlying0
 a0:=Tryz.isAgg0
 z0:=Tryz.sizeOf0
 v0:=Tryz.zeroValue0
 t3:=Tryz.underlying3
 a3:=Tryz.isAgg3
 z3:=Tryz.sizeOf3
 v3:=Tryz.zeroValue3
 t4:=Tryz.underlying4
 a4:=Tryz.isAgg4
 z4:=Tryz.sizeOf4
 v4:=Tryz.zeroValue4
 t5:=Tryz.underlying5
 a5:=Tryz.isAgg5
 z5:=Tryz.sizeOf5
 v5:=Tryz.zeroValue5
 t9:=Tryz.underlying9
 a9:=Tryz.isAgg9
 z9:=Tryz.sizeOf9
 v9:=Tryz.zeroValue9
 t21:=Tryz.underlying21
 a21:=Tryz.isAgg21
 z21:=Tryz.sizeOf21
 v21:=Tryz.zeroValue21
 t46:=Tryz.underlying207
 a46:=Tryz.isAgg207
 z46:=Tryz.sizeOf207
 v46:=Tryz.zeroValue207
 t105:=Tryz.underlying257
 a105:=Tryz.isAgg257
 z105:=Tryz.sizeOf257
 v105:=Tryz.zeroValue257
 t116:=Tryz.underlying210
 a116:=Tryz.isAgg210
 z116:=Tryz.sizeOf210
 t117:=Tryz.underlying211
 a117:=Tryz.isAgg211
 z117:=Tryz.sizeOf211
 v117:=Tryz.zeroValue211
 t119:=Tryz.underlying239
 a119:=Tryz.isAgg239
 z119:=Tryz.sizeOf239
 t124:=Tryz.underlying214
 a124:=Tryz.isAgg214
 z124:=Tryz.sizeOf214
 v124:=Tryz.zeroValue214
 t138:=Tryz.underlying241
 a138:=Tryz.isAgg241
 z138:=Tryz.sizeOf241
 v138:=Tryz.zeroValue241
 t139:=Tryz.underlying242
 a139:=Tryz.isAgg242
 z139:=Tryz.sizeOf242
 v139:=Tryz.zeroValue242
 g3:=by kernel_rfl
 g4:=by kernel_rfl
end Go.Ai
namespace Go.Ai
open Go.Proofs Go.Shelf
def ren_laysJoin:Ren:={
 f:=fun x=>match x with
  |156=>155
  |165=>207
  |166=>129
  |169=>130
  |240=>185
  |241=>241
  |276=>229
  |277=>272
  |n=>n
 t:=fun x=>match x with
  |31=>194
  |9=>9
  |3=>3
  |4=>4
  |0=>0
  |20=>20
  |72=>173
  |76=>176
  |70=>171
  |37=>47
  |75=>175
  |127=>232
  |164=>267
  |5=>5
  |80=>179
  |n=>n
 g:=fun x=>x}
set_option maxRecDepth 100000 in
theorem laysJoin:Lays.n156 Tryz.prog ren_laysJoin where
 mixed:=by kernel_rfl
 f156:=Eq.trans Tryz.func155 (congrArg some (show Tryz.f155=Body.n156 ren_laysJoin by kernel_rfl))
 f165:=Eq.trans Tryz.func207 (congrArg some (show Tryz.f207=Body.n165 ren_laysJoin by kernel_rfl))
 f166:=Eq.trans Tryz.func129 (congrArg some (show Tryz.f129=Body.n166 ren_laysJoin by kernel_rfl))
 f169:=Eq.trans Tryz.func130 (congrArg some (show Tryz.f130=Body.n169 ren_laysJoin by kernel_rfl))
 f240:=Eq.trans Tryz.func185 (congrArg some (show Tryz.f185=Body.n240 ren_laysJoin by kernel_rfl))
 f241:=Eq.trans Tryz.func241 (congrArg some (show Tryz.f241=Body.n241 ren_laysJoin by kernel_rfl))
 f276:=Eq.trans Tryz.func229 (congrArg some (show Tryz.f229=Body.n276 ren_laysJoin by kernel_rfl))
 f277:=Eq.trans Tryz.func272 (congrArg some (show Tryz.f272=Body.n277 ren_laysJoin by kernel_rfl))
 t0:=Tryz.underlying0
 a0:=Tryz.isAgg0
 z0:=Tryz.sizeOf0
 v0:=Tryz.zeroValue0
 t3:=Tryz.underlying3
 a3:=Tryz.isAgg3
 z3:=Tryz.sizeOf3
 v3:=Tryz.zeroValue3
 t4:=Tryz.underlying4
 a4:=Tryz.isAgg4
 z4:=Tryz.sizeOf4
 v4:=Tryz.zeroValue4
 t9:=Tryz.underlying9
 a9:=Tryz.isAgg9
 z9:=Tryz.sizeOf9
 v9:=Tryz.zeroValue9
 t20:=Tryz.underlying20
 a20:=Tryz.isAgg20
 z20:=Tryz.sizeOf20
 v20:=Tryz.zeroValue20
 t31:=Tryz.underlying194
 a31:=Tryz.isAgg194
 z31:=Tryz.sizeOf194
 v31:=Tryz.zeroValue194
 t37:=Tryz.underlying47
 a37:=Tryz.isAgg47
 z37:=Tryz.sizeOf47
 v37:=Tryz.zeroValue47
 t70:=Tryz.underlying171
 a70:=Tryz.isAgg171
 z70:=Tryz.sizeOf171
 v70:=Tryz.zeroValue171
 t72:=Tryz.underlying173
 a72:=Tryz.isAgg173
 z72:=Tryz.sizeOf173
 v72:=Tryz.zeroValue173
 t75:=Tryz.underlying175
 a75:=Tryz.isAgg175
 z75:=Tryz.sizeOf175
 v75:=Tryz.zeroValue175
 t76:=Tryz.underlying176
 a76:=Tryz.isAgg176
 z76:=Tryz.sizeOf176
 v76:=Tryz.zeroValue176
 t127:=Tryz.underlying232
 a127:=Tryz.isAgg232
 z127:=Tryz.sizeOf232
 v127:=Tryz.zeroValue232
 t164:=Tryz.underlying267
 a164:=Tryz.isAgg267
 z164:=Tryz.sizeOf267
 v164:=Tryz.zeroValue267
def ren_laysValid:Ren:={
 f:=fun x=>match x with
  |196=>139
  |259=>193
  |n=>n
 t:=fun x=>match x with
  |9=>9
  |4=>4
  |3=>3
  |5=>5
  |12=>12
  |119=>239
  |0=>0
  |46=>207
  |139=>242
  |138=>241
  |53=>22
  |n=>n
 g:=fun x=>match x with
  |3=>0
  |4=>1
  |n=>n}
set_option maxRecDepth 100000 in
theorem laysValid:Lays.n196 Tryz.prog ren_laysValid where
 mixed:=by kernel_rfl
 f196:=Eq.trans Tryz.func139 (congrArg some (show Tryz.f139=Body.n196 ren_laysValid by kernel_rfl))
 f259:=Eq.trans Tryz.func193 (congrArg some (show Tryz.f193=Body.n259 ren_laysValid by kernel_rfl))
 t0:=Tryz.underlying0
 a0:=Tryz.isAgg0
 z0:=Tryz.sizeOf0
 v0:=Tryz.zeroValue0
 t3:=Tryz.underlying3
 a3:=Tryz.isAgg3
 z3:=Tryz.sizeOf3
 v3:=Tryz.zeroValue3
 t4:=Tryz.underlying4
 a4:=Tryz.isAgg4
 z4:=Tryz.sizeOf4
 v4:=Tryz.zeroValue4
 t5:=Tryz.underlying5
 a5:=Tryz.isAgg5
 z5:=Tryz.sizeOf5
 v5:=Tryz.zeroValue5
 t9:=Tryz.underlying9
 a9:=Tryz.isAgg9
 z9:=Tryz.sizeOf9
 v9:=Tryz.zeroValue9
 t12:=Tryz.underlying12
 a12:=Tryz.isAgg12
 z12:=Tryz.sizeOf12
 v12:=Tryz.zeroValue12
 t46:=Tryz.underlying207
 a46:=Tryz.isAgg207
 z46:=Tryz.sizeOf207
 v46:=Tryz.zeroValue207
 t53:=Tryz.underlying22
 a53:=Tryz.isAgg22
 z53:=Tryz.sizeOf22
 v53:=Tryz.zeroValue22
 t119:=Tryz.underlying239
 a119:=Tryz.isAgg239
 z119:=Tryz.sizeOf239
 t138:=Tryz.underlying241
 a138:=Tryz.isAgg241
 z138:=Tryz.sizeOf241
 v138:=Tryz.zeroValue241
 t139:=Tryz.underlying242
 a139:=Tryz.isAgg242
 z139:=Tryz.sizeOf242
 v139:=Tryz.zeroValue242
 g3:=by kernel_rfl
 g4:=by kernel_rfl
def ren_laysCutP:Ren:={
 f:=fun x=>match x with
  |103=>242
  |210=>273
  |206=>286
  |n=>n
 t:=fun x=>match x with
  |9=>9
  |4=>4
  |24=>215
  |3=>3
  |n=>n
 g:=fun x=>x}
set_option maxRecDepth 100000 in
theorem laysCutP:Lays.n103 Tryz.prog ren_laysCutP where
 mixed:=by kernel_rfl
 f103:=Eq.trans Tryz.func242 (congrArg some (show Tryz.f242=Body.n103 ren_laysCutP by kernel_rfl))
 f206:=Eq.trans Tryz.func286 (congrArg some (show Tryz.f286=Body.n206 ren_laysCutP by kernel_rfl))
 f210:=Eq.trans Tryz.func273 (congrArg some (show Tryz.f273=Body.n210 ren_laysCutP by kernel_rfl))
 t3:=Tryz.underlying3
 a3:=Tryz.isAgg3
 z3:=Tryz.sizeOf3
 v3:=Tryz.zeroValue3
 t4:=Tryz.underlying4
 a4:=Tryz.isAgg4
 z4:=Tryz.sizeOf4
 v4:=Tryz.zeroValue4
 t9:=Tryz.underlying9
 a9:=Tryz.isAgg9
 z9:=Tryz.sizeOf9
 v9:=Tryz.zeroValue9
 t24:=Tryz.underlying215
 a24:=Tryz.isAgg215
 z24:=Tryz.sizeOf215
 v24:=Tryz.zeroValue215
end Go.Ai
namespace Go.Ai
open Go.Proofs Go.Shelf
theorem extraJ:Builder.Extra Tryz.prog ren_laysJoin where
 sizeBuilder:=by kernel_rfl
 liesBuilder:=by kernel_rfl
 t5:=Tryz.underlying5
 a5:=Tryz.isAgg5
 z5:=Tryz.sizeOf5
 v5:=Tryz.zeroValue5
 infoByte:=by kernel_rfl
 cellsByte:=by kernel_rfl
 sizeByte:=by kernel_rfl
 neB5:=by decide
end Go.Ai
namespace Go.Ai
open Go.Proofs Go.Shelf
theorem cutP_spec (s p:List UInt8):Sp Tryz.prog gl 242 [.str s,.str p] (.tup [.str (Lib.trimPrefix s p),.bool (Lib.hasPrefix s p)]):=
 cutP_shelf laysCutP (by kernel_rfl) (by kernel_rfl) s p
end Go.Ai
namespace Go.Ai
open Go.Proofs Go.Shelf
theorem trimD_spec (s:List UInt8) (hs:s.length≤1000000):Sp Tryz.prog gl 118 [.str s,.str [48,49,50,51,52,53,54,55,56,57]] (.str (Lib.trimS s [48,49,50,51,52,53,54,55,56,57])):=by
 refine shelf_spec laysTrim.f160 (by kernel_rfl) (by kernel_rfl) ?_
 intro S gb w vs hvs hag
 simp only [PRlist] at hvs
 obtain ⟨v1,_,rfl,p1,v2,_,rfl,p2,rfl⟩:=hvs
 simp only [PR] at p1 p2
 subst p1;subst p2
 refine (Any.strings_Trim_laid laysTrim (by kernel_rfl) ⟨s.toArray⟩ ⟨[48,49,50,51,52,53,54,55,56,57].toArray⟩ w (by simp only [ByteArray.size,List.size_toArray];omega) (by decide) (ascii_of_all (by decide))).mono ?_
 rintro e w' ⟨rfl,h⟩
 exact ⟨_,rfl,h,by simp only [PR]⟩
set_option maxRecDepth 100000 in
theorem dig_in (b:UInt8):([48,49,50,51,52,53,54,55,56,57]:List UInt8).contains b=isDig b:=by
 have h: ∀n:Fin 256,([48,49,50,51,52,53,54,55,56,57]:List UInt8).contains (UInt8.ofNat n.1)=decide (48≤n.1∧n.1≤57):=by decide
 have h2:=h ⟨b.toNat,b.toNat_lt⟩
 rw [UInt8.ofNat_toNat] at h2
 exact h2
theorem dw_nil {α:Type} (p:α→Bool): ∀l:List α,l.dropWhile p=[]↔l.all p=true
 |[]=>by simp
 |a::l=>by
  have ih:=dw_nil p l
  rw [List.dropWhile_cons,List.all_cons]
  cases h:p a
  ·simp
  ·simpa using ih
theorem trimD_nil (s:List UInt8):(Lib.trimS s [48,49,50,51,52,53,54,55,56,57]==[])=s.all isDig:=by
 have e:(fun b:UInt8=>([48,49,50,51,52,53,54,55,56,57]:List UInt8).contains b)=isDig:=funext dig_in
 unfold Lib.trimS Lib.trimLeftS Lib.trimRightS
 rw [e,Bool.eq_iff_iff,beq_iff_eq,dw_nil,List.all_reverse]
 constructor
 ·intro h
  have h2:s.reverse.dropWhile isDig=[]:=by
   cases g:s.reverse.dropWhile isDig with
   |nil=>rfl
   |cons a t=>
    have ha:isDig a=false:=by
     have:=List.head?_dropWhile_not isDig s.reverse
     rw [g] at this
     simpa using this
    rw [g,List.all_cons,ha] at h
    cases h
  rw [dw_nil,List.all_reverse] at h2
  exact h2
 ·intro h
  rw [←List.all_reverse,←dw_nil] at h
  rw [h]
  rfl
end Go.Ai
namespace Go.Ai
open Go.Proofs Go.Shelf
def ren_laysIdx:Ren:={
 f:=fun x=>match x with
  |219=>222
  |217=>246
  |225=>247
  |224=>248
  |267=>249
  |266=>276
  |314=>277
  |n=>n
 t:=fun x=>match x with
  |9=>9
  |3=>3
  |4=>4
  |5=>5
  |46=>207
  |146=>301
  |51=>66
  |n=>n
 g:=fun x=>match x with
  |1=>3
  |n=>n}
set_option maxRecDepth 100000 in
theorem laysIdx:Lays.n219 Tryz.prog ren_laysIdx where
 mixed:=by kernel_rfl
 f217:=Eq.trans Tryz.func246 (congrArg some (show Tryz.f246=Body.n217 ren_laysIdx by kernel_rfl))
 f219:=Eq.trans Tryz.func222 (congrArg some (show Tryz.f222=Body.n219 ren_laysIdx by kernel_rfl))
 f224:=Eq.trans Tryz.func248 (congrArg some (show Tryz.f248=Body.n224 ren_laysIdx by kernel_rfl))
 f225:=Eq.trans Tryz.func247 (congrArg some (show Tryz.f247=Body.n225 ren_laysIdx by kernel_rfl))
 f266:=Eq.trans Tryz.func276 (congrArg some (show Tryz.f276=Body.n266 ren_laysIdx by kernel_rfl))
 f267:=Eq.trans Tryz.func249 (congrArg some (show Tryz.f249=Body.n267 ren_laysIdx by kernel_rfl))
 f314:=Eq.trans Tryz.func277 (congrArg some (show Tryz.f277=Body.n314 ren_laysIdx by kernel_rfl))
 t3:=Tryz.underlying3
 a3:=Tryz.isAgg3
 z3:=Tryz.sizeOf3
 v3:=Tryz.zeroValue3
 t4:=Tryz.underlying4
 a4:=Tryz.isAgg4
 z4:=Tryz.sizeOf4
 v4:=Tryz.zeroValue4
 t5:=Tryz.underlying5
 a5:=Tryz.isAgg5
 z5:=Tryz.sizeOf5
 v5:=Tryz.zeroValue5
 t9:=Tryz.underlying9
 a9:=Tryz.isAgg9
 z9:=Tryz.sizeOf9
 v9:=Tryz.zeroValue9
 t46:=Tryz.underlying207
 a46:=Tryz.isAgg207
 z46:=Tryz.sizeOf207
 v46:=Tryz.zeroValue207
 t51:=Tryz.underlying66
 a51:=Tryz.isAgg66
 z51:=Tryz.sizeOf66
 v51:=Tryz.zeroValue66
 t146:=Tryz.underlying301
 a146:=Tryz.isAgg301
 z146:=Tryz.sizeOf301
 v146:=Tryz.zeroValue301
 g1:=by kernel_rfl
end Go.Ai
