/- YtmbnoejneocmmaaGreatDoorP1: part of the abstract interpreter library (values, rules, soundness against the model) or of what a function of the seat computes. Conditions: as each theorem says. -/
import Derived.Test.YtmbnoejneocmmaaGreatDoorCode
import Derived.Test.YtmbnoejneocmmaaGreatDoorAiShelf2
import Derived.Shelf.Strings.Fields
import Derived.Shelf.Strings.Search2
import Derived.Shelf.Lays
import Derived.Shelf.LaysM
import Derived.Shelf.Small.Wraps
import Derived.Shelf.Strings.BuilderX
import Derived.Shelf.Strings.SplitCore
import Derived.Shelf.Unicode.ValidAny
import Derived.Laws.Bits64b
import Derived.Test.YtmbnoejneocmmaaGreatDoorAiShelf
import Derived.Test.YtmbnoejneocmmaaGreatDoorAiShelf4
set_option linter.unusedSimpArgs false
set_option linter.unusedVariables false
namespace Go.Ai
open Go.Proofs Go.Shelf
def ren_laysFields : Ren := {
  f := fun x => match x with
    | 157 => 158
    | 229 => 210
    | 199 => 211
    | 261 => 255
    | 311 => 293
    | 312 => 294
    | n => n
  t := fun x => match x with
    | 9 => 9
    | 31 => 36
    | 3 => 3
    | 5 => 5
    | 4 => 4
    | 119 => 299
    | 0 => 0
    | 40 => 189
    | 152 => 339
    | 21 => 21
    | 154 => 341
    | 51 => 22
    | 141 => 343
    | 196 => 376
    | 193 => 373
    | 198 => 379
    | 49 => 377
    | 194 => 374
    | 201 => 382
    | 226 => 410
    | 46 => 290
    | 227 => 411
    | n => n
  g := fun x => match x with
    | 0 => 0
    | 6 => 3
    | n => n }
set_option maxRecDepth 100000 in
theorem laysFields : Lays.n157 Tryz.prog ren_laysFields where
  mixed := by kernel_rfl
  f157 := Eq.trans Tryz.func158 (congrArg some (show Tryz.f158 = Body.n157 ren_laysFields by kernel_rfl))
  f199 := Eq.trans Tryz.func211 (congrArg some (show Tryz.f211 = Body.n199 ren_laysFields by kernel_rfl))
  f229 := Eq.trans Tryz.func210 (congrArg some (show Tryz.f210 = Body.n229 ren_laysFields by kernel_rfl))
  f261 := Eq.trans Tryz.func255 (congrArg some (show Tryz.f255 = Body.n261 ren_laysFields by kernel_rfl))
  f311 := Eq.trans Tryz.func293 (congrArg some (show Tryz.f293 = Body.n311 ren_laysFields by kernel_rfl))
  f312 := Eq.trans Tryz.func294 (congrArg some (show Tryz.f294 = Body.n312 ren_laysFields by kernel_rfl))
  t0 := Tryz.underlying0
  a0 := Tryz.isAgg0
  z0 := Tryz.sizeOf0
  v0 := Tryz.zeroValue0
  t3 := Tryz.underlying3
  a3 := Tryz.isAgg3
  z3 := Tryz.sizeOf3
  v3 := Tryz.zeroValue3
  t4 := Tryz.underlying4
  a4 := Tryz.isAgg4
  z4 := Tryz.sizeOf4
  v4 := Tryz.zeroValue4
  t5 := Tryz.underlying5
  a5 := Tryz.isAgg5
  z5 := Tryz.sizeOf5
  v5 := Tryz.zeroValue5
  t9 := Tryz.underlying9
  a9 := Tryz.isAgg9
  z9 := Tryz.sizeOf9
  v9 := Tryz.zeroValue9
  t21 := Tryz.underlying21
  a21 := Tryz.isAgg21
  z21 := Tryz.sizeOf21
  v21 := Tryz.zeroValue21
  t31 := Tryz.underlying36
  a31 := Tryz.isAgg36
  z31 := Tryz.sizeOf36
  v31 := Tryz.zeroValue36
  t40 := Tryz.underlying189
  a40 := Tryz.isAgg189
  z40 := Tryz.sizeOf189
  v40 := Tryz.zeroValue189
  t46 := Tryz.underlying290
  a46 := Tryz.isAgg290
  z46 := Tryz.sizeOf290
  v46 := Tryz.zeroValue290
  t49 := Tryz.underlying377
  a49 := Tryz.isAgg377
  z49 := Tryz.sizeOf377
  v49 := Tryz.zeroValue377
  t51 := Tryz.underlying22
  a51 := Tryz.isAgg22
  z51 := Tryz.sizeOf22
  v51 := Tryz.zeroValue22
  t119 := Tryz.underlying299
  a119 := Tryz.isAgg299
  z119 := Tryz.sizeOf299
  t141 := Tryz.underlying343
  a141 := Tryz.isAgg343
  z141 := Tryz.sizeOf343
  v141 := Tryz.zeroValue343
  t152 := Tryz.underlying339
  a152 := Tryz.isAgg339
  z152 := Tryz.sizeOf339
  v152 := Tryz.zeroValue339
  t154 := Tryz.underlying341
  a154 := Tryz.isAgg341
  z154 := Tryz.sizeOf341
  v154 := Tryz.zeroValue341
  t193 := Tryz.underlying373
  a193 := Tryz.isAgg373
  z193 := Tryz.sizeOf373
  v193 := Tryz.zeroValue373
  t194 := Tryz.underlying374
  a194 := Tryz.isAgg374
  z194 := Tryz.sizeOf374
  v194 := Tryz.zeroValue374
  t196 := Tryz.underlying376
  a196 := Tryz.isAgg376
  z196 := Tryz.sizeOf376
  v196 := Tryz.zeroValue376
  t198 := Tryz.underlying379
  a198 := Tryz.isAgg379
  z198 := Tryz.sizeOf379
  v198 := Tryz.zeroValue379
  t201 := Tryz.underlying382
  a201 := Tryz.isAgg382
  z201 := Tryz.sizeOf382
  v201 := Tryz.zeroValue382
  t226 := Tryz.underlying410
  a226 := Tryz.isAgg410
  z226 := Tryz.sizeOf410
  v226 := Tryz.zeroValue410
  t227 := Tryz.underlying411
  a227 := Tryz.isAgg411
  z227 := Tryz.sizeOf411
  v227 := Tryz.zeroValue411
  g0 := by kernel_rfl
  g6 := by kernel_rfl
def ren_laysIdx : Ren := {
  f := fun x => match x with
    | 219 => 212
    | 217 => 256
    | 225 => 257
    | 224 => 258
    | 267 => 259
    | 266 => 295
    | 314 => 296
    | n => n
  t := fun x => match x with
    | 9 => 9
    | 3 => 3
    | 4 => 4
    | 5 => 5
    | 46 => 290
    | 146 => 384
    | 51 => 22
    | n => n
  g := fun x => match x with
    | 1 => 4
    | n => n }
set_option maxRecDepth 100000 in
theorem laysIdx : Lays.n219 Tryz.prog ren_laysIdx where
  mixed := by kernel_rfl
  f217 := Eq.trans Tryz.func256 (congrArg some (show Tryz.f256 = Body.n217 ren_laysIdx by kernel_rfl))
  f219 := Eq.trans Tryz.func212 (congrArg some (show Tryz.f212 = Body.n219 ren_laysIdx by kernel_rfl))
  f224 := Eq.trans Tryz.func258 (congrArg some (show Tryz.f258 = Body.n224 ren_laysIdx by kernel_rfl))
  f225 := Eq.trans Tryz.func257 (congrArg some (show Tryz.f257 = Body.n225 ren_laysIdx by kernel_rfl))
  f266 := Eq.trans Tryz.func295 (congrArg some (show Tryz.f295 = Body.n266 ren_laysIdx by kernel_rfl))
  f267 := Eq.trans Tryz.func259 (congrArg some (show Tryz.f259 = Body.n267 ren_laysIdx by kernel_rfl))
  f314 := Eq.trans Tryz.func296 (congrArg some (show Tryz.f296 = Body.n314 ren_laysIdx by kernel_rfl))
  t3 := Tryz.underlying3
  a3 := Tryz.isAgg3
  z3 := Tryz.sizeOf3
  v3 := Tryz.zeroValue3
  t4 := Tryz.underlying4
  a4 := Tryz.isAgg4
  z4 := Tryz.sizeOf4
  v4 := Tryz.zeroValue4
  t5 := Tryz.underlying5
  a5 := Tryz.isAgg5
  z5 := Tryz.sizeOf5
  v5 := Tryz.zeroValue5
  t9 := Tryz.underlying9
  a9 := Tryz.isAgg9
  z9 := Tryz.sizeOf9
  v9 := Tryz.zeroValue9
  t46 := Tryz.underlying290
  a46 := Tryz.isAgg290
  z46 := Tryz.sizeOf290
  v46 := Tryz.zeroValue290
  t51 := Tryz.underlying22
  a51 := Tryz.isAgg22
  z51 := Tryz.sizeOf22
  v51 := Tryz.zeroValue22
  t146 := Tryz.underlying384
  a146 := Tryz.isAgg384
  z146 := Tryz.sizeOf384
  v146 := Tryz.zeroValue384
  g1 := by kernel_rfl
end Go.Ai
set_option linter.unusedSimpArgs false
set_option linter.unusedVariables false
namespace Go.Ai
open Go.Proofs Go.Shelf
def ren_laysJoin : Ren := {
  f := fun x => match x with
    | 167 => 100
    | 156 => 136
    | 165 => 191
    | 166 => 98
    | 169 => 80
    | 240 => 157
    | 241 => 240
    | 276 => 209
    | 277 => 283
    | n => n
  t := fun x => match x with
    | 31 => 36
    | 9 => 9
    | 3 => 3
    | 4 => 4
    | 0 => 0
    | 20 => 20
    | 72 => 146
    | 76 => 176
    | 70 => 143
    | 37 => 144
    | 75 => 175
    | 127 => 216
    | 164 => 297
    | 5 => 5
    | 80 => 155
    | n => n
  g := fun x => x }
set_option maxRecDepth 100000 in
theorem laysJoin : Lays.n156 Tryz.prog ren_laysJoin where
  mixed := by kernel_rfl
  f156 := Eq.trans Tryz.func136 (congrArg some (show Tryz.f136 = Body.n156 ren_laysJoin by kernel_rfl))
  f165 := Eq.trans Tryz.func191 (congrArg some (show Tryz.f191 = Body.n165 ren_laysJoin by kernel_rfl))
  f166 := Eq.trans Tryz.func98 (congrArg some (show Tryz.f98 = Body.n166 ren_laysJoin by kernel_rfl))
  f169 := Eq.trans Tryz.func80 (congrArg some (show Tryz.f80 = Body.n169 ren_laysJoin by kernel_rfl))
  f240 := Eq.trans Tryz.func157 (congrArg some (show Tryz.f157 = Body.n240 ren_laysJoin by kernel_rfl))
  f241 := Eq.trans Tryz.func240 (congrArg some (show Tryz.f240 = Body.n241 ren_laysJoin by kernel_rfl))
  f276 := Eq.trans Tryz.func209 (congrArg some (show Tryz.f209 = Body.n276 ren_laysJoin by kernel_rfl))
  f277 := Eq.trans Tryz.func283 (congrArg some (show Tryz.f283 = Body.n277 ren_laysJoin by kernel_rfl))
  t0 := Tryz.underlying0
  a0 := Tryz.isAgg0
  z0 := Tryz.sizeOf0
  v0 := Tryz.zeroValue0
  t3 := Tryz.underlying3
  a3 := Tryz.isAgg3
  z3 := Tryz.sizeOf3
  v3 := Tryz.zeroValue3
  t4 := Tryz.underlying4
  a4 := Tryz.isAgg4
  z4 := Tryz.sizeOf4
  v4 := Tryz.zeroValue4
  t9 := Tryz.underlying9
  a9 := Tryz.isAgg9
  z9 := Tryz.sizeOf9
  v9 := Tryz.zeroValue9
  t20 := Tryz.underlying20
  a20 := Tryz.isAgg20
  z20 := Tryz.sizeOf20
  v20 := Tryz.zeroValue20
  t31 := Tryz.underlying36
  a31 := Tryz.isAgg36
  z31 := Tryz.sizeOf36
  v31 := Tryz.zeroValue36
  t37 := Tryz.underlying144
  a37 := Tryz.isAgg144
  z37 := Tryz.sizeOf144
  v37 := Tryz.zeroValue144
  t70 := Tryz.underlying143
  a70 := Tryz.isAgg143
  z70 := Tryz.sizeOf143
  v70 := Tryz.zeroValue143
  t72 := Tryz.underlying146
  a72 := Tryz.isAgg146
  z72 := Tryz.sizeOf146
  v72 := Tryz.zeroValue146
  t75 := Tryz.underlying175
  a75 := Tryz.isAgg175
  z75 := Tryz.sizeOf175
  v75 := Tryz.zeroValue175
  t76 := Tryz.underlying176
  a76 := Tryz.isAgg176
  z76 := Tryz.sizeOf176
  v76 := Tryz.zeroValue176
  t127 := Tryz.underlying216
  a127 := Tryz.isAgg216
  z127 := Tryz.sizeOf216
  v127 := Tryz.zeroValue216
  t164 := Tryz.underlying297
  a164 := Tryz.isAgg297
  z164 := Tryz.sizeOf297
  v164 := Tryz.zeroValue297
def ren_laysValid : Ren := {
  f := fun x => match x with
    | 196 => 169
    | 259 => 224
    | n => n
  t := fun x => match x with
    | 9 => 9
    | 4 => 4
    | 3 => 3
    | 5 => 5
    | 12 => 12
    | 119 => 299
    | 0 => 0
    | 46 => 290
    | 139 => 314
    | 138 => 313
    | 53 => 27
    | n => n
  g := fun x => match x with
    | 3 => 1
    | 4 => 2
    | n => n }
set_option maxRecDepth 100000 in
theorem laysValid : Lays.n196 Tryz.prog ren_laysValid where
  mixed := by kernel_rfl
  f196 := Eq.trans Tryz.func169 (congrArg some (show Tryz.f169 = Body.n196 ren_laysValid by kernel_rfl))
  f259 := Eq.trans Tryz.func224 (congrArg some (show Tryz.f224 = Body.n259 ren_laysValid by kernel_rfl))
  t0 := Tryz.underlying0
  a0 := Tryz.isAgg0
  z0 := Tryz.sizeOf0
  v0 := Tryz.zeroValue0
  t3 := Tryz.underlying3
  a3 := Tryz.isAgg3
  z3 := Tryz.sizeOf3
  v3 := Tryz.zeroValue3
  t4 := Tryz.underlying4
  a4 := Tryz.isAgg4
  z4 := Tryz.sizeOf4
  v4 := Tryz.zeroValue4
  t5 := Tryz.underlying5
  a5 := Tryz.isAgg5
  z5 := Tryz.sizeOf5
  v5 := Tryz.zeroValue5
  t9 := Tryz.underlying9
  a9 := Tryz.isAgg9
  z9 := Tryz.sizeOf9
  v9 := Tryz.zeroValue9
  t12 := Tryz.underlying12
  a12 := Tryz.isAgg12
  z12 := Tryz.sizeOf12
  v12 := Tryz.zeroValue12
  t46 := Tryz.underlying290
  a46 := Tryz.isAgg290
  z46 := Tryz.sizeOf290
  v46 := Tryz.zeroValue290
  t53 := Tryz.underlying27
  a53 := Tryz.isAgg27
  z53 := Tryz.sizeOf27
  v53 := Tryz.zeroValue27
  t119 := Tryz.underlying299
  a119 := Tryz.isAgg299
  z119 := Tryz.sizeOf299
  t138 := Tryz.underlying313
  a138 := Tryz.isAgg313
  z138 := Tryz.sizeOf313
  v138 := Tryz.zeroValue313
  t139 := Tryz.underlying314
  a139 := Tryz.isAgg314
  z139 := Tryz.sizeOf314
  v139 := Tryz.zeroValue314
  g3 := by kernel_rfl
  g4 := by kernel_rfl
def ren_laysSplit : Ren := {
  f := fun x => match x with
    | 146 => 160
    | 221 => 213
    | 268 => 260
    | 138 => 261
    | 143 => 196
    | 195 => 297
    | 197 => 195
    | 218 => 298
    | 219 => 212
    | 260 => 246
    | 217 => 256
    | 225 => 257
    | 224 => 258
    | 267 => 259
    | 266 => 295
    | 314 => 296
    | n => n
  t := fun x => match x with
    | 9 => 9
    | 31 => 36
    | 3 => 3
    | 4 => 4
    | 0 => 0
    | 105 => 280
    | 21 => 21
    | 5 => 5
    | 46 => 290
    | 119 => 299
    | 139 => 314
    | 138 => 313
    | 146 => 384
    | 51 => 22
    | n => n
  g := fun x => match x with
    | 1 => 4
    | 3 => 1
    | 4 => 2
    | n => n }
set_option maxRecDepth 100000 in
theorem laysSplit : LaysM.n146 Tryz.prog ren_laysSplit where
  mixed := by kernel_rfl
  f138 := Eq.trans Tryz.func261 (congrArg some (show Tryz.f261 = Body.n138 ren_laysSplit by kernel_rfl))
  f143 := Eq.trans Tryz.func196 (congrArg some (show Tryz.f196 = Body.n143 ren_laysSplit by kernel_rfl))
  f146 := Eq.trans Tryz.func160 (congrArg some (show Tryz.f160 = Body.n146 ren_laysSplit by kernel_rfl))
  f195 := Eq.trans Tryz.func297 (congrArg some (show Tryz.f297 = Body.n195 ren_laysSplit by kernel_rfl))
  f197 := Eq.trans Tryz.func195 (congrArg some (show Tryz.f195 = Body.n197 ren_laysSplit by kernel_rfl))
  f217 := Eq.trans Tryz.func256 (congrArg some (show Tryz.f256 = Body.n217 ren_laysSplit by kernel_rfl))
  f218 := Eq.trans Tryz.func298 (congrArg some (show Tryz.f298 = Body.n218 ren_laysSplit by kernel_rfl))
  f219 := Eq.trans Tryz.func212 (congrArg some (show Tryz.f212 = Body.n219 ren_laysSplit by kernel_rfl))
  f221 := Eq.trans Tryz.func213 (congrArg some (show Tryz.f213 = Body.n221 ren_laysSplit by kernel_rfl))
  f224 := Eq.trans Tryz.func258 (congrArg some (show Tryz.f258 = Body.n224 ren_laysSplit by kernel_rfl))
  f225 := Eq.trans Tryz.func257 (congrArg some (show Tryz.f257 = Body.n225 ren_laysSplit by kernel_rfl))
  f260 := Eq.trans Tryz.func246 (congrArg some (show Tryz.f246 = Body.n260 ren_laysSplit by kernel_rfl))
  f266 := Eq.trans Tryz.func295 (congrArg some (show Tryz.f295 = Body.n266 ren_laysSplit by kernel_rfl))
  f267 := Eq.trans Tryz.func259 (congrArg some (show Tryz.f259 = Body.n267 ren_laysSplit by kernel_rfl))
  f268 := Eq.trans Tryz.func260 (congrArg some (show Tryz.f260 = Body.n268 ren_laysSplit by kernel_rfl))
  f314 := Eq.trans Tryz.func296 (congrArg some (show Tryz.f296 = Body.n314 ren_laysSplit by kernel_rfl))
  t0 := Tryz.underlying0
  a0 := Tryz.isAgg0
  z0 := Tryz.sizeOf0
  v0 := Tryz.zeroValue0
  t3 := Tryz.underlying3
  a3 := Tryz.isAgg3
  z3 := Tryz.sizeOf3
  v3 := Tryz.zeroValue3
  t4 := Tryz.underlying4
  a4 := Tryz.isAgg4
  z4 := Tryz.sizeOf4
  v4 := Tryz.zeroValue4
  t5 := Tryz.underlying5
  a5 := Tryz.isAgg5
  z5 := Tryz.sizeOf5
  v5 := Tryz.zeroValue5
  t9 := Tryz.underlying9
  a9 := Tryz.isAgg9
  z9 := Tryz.sizeOf9
  v9 := Tryz.zeroValue9
  t21 := Tryz.underlying21
  a21 := Tryz.isAgg21
  z21 := Tryz.sizeOf21
  v21 := Tryz.zeroValue21
  t31 := Tryz.underlying36
  a31 := Tryz.isAgg36
  z31 := Tryz.sizeOf36
  v31 := Tryz.zeroValue36
  t46 := Tryz.underlying290
  a46 := Tryz.isAgg290
  z46 := Tryz.sizeOf290
  v46 := Tryz.zeroValue290
  t51 := Tryz.underlying22
  a51 := Tryz.isAgg22
  z51 := Tryz.sizeOf22
  v51 := Tryz.zeroValue22
  t105 := Tryz.underlying280
  a105 := Tryz.isAgg280
  z105 := Tryz.sizeOf280
  v105 := Tryz.zeroValue280
  t119 := Tryz.underlying299
  a119 := Tryz.isAgg299
  z119 := Tryz.sizeOf299
  t138 := Tryz.underlying313
  a138 := Tryz.isAgg313
  z138 := Tryz.sizeOf313
  v138 := Tryz.zeroValue313
  t139 := Tryz.underlying314
  a139 := Tryz.isAgg314
  z139 := Tryz.sizeOf314
  v139 := Tryz.zeroValue314
  t146 := Tryz.underlying384
  a146 := Tryz.isAgg384
  z146 := Tryz.sizeOf384
  v146 := Tryz.zeroValue384
  g1 := by kernel_rfl
  g3 := by kernel_rfl
  g4 := by kernel_rfl
  i0 := by kernel_rfl
  i3 := by kernel_rfl
  i4 := by kernel_rfl
  i5 := by kernel_rfl
  i9 := by kernel_rfl
  i21 := by kernel_rfl
  i31 := by kernel_rfl
  i46 := by kernel_rfl
  i51 := by kernel_rfl
  i105 := by kernel_rfl
  i138 := by kernel_rfl
  i139 := by kernel_rfl
  i146 := by kernel_rfl
  m1 := by kernel_rfl
  s1_3 := fun w h => cell_of_shapedOpen_int h (of_decide_eq_true (Eq.refl true)) (Eq.refl (some (#[Value.int IntKind.i64 0], 3))) rfl (Eq.refl true) (Eq.refl (some [3])) Tryz.underlying3
  m3 := by kernel_rfl
  m4 := by kernel_rfl
end Go.Ai
set_option linter.unusedSimpArgs false
set_option linter.unusedVariables false
namespace Go.Ai
open Go.Proofs
abbrev u (n : Nat) : AV := .int .u64 n
abbrev i6 (n : Int) : AV := .int .i64 n

end Go.Ai
set_option linter.unusedSimpArgs false
set_option linter.unusedVariables false
namespace Go.Ai
open Go.Proofs Go.Shelf
theorem extraJ : Builder.Extra Tryz.prog ren_laysJoin where
  sizeBuilder := by kernel_rfl
  liesBuilder := by kernel_rfl
  t5 := Tryz.underlying5
  a5 := Tryz.isAgg5
  z5 := Tryz.sizeOf5
  v5 := Tryz.zeroValue5
  infoByte := by kernel_rfl
  cellsByte := by kernel_rfl
  sizeByte := by kernel_rfl
  neB5 := by decide
end Go.Ai
set_option linter.unusedSimpArgs false
set_option linter.unusedVariables false
namespace Go.Ai
open Go.Proofs Go.Shelf
theorem ws_spec {d : Nat} {b : Id} (hit : b.isIt = false) (hnwb : b.isNw d = false) {c0 : AV} (hc0 : c0 = .nilT b 146 2 ∨ c0 = .ptr b 0) (l s : List UInt8) (hl : l.length + s.length ≤ 140737488355328) :
    SpH Tryz.prog gl 98 d ⟨[.ptr b 0, .str s], [(b, [c0, .sl (byteRows l)])], [(.b b 1, bk 5)]⟩ ⟨.tup [.int .i64 s.length, .undef], [(b, [.ptr b 0, .sl (byteRows (l ++ s))])], [(.b b 1, bk 5)]⟩ :=
  ws_shelf (L := { laysJoin with }) extraJ (by kernel_rfl) (by kernel_rfl) hit hnwb (T := 146) (n := 2) (hc0.imp (fun h => ⟨h, by unfold bldAt; kernel_rfl⟩) id) (rest := []) l s hl
theorem st_spec {d : Nat} {b : Id} (hit : b.isIt = false) (hnwb : b.isNw d = false) {c0 : AV} (l : List UInt8) (h0 : l ≠ []) :
    SpH Tryz.prog gl 80 d ⟨[.ptr b 0], [(b, [c0, .sl (byteRows l)])], [(.b b 1, bk 5)]⟩ ⟨.str l, [(b, [c0, .sl (byteRows l)])], []⟩ :=
  st_shelf (L := { laysJoin with }) extraJ (by kernel_rfl) (by kernel_rfl) hit hnwb (rest := []) l h0
theorem split1_spec (s : List UInt8) (c : UInt8) (hs : s.length < 4294967281) : Sp Tryz.prog gl 160 [.str s, .str [c]] (.sl (strRows (Lib.split s [c]))) :=
  split1_shelf laysSplit (by kernel_rfl) (by kernel_rfl) s c hs
end Go.Ai
set_option linter.unusedSimpArgs false
set_option linter.unusedVariables false
namespace Go.Ai
open Go.Proofs Go.Shelf
set_option maxRecDepth 100000 in
theorem laysWB : Lays.n167 Tryz.prog ren_laysJoin := { laysJoin with t5 := extraJ.t5, a5 := extraJ.a5, z5 := extraJ.z5, v5 := extraJ.v5, f167 := Eq.trans Tryz.func100 (congrArg some (show Tryz.f100 = Body.n167 ren_laysJoin by kernel_rfl)) }
theorem wb_spec {d : Nat} {b : Id} (hit : b.isIt = false) (hnwb : b.isNw d = false) {T : Nat} (hT : bldAt Tryz.prog 146 T 2) {c0 : AV} (hc0 : c0 = .nilT b T 2 ∨ c0 = .ptr b 0) (l : List UInt8) (c : UInt8) (hl : l.length + 1 ≤ 140737488355328) :
    SpH Tryz.prog gl 100 d ⟨[.ptr b 0, .int .u8 c.toNat], [(b, [c0, .sl (byteRows l)])], [(.b b 1, bk 5)]⟩ ⟨.undef, [(b, [.ptr b 0, .sl (byteRows (l ++ [c]))])], [(.b b 1, bk 5)]⟩ :=
  wb_shelf laysWB extraJ (by kernel_rfl) (by kernel_rfl) hit hnwb (T := T) (n := 2) (hc0.imp (fun h => ⟨h, hT⟩) id) (rest := []) l c hl
end Go.Ai
