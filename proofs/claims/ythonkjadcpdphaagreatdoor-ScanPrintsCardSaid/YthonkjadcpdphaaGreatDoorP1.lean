/- P1: a part of the proof: the rules, or what functions compute. Conditions: as each theorem says. -/
import Derived.Test.YthonkjadcpdphaaGreatDoorCode
import Derived.Test.YthonkjadcpdphaaGreatDoorAiShelf2
import Derived.Shelf.Lays
import Derived.Shelf.LaysM
import Derived.Shelf.Small.Wraps
import Derived.Shelf.Strings.BuilderX
import Derived.Shelf.Strings.SplitCore
import Derived.Shelf.Unicode.ValidAny
import Derived.Laws.Bits64b
import Derived.Test.YthonkjadcpdphaaGreatDoorAiUse
import Derived.Test.YthonkjadcpdphaaGreatDoorAiExt
set_option linter.unusedSimpArgs false
set_option linter.unusedVariables false
set_option maxRecDepth 20000
namespace Go.Ai
open Go.Proofs Go.Shelf
def ren_laysJoin:Ren:={
 f:=fun x=>match x with
  |156=>155
  |165=>207
  |166=>129
  |169=>130
  |240=>185
  |241=>241
  |276=>229
  |277=>272
  |n=>n
 t:=fun x=>match x with
  |31=>194
  |9=>9
  |3=>3
  |4=>4
  |0=>0
  |20=>20
  |72=>173
  |76=>176
  |70=>171
  |37=>47
  |75=>175
  |127=>232
  |164=>267
  |5=>5
  |80=>179
  |n=>n
 g:=fun x=>x}
set_option maxRecDepth 100000 in
theorem laysJoin:Lays.n156 Tryz.prog ren_laysJoin where
 mixed:=by kernel_rfl
 f156:=Eq.trans Tryz.func155 (congrArg some (show Tryz.f155=Body.n156 ren_laysJoin by kernel_rfl))
 f165:=Eq.trans Tryz.func207 (congrArg some (show Tryz.f207=Body.n165 ren_laysJoin by kernel_rfl))
 f166:=Eq.trans Tryz.func129 (congrArg some (show Tryz.f129=Body.n166 ren_laysJoin by kernel_rfl))
 f169:=Eq.trans Tryz.func130 (congrArg some (show Tryz.f130=Body.n169 ren_laysJoin by kernel_rfl))
 f240:=Eq.trans Tryz.func185 (congrArg some (show Tryz.f185=Body.n240 ren_laysJoin by kernel_rfl))
 f241:=Eq.trans Tryz.func241 (congrArg some (show Tryz.f241=Body.n241 ren_laysJoin by kernel_rfl))
 f276:=Eq.trans Tryz.func229 (congrArg some (show Tryz.f229=Body.n276 ren_laysJoin by kernel_rfl))
 f277:=Eq.trans Tryz.func272 (congrArg some (show Tryz.f272=Body.n277 ren_laysJoin by kernel_rfl))
 t0:=Tryz.underlying0
 a0:=Tryz.isAgg0
 z0:=Tryz.sizeOf0
 v0:=Tryz.zeroValue0
 t3:=Tryz.underlying3
 a3:=Tryz.isAgg3
 z3:=Tryz.sizeOf3
 v3:=Tryz.zeroValue3
 t4:=Tryz.underlying4
 a4:=Tryz.isAgg4
 z4:=Tryz.sizeOf4
 v4:=Tryz.zeroValue4
 t9:=Tryz.underlying9
 a9:=Tryz.isAgg9
 z9:=Tryz.sizeOf9
 v9:=Tryz.zeroValue9
 t20:=Tryz.underlying20
 a20:=Tryz.isAgg20
 z20:=Tryz.sizeOf20
 v20:=Tryz.zeroValue20
 t31:=Tryz.underlying194
 a31:=Tryz.isAgg194
 z31:=Tryz.sizeOf194
 v31:=Tryz.zeroValue194
 t37:=Tryz.underlying47
 a37:=Tryz.isAgg47
 z37:=Tryz.sizeOf47
 v37:=Tryz.zeroValue47
 t70:=Tryz.underlying171
 a70:=Tryz.isAgg171
 z70:=Tryz.sizeOf171
 v70:=Tryz.zeroValue171
 t72:=Tryz.underlying173
 a72:=Tryz.isAgg173
 z72:=Tryz.sizeOf173
 v72:=Tryz.zeroValue173
 t75:=Tryz.underlying175
 a75:=Tryz.isAgg175
 z75:=Tryz.sizeOf175
 v75:=Tryz.zeroValue175
 t76:=Tryz.underlying176
 a76:=Tryz.isAgg176
 z76:=Tryz.sizeOf176
 v76:=Tryz.zeroValue176
 t127:=Tryz.underlying232
 a127:=Tryz.isAgg232
 z127:=Tryz.sizeOf232
 v127:=Tryz.zeroValue232
 t164:=Tryz.underlying267
 a164:=Tryz.isAgg267
 z164:=Tryz.sizeOf267
 v164:=Tryz.zeroValue267
def ren_laysSmall:Ren:={
 f:=fun x=>match x with
  |283=>187
  |n=>n
 t:=fun x=>match x with
  |3=>3
  |9=>9
  |4=>4
  |n=>n
 g:=fun x=>x}
set_option maxRecDepth 100000 in
theorem laysSmall:Lays.n283 Tryz.prog ren_laysSmall where
 mixed:=by kernel_rfl
 f283:=Eq.trans Tryz.func187 (congrArg some (show Tryz.f187=Body.n283 ren_laysSmall by kernel_rfl))
 t3:=Tryz.underlying3
 a3:=Tryz.isAgg3
 z3:=Tryz.sizeOf3
 v3:=Tryz.zeroValue3
 t4:=Tryz.underlying4
 a4:=Tryz.isAgg4
 z4:=Tryz.sizeOf4
 v4:=Tryz.zeroValue4
 t9:=Tryz.underlying9
 a9:=Tryz.isAgg9
 z9:=Tryz.sizeOf9
 v9:=Tryz.zeroValue9
def ren_laysDig:Ren:={
 f:=fun x=>match x with
  |284=>188
  |129=>232
  |317=>231
  |318=>233
  |n=>n
 t:=fun x=>match x with
  |53=>22
  |3=>3
  |212=>271
  |0=>0
  |4=>4
  |46=>207
  |5=>5
  |9=>9
  |n=>n
 g:=fun x=>match x with
  |17=>2
  |n=>n}
set_option maxRecDepth 100000 in
theorem laysDig:LaysM.n284 Tryz.prog ren_laysDig where
 mixed:=by kernel_rfl
 f129:=Eq.trans Tryz.func232 (congrArg some (show Tryz.f232=Body.n129 ren_laysDig by kernel_rfl))
 f284:=Eq.trans Tryz.func188 (congrArg some (show Tryz.f188=Body.n284 ren_laysDig by kernel_rfl))
 f317:=Eq.trans Tryz.func231 (congrArg some (show Tryz.f231=Body.n317 ren_laysDig by kernel_rfl))
 f318:=Eq.trans Tryz.func233 (congrArg some (show Tryz.f233=Body.n318 ren_laysDig by kernel_rfl))
 t0:=Tryz.underlying0
 a0:=Tryz.isAgg0
 z0:=Tryz.sizeOf0
 v0:=Tryz.zeroValue0
 t3:=Tryz.underlying3
 a3:=Tryz.isAgg3
 z3:=Tryz.sizeOf3
 v3:=Tryz.zeroValue3
 t4:=Tryz.underlying4
 a4:=Tryz.isAgg4
 z4:=Tryz.sizeOf4
 v4:=Tryz.zeroValue4
 t5:=Tryz.underlying5
 a5:=Tryz.isAgg5
 z5:=Tryz.sizeOf5
 v5:=Tryz.zeroValue5
 t9:=Tryz.underlying9
 a9:=Tryz.isAgg9
 z9:=Tryz.sizeOf9
 v9:=Tryz.zeroValue9
 t46:=Tryz.underlying207
 a46:=Tryz.isAgg207
 z46:=Tryz.sizeOf207
 v46:=Tryz.zeroValue207
 t53:=Tryz.underlying22
 a53:=Tryz.isAgg22
 z53:=Tryz.sizeOf22
 v53:=Tryz.zeroValue22
 t212:=Tryz.underlying271
 a212:=Tryz.isAgg271
 z212:=Tryz.sizeOf271
 v212:=Tryz.zeroValue271
 g17:=by kernel_rfl
 i0:=by kernel_rfl
 i3:=by kernel_rfl
 i4:=by kernel_rfl
 i5:=by kernel_rfl
 i9:=by kernel_rfl
 i46:=by kernel_rfl
 i53:=by kernel_rfl
 i212:=by kernel_rfl
 m17:=by kernel_rfl
def ren_laysFmt:Ren:={
 f:=fun x=>match x with
  |285=>189
  |n=>n
 t:=fun x=>match x with
  |37=>47
  |53=>22
  |3=>3
  |4=>4
  |51=>66
  |9=>9
  |5=>5
  |0=>0
  |n=>n
 g:=fun x=>x}
set_option maxRecDepth 100000 in
theorem laysFmt:Lays.n285 Tryz.prog ren_laysFmt where
 mixed:=by kernel_rfl
 f285:=Eq.trans Tryz.func189 (congrArg some (show Tryz.f189=Body.n285 ren_laysFmt by kernel_rfl))
 t0:=Tryz.underlying0
 a0:=Tryz.isAgg0
 z0:=Tryz.sizeOf0
 v0:=Tryz.zeroValue0
 t3:=Tryz.underlying3
 a3:=Tryz.isAgg3
 z3:=Tryz.sizeOf3
 v3:=Tryz.zeroValue3
 t4:=Tryz.underlying4
 a4:=Tryz.isAgg4
 z4:=Tryz.sizeOf4
 v4:=Tryz.zeroValue4
 t5:=Tryz.underlying5
 a5:=Tryz.isAgg5
 z5:=Tryz.sizeOf5
 v5:=Tryz.zeroValue5
 t9:=Tryz.underlying9
 a9:=Tryz.isAgg9
 z9:=Tryz.sizeOf9
 v9:=Tryz.zeroValue9
 t37:=Tryz.underlying47
 a37:=Tryz.isAgg47
 z37:=Tryz.sizeOf47
 v37:=Tryz.zeroValue47
 t51:=Tryz.underlying66
 a51:=Tryz.isAgg66
 z51:=Tryz.sizeOf66
 v51:=Tryz.zeroValue66
 t53:=Tryz.underlying22
 a53:=Tryz.isAgg22
 z53:=Tryz.sizeOf22
 v53:=Tryz.zeroValue22
def ren_laysValid:Ren:={
 f:=fun x=>match x with
  |196=>139
  |259=>193
  |n=>n
 t:=fun x=>match x with
  |9=>9
  |4=>4
  |3=>3
  |5=>5
  |12=>12
  |119=>239
  |0=>0
  |46=>207
  |139=>242
  |138=>241
  |53=>22
  |n=>n
 g:=fun x=>match x with
  |3=>0
  |4=>1
  |n=>n}
set_option maxRecDepth 100000 in
theorem laysValid:Lays.n196 Tryz.prog ren_laysValid where
 mixed:=by kernel_rfl
 f196:=Eq.trans Tryz.func139 (congrArg some (show Tryz.f139=Body.n196 ren_laysValid by kernel_rfl))
 f259:=Eq.trans Tryz.func193 (congrArg some (show Tryz.f193=Body.n259 ren_laysValid by kernel_rfl))
 t0:=Tryz.underlying0
 a0:=Tryz.isAgg0
 z0:=Tryz.sizeOf0
 v0:=Tryz.zeroValue0
 t3:=Tryz.underlying3
 a3:=Tryz.isAgg3
 z3:=Tryz.sizeOf3
 v3:=Tryz.zeroValue3
 t4:=Tryz.underlying4
 a4:=Tryz.isAgg4
 z4:=Tryz.sizeOf4
 v4:=Tryz.zeroValue4
 t5:=Tryz.underlying5
 a5:=Tryz.isAgg5
 z5:=Tryz.sizeOf5
 v5:=Tryz.zeroValue5
 t9:=Tryz.underlying9
 a9:=Tryz.isAgg9
 z9:=Tryz.sizeOf9
 v9:=Tryz.zeroValue9
 t12:=Tryz.underlying12
 a12:=Tryz.isAgg12
 z12:=Tryz.sizeOf12
 v12:=Tryz.zeroValue12
 t46:=Tryz.underlying207
 a46:=Tryz.isAgg207
 z46:=Tryz.sizeOf207
 v46:=Tryz.zeroValue207
 t53:=Tryz.underlying22
 a53:=Tryz.isAgg22
 z53:=Tryz.sizeOf22
 v53:=Tryz.zeroValue22
 t119:=Tryz.underlying239
 a119:=Tryz.isAgg239
 z119:=Tryz.sizeOf239
 t138:=Tryz.underlying241
 a138:=Tryz.isAgg241
 z138:=Tryz.sizeOf241
 v138:=Tryz.zeroValue241
 t139:=Tryz.underlying242
 a139:=Tryz.isAgg242
 z139:=Tryz.sizeOf242
 v139:=Tryz.zeroValue242
 g3:=by kernel_rfl
 g4:=by kernel_rfl
def ren_laysCutP:Ren:={
 f:=fun x=>match x with
  |103=>242
  |210=>273
  |206=>286
  |n=>n
 t:=fun x=>match x with
  |9=>9
  |4=>4
  |24=>215
  |3=>3
  |n=>n
 g:=fun x=>x}
set_option maxRecDepth 100000 in
theorem laysCutP:Lays.n103 Tryz.prog ren_laysCutP where
 mixed:=by kernel_rfl
 f103:=Eq.trans Tryz.func242 (congrArg some (show Tryz.f242=Body.n103 ren_laysCutP by kernel_rfl))
 f206:=Eq.trans Tryz.func286 (congrArg some (show Tryz.f286=Body.n206 ren_laysCutP by kernel_rfl))
 f210:=Eq.trans Tryz.func273 (congrArg some (show Tryz.f273=Body.n210 ren_laysCutP by kernel_rfl))
 t3:=Tryz.underlying3
 a3:=Tryz.isAgg3
 z3:=Tryz.sizeOf3
 v3:=Tryz.zeroValue3
 t4:=Tryz.underlying4
 a4:=Tryz.isAgg4
 z4:=Tryz.sizeOf4
 v4:=Tryz.zeroValue4
 t9:=Tryz.underlying9
 a9:=Tryz.isAgg9
 z9:=Tryz.sizeOf9
 v9:=Tryz.zeroValue9
 t24:=Tryz.underlying215
 a24:=Tryz.isAgg215
 z24:=Tryz.sizeOf215
 v24:=Tryz.zeroValue215
open Go.Proofs
abbrev u (n:Nat):AV:= .int .u64 n
def wide (n:Nat):AV:= .agg [u (n / 18446744073709551616),u (n%18446744073709551616)]
abbrev i6 (n:Int):AV:= .int .i64 n

theorem sh32 (x:Int):x.fdiv (2^min 32 IntKind.u64.bits)=x / 4294967296:=by
 have:(2:Int)^min 32 IntKind.u64.bits=4294967296:=by decide
 rw [this];exact Int.fdiv_eq_ediv_of_nonneg _ (by decide)
theorem mask32 (n:Int) (h1:0≤n) (h2:n<18446744073709551616):bits BinOp.and IntKind.u64 n 4294967295=n%4294967296:=by
 obtain ⟨m,rfl⟩:=Int.eq_ofNat_of_zero_le h1
 have:=bits_and_u64_nat m 4294967295 (by omega) (by omega)
 rw [show ((4294967295:Nat):Int)=4294967295 from rfl] at this
 rw [this,show (4294967295:Nat)=2^32 - 1 from rfl,Nat.and_two_pow_sub_one_eq_mod]
 omega
theorem mul_law (x1 x0 y1 y0:Int) (h1:0≤x1) (h2:x1<4294967296) (h3:0≤x0) (h4:x0<4294967296) (h5:0≤y1) (h6:y1<4294967296) (h7:0≤y0) (h8:y0<4294967296):
  ((x1*y1%18446744073709551616+(x1*y0%18446744073709551616+x0*y0%18446744073709551616 / 4294967296)%18446744073709551616 / 4294967296)%18446744073709551616+
   ((x1*y0%18446744073709551616+x0*y0%18446744073709551616 / 4294967296)%18446744073709551616%4294967296+x0*y1%18446744073709551616)%18446744073709551616 / 4294967296)%18446744073709551616
   =(x1*4294967296+x0)*(y1*4294967296+y0) / 18446744073709551616:=by
 have e:(x1*4294967296+x0)*(y1*4294967296+y0)=x1*y1*18446744073709551616+(x1*y0+x0*y1)*4294967296+x0*y0:=by
  simp only [Int.add_mul,Int.mul_add]
  have:x1*4294967296*(y1*4294967296)=x1*y1*18446744073709551616:=by
   rw [show (18446744073709551616:Int)=4294967296*4294967296 from rfl];ac_rfl
  rw [this,show x1*4294967296*y0=x1*y0*4294967296 by ac_rfl,show x0*(y1*4294967296)=x0*y1*4294967296 by ac_rfl]
  omega
 rw [e]
 have b: ∀a c:Int,0≤a→a<4294967296→0≤c→c<4294967296→0≤a*c∧a*c≤18446744065119617025:=fun a c ha hb hc hd=>by
  refine ⟨Int.mul_nonneg ha hc,?_⟩
  have:=Int.mul_le_mul (show a≤4294967295 by omega) (show c≤4294967295 by omega) hc (by decide)
  simpa using this
 have b1:=b x1 y1 h1 h2 h5 h6
 have b2:=b x1 y0 h1 h2 h7 h8
 have b3:=b x0 y1 h3 h4 h5 h6
 have b4:=b x0 y0 h3 h4 h7 h8
 generalize x1*y1=p at *
 generalize x1*y0=q at *
 generalize x0*y1=r at *
 generalize x0*y0=s at *
 omega
theorem mul64 (x y:Nat) (hx:x<18446744073709551616) (hy:y<18446744073709551616):Sp Tryz.prog gl 226 [u x,u y] (.tup [u (x*y / 18446744073709551616),u (x*y%18446744073709551616)]):=by
 refine s226 rfl rfl ?_
 simp [c226]
 have wm: ∀n:Int,0≤n%18446744073709551616∧n%18446744073709551616<18446744073709551616:=fun n=>by omega
 rw [mask32 x (by omega) (by omega),mask32 y (by omega) (by omega)]
 simp only [sh32,wrap_u64m]
 rw [mask32 _ (wm _).1 (wm _).2]
 have:=mul_law (x / 4294967296) (x%4294967296) (y / 4294967296) (y%4294967296) (by omega) (by omega) (by omega) (by omega) (by omega) (by omega) (by omega) (by omega)
 refine ⟨?_,trivial⟩
 rw [this]
 congr 2<;>omega
theorem times_spec (x y:Nat) (hx:x<18446744073709551616) (hy:y<18446744073709551616):Sp Tryz.prog gl 181 [u x,u y] (wide (x*y)):=by
 refine s181 rfl rfl ?_
 simp [c181]
 refine onC_mk _ (mul64 x y hx hy) ?_
 simp [wide]
end Go.Ai
namespace Go.Ai
open Go.Proofs Go.Shelf Go.RowKit Go.Sort Go.Lib
theorem holds_zero0 (w:World) (T:TypeId) (nd:Nat) (hs:nd≤24):Holds (fun (b:UInt8)=>Value.int .u8 (b.toNat:Int)) (w.alloc (.cells Lib.zeros24 T)) w.heap.size 0 (Array.replicate nd (0:UInt8)):=fun j hj=>by
 have hj':j<nd:=by simpa using hj
 refine ⟨?_,World.frozen?_alloc_new _ _ _ _⟩
 rw [World.cell?_alloc_new,zeros24_at _ (by omega),getElem!_pos _ j hj]
 simp
theorem below_grow (w:World) (os:Array Obj) (k:Nat):Below w.heap.size w ((grow w os).drewN k):=by
 refine ⟨rfl,rfl,rfl,?_,fun i hi=>?_⟩
 ·show w.heap.size≤(w.heap++os).size
  simp
 ·show (w.heap++os)[i]?=w.heap[i]?
  exact Array.getElem?_append_left hi
set_option maxHeartbeats 6400000 in
set_option maxRecDepth 100000 in
theorem fmtUint_calls (u:Nat) (hu1:100≤u) (hu64:u<18446744073709551616) (w:World) (htab: ∀q,q<20→w.cell? ⟨2,q,none⟩=some (.int .u64 ((10^q:Nat):Int))):
  Calls Tryz.prog 131 #[.int .u64 u,.int .i64 10] w fun e w'=>e= .returned (.string ⟨(Lib.decDigits u).toArray⟩)∧Below w.heap.size w w':=by
 have hnd20:Lib.nDigits u≤20:=by have:=Lib.numDigits_eq u (by omega) hu64;split at this<;>omega
 have hal:Tryz.prog.arrayLen 233=24:=by kernel_rfl
 have hsl: ∀W,(Instr.sliceAt 233 (.pointer (some ⟨w.heap.size,0,none⟩)) none (some (.int .i64 (Lib.nDigits u:Int))) none).run Tryz.prog W= .ok (.slice (some ⟨w.heap.size,0,none⟩) (Lib.nDigits u) 24) W:=fun W=>by
  rw [run_sliceAt_array_h W 233 ⟨w.heap.size,0,none⟩ (by kernel_rfl) .i64 (Lib.nDigits u:Int) (by omega) (by rw [hal];omega)]
  go_simp
 have hH0:=holds_zero0 w 233 (Lib.nDigits u) (by omega)
 have hfmt:=Any.internal_strconv_formatBase10 laysFmt w.heap.size 0 24 u (Array.replicate (Lib.nDigits u) 0) (w.alloc (.cells Lib.zeros24 233)) hH0 (by rw [Array.size_replicate];exact Lib.lt_pow_nDigits u) hu64 (by rw [Array.size_replicate];omega)
 rw [Array.size_replicate] at hfmt
 have HH0:=Lib.hid hH0
 clear hH0 hal
 have hnd:Calls Tryz.prog 188 #[.int .u64 u] (w.alloc (.cells Lib.zeros24 233)) fun e w'=>e= .returned (.int .i64 (Lib.nDigits u))∧w'=(w.alloc (.cells Lib.zeros24 233)):=
  numDigits_cells laysDig u (by omega) hu64 _ (fun q hq=>by
   have h1:=htab q hq
   have h2:=World.block_lt_of_cell? w _ h1
   exact (World.cell?_alloc_lt w _ _ h2).trans h1)
 go_enter Tryz.func131,Tryz.ntmps131
 go_wp2_with (first
  |(go_at_call 188;refine hnd.mono ?_;rintro e w' ⟨rfl,rfl⟩))
 go_at_call 189
 refine hfmt.mono ?_
 rintro e w' ⟨rfl,k,v',dk,rfl,hF⟩
 have hcv:(convert 47 9 (.slice (some ⟨w.heap.size,0,none⟩) (Lib.nDigits u) 24)).run Tryz.prog ((putRow (fun (b:UInt8)=>Value.int .u8 (b.toNat:Int)) (w.alloc (.cells Lib.zeros24 233)) w.heap.size 0 dk).drewN k)= .ok (.string ⟨(Lib.decDigits u).toArray⟩) ((putRow (fun (b:UInt8)=>Value.int .u8 (b.toNat:Int)) (w.alloc (.cells Lib.zeros24 233)) w.heap.size 0 dk).drewN k):=by
  have h:=run_convert_bytes_back (P:=Tryz.prog) ((putRow (fun (b:UInt8)=>Value.int .u8 (b.toNat:Int)) (w.alloc (.cells Lib.zeros24 233)) w.heap.size 0 dk).drewN k) 47 9 5 ⟨w.heap.size,0,none⟩ 24 (Lib.decDigits u) Tryz.underlying47 Tryz.underlying5 Tryz.underlying9 (fun j hj=>by
   rw [Lib.row_is_numeral hF j hj,Lib.add_plain,World.cell?_drewN]
   exact cell?_putRow (fun (b:UInt8)=>Value.int .u8 (b.toNat:Int)) _ w.heap.size 0 _ dk HH0.out (by rw [hF.size,Array.size_replicate]) j (by rw [hF.size];rw [Lib.decDigits_length] at hj;exact hj))
  rw [Lib.decDigits_length] at h
  exact h
 go_wp2
 go_ret
 refine ⟨rfl,?_⟩
 rw [alloc_eq_grow]
 obtain ⟨os',_,eg⟩:=putRow_grow_new (fun (b:UInt8)=>Value.int .u8 (b.toNat:Int)) w #[.cells Lib.zeros24 233] w.heap.size 0 dk (Nat.le_refl _)
 rw [eg]
 exact below_grow w os' k

theorem small_spec (n:Nat) (h:n<100):Sp Tryz.prog gl 187 [i6 n] (.str (Lib.decDigits n)):=by
 refine shelf_spec Tryz.func187 (by kernel_rfl) (by kernel_rfl) ?_
 intro S gb w vs hvs hag
 simp only [PRlist,PR] at hvs
 obtain ⟨_,_,rfl,rfl,rfl⟩:=hvs
 exact (Any.internal_strconv_small laysSmall n h w).mono fun e w' ⟨he,hw⟩=>⟨_,he,hw▸Below.refl _ _,by simp [PR]⟩
theorem tab_gl:List.lookup 2 gl=some ((List.range 20).map fun q=>Value.int .u64 ((10^q:Nat):Int)):=by kernel_rfl
theorem tab_cells {w:World} (h: ∀i us,List.lookup i gl=some us→ ∀(o:Nat) (u:Value),us[o]?=some u→w.cell? ⟨i,o,none⟩=some u) (q:Nat) (hq:q<20):w.cell? ⟨2,q,none⟩=some (.int .u64 ((10^q:Nat):Int)):=
 h 2 _ tab_gl q _ (by simp [hq])
theorem ifmt_spec (n:Nat) (h:n<18446744073709551616):Sp Tryz.prog gl 131 [u n,i6 10] (.str (Lib.decDigits n)):=by
 by_cases g:n<100
 ·refine s131 rfl rfl ?_
  have S:=small_spec n g
  generalize Lib.decDigits n=R at *
  have t1:IntKind.i64.wrap (n:Int)=n:=by rw [wrap_i64]<;>omega
  have g':(n:Int)<100:=by omega
  simp -implicitDefEqProofs [c131,t1,g,g']
  refine onC_mk _ S ?_
  simp -implicitDefEqProofs
 ·refine shelf_specG Tryz.func131 (by kernel_rfl) (by kernel_rfl) ?_
  intro S gb w vs hvs hag hgl
  simp only [PRlist,PR] at hvs
  obtain ⟨_,_,rfl,rfl,_,_,rfl,rfl,rfl⟩:=hvs
  exact (fmtUint_calls n (by omega) h w (tab_cells hgl)).mono fun e w' ⟨he,hw⟩=>⟨_,he,hw,by simp [PR]⟩
theorem fmt_spec (n:Nat) (h:n<18446744073709551616):Sp Tryz.prog gl 74 [u n,i6 10] (.str (Lib.decDigits n)):=by
 refine s74 rfl rfl ?_
 have S:=ifmt_spec n h
 generalize Lib.decDigits n=R at *
 simp -implicitDefEqProofs [c74]
 refine onC_mk _ S ?_
 simp -implicitDefEqProofs
end Go.Ai
namespace Go.Ai
def dec (n:Nat):List UInt8:=if h:n<10 then [UInt8.ofNat (48+n)] else dec (n / 10)++[UInt8.ofNat (48+n%10)]
termination_by n
decreasing_by omega
def undec (s:List UInt8):Nat:=s.foldl (fun a b=>10*a+(b.toNat - 48)) 0
def isDig (b:UInt8):Bool:=decide (48≤b.toNat∧b.toNat≤57)
def okDec (s:List UInt8):Bool:=!s.isEmpty&&s.all isDig&&(s.headD 0 !=48||s.length==1)
theorem dec_lt {n:Nat} (h:n<10):dec n=[UInt8.ofNat (48+n)]:=by rw [dec,dif_pos h]
theorem dec_ge {n:Nat} (h: ¬n<10):dec n=dec (n / 10)++[UInt8.ofNat (48+n%10)]:=by rw [dec,dif_neg h]
theorem dig_nat {k:Nat} (h:k<10):(UInt8.ofNat (48+k)).toNat=48+k:=by simp;omega
theorem undec_snoc (s:List UInt8) (b:UInt8):undec (s++[b])=10*undec s+(b.toNat - 48):=by simp [undec]
theorem undec_dec (n:Nat):undec (dec n)=n:=by
 induction n using Nat.strongRecOn with
 |_ n ih=>
  by_cases h:n<10
  ·rw [dec_lt h,←List.nil_append [_],undec_snoc,dig_nat h];simp [undec]
  ·rw [dec_ge h,undec_snoc,ih _ (by omega),dig_nat (by omega)];omega
theorem dec_ne (n:Nat):dec n≠[]:=by
 by_cases h:n<10
 ·rw [dec_lt h];simp
 ·rw [dec_ge h];simp
theorem dec_dig (n:Nat):(dec n).all isDig=true:=by
 induction n using Nat.strongRecOn with
 |_ n ih=>
  by_cases h:n<10
  ·rw [dec_lt h];simp [isDig,dig_nat h];omega
  ·rw [dec_ge h,List.all_append,ih _ (by omega)];simp [isDig,dig_nat (show n%10<10 by omega)];omega
theorem dec_head (n:Nat) (h:0<n):(dec n).headD 0≠48:=by
 induction n using Nat.strongRecOn with
 |_ n ih=>
  by_cases g:n<10
  ·rw [dec_lt g]
   intro e
   have:=congrArg UInt8.toNat e
   simp only [List.headD_cons] at this
   rw [dig_nat g] at this
   simp at this;omega
  ·rw [dec_ge g]
   have:=ih (n / 10) (by omega) (by omega)
   have h2:=dec_ne (n / 10)
   cases hd:dec (n / 10) with
   |nil=>exact absurd hd h2
   |cons x r=>rw [hd] at this;simpa using this
theorem okDec_dec (n:Nat):okDec (dec n)=true:=by
 unfold okDec
 rw [dec_dig]
 have h1:(dec n).isEmpty=false:=by simpa using dec_ne n
 rw [h1]
 by_cases h:0<n
 ·have:=dec_head n h
  simp only [Bool.not_false,Bool.true_and,Bool.or_eq_true,bne_iff_ne]
  exact .inl this
 ·have:n=0:=by omega
  subst this
  rw [dec_lt (by omega)];simp
theorem dec_len (k n:Nat) (h:n<10^(k+1)):(dec n).length≤k+1:=by
 induction k generalizing n with
 |zero=>rw [dec_lt (by simpa using h)];simp
 |succ k ih=>
  by_cases g:n<10
  ·rw [dec_lt g];simp
  ·rw [dec_ge g]
   have:=ih (n / 10) (by rw [Nat.pow_succ] at h;omega)
   simp;omega
theorem snoc_ind {α:Type} {P:List α→Prop} (h0:P []) (h1: ∀s b,P s→P (s++[b])): ∀s,P s:=by
 intro s
 rw [←List.reverse_reverse s]
 induction s.reverse with
 |nil=>simpa using h0
 |cons b r ih=>rw [List.reverse_cons];exact h1 _ _ ih
theorem undec_lt (s:List UInt8) (h:s.all isDig=true):undec s<10^s.length:=by
 revert h
 refine snoc_ind (P:=fun s=>s.all isDig=true→undec s<10^s.length) ?_ ?_ s
 ·intro _;simp [undec]
 ·intro s b ih h
  rw [List.all_append,Bool.and_eq_true] at h
  have:=ih h.1
  have hb:isDig b=true:=by simpa using h.2
  simp only [isDig,decide_eq_true_eq] at hb
  rw [undec_snoc,List.length_append,List.length_singleton,Nat.pow_succ]
  omega
open Go.Proofs

def bl (l:List Bool):AV:= .sl (l.map fun b=>[.bool b])
def atL (l:List Bool) (i:Nat):Nat:=if l.getD i false then 1 else 0
theorem at_spec (l:List Bool) (i:Nat):Sp Tryz.prog gl 212 [bl l,.int .i64 i] (.int .i64 (atL l i)):=by
 refine s212 rfl rfl ?_
 by_cases hi:i<l.length
 ·cases h:l[i]<;>simp [a212,c212,bl,hi,h,atL]
 ·simp [a212,c212,bl,hi,atL]

def val:List Bool→Nat
 |[]=>0
 |b::r=>b.toNat+2*val r
theorem atL_le (l:List Bool) (i:Nat):atL l i≤1:=by unfold atL;split<;>omega

theorem atL_hi (l:List Bool) (i:Nat) (h:l.length≤i):atL l i=0:=by simp [atL,h]
def bitsOf (n k:Nat):List Bool:=(List.range k).map fun i=>n / 2^i%2==1
theorem val_append (a b:List Bool):val (a++b)=val a+2^a.length*val b:=by
 induction a with
 |nil=>simp [val]
 |cons x r ih=>simp [val,ih,Nat.pow_succ,Nat.mul_add];rw [show 2^r.length*2=2*2^r.length by omega,Nat.mul_assoc];omega
theorem bitsOf_succ (n k:Nat):bitsOf n (k+1)=bitsOf n k++[n / 2^k%2==1]:=by simp [bitsOf,List.range_succ]
theorem bitsOf_len (n k:Nat):(bitsOf n k).length=k:=by simp [bitsOf]
theorem bitsOf_val (n k:Nat):val (bitsOf n k)=n%2^k:=by
 induction k with
 |zero=>simp [bitsOf,val,Nat.mod_one]
 |succ k ih=>
  rw [bitsOf_succ,val_append,ih,bitsOf_len,Nat.pow_succ,Nat.mod_mul]
  congr 1
  rcases Nat.mod_two_eq_zero_or_one (n / 2^k) with h|h<;>simp [val,h]
theorem bitsOf_val128 (n:Nat) (h:n<340282366920938463463374607431768211456):val (bitsOf n 128)=n:=by
 rw [bitsOf_val];exact Nat.mod_eq_of_lt (by simpa using h)
theorem bit_hi (n i:Nat) (h:64≤i):n / 2^i=n / 18446744073709551616 / 2^(i%64+(i - i%64 - 64)):=by
 rw [Nat.div_div_eq_div_mul,show (18446744073709551616:Nat)=2^64 from rfl,←Nat.pow_add]
 congr 2;omega
theorem bit_lo (n i:Nat) (h:i<64):n / 2^i%2=n%18446744073709551616 / 2^i%2:=by
 have e:(18446744073709551616:Nat)=2^i*2^(64 - i):=by
  rw [←Nat.pow_add,show i+(64 - i)=64 by omega]
 rw [e,Nat.mod_mul_right_div_self]
 have e2:2^(64 - i)=2*2^(63 - i):=by rw [←Nat.pow_succ',Nat.succ_eq_add_one,show 63 - i+1=64 - i by omega]
 rw [e2,Nat.mod_mul_right_mod]
theorem shr_u64 (x i:Nat) (h:i<64):(x:Int).fdiv (2^min i IntKind.u64.bits)=((x / 2^i:Nat):Int):=by
 rw [show min i IntKind.u64.bits=i by show min i 64=i;omega,Int.fdiv_eq_ediv_of_nonneg _ (Int.pow_nonneg (by decide))]
 simp
theorem bits_spec (n:Nat) (hn:n<340282366920938463463374607431768211456):Sp Tryz.prog gl 113 [wide n] (bl (bitsOf n 128)):=by
 refine s113 rfl rfl ?_
 simp [c113,wide]
 refine wp_lp (α:=Nat) (fun i=>⟨[(1,.ptr (.n 1) 0),(3,bl (bitsOf n i)),(4,i6 i)],[(.n 1,[u (n / 18446744073709551616),u (n%18446744073709551616)])],[(.s 3,1)]⟩)
  (fun i=>i≤128) (fun i=>128 - i) ?_ 0 (by omega) ?_
 ·intro i hi
  have t1:IntKind.i64.wrap ((i:Int)+1)=i+1:=by rw [wrap_i64]<;>omega
  have t2:IntKind.u64.wrap ((i:Int).tmod 64)=(i%64:Nat):=by rw [Int.tmod_eq_emod_of_nonneg (by omega),wrap_u64]<;>omega
  have t3:0≤IntKind.u64.wrap ((i:Int).tmod 64):=by rw [t2];omega
  have bit: ∀m j:Nat,m<18446744073709551616→m / 2^(i%64)%2=n / 2^i%2→(((m:Int).fdiv (2^min (IntKind.u64.wrap ((i:Int).tmod 64)).toNat IntKind.u64.bits)).tmod 2==1)=(n / 2^i%2==1):=by
   intro m j hm e
   rw [t2,Int.toNat_natCast,shr_u64 _ _ (by omega),Int.tmod_eq_emod_of_nonneg (Int.natCast_nonneg _),Bool.eq_iff_iff]
   simp only [beq_iff_eq]
   generalize m / 2^(i%64)=q at e ⊢
   generalize n / 2^i=r at e ⊢
   omega
  simp [bl]
  refine onB_dec (fun h=>?_) (fun h=>?_)
  ·have hl:(bitsOf n i).length+1≤lim:=by rw [bitsOf_len];unfold lim;omega
   simp
   refine onB_dec (fun h6=>?_) (fun h6=>?_)
   ·have b1:=bit (n / 18446744073709551616) 0 (by omega) (by rw [bit_hi n i (by omega),show i%64+(i - i%64 - 64)=i%64 by omega])
    simp [t3]
    refine ⟨hl,by rintro r (⟨-,h⟩|⟨-,h⟩)<;>simp [←h],lpQ_mk (i+1) (by omega) (by omega) ?_⟩
    simp at b1
    apply weak_mk<;>simp [bl,bitsOf_succ,t1,b1]
   ·have b1:=bit (n%18446744073709551616) 0 (by omega) (by rw [bit_lo n i (by omega),Nat.mod_eq_of_lt (show i<64 by omega)])
    simp [t3]
    refine ⟨hl,by rintro r (⟨-,h⟩|⟨-,h⟩)<;>simp [←h],lpQ_mk (i+1) (by omega) (by omega) ?_⟩
    simp at b1
    apply weak_mk<;>simp [bl,bitsOf_succ,t1,b1]
  ·obtain rfl:i=128:=by omega
   simp
 ·apply weak_mk<;>simp [bl,bitsOf]

theorem drop_cons {α:Type} {l:List α} {i:Nat} (h:i<l.length):l.drop i=l[i]::l.drop (i+1):=List.drop_eq_getElem_cons h
def cmpN (x y:Nat):Int:=if x<y then -1 else if x=y then 0 else 1
theorem val_drop (l:List Bool) (i:Nat):val (l.drop i)=atL l i+2*val (l.drop (i+1)):=by
 by_cases h:i<l.length
 ·rw [drop_cons h];simp [val,atL,h];cases l[i]<;>simp
 ·rw [List.drop_eq_nil_of_le (by omega),List.drop_eq_nil_of_le (by omega)];simp [val,atL_hi l i (by omega)]
theorem val_split (l:List Bool) (i:Nat): ∃r,r<2^i∧val l=r+2^i*val (l.drop i):=by
 induction i with
 |zero=>exact ⟨0,by simp,by simp⟩
 |succ i ih=>
  obtain ⟨r,h1,h2⟩:=ih
  refine ⟨r+2^i*atL l i,?_,?_⟩
  ·have:=atL_le l i
   have:2^i*atL l i≤2^i*1:=Nat.mul_le_mul (Nat.le_refl _) this
   rw [Nat.pow_succ];omega
  ·rw [h2,val_drop,Nat.mul_add,Nat.pow_succ,Nat.mul_assoc];omega
theorem cmp_at (a b:List Bool) (i:Nat) (h:val (a.drop (i+1))=val (b.drop (i+1))) (hne:atL a i≠atL b i):cmpN (val a) (val b)=(atL a i:Int) - atL b i:=by
 obtain ⟨r,r1,r2⟩:=val_split a i
 obtain ⟨s,s1,s2⟩:=val_split b i
 have e1:=val_drop a i
 have e2:=val_drop b i
 have a1:=atL_le a i
 have b1:=atL_le b i
 rw [h] at e1
 have hx:2^i*val (a.drop i)=2^i*atL a i+2^i*(2*val (b.drop (i+1))):=by rw [e1,Nat.mul_add]
 have hy:2^i*val (b.drop i)=2^i*atL b i+2^i*(2*val (b.drop (i+1))):=by rw [e2,Nat.mul_add]
 rcases (by omega:atL a i=0∧atL b i=1∨atL a i=1∧atL b i=0) with ⟨h1,h2⟩|⟨h1,h2⟩
 ·rw [h1] at hx;rw [h2] at hy
  have:val a<val b:=by omega
  simp [cmpN,this,h1,h2]
 ·rw [h1] at hx;rw [h2] at hy
  have:val b<val a:=by omega
  simp [cmpN,h1,h2,show ¬val a<val b by omega,show val a≠val b by omega]
theorem compare_spec (a b:List Bool) (ha:a.length≤1000000) (hb:b.length≤1000000):Sp Tryz.prog gl 164 [bl a,bl b] (i6 (cmpN (val a) (val b))):=by
 refine s164 rfl rfl ?_
 by_cases g:a.length<b.length
 all_goals
  simp [c164,bl,g]
  refine wp_lp (α:=Nat) (fun k=>⟨[(0,bl a),(1,bl b),(6,i6 ((k:Int) - 1))],[],[]⟩)
   (fun k=>k≤1000000∧val (a.drop k)=val (b.drop k)) (fun k=>k) ?_ (max a.length b.length) ?_ ?_
  ·rintro k ⟨h1,h2⟩
   have t1:IntKind.i64.wrap ((k:Int) - 1 - 1)=k - 1 - 1:=by rw [wrap_i64]<;>omega
   simp [bl]
   refine onB_dec (fun h=>?_) (fun h=>?_)
   ·have e1:(k:Int) - 1=((k - 1:Nat):Int):=by omega
    have e2:k - 1+1=k:=by omega
    have x1:=atL_le a (k - 1)
    have y1:=atL_le b (k - 1)
    have t2:IntKind.i64.wrap ((atL a (k - 1):Int) - atL b (k - 1))=atL a (k - 1) - atL b (k - 1):=by rw [wrap_i64]<;>omega
    simp
    refine onC_mk _ (e1▸at_spec a (k - 1)) ?_
    simp
    refine onC_mk _ (e1▸at_spec b (k - 1)) ?_
    simp
    by_cases h3:atL a (k - 1)=atL b (k - 1)
    ·simp [h3]
     refine lpQ_mk (k - 1) ⟨by omega,?_⟩ (by omega) ?_
     ·rw [val_drop a,val_drop b,e2,h2,h3]
     ·apply weak_mk<;>simp [bl]
      rw [t1,e1]
    ·have h4:((atL a (k - 1):Int)!=atL b (k - 1))=true:=by rw [bne_iff_ne];omega
     rw [h4]
     simp
     refine onC_mk _ (e1▸at_spec a (k - 1)) ?_
     simp
     refine onC_mk _ (e1▸at_spec b (k - 1)) ?_
     simp
     rw [t2,cmp_at a b (k - 1) (by rw [e2];exact h2) h3]
   ·obtain rfl:k=0:=by omega
    simp at h2
    simp [cmpN,h2]
  ·exact ⟨by omega,by rw [List.drop_eq_nil_of_le (by omega),List.drop_eq_nil_of_le (by omega)]⟩
  ·have t3:IntKind.i64.wrap ((max a.length b.length:Nat) - 1:Int)=(max a.length b.length:Nat) - 1:=by rw [wrap_i64]<;>omega
   apply weak_mk<;>simp [bl]
   rw [wrap_i64 (by omega) (by omega)]
   omega
open Go.Proofs
theorem val_lt (l:List Bool):val l<2^l.length:=by
 induction l with
 |nil=>simp [val]
 |cons x r ih=>simp only [val,List.length_cons,Nat.pow_succ];cases x<;>simp<;>omega
theorem bitsOf_cons (b:Bool) (n k:Nat):bitsOf (b.toNat+2*n) (k+1)=b::bitsOf n k:=by
 unfold bitsOf
 rw [List.range_succ_eq_map,List.map_cons,List.map_map]
 congr 1
 ·cases b<;>simp<;>omega
 ·apply List.map_congr_left
  intro i _
  simp only [Function.comp,Nat.pow_succ]
  rw [Nat.mul_comm (2^i) 2,←Nat.div_div_eq_div_mul]
  have:(b.toNat+2*n) / 2=n:=by cases b<;>simp<;>omega
  rw [this]
theorem val_cons (b:Bool) (l:List Bool):val (b::l)=b.toNat+2*val l:=by cases b<;>simp [val]
theorem bits_val (l:List Bool):bitsOf (val l) l.length=l:=by
 induction l with
 |nil=>rfl
 |cons x r ih=>rw [val_cons,List.length_cons,bitsOf_cons,ih]
theorem bits_eq {l:List Bool} {n k:Nat} (h1:val l=n) (h2:l.length=k):l=bitsOf n k:=by rw [←h1,←h2,bits_val]
def minusL:List Bool→List Bool→Bool→List Bool
 |[],_,_=>[]
 |x::r,b,c=>((x.toNat+atL b 0+c.toNat)%2==1)::minusL r (b.drop 1) (decide (x.toNat<atL b 0+c.toNat))
theorem minusL_len (a b:List Bool) (c:Bool):(minusL a b c).length=a.length:=by
 induction a generalizing b c with
 |nil=>rfl
 |cons x r ih=>simp [minusL,ih]
theorem minusL_val (a b:List Bool) (c:Bool) (h:val b+c.toNat≤val a):val (minusL a b c)=val a - val b - c.toNat:=by
 induction a generalizing b c with
 |nil=>simp [minusL,val] at h ⊢
 |cons x r ih=>
  have e:=val_drop b 0
  rw [List.drop_zero] at e
  have hb:=atL_le b 0
  rw [val_cons] at h
  simp only [minusL,val_cons]
  generalize atL b 0=y at *
  have hx:x.toNat≤1:=by cases x<;>simp
  have hc:c.toNat≤1:=by cases c<;>simp
  generalize x.toNat=x' at *
  generalize c.toNat=c' at *
  have hd:(decide (x'<y+c')).toNat=if x'<y+c' then 1 else 0:=by split<;>rename_i q<;>simp [q]
  have h1:((x'+y+c')%2==1).toNat=(x'+y+c')%2:=by rcases Nat.mod_two_eq_zero_or_one (x'+y+c') with q|q<;>simp [q]
  rw [ih _ _ (by rw [hd];simp only [Nat.zero_add] at e;split<;>omega),hd,h1]
  simp only [Nat.zero_add] at e
  split<;>omega
theorem minusL_step (a b:List Bool) (i:Nat) (c:Bool) (h:i<a.length):
  minusL (a.drop i) (b.drop i) c=((atL a i+atL b i+c.toNat)%2==1)::minusL (a.drop (i+1)) (b.drop (i+1)) (decide (atL a i<atL b i+c.toNat)):=by
 rw [drop_cons h]
 have e1:(a[i]).toNat=atL a i:=by simp [atL,h];cases a[i]<;>rfl
 have e2:atL (b.drop i) 0=atL b i:=by simp [atL]
 simp only [minusL,e1,e2,List.drop_drop]
theorem minus_spec (a b:List Bool) (ha:a.length≤1000000) (hb:b.length≤1000000):Sp Tryz.prog gl 211 [bl a,bl b] (bl (minusL a b false)):=by
 refine s211 rfl rfl ?_
 simp -implicitDefEqProofs [c211]
 refine wp_lpk (α:=Nat×List Bool×Bool) (fun x=>⟨[(0,bl a),(1,bl b),(5,bl x.2.1),(6,.int .i64 x.2.2.toNat),(7,.int .i64 x.1)],[],[(.s 5,1)]⟩)
  (fun x=>x.1≤a.length∧x.2.1.length=x.1∧x.2.1++minusL (a.drop x.1) (b.drop x.1) x.2.2=minusL a b false) (fun x=>a.length - x.1) ?_ (0,[],false) ?_ ?_
 ·rintro K ⟨i,out,c⟩ hK ⟨h1,h0,h2⟩
  simp only at h1 h2 h0
  by_cases q:i<a.length
  ·have a1:=atL_le a i
   have a2:=atL_le b i
   have hc:c.toNat≤1:=by cases c<;>simp
   have e:=minusL_step a b i c q
   have A1:=at_spec a i
   have A2:=at_spec b i
   generalize hx:atL a i=x at *
   generalize hy:atL b i=y at *
   generalize hz:c.toNat=z at *
   have t1:IntKind.i64.wrap ((x:Int) - y)=x - y:=by rw [wrap_i64]<;>omega
   have t2:IntKind.i64.wrap ((x:Int) - y - z)=x - y - z:=by rw [wrap_i64]<;>omega
   have t3:IntKind.i64.wrap ((x:Int) - y - z+2)=x - y - z+2:=by rw [wrap_i64]<;>omega
   have t4:IntKind.i64.wrap (i+1)=(i+1):=by rw [wrap_i64]<;>omega
   have hlim:out.length+1≤lim:=by unfold lim;omega
   have fin: ∀(σ':St),Weak σ' ⟨[(0,bl a),(1,bl b),(5,bl (out++[(x+y+z)%2==1])),(6,.int .i64 (decide (x<y+z)).toNat),(7,.int .i64 (i+1:Nat))],[],[(.s 5,1)]⟩→K σ':=
    fun σ' hσ=>hK (i+1,out++[(x+y+z)%2==1],decide (x<y+z)) σ' ⟨by simp only;omega,by simp [h0],by simp only [List.append_assoc,List.singleton_append];rw [←h2,e]⟩ (by simp only;omega) hσ
   simp -implicitDefEqProofs [bl,q]
   refine onC_mk _ A1 ?_
   simp -implicitDefEqProofs
   refine onC_mk _ A2 ?_
   simp -implicitDefEqProofs
   simp only [t1,t2]
   by_cases g:x<y+z
   ·have g1:((x:Int) - y - z<0):=by omega
    have b1:(((x:Int) - y - z+2)==1)=((x+y+z)%2==1):=by rw [Bool.eq_iff_iff];simp;omega
    simp -implicitDefEqProofs [g1]
    simp only [t3]
    refine ⟨hlim,by rintro r (⟨-,h⟩|⟨-,h⟩)<;>simp [←h],fin _ ?_⟩
    apply weak_mk<;>simp [bl,t4,b1,g]
   ·have g1: ¬((x:Int) - y - z<0):=by omega
    have b1:(((x:Int) - y - z)==1)=((x+y+z)%2==1):=by rw [Bool.eq_iff_iff];simp;omega
    simp -implicitDefEqProofs [g1]
    refine ⟨hlim,by rintro r (⟨-,h⟩|⟨-,h⟩)<;>simp [←h],fin _ ?_⟩
    apply weak_mk<;>simp [bl,t4,b1,g]
  ·obtain rfl:i=a.length:=by omega
   rw [List.drop_eq_nil_of_le (Nat.le_refl _),minusL,List.append_nil] at h2
   rw [←h2]
   simp -implicitDefEqProofs [bl]
 ·simp
 ·apply weak_mk<;>simp [bl]
theorem minus_le (a b:List Bool) (ha:a.length≤1000000) (hb:b.length≤1000000) (h:val b≤val a):Sp Tryz.prog gl 211 [bl a,bl b] (bl (bitsOf (val a - val b) a.length)):=by
 rw [←bits_eq (by rw [minusL_val _ _ _ (by simpa using h)];simp) (minusL_len a b false)]
 exact minus_spec a b ha hb
theorem val_take_succ (l:List Bool) (i:Nat) (h:i<l.length):val (l.take (i+1))=val (l.take i)+2^i*(l[i]).toNat:=by
 rw [List.take_succ_eq_append_getElem h,val_append,List.length_take,Nat.min_eq_left (by omega)]
 cases l[i]<;>simp [val]
theorem val_take_lt (l:List Bool) (i:Nat):val (l.take i)<2^i:=
 Nat.lt_of_lt_of_le (val_lt _) (Nat.pow_le_pow_right (by omega) (by rw [List.length_take];omega))
theorem val_take_le (l:List Bool) (i:Nat):val (l.take i)≤val l:=by
 have:l=l.take i++l.drop i:=(List.take_append_drop i l).symm
 rw [this,val_append,List.take_append_drop]
 exact Nat.le_add_right _ _
theorem shl1_u64 (i:Nat) (h:i<64):IntKind.u64.wrap (1*2^(min i IntKind.u64.bits))=((2^i:Nat):Int):=by
 rw [show min i IntKind.u64.bits=i by show min i 64=i;omega]
 have h1:(2:Nat)^i≤2^63:=Nat.pow_le_pow_right (by omega) (by omega)
 have h2:(2:Nat)^63=9223372036854775808:=rfl
 rw [Int.one_mul,show ((2:Int)^i)=((2^i:Nat):Int) by simp]
 generalize 2^i=x at *
 rw [wrap_u64]<;>omega
theorem of_hi (v i:Nat) (h:64≤i):(v+2^i) / 18446744073709551616=v / 18446744073709551616+2^(i - 64)∧(v+2^i)%18446744073709551616=v%18446744073709551616:=by
 have e:(2:Nat)^i=2^(i - 64)*18446744073709551616:=by
  rw [show (18446744073709551616:Nat)=2^64 from rfl,←Nat.pow_add];congr 1;omega
 rw [e];omega
theorem of_lo (v i:Nat) (h:i<64) (hv:v<2^i):(v+2^i) / 18446744073709551616=v / 18446744073709551616∧(v+2^i)%18446744073709551616=v%18446744073709551616+2^i:=by
 have h1:(2:Nat)^i≤2^63:=Nat.pow_le_pow_right (by omega) (by omega)
 have h2:(2:Nat)^63=9223372036854775808:=rfl
 omega
theorem of_spec (l:List Bool) (hl:l.length≤1000000):
  Sp Tryz.prog gl 163 [bl l] (if val l<340282366920938463463374607431768211456 then .tup [wide (val l),.bool true] else .tup [wide 0,.bool false]):=by
 refine s163 rfl rfl ?_
 obtain ⟨R,hR⟩: ∃R,R=(if val l<340282366920938463463374607431768211456 then AV.tup [wide (val l),.bool true] else .tup [wide 0,.bool false]):=⟨_,rfl⟩
 rw [←hR]
 simp -implicitDefEqProofs [c163]
 refine wp_lpk (α:=Nat) (fun i=>⟨[(0,bl l),(2,.ptr (.n 2) 0),(4,.ptr (.n 4) 0),(5,i6 i)],[(.n 4,[u (val (l.take i) / 18446744073709551616),u (val (l.take i)%18446744073709551616)]),(.n 2,[u 0,u 0])],[]⟩)
  (fun i=>i≤l.length∧val (l.take i)<340282366920938463463374607431768211456) (fun i=>l.length - i) ?_ 0 ?_ ?_
 ·rintro K i hK ⟨h1,h2⟩
  have t1:IntKind.i64.wrap ((i:Int)+1)=i+1:=by rw [wrap_i64]<;>omega
  have hv:=val_take_lt l i
  by_cases g:i<l.length
  ·have e:=val_take_succ l i g
   have e':=val_take_le l (i+1)
   obtain ⟨v,hv'⟩: ∃v,v=val (l.take i):=⟨_,rfl⟩
   rw [←hv'] at hv h2 e ⊢
   cases hb:l[i]
   ·rw [hb] at e
    simp at e
    simp -implicitDefEqProofs [bl,g,hb]
    refine hK (i+1) _ ⟨by omega,by rw [e];exact h2⟩ (by omega) ?_
    apply weak_mk<;>simp [bl,t1,e]
   ·rw [hb] at e
    simp at e
    by_cases g2:128≤i
    ·have: ¬val l<340282366920938463463374607431768211456:=by
      have h3:(2:Nat)^128≤2^i:=Nat.pow_le_pow_right (by omega) g2
      have h4:(2:Nat)^128=340282366920938463463374607431768211456:=rfl
      omega
     rw [if_neg this] at hR
     subst hR
     have g3:(128:Int)≤i:=by omega
     simp -implicitDefEqProofs [bl,g,hb,g3,wide]
    ·have hlt:val (l.take (i+1))<340282366920938463463374607431768211456:=by
      have h3:=val_take_lt l (i+1)
      have h4:(2:Nat)^(i+1)≤2^128:=Nat.pow_le_pow_right (by omega) (by omega)
      have h5:(2:Nat)^128=340282366920938463463374607431768211456:=rfl
      omega
     have g3: ¬(128:Int)≤i:=by omega
     by_cases g4:64≤i
     ·have g5:(64:Int)≤i:=by omega
      have t2:IntKind.i64.wrap ((i:Int) - 64)=((i - 64:Nat):Int):=by rw [wrap_i64]<;>omega
      have t3:IntKind.u64.wrap ((i - 64:Nat):Int)=((i - 64:Nat):Int):=by rw [wrap_u64]<;>omega
      have t4:=shl1_u64 (i - 64) (by omega)
      obtain ⟨q1,q2⟩:=of_hi v i g4
      have t5:IntKind.u64.wrap ((v / 18446744073709551616:Nat)+(2^(i - 64):Nat):Int)=((v+2^i) / 18446744073709551616:Nat):=by
       rw [q1];rw [wrap_u64]<;>omega
      rw [←e] at t5 q2
      obtain ⟨V,hV⟩: ∃V,V=val (l.take (i+1)):=⟨_,rfl⟩
      have fin: ∀(σ':St),Weak σ' ⟨[(0,bl l),(2,.ptr (.n 2) 0),(4,.ptr (.n 4) 0),(5,i6 (i+1:Nat))],[(.n 4,[u (V / 18446744073709551616),u (V%18446744073709551616)]),(.n 2,[u 0,u 0])],[]⟩→K σ':=
       fun σ' hσ=>hK (i+1) σ' ⟨by omega,hlt⟩ (by omega) (hV▸hσ)
      rw [←hV] at t5 q2
      rw [q2] at fin
      obtain ⟨A,hA⟩: ∃A,A=v / 18446744073709551616:=⟨_,rfl⟩
      obtain ⟨B,hB⟩: ∃B,B=v%18446744073709551616:=⟨_,rfl⟩
      obtain ⟨C,hC⟩: ∃C,C=V / 18446744073709551616:=⟨_,rfl⟩
      obtain ⟨D,hD⟩: ∃D,D=2^(i - 64):=⟨_,rfl⟩
      rw [←hA,←hC,←hD] at t5
      rw [←hA,←hB]
      rw [←hB,←hC] at fin
      rw [←hD] at t4
      clear hA hB hC hD q1 q2 hV hv' e e' hK h2 hv hR hlt
      simp -implicitDefEqProofs [bl,g,hb,g3,g5]
      rw [Int.one_mul] at t4
      simp only [t2,t3,Int.toNat_natCast]
      simp -implicitDefEqProofs
      rw [t4,t5]
      refine fin _ ?_
      apply weak_mk<;>simp [bl,t1]
     ·have g5: ¬(64:Int)≤i:=by omega
      have t3:IntKind.u64.wrap (i:Int)=(i:Int):=by rw [wrap_u64]<;>omega
      have t4:=shl1_u64 i (by omega)
      obtain ⟨q1,q2⟩:=of_lo v i (by omega) hv
      have t5:IntKind.u64.wrap ((v%18446744073709551616:Nat)+(2^i:Nat):Int)=((v+2^i)%18446744073709551616:Nat):=by
       rw [q2];rw [wrap_u64]<;>omega
      rw [←e] at t5 q1
      obtain ⟨V,hV⟩: ∃V,V=val (l.take (i+1)):=⟨_,rfl⟩
      have fin: ∀(σ':St),Weak σ' ⟨[(0,bl l),(2,.ptr (.n 2) 0),(4,.ptr (.n 4) 0),(5,i6 (i+1:Nat))],[(.n 4,[u (V / 18446744073709551616),u (V%18446744073709551616)]),(.n 2,[u 0,u 0])],[]⟩→K σ':=
       fun σ' hσ=>hK (i+1) σ' ⟨by omega,hlt⟩ (by omega) (hV▸hσ)
      rw [←hV] at t5 q1
      rw [q1] at fin
      obtain ⟨A,hA⟩: ∃A,A=v / 18446744073709551616:=⟨_,rfl⟩
      obtain ⟨B,hB⟩: ∃B,B=v%18446744073709551616:=⟨_,rfl⟩
      obtain ⟨C,hC⟩: ∃C,C=V%18446744073709551616:=⟨_,rfl⟩
      obtain ⟨D,hD⟩: ∃D,D=2^i:=⟨_,rfl⟩
      rw [←hB,←hC,←hD] at t5
      rw [←hA,←hB]
      rw [←hA,←hC] at fin
      rw [←hD] at t4
      clear hA hB hC hD q1 q2 hV hv' e e' hK h2 hv hR hlt
      simp -implicitDefEqProofs [bl,g,hb,g3,g5]
      rw [Int.one_mul] at t4
      simp only [t3,Int.toNat_natCast]
      simp -implicitDefEqProofs
      rw [t4,t5]
      refine fin _ ?_
      apply weak_mk<;>simp [bl,t1]
  ·obtain rfl:i=l.length:=by omega
   rw [List.take_length] at h2 ⊢
   rw [if_pos h2] at hR
   subst hR
   simp -implicitDefEqProofs [bl,wide]
 ·simp [val]
 ·apply weak_mk<;>simp [bl,val]
end Go.Ai
