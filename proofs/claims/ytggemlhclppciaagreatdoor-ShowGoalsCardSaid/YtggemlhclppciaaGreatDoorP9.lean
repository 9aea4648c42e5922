/- P9: a part of the proof: the rules, or what functions compute. Conditions: as each theorem says. -/
import Derived.Test.YtggemlhclppciaaGreatDoorP8
import Derived.Test.YtggemlhclppciaaGreatDoorP7
import Derived.Test.YtggemlhclppciaaGreatDoorP6
import Derived.Test.YtggemlhclppciaaGreatDoorP1
import Derived.Test.YtggemlhclppciaaGreatDoorP5
import Derived.Test.YtggemlhclppciaaGreatDoorLib11
import Derived.Test.YtggemlhclppciaaGreatDoorP2
import Derived.Test.YtggemlhclppciaaGreatDoorP3
set_option linter.unusedSimpArgs false
set_option linter.unusedVariables false
set_option maxRecDepth 20000
namespace Go.Ai
open Go.Proofs
def hasB (c:UInt8) (s:List UInt8):Bool:=decide ((s.takeWhile (notB c)).length<s.length)
open Go.Proofs
end Go.Ai
namespace Go.Ai
open Go.Proofs
def wdR (s:List UInt8):TV:=
 if dgsF s=true then toldV 3 (numF s)
 else if byt s (s.length - 1)=37 then toldV 5 (pprF s)
 else if hasB 46 s=true then toldV 4 (facF (s.takeWhile (notB 46)) (s.drop ((s.takeWhile (notB 46)).length+1)))
 else toldV 6 (spanR s)
def rV (m:List Int):TV:=
 if m=[]∨digR (m.headD 0)=false then (if nameT (textR m)=true then .t 1 (textR m) 0 else .e 5)
 else wdR (textR m)
end Go.Ai
namespace Go.Ai
open Go.Proofs Go.Shelf
def ren_wr:Ren:={
 f:=fun x=>match x with
  |168=>124
  |242=>164
  |278=>198
  |n=>ren_laysJoin.f n
 t:=fun x=>match x with
  |21=>21
  |46=>173
  |51=>39
  |n=>ren_laysJoin.t n
 g:=fun x=>x}
set_option maxRecDepth 100000 in
theorem laysWR:Lays.n168 Tryz.prog ren_wr where
 mixed:=laysJoin.mixed
 f168:=Eq.trans Tryz.func124 (congrArg some (show Tryz.f124=Body.n168 ren_wr by kernel_rfl))
 f240:=Eq.trans Tryz.func133 (congrArg some (show Tryz.f133=Body.n240 ren_wr by kernel_rfl))
 f242:=Eq.trans Tryz.func164 (congrArg some (show Tryz.f164=Body.n242 ren_wr by kernel_rfl))
 f276:=Eq.trans Tryz.func175 (congrArg some (show Tryz.f175=Body.n276 ren_wr by kernel_rfl))
 f278:=Eq.trans Tryz.func198 (congrArg some (show Tryz.f198=Body.n278 ren_wr by kernel_rfl))
 t0:=laysJoin.t0
 a0:=laysJoin.a0
 z0:=laysJoin.z0
 v0:=laysJoin.v0
 t3:=laysJoin.t3
 a3:=laysJoin.a3
 z3:=laysJoin.z3
 v3:=laysJoin.v3
 t4:=laysJoin.t4
 a4:=laysJoin.a4
 z4:=laysJoin.z4
 v4:=laysJoin.v4
 t5:=extraJ.t5
 a5:=extraJ.a5
 z5:=extraJ.z5
 v5:=extraJ.v5
 t9:=laysJoin.t9
 a9:=laysJoin.a9
 z9:=laysJoin.z9
 v9:=laysJoin.v9
 t20:=laysJoin.t20
 a20:=laysJoin.a20
 z20:=laysJoin.z20
 v20:=laysJoin.v20
 t21:=Tryz.underlying21
 a21:=Tryz.isAgg21
 z21:=Tryz.sizeOf21
 v21:=Tryz.zeroValue21
 t37:=laysJoin.t37
 a37:=laysJoin.a37
 z37:=laysJoin.z37
 v37:=laysJoin.v37
 t46:=Tryz.underlying173
 a46:=Tryz.isAgg173
 z46:=Tryz.sizeOf173
 v46:=Tryz.zeroValue173
 t51:=Tryz.underlying39
 a51:=Tryz.isAgg39
 z51:=Tryz.sizeOf39
 v51:=Tryz.zeroValue39
 t70:=laysJoin.t70
 a70:=laysJoin.a70
 z70:=laysJoin.z70
 v70:=laysJoin.v70
 t72:=laysJoin.t72
 a72:=laysJoin.a72
 z72:=laysJoin.z72
 v72:=laysJoin.v72
 t75:=laysJoin.t75
 a75:=laysJoin.a75
 z75:=laysJoin.z75
 v75:=laysJoin.v75
 t164:=laysJoin.t164
 a164:=laysJoin.a164
 z164:=laysJoin.z164
 v164:=laysJoin.v164
theorem extraW:Builder.Extra Tryz.prog ren_wr where
 sizeBuilder:=by kernel_rfl
 liesBuilder:=by kernel_rfl
 t5:=Tryz.underlying5
 a5:=Tryz.isAgg5
 z5:=Tryz.sizeOf5
 v5:=Tryz.zeroValue5
 infoByte:=by kernel_rfl
 cellsByte:=by kernel_rfl
 sizeByte:=by kernel_rfl
 neB5:=by decide
theorem encN_cells (r:Nat) (h:r≤1114111):runeV (r:Int)→Lib.byteCells (encN r)=Lib.runeCells (r:Int):=by
 intro hr
 have b8: ∀n:Nat,n<256→((UInt8.ofNat n).toNat:Int)=n:=fun n hn=>by rw [UInt8.toNat_ofNat_of_lt' (by simpa using hn)]
 unfold encN Lib.byteCells Lib.runeCells
 by_cases c1:r<128
 ·rw [if_pos c1,Lib.encodeRuneZ_one (by omega) (by omega)]
  simp only [List.map_cons,List.map_nil,b8 r (by omega)]
 rw [if_neg c1]
 by_cases c2:r<2048
 ·rw [if_pos c2,Lib.encodeRuneZ_two (by omega) (by omega)]
  simp only [List.map_cons,List.map_nil,b8 (192+r / 64) (by omega),b8 (128+r%64) (by omega)]
  rfl
 rw [if_neg c2]
 by_cases c3:r<65536
 ·rw [if_pos c3,Lib.encodeRuneZ_three (by rcases hr with h|h<;>omega)]
  simp only [List.map_cons,List.map_nil,b8 (224+r / 4096) (by omega),b8 (128+r / 64%64) (by omega),b8 (128+r%64) (by omega)]
  rfl
 rw [if_neg c3,Lib.encodeRuneZ_four (by omega) (by omega)]
 simp only [List.map_cons,List.map_nil,b8 (240+r / 262144) (by omega),b8 (128+r / 4096%64) (by omega),b8 (128+r / 64%64) (by omega),b8 (128+r%64) (by omega)]
 rfl
theorem wr_spec {d:Nat} {b:Id} (hit:b.isIt=false) (hnwb:b.isNw d=false) {T n:Nat} (hT:bldAt Tryz.prog 69 T n) {c0:AV} (hc0:c0= .nilT b T n∨c0= .ptr b 0) (rest:List AV) (l:List UInt8) (r:Nat) (hr:runeV (r:Int)) (h:r≤1114111) (hl:l.length+4≤140737488355328):
  SpH Tryz.prog gl 124 d ⟨[.ptr b 0,.int .i32 r],[(b,c0:: .sl (byteRows l)::rest)],[(.b b 1,bk 5)]⟩ ⟨.tup [.int .i64 (encN r).length,.undef],[(b,.ptr b 0:: .sl (byteRows (l++encN r))::rest)],[(.b b 1,bk 5)]⟩:=
 wr_shelf laysWR extraW (by kernel_rfl) (by kernel_rfl) hit hnwb (T:=T) (n:=n) (hc0.imp (fun h=>⟨h,hT⟩) id) (rest:=rest) l (encN r) r hr (encN_cells r h hr) hl
end Go.Ai
namespace Go.Ai
open Go.Proofs Go.Shelf
def hexR (r:Int):Int:=if digR r=true then r - 48 else if 97≤r∧r≤102 then r - 87 else -1
def validR (r:Int):Bool:=decide (0≤r∧r<55296)||decide (57343<r∧r≤1114111)
theorem validR_iff (r:Int):validR r=true↔runeV r:=by
 unfold validR runeV
 rw [Bool.or_eq_true,decide_eq_true_iff,decide_eq_true_iff]
end Go.Ai
namespace Go.Ai
open Go.Proofs Go.Shelf
structure Rd where
 out:List Int
 st:Int
 n:Nat
 c:Nat
def afterR (x:Rd) (r:Int):Rd×Bool:=
 if r=34∨r=92 then ({x with st:=0,out:=x.out++[r]},true)
 else if r=110 then ({x with st:=0,out:=x.out++[10]},true)
 else if r=116 then ({x with st:=0,out:=x.out++[9]},true)
 else if r=117 then ({x with st:=2},true)
 else ({x with st:=0},false)
def withinR (x:Rd) (r:Int):Rd×Bool:=
 if 0≤hexR r∧x.c<6 then ({x with n:=16*x.n+(hexR r).toNat,c:=x.c+1},true)
 else if r≠125∨x.c=0∨validR x.n=false then (x,false)
 else ({x with out:=x.out++[(x.n:Int)],st:=0},true)
end Go.Ai
namespace Go.Ai
open Go.Proofs Go.Shelf
theorem hexR_lt (r:Int):hexR r<16:=by
 unfold hexR digR
 split
 ·rename_i h
  have:=of_decide_eq_true h
  omega
 ·split<;>omega
end Go.Ai
namespace Go.Ai
open Go.Proofs Go.Shelf
def takeU (x:Rd) (r:Int):Rd×Bool:=
 if x.st=1 then afterR x r
 else if x.st=2 then ({x with st:=3,n:=0,c:=0},decide (r=123))
 else if x.st=3 then withinR x r
 else if x.st=4 then (x,false)
 else if r=34 then ({x with st:=4},true)
 else if r=92 then ({x with st:=1},true)
 else if r<32∨r=127 then (x,false)
 else ({x with out:=x.out++[r]},true)
end Go.Ai
namespace Go.Ai
open Go.Proofs Go.Shelf
def unRun (x:Rd):List Int→Rd×Bool
 |[]=>(x,true)
 |r::l=>if (takeU x r).2=true then unRun (takeU x r).1 l else ((takeU x r).1,false)
def rd0:Rd:=⟨[],0,0,0⟩
def unqF (l:List Int):List UInt8×Int:=
 if goodR l=false∨l.head?≠some 34 then ([],5)
 else if (unRun rd0 l.tail).2=false then ([],5)
 else if (unRun rd0 l.tail).1.st≠4 then ([],5)
 else if 120<(unRun rd0 l.tail).1.out.length then ([],9)
 else (textR (unRun rd0 l.tail).1.out,0)
structure RdOk (x:Rd) (i:Nat):Prop where
 o:x.out.length≤i
 c:x.c≤6
 n:x.n<16^x.c
 k: ∀r∈x.out,okR r
theorem runeV_ok {r:Int} (h:runeV r):okR r:=by
 unfold runeV at h
 right
 omega
theorem mem_snoc_ok {l:List Int} {q:Int} (h: ∀r∈l,okR r) (hq:okR q): ∀r∈l++[q],okR r:=by
 intro r hr
 rw [List.mem_append,List.mem_singleton] at hr
 rcases hr with hr|rfl
 ·exact h r hr
 ·exact hq
theorem RdOk.step {x:Rd} {i:Nat} (h:RdOk x i) {r:Int} (hr:runeV r) (w:Nat) (hw:1≤w):RdOk (takeU x r).1 (i+w):=by
 obtain ⟨h1,h2,h3,h4⟩:=h
 have same: ∀y:Rd,y.out=x.out→y.c=x.c→y.n=x.n→RdOk y (i+w):=fun y a b c=>⟨by rw [a];omega,by rw [b];exact h2,by rw [c,b];exact h3,by rw [a];exact h4⟩
 have more: ∀(y:Rd) q,y.out=x.out++[q]→okR q→y.c=x.c→y.n=x.n→RdOk y (i+w):=fun y q a hq b c=>⟨by rw [a,List.length_append];simp;omega,by rw [b];exact h2,by rw [c,b];exact h3,by rw [a];exact mem_snoc_ok h4 hq⟩
 unfold takeU
 by_cases c1:x.st=1
 ·rw [if_pos c1]
  unfold afterR
  by_cases d1:r=34∨r=92
  ·rw [if_pos d1];exact more _ r rfl (runeV_ok hr) rfl rfl
  rw [if_neg d1]
  by_cases d2:r=110
  ·rw [if_pos d2];exact more _ 10 rfl (by right;omega) rfl rfl
  rw [if_neg d2]
  by_cases d3:r=116
  ·rw [if_pos d3];exact more _ 9 rfl (by right;omega) rfl rfl
  rw [if_neg d3]
  by_cases d4:r=117
  ·rw [if_pos d4];exact same _ rfl rfl rfl
  ·rw [if_neg d4];exact same _ rfl rfl rfl
 rw [if_neg c1]
 by_cases c2:x.st=2
 ·rw [if_pos c2]
  exact ⟨by dsimp only;omega,Nat.zero_le _,by simp,h4⟩
 rw [if_neg c2]
 by_cases c3:x.st=3
 ·rw [if_pos c3]
  unfold withinR
  by_cases d1:0≤hexR r∧x.c<6
  ·rw [if_pos d1]
   have hx:=hexR_lt r
   refine ⟨by dsimp only;omega,by dsimp only;omega,?_,h4⟩
   dsimp only
   rw [Nat.pow_succ]
   omega
  rw [if_neg d1]
  by_cases d2:r≠125∨x.c=0∨validR x.n=false
  ·rw [if_pos d2];exact same _ rfl rfl rfl
  ·rw [if_neg d2]
   refine more _ x.n rfl (runeV_ok ((validR_iff _).1 ?_)) rfl rfl
   cases hv:validR (x.n:Int)
   ·exact absurd (.inr (.inr hv)) d2
   ·rfl
 rw [if_neg c3]
 by_cases c4:x.st=4
 ·rw [if_pos c4];exact same _ rfl rfl rfl
 rw [if_neg c4]
 by_cases d1:r=34
 ·rw [if_pos d1];exact same _ rfl rfl rfl
 rw [if_neg d1]
 by_cases d2:r=92
 ·rw [if_pos d2];exact same _ rfl rfl rfl
 rw [if_neg d2]
 by_cases d3:r<32∨r=127
 ·rw [if_pos d3];exact same _ rfl rfl rfl
 ·rw [if_neg d3];exact more _ r rfl (runeV_ok hr) rfl rfl
end Go.Ai
namespace Go.Ai
open Go.Proofs Go.Shelf
end Go.Ai
namespace Go.Ai
open Go.Proofs Go.Shelf
end Go.Ai
namespace Go.Ai
open Go.Proofs Go.Shelf
end Go.Ai
