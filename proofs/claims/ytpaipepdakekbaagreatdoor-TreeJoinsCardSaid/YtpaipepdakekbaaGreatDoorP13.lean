/- P13: a part of the proof: the rules, or what functions compute. Conditions: as each theorem says. -/
import Derived.Test.YtpaipepdakekbaaGreatDoorP10
import Derived.Test.YtpaipepdakekbaaGreatDoorP2
import Derived.Test.YtpaipepdakekbaaGreatDoorAiRune
import Derived.Test.YtpaipepdakekbaaGreatDoorP1
import Derived.Test.YtpaipepdakekbaaGreatDoorP4
set_option linter.unusedSimpArgs false
set_option linter.unusedVariables false
set_option maxRecDepth 20000
namespace Go.Ai
open Go.Proofs Go.Shelf
def ren_wr:Ren:={
 f:=fun x=>match x with
  |168=>130
  |242=>140
  |278=>143
  |n=>ren_laysJoin.f n
 t:=fun x=>match x with
  |21=>21
  |46=>148
  |51=>81
  |n=>ren_laysJoin.t n
 g:=fun x=>x}
set_option maxRecDepth 100000 in
theorem laysWR:Lays.n168 Tryz.prog ren_wr where
 mixed:=laysJoin.mixed
 f168:=Eq.trans Tryz.func130 (congrArg some (show Tryz.f130=Body.n168 ren_wr by kernel_rfl))
 f240:=Eq.trans Tryz.func139 (congrArg some (show Tryz.f139=Body.n240 ren_wr by kernel_rfl))
 f242:=Eq.trans Tryz.func140 (congrArg some (show Tryz.f140=Body.n242 ren_wr by kernel_rfl))
 f276:=Eq.trans Tryz.func142 (congrArg some (show Tryz.f142=Body.n276 ren_wr by kernel_rfl))
 f278:=Eq.trans Tryz.func143 (congrArg some (show Tryz.f143=Body.n278 ren_wr by kernel_rfl))
 t0:=laysJoin.t0
 a0:=laysJoin.a0
 z0:=laysJoin.z0
 v0:=laysJoin.v0
 t3:=laysJoin.t3
 a3:=laysJoin.a3
 z3:=laysJoin.z3
 v3:=laysJoin.v3
 t4:=laysJoin.t4
 a4:=laysJoin.a4
 z4:=laysJoin.z4
 v4:=laysJoin.v4
 t5:=extraJ.t5
 a5:=extraJ.a5
 z5:=extraJ.z5
 v5:=extraJ.v5
 t9:=laysJoin.t9
 a9:=laysJoin.a9
 z9:=laysJoin.z9
 v9:=laysJoin.v9
 t20:=laysJoin.t20
 a20:=laysJoin.a20
 z20:=laysJoin.z20
 v20:=laysJoin.v20
 t21:=Tryz.underlying21
 a21:=Tryz.isAgg21
 z21:=Tryz.sizeOf21
 v21:=Tryz.zeroValue21
 t37:=laysJoin.t37
 a37:=laysJoin.a37
 z37:=laysJoin.z37
 v37:=laysJoin.v37
 t46:=Tryz.underlying148
 a46:=Tryz.isAgg148
 z46:=Tryz.sizeOf148
 v46:=Tryz.zeroValue148
 t51:=Tryz.underlying81
 a51:=Tryz.isAgg81
 z51:=Tryz.sizeOf81
 v51:=Tryz.zeroValue81
 t70:=laysJoin.t70
 a70:=laysJoin.a70
 z70:=laysJoin.z70
 v70:=laysJoin.v70
 t72:=laysJoin.t72
 a72:=laysJoin.a72
 z72:=laysJoin.z72
 v72:=laysJoin.v72
 t75:=laysJoin.t75
 a75:=laysJoin.a75
 z75:=laysJoin.z75
 v75:=laysJoin.v75
 t164:=laysJoin.t164
 a164:=laysJoin.a164
 z164:=laysJoin.z164
 v164:=laysJoin.v164
theorem extraW:Builder.Extra Tryz.prog ren_wr where
 sizeBuilder:=by kernel_rfl
 liesBuilder:=by kernel_rfl
 t5:=Tryz.underlying5
 a5:=Tryz.isAgg5
 z5:=Tryz.sizeOf5
 v5:=Tryz.zeroValue5
 infoByte:=by kernel_rfl
 cellsByte:=by kernel_rfl
 sizeByte:=by kernel_rfl
 neB5:=by decide
theorem encN_cells (r:Nat) (h:r≤1114111):runeV (r:Int)→Lib.byteCells (encN r)=Lib.runeCells (r:Int):=by
 intro hr
 have b8: ∀n:Nat,n<256→((UInt8.ofNat n).toNat:Int)=n:=fun n hn=>by rw [UInt8.toNat_ofNat_of_lt' (by simpa using hn)]
 unfold encN Lib.byteCells Lib.runeCells
 by_cases c1:r<128
 ·rw [if_pos c1,Lib.encodeRuneZ_one (by omega) (by omega)]
  simp only [List.map_cons,List.map_nil,b8 r (by omega)]
 rw [if_neg c1]
 by_cases c2:r<2048
 ·rw [if_pos c2,Lib.encodeRuneZ_two (by omega) (by omega)]
  simp only [List.map_cons,List.map_nil,b8 (192+r / 64) (by omega),b8 (128+r%64) (by omega)]
  rfl
 rw [if_neg c2]
 by_cases c3:r<65536
 ·rw [if_pos c3,Lib.encodeRuneZ_three (by rcases hr with h|h<;>omega)]
  simp only [List.map_cons,List.map_nil,b8 (224+r / 4096) (by omega),b8 (128+r / 64%64) (by omega),b8 (128+r%64) (by omega)]
  rfl
 rw [if_neg c3,Lib.encodeRuneZ_four (by omega) (by omega)]
 simp only [List.map_cons,List.map_nil,b8 (240+r / 262144) (by omega),b8 (128+r / 4096%64) (by omega),b8 (128+r / 64%64) (by omega),b8 (128+r%64) (by omega)]
 rfl
theorem wr_spec {d:Nat} {b:Id} (hit:b.isIt=false) (hnwb:b.isNw d=false) {T n:Nat} (hT:bldAt Tryz.prog 143 T n) {c0:AV} (hc0:c0= .nilT b T n∨c0= .ptr b 0) (rest:List AV) (l:List UInt8) (r:Nat) (hr:runeV (r:Int)) (h:r≤1114111) (hl:l.length+4≤140737488355328):
  SpH Tryz.prog gl 130 d ⟨[.ptr b 0,.int .i32 r],[(b,c0:: .sl (byteRows l)::rest)],[(.b b 1,bk 5)]⟩ ⟨.tup [.int .i64 (encN r).length,.undef],[(b,.ptr b 0:: .sl (byteRows (l++encN r))::rest)],[(.b b 1,bk 5)]⟩:=
 wr_shelf laysWR extraW (by kernel_rfl) (by kernel_rfl) hit hnwb (T:=T) (n:=n) (hc0.imp (fun h=>⟨h,hT⟩) id) (rest:=rest) l (encN r) r hr (encN_cells r h hr) hl
end Go.Ai
namespace Go.Ai
open Go.Proofs Go.Shelf
def hexR (r:Int):Int:=if digR r=true then r - 48 else if 97≤r∧r≤102 then r - 87 else -1
theorem thex_spec (r:Int):Sp Tryz.prog gl 138 [i3 r] (i3 (hexR r)):=by
 refine s138 rfl rfl ?_
 have D:=tdigit_spec r
 unfold hexR
 cases hd:digR r
 ·rw [hd] at D
  rw [if_neg (by decide)]
  by_cases c1:97≤r
  ·by_cases c2:r≤102
   ·rw [if_pos ⟨c1,c2⟩]
    have t1:IntKind.i32.wrap (r - 97)=r - 97:=by rw [wrap_i32']<;>omega
    have t2:IntKind.i32.wrap (r - 97+10)=r - 87:=by rw [wrap_i32']<;>omega
    simp -implicitDefEqProofs [c138]
    refine onC_mk _ (D) ?_
    simp -implicitDefEqProofs [c1,c2,t1,t2]
   ·rw [if_neg (fun h=>c2 h.2)]
    simp -implicitDefEqProofs [c138]
    refine onC_mk _ (D) ?_
    simp -implicitDefEqProofs [c1,c2]
  ·rw [if_neg (fun h=>c1 h.1)]
   simp -implicitDefEqProofs [c138]
   refine onC_mk _ (D) ?_
   simp -implicitDefEqProofs [c1]
 ·rw [hd] at D
  rw [if_pos rfl]
  have hh:48≤r∧r≤57:=by unfold digR at hd;exact of_decide_eq_true hd
  have t1:IntKind.i32.wrap (r - 48)=r - 48:=by rw [wrap_i32']<;>omega
  simp -implicitDefEqProofs [c138]
  refine onC_mk _ (D) ?_
  simp -implicitDefEqProofs [t1]
def validR (r:Int):Bool:=decide (0≤r∧r<55296)||decide (57343<r∧r≤1114111)
theorem validR_iff (r:Int):validR r=true↔runeV r:=by
 unfold validR runeV
 rw [Bool.or_eq_true,decide_eq_true_iff,decide_eq_true_iff]
theorem vrune_spec (r:Int):Sp Tryz.prog gl 125 [i3 r] (.bool (validR r)):=by
 refine s125 rfl rfl ?_
 unfold validR
 by_cases d1:0≤r
 ·by_cases d2:r<55296
  ·simp [c125,d1,d2]
  ·by_cases c1:57343<r
   ·by_cases c2:r≤1114111
    ·simp [c125,d1,d2,c1,c2]
    ·simp [c125,d1,d2,c1,c2]
   ·simp [c125,d1,d2,c1]
 ·have d2: ¬57343<r:=by omega
  simp -implicitDefEqProofs [c125,d1,d2]
end Go.Ai
namespace Go.Ai
open Go.Proofs Go.Shelf
structure Rd where
 out:List Int
 st:Int
 n:Nat
 c:Nat
def rdHd (b:Id):List Int→List AV
 |[]=>[.nilT b 145 5,.nils]
 |r::l=>[.ptr b 0,.sl (byteRows (textR (r::l)))]
def rdPm (b:Id):List Int→List (Pl×Nat)
 |[]=>[]
 |r::l=>[(.b b 1,bk 5)]
def rdBx (b:Id) (x:Rd):List AV:=rdHd b x.out++[i6 x.st,i3 x.n,i6 x.c]
def afterR (x:Rd) (r:Int):Rd×Bool:=
 if r=34∨r=92 then ({x with st:=0,out:=x.out++[r]},true)
 else if r=110 then ({x with st:=0,out:=x.out++[10]},true)
 else if r=116 then ({x with st:=0,out:=x.out++[9]},true)
 else if r=117 then ({x with st:=2},true)
 else ({x with st:=0},false)
def withinR (x:Rd) (r:Int):Rd×Bool:=
 if 0≤hexR r∧x.c<6 then ({x with n:=16*x.n+(hexR r).toNat,c:=x.c+1},true)
 else if r≠125∨x.c=0∨validR x.n=false then (x,false)
 else ({x with out:=x.out++[(x.n:Int)],st:=0},true)
theorem bld_reader:bldAt Tryz.prog 143 145 5:=by unfold bldAt;kernel_rfl
theorem rdHd_snoc (b:Id) (l:List Int) (r:Nat):rdHd b (l++[(r:Int)])=[.ptr b 0,.sl (byteRows (textR l++encN r))]:=by
 have e:textR (l++[(r:Int)])=textR l++encN r:=by
  rw [textR_append]
  have:encR (r:Int)=encN r:=by unfold encR;rw [if_neg (by omega),Int.toNat_natCast]
  rw [textR,textR,List.append_nil,this]
 rw [←e]
 cases l<;>rfl
theorem rdPm_snoc (b:Id) (l:List Int) (r:Int):rdPm b (l++[r])=[(.b b 1,bk 5)]:=by cases l<;>rfl
theorem rafter_spec (x:Rd) (hl:x.out.length≤1000000) (r:Int) (d:Nat) (b:Id) (hb:b.isIt=false) (hbd:b.isNw d=false):
  SpH Tryz.prog gl 128 d ⟨[.ptr b 0,i3 r],[(b,rdBx b x)],rdPm b x.out⟩ ⟨.bool (afterR x r).2,[(b,rdBx b (afterR x r).1)],rdPm b (afterR x r).1.out⟩:=by
 refine h128 rfl ?_
 have hib:=inn_notNw hbd
 have ne: ∀z:Int,¬r=z→(r==z)=false:=fun z h=>beq_eq_false_iff_ne.2 h
 have tl:=textR_len x.out
 have W:=fun (q:Nat) (hq:runeV (q:Int)) (hq2:q≤1114111) (c0:AV) (hc0:c0= .nilT (.up b) 145 5∨c0= .ptr (.up b) 0) e he=>wr_spec (d:=e) (b:= .up b) hb he bld_reader hc0 [i6 0,i3 x.n,i6 x.c] (textR x.out) q hq hq2 (by omega)
 unfold afterR
 by_cases c1:r=34∨r=92
 ·rw [if_pos c1]
  dsimp only
  obtain ⟨q,rfl⟩: ∃q:Nat,r=q:=⟨r.toNat,by omega⟩
  have hq:runeV (q:Int):=by unfold runeV;omega
  have W:=W q hq (by omega)
  unfold rdBx
  rw [rdHd_snoc,rdPm_snoc]
  have c1':((q:Int)==34)=true∨(((q:Int)==34)=false∧((q:Int)==92)=true):=by
   by_cases h:(q:Int)=34
   ·left;rw [h];rfl
   ·right;exact ⟨beq_eq_false_iff_ne.2 h,by rw [beq_iff_eq];omega⟩
  cases hx:x.out with
  |nil=>
   rw [hx] at W
   have W:=W _ (.inl rfl)
   rw [show textR []=[] from rfl,List.nil_append] at W ⊢
   rw [show byteRows []=[] from rfl] at W
   generalize byteRows (encN q)=B at *
   simp only [rdHd,rdPm]
   simp only [inSt,mpB,mpL,AV.mp,mpP,Pl.mp,List.cons_append,List.nil_append]
   rcases c1' with c1'|⟨c1',c2'⟩
   ·simp [c128,c1']
    refine onH_mk _ _ (W _ rfl) ⟨?_,?_,?_,?_,?_,?_,?_⟩ ?_
    iterate 7 (· simp [hb])
    simp -implicitDefEqProofs
    refine postH_r ⟨?_,?_,?_,?_,?_,?_⟩<;>simp -implicitDefEqProofs [hib,hb]
   ·simp [c128,c1',c2']
    refine onH_mk _ _ (W _ rfl) ⟨?_,?_,?_,?_,?_,?_,?_⟩ ?_
    iterate 7 (· simp [hb])
    simp -implicitDefEqProofs
    refine postH_r ⟨?_,?_,?_,?_,?_,?_⟩<;>simp -implicitDefEqProofs [hib,hb]
  |cons a l=>
   rw [hx] at W
   have W:=W _ (.inr rfl)
   generalize byteRows (textR (a::l)++encN q)=B at *
   simp only [rdHd,rdPm]
   generalize byteRows (textR (a::l))=B0 at *
   simp only [inSt,mpB,mpL,AV.mp,mpP,Pl.mp,List.cons_append,List.nil_append]
   rcases c1' with c1'|⟨c1',c2'⟩
   ·simp [c128,c1']
    refine onH_mk _ _ (W _ rfl) ⟨?_,?_,?_,?_,?_,?_,?_⟩ ?_
    iterate 7 (· simp [hb])
    simp -implicitDefEqProofs
    refine postH_r ⟨?_,?_,?_,?_,?_,?_⟩<;>simp -implicitDefEqProofs [hib,hb]
   ·simp [c128,c1',c2']
    refine onH_mk _ _ (W _ rfl) ⟨?_,?_,?_,?_,?_,?_,?_⟩ ?_
    iterate 7 (· simp [hb])
    simp -implicitDefEqProofs
    refine postH_r ⟨?_,?_,?_,?_,?_,?_⟩<;>simp -implicitDefEqProofs [hib,hb]
 rw [if_neg c1]
 have n1:=ne 34 (fun h=>c1 (.inl h))
 have n2:=ne 92 (fun h=>c1 (.inr h))
 by_cases c3:r=110
 ·rw [if_pos c3]
  subst c3
  dsimp only
  have W:=W 10 (by unfold runeV;omega) (by omega)
  unfold rdBx
  rw [show (10:Int)=((10:Nat):Int) from rfl,rdHd_snoc,rdPm_snoc]
  cases hx:x.out with
  |nil=>
   rw [hx] at W
   have W:=W _ (.inl rfl)
   rw [show textR []=[] from rfl,List.nil_append] at W ⊢
   rw [show byteRows []=[] from rfl] at W
   generalize byteRows (encN 10)=B at *
   simp only [rdHd,rdPm]
   simp only [inSt,mpB,mpL,AV.mp,mpP,Pl.mp,List.cons_append,List.nil_append]
   simp -implicitDefEqProofs [c128]
   refine onH_mk _ _ (W _ rfl) ⟨?_,?_,?_,?_,?_,?_,?_⟩ ?_
   iterate 7 (· simp [hb])
   simp -implicitDefEqProofs
   refine postH_r ⟨?_,?_,?_,?_,?_,?_⟩<;>simp -implicitDefEqProofs [hib,hb]
  |cons a l=>
   rw [hx] at W
   have W:=W _ (.inr rfl)
   generalize byteRows (textR (a::l)++encN 10)=B at *
   simp only [rdHd,rdPm]
   generalize byteRows (textR (a::l))=B0 at *
   simp only [inSt,mpB,mpL,AV.mp,mpP,Pl.mp,List.cons_append,List.nil_append]
   simp -implicitDefEqProofs [c128]
   refine onH_mk _ _ (W _ rfl) ⟨?_,?_,?_,?_,?_,?_,?_⟩ ?_
   iterate 7 (· simp [hb])
   simp -implicitDefEqProofs
   refine postH_r ⟨?_,?_,?_,?_,?_,?_⟩<;>simp -implicitDefEqProofs [hib,hb]
 rw [if_neg c3]
 have n3:=ne 110 c3
 by_cases c4:r=116
 ·rw [if_pos c4]
  subst c4
  dsimp only
  have W:=W 9 (by unfold runeV;omega) (by omega)
  unfold rdBx
  rw [show (9:Int)=((9:Nat):Int) from rfl,rdHd_snoc,rdPm_snoc]
  cases hx:x.out with
  |nil=>
   rw [hx] at W
   have W:=W _ (.inl rfl)
   rw [show textR []=[] from rfl,List.nil_append] at W ⊢
   rw [show byteRows []=[] from rfl] at W
   generalize byteRows (encN 9)=B at *
   simp only [rdHd,rdPm]
   simp only [inSt,mpB,mpL,AV.mp,mpP,Pl.mp,List.cons_append,List.nil_append]
   simp -implicitDefEqProofs [c128]
   refine onH_mk _ _ (W _ rfl) ⟨?_,?_,?_,?_,?_,?_,?_⟩ ?_
   iterate 7 (· simp [hb])
   simp -implicitDefEqProofs
   refine postH_r ⟨?_,?_,?_,?_,?_,?_⟩<;>simp -implicitDefEqProofs [hib,hb]
  |cons a l=>
   rw [hx] at W
   have W:=W _ (.inr rfl)
   generalize byteRows (textR (a::l)++encN 9)=B at *
   simp only [rdHd,rdPm]
   generalize byteRows (textR (a::l))=B0 at *
   simp only [inSt,mpB,mpL,AV.mp,mpP,Pl.mp,List.cons_append,List.nil_append]
   simp -implicitDefEqProofs [c128]
   refine onH_mk _ _ (W _ rfl) ⟨?_,?_,?_,?_,?_,?_,?_⟩ ?_
   iterate 7 (· simp [hb])
   simp -implicitDefEqProofs
   refine postH_r ⟨?_,?_,?_,?_,?_,?_⟩<;>simp -implicitDefEqProofs [hib,hb]
 rw [if_neg c4]
 have n4:=ne 116 c4
 clear W
 by_cases c5:r=117
 ·rw [if_pos c5]
  subst c5
  dsimp only
  unfold rdBx
  cases hx:x.out with
  |nil=>
   simp only [rdHd,rdPm]
   simp only [inSt,mpB,mpL,AV.mp,mpP,Pl.mp,List.cons_append,List.nil_append]
   simp -implicitDefEqProofs [c128]
   refine postH_r ⟨?_,?_,?_,?_,?_,?_⟩<;>simp -implicitDefEqProofs [hib,hb]
  |cons a l=>
   simp only [rdHd,rdPm]
   generalize byteRows (textR (a::l))=B0 at *
   simp only [inSt,mpB,mpL,AV.mp,mpP,Pl.mp,List.cons_append,List.nil_append]
   simp -implicitDefEqProofs [c128]
   refine postH_r ⟨?_,?_,?_,?_,?_,?_⟩<;>simp -implicitDefEqProofs [hib,hb]
 rw [if_neg c5]
 have n5:=ne 117 c5
 dsimp only
 unfold rdBx
 cases hx:x.out with
 |nil=>
  simp only [rdHd,rdPm]
  simp only [inSt,mpB,mpL,AV.mp,mpP,Pl.mp,List.cons_append,List.nil_append]
  simp -implicitDefEqProofs [c128,n1,n2,n3,n4,n5]
  refine postH_r ⟨?_,?_,?_,?_,?_,?_⟩<;>simp -implicitDefEqProofs [hib,hb]
 |cons a l=>
  simp only [rdHd,rdPm]
  generalize byteRows (textR (a::l))=B0 at *
  simp only [inSt,mpB,mpL,AV.mp,mpP,Pl.mp,List.cons_append,List.nil_append]
  simp -implicitDefEqProofs [c128,n1,n2,n3,n4,n5]
  refine postH_r ⟨?_,?_,?_,?_,?_,?_⟩<;>simp -implicitDefEqProofs [hib,hb]
end Go.Ai
namespace Go.Ai
open Go.Proofs Go.Shelf
theorem hexR_lt (r:Int):hexR r<16:=by
 unfold hexR digR
 split
 ·rename_i h
  have:=of_decide_eq_true h
  omega
 ·split<;>omega
theorem or_hex (x h:Nat) (hx:x<16777216) (hh:h<16):bits BinOp.or IntKind.i32 ((x*16:Nat):Int) (h:Int)=((16*x+h:Nat):Int):=by
 have hx2:x*16|||h=16*x+h:=by
  rw [show x*16=2^4*x by omega,←Nat.two_pow_add_eq_or_of_lt (by omega)]
 have h1:(BitVec.ofInt 32 ((x*16:Nat):Int)).toNat=x*16:=by
  rw [BitVec.ofInt_natCast,BitVec.toNat_ofNat];exact Nat.mod_eq_of_lt (by omega)
 have h2:(BitVec.ofInt 32 (h:Int)).toNat=h:=by
  rw [BitVec.ofInt_natCast,BitVec.toNat_ofNat];exact Nat.mod_eq_of_lt (by omega)
 show IntKind.i32.wrap ((BitVec.ofInt 32 ((x*16:Nat):Int)|||BitVec.ofInt 32 (h:Int)).toNat:Int)=_
 rw [BitVec.toNat_or,h1,h2,hx2,wrap_i32']<;>omega
theorem shl_hex (x:Nat) (hx:x<16777216):IntKind.i32.wrap ((x:Int)*2^(min 4 IntKind.i32.bits))=((x*16:Nat):Int):=by
 have e:(2:Int)^(min 4 IntKind.i32.bits)=16:=by decide
 rw [e,wrap_i32']<;>omega
theorem rwithinR_spec (x:Rd) (hl:x.out.length≤1000000) (hc:x.c≤6) (hn:x.n<16^x.c) (r:Int) (d:Nat) (b:Id) (hb:b.isIt=false) (hbd:b.isNw d=false):
  SpH Tryz.prog gl 129 d ⟨[.ptr b 0,i3 r],[(b,rdBx b x)],rdPm b x.out⟩ ⟨.bool (withinR x r).2,[(b,rdBx b (withinR x r).1)],rdPm b (withinR x r).1.out⟩:=by
 refine h129 rfl ?_
 have hib:=inn_notNw hbd
 have tl:=textR_len x.out
 have HX:=thex_spec r
 have hlt:=hexR_lt r
 have nlt:x.n<16777216:=Nat.lt_of_lt_of_le hn (Nat.le_trans (Nat.pow_le_pow_right (by omega) hc) (by decide))
 have VS:=vrune_spec (x.n:Int)
 unfold withinR
 by_cases c1:0≤hexR r∧x.c<6
 ·rw [if_pos c1]
  dsimp only
  obtain ⟨h,hh⟩: ∃h:Nat,hexR r=h:=⟨(hexR r).toNat,by omega⟩
  rw [hh] at HX hlt c1 ⊢
  rw [Int.toNat_natCast]
  have k1:=shl_hex x.n nlt
  have k2:=or_hex x.n h nlt (by omega)
  have k3:IntKind.i64.wrap ((x.c:Int)+1)=(x.c+1:Nat):=by rw [wrap_i64]<;>omega
  have k4:(x.c:Int)<6:=by omega
  have k5:=c1.2
  have k6:=c1.1
  have kk:((16*x.n+h:Nat):Int)=16*(x.n:Int)+h:=by omega
  rw [kk] at k2
  generalize ((x.n*16:Nat):Int)=SV at *
  unfold rdBx
  clear VS
  cases hx:x.out with
  |nil=>
   simp only [rdHd,rdPm]
   simp only [inSt,mpB,mpL,AV.mp,mpP,Pl.mp,List.cons_append,List.nil_append]
   simp -implicitDefEqProofs [c129]
   refine onC_mk _ (HX) ?_
   simp -implicitDefEqProofs [k1,k2,k3,k4,k5,k6]
   refine postH_r ⟨?_,?_,?_,?_,?_,?_⟩<;>simp -implicitDefEqProofs [hib,hb]
  |cons a l=>
   simp only [rdHd,rdPm]
   generalize byteRows (textR (a::l))=B0 at *
   simp only [inSt,mpB,mpL,AV.mp,mpP,Pl.mp,List.cons_append,List.nil_append]
   simp -implicitDefEqProofs [c129]
   refine onC_mk _ (HX) ?_
   simp -implicitDefEqProofs [k1,k2,k3,k4,k5,k6]
   refine postH_r ⟨?_,?_,?_,?_,?_,?_⟩<;>simp -implicitDefEqProofs [hib,hb]
 rw [if_neg c1]
 by_cases c2:r=125
 ·subst c2
  have e:hexR 125= -1:=by decide
  rw [e] at HX
  by_cases c3:x.c=0
  ·rw [if_pos (.inr (.inl c3))]
   dsimp only
   unfold rdBx
   clear VS
   cases hx:x.out with
   |nil=>
    simp only [rdHd,rdPm]
    simp only [inSt,mpB,mpL,AV.mp,mpP,Pl.mp,List.cons_append,List.nil_append]
    simp -implicitDefEqProofs [c129]
    refine onC_mk _ (HX) ?_
    simp -implicitDefEqProofs [c3]
    refine postH_r ⟨?_,?_,?_,?_,?_,?_⟩<;>simp -implicitDefEqProofs [hib,hb,c3]
   |cons a l=>
    simp only [rdHd,rdPm]
    generalize byteRows (textR (a::l))=B0 at *
    simp only [inSt,mpB,mpL,AV.mp,mpP,Pl.mp,List.cons_append,List.nil_append]
    simp -implicitDefEqProofs [c129]
    refine onC_mk _ (HX) ?_
    simp -implicitDefEqProofs [c3]
    refine postH_r ⟨?_,?_,?_,?_,?_,?_⟩<;>simp -implicitDefEqProofs [hib,hb,c3]
  ·have c3':((x.c:Int)==0)=false:=beq_eq_false_iff_ne.2 (by omega)
   cases hv:validR (x.n:Int)
   ·rw [hv] at VS
    rw [if_pos (.inr (.inr rfl))]
    dsimp only
    unfold rdBx
    cases hx:x.out with
    |nil=>
     simp only [rdHd,rdPm]
     simp only [inSt,mpB,mpL,AV.mp,mpP,Pl.mp,List.cons_append,List.nil_append]
     simp -implicitDefEqProofs [c129]
     refine onC_mk _ (HX) ?_
     simp -implicitDefEqProofs [c3,c3']
     refine onC_mk _ (VS) ?_
     simp -implicitDefEqProofs
     refine postH_r ⟨?_,?_,?_,?_,?_,?_⟩<;>simp -implicitDefEqProofs [hib,hb]
    |cons a l=>
     simp only [rdHd,rdPm]
     generalize byteRows (textR (a::l))=B0 at *
     simp only [inSt,mpB,mpL,AV.mp,mpP,Pl.mp,List.cons_append,List.nil_append]
     simp -implicitDefEqProofs [c129]
     refine onC_mk _ (HX) ?_
     simp -implicitDefEqProofs [c3,c3']
     refine onC_mk _ (VS) ?_
     simp -implicitDefEqProofs
     refine postH_r ⟨?_,?_,?_,?_,?_,?_⟩<;>simp -implicitDefEqProofs [hib,hb]
   ·rw [hv] at VS
    rw [if_neg (by rintro (h|h|h)<;>first|exact h rfl|exact c3 h|cases h)]
    dsimp only
    have hq:=(validR_iff _).1 hv
    have W:=fun (s6:Int) (c0:AV) (hc0:c0= .nilT (.up b) 145 5∨c0= .ptr (.up b) 0) (e:Nat) (he:(Id.up b).isNw e=false)=>wr_spec (d:=e) (b:= .up b) hb he bld_reader hc0 [i6 s6,i3 x.n,i6 x.c] (textR x.out) x.n hq (by unfold runeV at hq;omega) (by omega)
    unfold rdBx
    rw [rdHd_snoc,rdPm_snoc]
    cases hx:x.out with
    |nil=>
     rw [hx] at W
     have W:=fun s6=>W s6 _ (.inl rfl)
     rw [show textR []=[] from rfl] at W ⊢
     simp only [List.nil_append] at W ⊢
     rw [show byteRows []=[] from rfl] at W
     generalize byteRows (encN x.n)=B at *
     simp only [rdHd,rdPm]
     simp only [inSt,mpB,mpL,AV.mp,mpP,Pl.mp,List.cons_append,List.nil_append]
     simp -implicitDefEqProofs [c129]
     refine onC_mk _ (HX) ?_
     simp -implicitDefEqProofs [c3,c3']
     refine onC_mk _ (VS) ?_
     simp -implicitDefEqProofs
     refine onH_mk _ _ (W x.st _ rfl) ⟨?_,?_,?_,?_,?_,?_,?_⟩ ?_
     iterate 7 (· simp [hb])
     simp -implicitDefEqProofs
     refine postH_r ⟨?_,?_,?_,?_,?_,?_⟩<;>simp -implicitDefEqProofs [hib,hb]
    |cons a l=>
     rw [hx] at W
     have W:=fun s6=>W s6 _ (.inr rfl)
     generalize byteRows (textR (a::l)++encN x.n)=B at *
     simp only [rdHd,rdPm]
     generalize byteRows (textR (a::l))=B0 at *
     simp only [inSt,mpB,mpL,AV.mp,mpP,Pl.mp,List.cons_append,List.nil_append]
     simp -implicitDefEqProofs [c129]
     refine onC_mk _ (HX) ?_
     simp -implicitDefEqProofs [c3,c3']
     refine onC_mk _ (VS) ?_
     simp -implicitDefEqProofs
     refine onH_mk _ _ (W x.st _ rfl) ⟨?_,?_,?_,?_,?_,?_,?_⟩ ?_
     iterate 7 (· simp [hb])
     simp -implicitDefEqProofs
     refine postH_r ⟨?_,?_,?_,?_,?_,?_⟩<;>simp -implicitDefEqProofs [hib,hb]
 ·rw [if_pos (.inl c2)]
  dsimp only
  have c2':(r !=125)=true:=bne_iff_ne.2 c2
  have c2'':(r==125)=false:=beq_eq_false_iff_ne.2 c2
  unfold rdBx
  clear VS
  by_cases c3:0≤hexR r
  ·have c4: ¬x.c<6:=fun h=>c1 ⟨c3,h⟩
   have c4': ¬(x.c:Int)<6:=by omega
   cases hx:x.out with
   |nil=>
    simp only [rdHd,rdPm]
    simp only [inSt,mpB,mpL,AV.mp,mpP,Pl.mp,List.cons_append,List.nil_append]
    simp -implicitDefEqProofs [c129]
    refine onC_mk _ (HX) ?_
    simp -implicitDefEqProofs [c3,c4,c4',c2',c2'']
    refine postH_r ⟨?_,?_,?_,?_,?_,?_⟩<;>simp -implicitDefEqProofs [hib,hb]
   |cons a l=>
    simp only [rdHd,rdPm]
    generalize byteRows (textR (a::l))=B0 at *
    simp only [inSt,mpB,mpL,AV.mp,mpP,Pl.mp,List.cons_append,List.nil_append]
    simp -implicitDefEqProofs [c129]
    refine onC_mk _ (HX) ?_
    simp -implicitDefEqProofs [c3,c4,c4',c2',c2'']
    refine postH_r ⟨?_,?_,?_,?_,?_,?_⟩<;>simp -implicitDefEqProofs [hib,hb]
  ·cases hx:x.out with
   |nil=>
    simp only [rdHd,rdPm]
    simp only [inSt,mpB,mpL,AV.mp,mpP,Pl.mp,List.cons_append,List.nil_append]
    simp -implicitDefEqProofs [c129]
    refine onC_mk _ (HX) ?_
    simp -implicitDefEqProofs [c3,c2',c2'']
    refine postH_r ⟨?_,?_,?_,?_,?_,?_⟩<;>simp -implicitDefEqProofs [hib,hb]
   |cons a l=>
    simp only [rdHd,rdPm]
    generalize byteRows (textR (a::l))=B0 at *
    simp only [inSt,mpB,mpL,AV.mp,mpP,Pl.mp,List.cons_append,List.nil_append]
    simp -implicitDefEqProofs [c129]
    refine onC_mk _ (HX) ?_
    simp -implicitDefEqProofs [c3,c2',c2'']
    refine postH_r ⟨?_,?_,?_,?_,?_,?_⟩<;>simp -implicitDefEqProofs [hib,hb]
end Go.Ai
namespace Go.Ai
open Go.Proofs Go.Shelf
def takeU (x:Rd) (r:Int):Rd×Bool:=
 if x.st=1 then afterR x r
 else if x.st=2 then ({x with st:=3,n:=0,c:=0},decide (r=123))
 else if x.st=3 then withinR x r
 else if x.st=4 then (x,false)
 else if r=34 then ({x with st:=4},true)
 else if r=92 then ({x with st:=1},true)
 else if r<32∨r=127 then (x,false)
 else ({x with out:=x.out++[r]},true)
theorem rtakeU_spec (x:Rd) (hl:x.out.length≤1000000) (hc:x.c≤6) (hn:x.n<16^x.c) (r:Int) (hr:runeV r) (d:Nat) (b:Id) (hb:b.isIt=false) (hbd:b.isNw d=false):
  SpH Tryz.prog gl 108 d ⟨[.ptr b 0,i3 r],[(b,rdBx b x)],rdPm b x.out⟩ ⟨.bool (takeU x r).2,[(b,rdBx b (takeU x r).1)],rdPm b (takeU x r).1.out⟩:=by
 refine h108 rfl ?_
 have hib:=inn_notNw hbd
 have tl:=textR_len x.out
 have ne: ∀z:Int,¬r=z→(r==z)=false:=fun z h=>beq_eq_false_iff_ne.2 h
 have A:=fun e=>rafter_spec x hl r e (.up b) hb
 have I:=fun e=>rwithinR_spec x hl hc hn r e (.up b) hb
 unfold takeU
 by_cases c1:x.st=1
 ·rw [if_pos c1]
  clear I
  generalize (afterR x r).2=ok at *
  generalize (afterR x r).1=y at *
  unfold rdBx at *
  cases hx:x.out with
  |nil=>
   rw [hx] at A
   cases hy:y.out with
   |nil=>
    rw [hy] at A
    simp only [rdHd,rdPm,List.cons_append,List.nil_append] at A ⊢
    simp only [inSt,mpB,mpL,AV.mp,mpP,Pl.mp,List.cons_append,List.nil_append]
    simp -implicitDefEqProofs [c108,c1]
    refine onH_mk _ _ (A _ rfl) ⟨?_,?_,?_,?_,?_,?_,?_⟩ ?_
    iterate 7 (· simp [hb,c1])
    simp -implicitDefEqProofs
    refine postH_r ⟨?_,?_,?_,?_,?_,?_⟩<;>simp -implicitDefEqProofs [hib,hb]
   |cons a2 l2=>
    rw [hy] at A
    simp only [rdHd,rdPm,List.cons_append,List.nil_append] at A ⊢
    generalize byteRows (textR (a2::l2))=B1 at *
    simp only [inSt,mpB,mpL,AV.mp,mpP,Pl.mp,List.cons_append,List.nil_append]
    simp -implicitDefEqProofs [c108,c1]
    refine onH_mk _ _ (A _ rfl) ⟨?_,?_,?_,?_,?_,?_,?_⟩ ?_
    iterate 7 (· simp [hb,c1])
    simp -implicitDefEqProofs
    refine postH_r ⟨?_,?_,?_,?_,?_,?_⟩<;>simp -implicitDefEqProofs [hib,hb]
  |cons a l=>
   rw [hx] at A
   cases hy:y.out with
   |nil=>
    rw [hy] at A
    simp only [rdHd,rdPm,List.cons_append,List.nil_append] at A ⊢
    generalize byteRows (textR (a::l))=B0 at *
    simp only [inSt,mpB,mpL,AV.mp,mpP,Pl.mp,List.cons_append,List.nil_append]
    simp -implicitDefEqProofs [c108,c1]
    refine onH_mk _ _ (A _ rfl) ⟨?_,?_,?_,?_,?_,?_,?_⟩ ?_
    iterate 7 (· simp [hb,c1])
    simp -implicitDefEqProofs
    refine postH_r ⟨?_,?_,?_,?_,?_,?_⟩<;>simp -implicitDefEqProofs [hib,hb]
   |cons a2 l2=>
    rw [hy] at A
    simp only [rdHd,rdPm,List.cons_append,List.nil_append] at A ⊢
    generalize byteRows (textR (a2::l2))=B1 at *
    generalize byteRows (textR (a::l))=B0 at *
    simp only [inSt,mpB,mpL,AV.mp,mpP,Pl.mp,List.cons_append,List.nil_append]
    simp -implicitDefEqProofs [c108,c1]
    refine onH_mk _ _ (A _ rfl) ⟨?_,?_,?_,?_,?_,?_,?_⟩ ?_
    iterate 7 (· simp [hb,c1])
    simp -implicitDefEqProofs
    refine postH_r ⟨?_,?_,?_,?_,?_,?_⟩<;>simp -implicitDefEqProofs [hib,hb]
 rw [if_neg c1]
 have n1:(x.st==1)=false:=beq_eq_false_iff_ne.2 c1
 clear A
 by_cases c2:x.st=2
 ·rw [if_pos c2]
  clear I
  dsimp only
  have e:(r==123)=decide (r=123):=by by_cases h:r=123<;>simp [h]
  rw [←e]
  unfold rdBx
  cases hx:x.out with
  |nil=>
   simp only [rdHd,rdPm,List.cons_append,List.nil_append]
   simp only [inSt,mpB,mpL,AV.mp,mpP,Pl.mp,List.cons_append,List.nil_append]
   simp -implicitDefEqProofs [c108,c2]
   refine postH_r ⟨?_,?_,?_,?_,?_,?_⟩<;>simp -implicitDefEqProofs [hib,hb]
  |cons a l=>
   simp only [rdHd,rdPm,List.cons_append,List.nil_append]
   generalize byteRows (textR (a::l))=B0 at *
   simp only [inSt,mpB,mpL,AV.mp,mpP,Pl.mp,List.cons_append,List.nil_append]
   simp -implicitDefEqProofs [c108,c2]
   refine postH_r ⟨?_,?_,?_,?_,?_,?_⟩<;>simp -implicitDefEqProofs [hib,hb]
 rw [if_neg c2]
 have n2:(x.st==2)=false:=beq_eq_false_iff_ne.2 c2
 by_cases c3:x.st=3
 ·rw [if_pos c3]
  generalize (withinR x r).2=ok at *
  generalize (withinR x r).1=y at *
  unfold rdBx at *
  cases hx:x.out with
  |nil=>
   rw [hx] at I
   cases hy:y.out with
   |nil=>
    rw [hy] at I
    simp only [rdHd,rdPm,List.cons_append,List.nil_append] at I ⊢
    simp only [inSt,mpB,mpL,AV.mp,mpP,Pl.mp,List.cons_append,List.nil_append]
    simp -implicitDefEqProofs [c108,c3]
    refine onH_mk _ _ (I _ rfl) ⟨?_,?_,?_,?_,?_,?_,?_⟩ ?_
    iterate 7 (· simp [hb,c3])
    simp -implicitDefEqProofs
    refine postH_r ⟨?_,?_,?_,?_,?_,?_⟩<;>simp -implicitDefEqProofs [hib,hb]
   |cons a2 l2=>
    rw [hy] at I
    simp only [rdHd,rdPm,List.cons_append,List.nil_append] at I ⊢
    generalize byteRows (textR (a2::l2))=B1 at *
    simp only [inSt,mpB,mpL,AV.mp,mpP,Pl.mp,List.cons_append,List.nil_append]
    simp -implicitDefEqProofs [c108,c3]
    refine onH_mk _ _ (I _ rfl) ⟨?_,?_,?_,?_,?_,?_,?_⟩ ?_
    iterate 7 (· simp [hb,c3])
    simp -implicitDefEqProofs
    refine postH_r ⟨?_,?_,?_,?_,?_,?_⟩<;>simp -implicitDefEqProofs [hib,hb]
  |cons a l=>
   rw [hx] at I
   cases hy:y.out with
   |nil=>
    rw [hy] at I
    simp only [rdHd,rdPm,List.cons_append,List.nil_append] at I ⊢
    generalize byteRows (textR (a::l))=B0 at *
    simp only [inSt,mpB,mpL,AV.mp,mpP,Pl.mp,List.cons_append,List.nil_append]
    simp -implicitDefEqProofs [c108,c3]
    refine onH_mk _ _ (I _ rfl) ⟨?_,?_,?_,?_,?_,?_,?_⟩ ?_
    iterate 7 (· simp [hb,c3])
    simp -implicitDefEqProofs
    refine postH_r ⟨?_,?_,?_,?_,?_,?_⟩<;>simp -implicitDefEqProofs [hib,hb]
   |cons a2 l2=>
    rw [hy] at I
    simp only [rdHd,rdPm,List.cons_append,List.nil_append] at I ⊢
    generalize byteRows (textR (a2::l2))=B1 at *
    generalize byteRows (textR (a::l))=B0 at *
    simp only [inSt,mpB,mpL,AV.mp,mpP,Pl.mp,List.cons_append,List.nil_append]
    simp -implicitDefEqProofs [c108,c3]
    refine onH_mk _ _ (I _ rfl) ⟨?_,?_,?_,?_,?_,?_,?_⟩ ?_
    iterate 7 (· simp [hb,c3])
    simp -implicitDefEqProofs
    refine postH_r ⟨?_,?_,?_,?_,?_,?_⟩<;>simp -implicitDefEqProofs [hib,hb]
 rw [if_neg c3]
 have n3:(x.st==3)=false:=beq_eq_false_iff_ne.2 c3
 clear I
 by_cases c4:x.st=4
 ·rw [if_pos c4]
  dsimp only
  unfold rdBx
  cases hx:x.out with
  |nil=>
   simp only [rdHd,rdPm,List.cons_append,List.nil_append]
   simp only [inSt,mpB,mpL,AV.mp,mpP,Pl.mp,List.cons_append,List.nil_append]
   simp -implicitDefEqProofs [c108,c4]
   refine postH_r ⟨?_,?_,?_,?_,?_,?_⟩<;>simp -implicitDefEqProofs [hib,hb,c4]
  |cons a l=>
   simp only [rdHd,rdPm,List.cons_append,List.nil_append]
   generalize byteRows (textR (a::l))=B0 at *
   simp only [inSt,mpB,mpL,AV.mp,mpP,Pl.mp,List.cons_append,List.nil_append]
   simp -implicitDefEqProofs [c108,c4]
   refine postH_r ⟨?_,?_,?_,?_,?_,?_⟩<;>simp -implicitDefEqProofs [hib,hb,c4]
 rw [if_neg c4]
 have n4:(x.st==4)=false:=beq_eq_false_iff_ne.2 c4
 by_cases d1:r=34
 ·rw [if_pos d1]
  subst d1
  dsimp only
  unfold rdBx
  cases hx:x.out with
  |nil=>
   simp only [rdHd,rdPm,List.cons_append,List.nil_append]
   simp only [inSt,mpB,mpL,AV.mp,mpP,Pl.mp,List.cons_append,List.nil_append]
   simp -implicitDefEqProofs [c108,n1,n2,n3,n4]
   refine postH_r ⟨?_,?_,?_,?_,?_,?_⟩<;>simp -implicitDefEqProofs [hib,hb]
  |cons a l=>
   simp only [rdHd,rdPm,List.cons_append,List.nil_append]
   generalize byteRows (textR (a::l))=B0 at *
   simp only [inSt,mpB,mpL,AV.mp,mpP,Pl.mp,List.cons_append,List.nil_append]
   simp -implicitDefEqProofs [c108,n1,n2,n3,n4]
   refine postH_r ⟨?_,?_,?_,?_,?_,?_⟩<;>simp -implicitDefEqProofs [hib,hb]
 rw [if_neg d1]
 have m1:=ne 34 d1
 by_cases d2:r=92
 ·rw [if_pos d2]
  subst d2
  dsimp only
  unfold rdBx
  cases hx:x.out with
  |nil=>
   simp only [rdHd,rdPm,List.cons_append,List.nil_append]
   simp only [inSt,mpB,mpL,AV.mp,mpP,Pl.mp,List.cons_append,List.nil_append]
   simp -implicitDefEqProofs [c108,n1,n2,n3,n4]
   refine postH_r ⟨?_,?_,?_,?_,?_,?_⟩<;>simp -implicitDefEqProofs [hib,hb]
  |cons a l=>
   simp only [rdHd,rdPm,List.cons_append,List.nil_append]
   generalize byteRows (textR (a::l))=B0 at *
   simp only [inSt,mpB,mpL,AV.mp,mpP,Pl.mp,List.cons_append,List.nil_append]
   simp -implicitDefEqProofs [c108,n1,n2,n3,n4]
   refine postH_r ⟨?_,?_,?_,?_,?_,?_⟩<;>simp -implicitDefEqProofs [hib,hb]
 rw [if_neg d2]
 have m2:=ne 92 d2
 by_cases d3:r<32∨r=127
 ·rw [if_pos d3]
  dsimp only
  have d4:r<32∨(¬r<32∧(r==127)=true):=by
   by_cases h:r<32
   ·exact .inl h
   ·exact .inr ⟨h,by rw [beq_iff_eq];omega⟩
  unfold rdBx
  cases hx:x.out with
  |nil=>
   simp only [rdHd,rdPm,List.cons_append,List.nil_append]
   simp only [inSt,mpB,mpL,AV.mp,mpP,Pl.mp,List.cons_append,List.nil_append]
   rcases d4 with d4|⟨d4,d5⟩
   ·simp [c108,n1,n2,n3,n4,m1,m2,d4]
    refine postH_r ⟨?_,?_,?_,?_,?_,?_⟩<;>simp -implicitDefEqProofs [hib,hb]
   ·simp [c108,n1,n2,n3,n4,m1,m2,d4,d5]
    refine postH_r ⟨?_,?_,?_,?_,?_,?_⟩<;>simp -implicitDefEqProofs [hib,hb]
  |cons a l=>
   simp only [rdHd,rdPm,List.cons_append,List.nil_append]
   generalize byteRows (textR (a::l))=B0 at *
   simp only [inSt,mpB,mpL,AV.mp,mpP,Pl.mp,List.cons_append,List.nil_append]
   rcases d4 with d4|⟨d4,d5⟩
   ·simp [c108,n1,n2,n3,n4,m1,m2,d4]
    refine postH_r ⟨?_,?_,?_,?_,?_,?_⟩<;>simp -implicitDefEqProofs [hib,hb]
   ·simp [c108,n1,n2,n3,n4,m1,m2,d4,d5]
    refine postH_r ⟨?_,?_,?_,?_,?_,?_⟩<;>simp -implicitDefEqProofs [hib,hb]
 rw [if_neg d3]
 have d4: ¬r<32:=fun h=>d3 (.inl h)
 have d5:=ne 127 (fun h=>d3 (.inr h))
 obtain ⟨q,rfl⟩: ∃q:Nat,r=q:=⟨r.toNat,by omega⟩
 have W:=fun (c0:AV) (hc0:c0= .nilT (.up b) 145 5∨c0= .ptr (.up b) 0) (e:Nat) (he:(Id.up b).isNw e=false)=>wr_spec (d:=e) (b:= .up b) hb he bld_reader hc0 [i6 x.st,i3 x.n,i6 x.c] (textR x.out) q hr (by unfold runeV at hr;omega) (by omega)
 dsimp only
 unfold rdBx
 rw [rdHd_snoc,rdPm_snoc]
 cases hx:x.out with
 |nil=>
  rw [hx] at W
  have W:=W _ (.inl rfl)
  rw [show textR []=[] from rfl] at W ⊢
  simp only [List.nil_append] at W ⊢
  rw [show byteRows []=[] from rfl] at W
  generalize byteRows (encN q)=B at *
  simp only [rdHd,rdPm]
  simp only [inSt,mpB,mpL,AV.mp,mpP,Pl.mp,List.cons_append,List.nil_append]
  simp -implicitDefEqProofs [c108,n1,n2,n3,n4,m1,m2,d4,d5]
  refine onH_mk _ _ (W _ rfl) ⟨?_,?_,?_,?_,?_,?_,?_⟩ ?_
  iterate 7 (· simp [hb])
  simp -implicitDefEqProofs
  refine postH_r ⟨?_,?_,?_,?_,?_,?_⟩<;>simp -implicitDefEqProofs [hib,hb]
 |cons a l=>
  rw [hx] at W
  have W:=W _ (.inr rfl)
  generalize byteRows (textR (a::l)++encN q)=B at *
  simp only [rdHd,rdPm]
  generalize byteRows (textR (a::l))=B0 at *
  simp only [inSt,mpB,mpL,AV.mp,mpP,Pl.mp,List.cons_append,List.nil_append]
  simp -implicitDefEqProofs [c108,n1,n2,n3,n4,m1,m2,d4,d5]
  refine onH_mk _ _ (W _ rfl) ⟨?_,?_,?_,?_,?_,?_,?_⟩ ?_
  iterate 7 (· simp [hb])
  simp -implicitDefEqProofs
  refine postH_r ⟨?_,?_,?_,?_,?_,?_⟩<;>simp -implicitDefEqProofs [hib,hb]
open Go.Proofs
structure Lb where
 n:List UInt8
 t:List UInt8
 deriving DecidableEq
structure Ru where
 n:List UInt8
 p:Bool
 l:Int
 s:Int
 f:Nat
 w:Int
 k:Int
 deriving DecidableEq
structure Gl where
 n:List UInt8
 t:Nat
 g:Int
 a:Int
 o:Int
 c:Int
 lb:List Lb
 ru:List Ru
 deriving DecidableEq
structure Cf where
 gs:List Gl
 r:Int
 v:Int
 i:Int
 x:Int
 y:Int
def Lb.row (x:Lb):List AV:=[.str x.n,.str x.t]
def Ru.row (x:Ru):List AV:=[.str x.n,.bool x.p,i6 x.l,i6 x.s,u x.f,i6 x.w,i6 x.k]
def Gl.row (x:Gl):List AV:=[.str x.n,.int .u32 x.t,i6 x.g,i6 x.a,i6 x.o,i6 x.c,.sl (x.lb.map Lb.row),.sl (x.ru.map Ru.row)]
def Cf.row (x:Cf):List AV:=[.sl (x.gs.map Gl.row),i6 x.r,i6 x.v,i6 x.i,i6 x.x,i6 x.y]
end Go.Ai
