/- P14: a part of the proof: the rules, or what functions compute. Conditions: as each theorem says. -/
import Derived.Test.YthonkjadcpdphaaGreatDoorP13
import Derived.Test.YthonkjadcpdphaaGreatDoorP5
set_option linter.unusedSimpArgs false
set_option linter.unusedVariables false
set_option maxRecDepth 20000
namespace Go.Ai
open Go.Proofs Go.Shelf
structure Rd where
 out:List Int
 st:Int
 n:Nat
 c:Nat
def rdHd (b:Id):List Int→List AV
 |[]=>[.nilT b 281 5,.nils]
 |r::l=>[.ptr b 0,.sl (byteRows (textR (r::l)))]
def rdPm (b:Id):List Int→List (Pl×Nat)
 |[]=>[]
 |r::l=>[(.b b 1,bk 5)]
def rdBx (b:Id) (x:Rd):List AV:=rdHd b x.out++[i6 x.st,i3 x.n,i6 x.c]
def afterR (x:Rd) (r:Int):Rd×Bool:=
 if r=34∨r=92 then ({x with st:=0,out:=x.out++[r]},true)
 else if r=110 then ({x with st:=0,out:=x.out++[10]},true)
 else if r=116 then ({x with st:=0,out:=x.out++[9]},true)
 else if r=117 then ({x with st:=2},true)
 else ({x with st:=0},false)
def withinR (x:Rd) (r:Int):Rd×Bool:=
 if 0≤hexR r∧x.c<6 then ({x with n:=16*x.n+(hexR r).toNat,c:=x.c+1},true)
 else if r≠125∨x.c=0∨validR x.n=false then (x,false)
 else ({x with out:=x.out++[(x.n:Int)],st:=0},true)
theorem bld_reader:bldAt Tryz.prog 173 281 5:=by unfold bldAt;kernel_rfl
theorem rdHd_snoc (b:Id) (l:List Int) (r:Nat):rdHd b (l++[(r:Int)])=[.ptr b 0,.sl (byteRows (textR l++encN r))]:=by
 have e:textR (l++[(r:Int)])=textR l++encN r:=by
  rw [textR_append]
  have:encR (r:Int)=encN r:=by unfold encR;rw [if_neg (by omega),Int.toNat_natCast]
  rw [textR,textR,List.append_nil,this]
 rw [←e]
 cases l<;>rfl
theorem rdPm_snoc (b:Id) (l:List Int) (r:Int):rdPm b (l++[r])=[(.b b 1,bk 5)]:=by cases l<;>rfl
theorem rafter_spec (x:Rd) (hl:x.out.length≤1000000) (r:Int) (d:Nat) (b:Id) (hb:b.isIt=false) (hbd:b.isNw d=false):
  SpH Tryz.prog gl 274 d ⟨[.ptr b 0,i3 r],[(b,rdBx b x)],rdPm b x.out⟩ ⟨.bool (afterR x r).2,[(b,rdBx b (afterR x r).1)],rdPm b (afterR x r).1.out⟩:=by
 refine h274 rfl ?_
 have hib:=inn_notNw hbd
 have ne: ∀z:Int,¬r=z→(r==z)=false:=fun z h=>beq_eq_false_iff_ne.2 h
 have tl:=textR_len x.out
 have W:=fun (q:Nat) (hq:runeV (q:Int)) (hq2:q≤1114111) (c0:AV) (hc0:c0= .nilT (.up b) 281 5∨c0= .ptr (.up b) 0) e he=>wr_spec (d:=e) (b:= .up b) hb he bld_reader hc0 [i6 0,i3 x.n,i6 x.c] (textR x.out) q hq hq2 (by omega)
 unfold afterR
 by_cases c1:r=34∨r=92
 ·rw [if_pos c1]
  dsimp only
  obtain ⟨q,rfl⟩: ∃q:Nat,r=q:=⟨r.toNat,by omega⟩
  have hq:runeV (q:Int):=by unfold runeV;omega
  have W:=W q hq (by omega)
  unfold rdBx
  rw [rdHd_snoc,rdPm_snoc]
  have c1':((q:Int)==34)=true∨(((q:Int)==34)=false∧((q:Int)==92)=true):=by
   by_cases h:(q:Int)=34
   ·left;rw [h];rfl
   ·right;exact ⟨beq_eq_false_iff_ne.2 h,by rw [beq_iff_eq];omega⟩
  cases hx:x.out with
  |nil=>
   rw [hx] at W
   have W:=W _ (.inl rfl)
   rw [show textR []=[] from rfl,List.nil_append] at W ⊢
   rw [show byteRows []=[] from rfl] at W
   generalize byteRows (encN q)=B at *
   simp only [rdHd,rdPm]
   simp only [inSt,mpB,mpL,AV.mp,mpP,Pl.mp,List.cons_append,List.nil_append]
   rcases c1' with c1'|⟨c1',c2'⟩
   ·simp [c274,c1']
    refine onH_mk _ _ (W _ rfl) ⟨?_,?_,?_,?_,?_,?_,?_⟩ ?_
    iterate 7 (· simp [hb])
    simp -implicitDefEqProofs
    refine postH_r ⟨?_,?_,?_,?_,?_,?_⟩<;>simp -implicitDefEqProofs [hib,hb]
   ·simp [c274,c1',c2']
    refine onH_mk _ _ (W _ rfl) ⟨?_,?_,?_,?_,?_,?_,?_⟩ ?_
    iterate 7 (· simp [hb])
    simp -implicitDefEqProofs
    refine postH_r ⟨?_,?_,?_,?_,?_,?_⟩<;>simp -implicitDefEqProofs [hib,hb]
  |cons a l=>
   rw [hx] at W
   have W:=W _ (.inr rfl)
   generalize byteRows (textR (a::l)++encN q)=B at *
   simp only [rdHd,rdPm]
   generalize byteRows (textR (a::l))=B0 at *
   simp only [inSt,mpB,mpL,AV.mp,mpP,Pl.mp,List.cons_append,List.nil_append]
   rcases c1' with c1'|⟨c1',c2'⟩
   ·simp [c274,c1']
    refine onH_mk _ _ (W _ rfl) ⟨?_,?_,?_,?_,?_,?_,?_⟩ ?_
    iterate 7 (· simp [hb])
    simp -implicitDefEqProofs
    refine postH_r ⟨?_,?_,?_,?_,?_,?_⟩<;>simp -implicitDefEqProofs [hib,hb]
   ·simp [c274,c1',c2']
    refine onH_mk _ _ (W _ rfl) ⟨?_,?_,?_,?_,?_,?_,?_⟩ ?_
    iterate 7 (· simp [hb])
    simp -implicitDefEqProofs
    refine postH_r ⟨?_,?_,?_,?_,?_,?_⟩<;>simp -implicitDefEqProofs [hib,hb]
 rw [if_neg c1]
 have n1:=ne 34 (fun h=>c1 (.inl h))
 have n2:=ne 92 (fun h=>c1 (.inr h))
 by_cases c3:r=110
 ·rw [if_pos c3]
  subst c3
  dsimp only
  have W:=W 10 (by unfold runeV;omega) (by omega)
  unfold rdBx
  rw [show (10:Int)=((10:Nat):Int) from rfl,rdHd_snoc,rdPm_snoc]
  cases hx:x.out with
  |nil=>
   rw [hx] at W
   have W:=W _ (.inl rfl)
   rw [show textR []=[] from rfl,List.nil_append] at W ⊢
   rw [show byteRows []=[] from rfl] at W
   generalize byteRows (encN 10)=B at *
   simp only [rdHd,rdPm]
   simp only [inSt,mpB,mpL,AV.mp,mpP,Pl.mp,List.cons_append,List.nil_append]
   simp -implicitDefEqProofs [c274]
   refine onH_mk _ _ (W _ rfl) ⟨?_,?_,?_,?_,?_,?_,?_⟩ ?_
   iterate 7 (· simp [hb])
   simp -implicitDefEqProofs
   refine postH_r ⟨?_,?_,?_,?_,?_,?_⟩<;>simp -implicitDefEqProofs [hib,hb]
  |cons a l=>
   rw [hx] at W
   have W:=W _ (.inr rfl)
   generalize byteRows (textR (a::l)++encN 10)=B at *
   simp only [rdHd,rdPm]
   generalize byteRows (textR (a::l))=B0 at *
   simp only [inSt,mpB,mpL,AV.mp,mpP,Pl.mp,List.cons_append,List.nil_append]
   simp -implicitDefEqProofs [c274]
   refine onH_mk _ _ (W _ rfl) ⟨?_,?_,?_,?_,?_,?_,?_⟩ ?_
   iterate 7 (· simp [hb])
   simp -implicitDefEqProofs
   refine postH_r ⟨?_,?_,?_,?_,?_,?_⟩<;>simp -implicitDefEqProofs [hib,hb]
 rw [if_neg c3]
 have n3:=ne 110 c3
 by_cases c4:r=116
 ·rw [if_pos c4]
  subst c4
  dsimp only
  have W:=W 9 (by unfold runeV;omega) (by omega)
  unfold rdBx
  rw [show (9:Int)=((9:Nat):Int) from rfl,rdHd_snoc,rdPm_snoc]
  cases hx:x.out with
  |nil=>
   rw [hx] at W
   have W:=W _ (.inl rfl)
   rw [show textR []=[] from rfl,List.nil_append] at W ⊢
   rw [show byteRows []=[] from rfl] at W
   generalize byteRows (encN 9)=B at *
   simp only [rdHd,rdPm]
   simp only [inSt,mpB,mpL,AV.mp,mpP,Pl.mp,List.cons_append,List.nil_append]
   simp -implicitDefEqProofs [c274]
   refine onH_mk _ _ (W _ rfl) ⟨?_,?_,?_,?_,?_,?_,?_⟩ ?_
   iterate 7 (· simp [hb])
   simp -implicitDefEqProofs
   refine postH_r ⟨?_,?_,?_,?_,?_,?_⟩<;>simp -implicitDefEqProofs [hib,hb]
  |cons a l=>
   rw [hx] at W
   have W:=W _ (.inr rfl)
   generalize byteRows (textR (a::l)++encN 9)=B at *
   simp only [rdHd,rdPm]
   generalize byteRows (textR (a::l))=B0 at *
   simp only [inSt,mpB,mpL,AV.mp,mpP,Pl.mp,List.cons_append,List.nil_append]
   simp -implicitDefEqProofs [c274]
   refine onH_mk _ _ (W _ rfl) ⟨?_,?_,?_,?_,?_,?_,?_⟩ ?_
   iterate 7 (· simp [hb])
   simp -implicitDefEqProofs
   refine postH_r ⟨?_,?_,?_,?_,?_,?_⟩<;>simp -implicitDefEqProofs [hib,hb]
 rw [if_neg c4]
 have n4:=ne 116 c4
 clear W
 by_cases c5:r=117
 ·rw [if_pos c5]
  subst c5
  dsimp only
  unfold rdBx
  cases hx:x.out with
  |nil=>
   simp only [rdHd,rdPm]
   simp only [inSt,mpB,mpL,AV.mp,mpP,Pl.mp,List.cons_append,List.nil_append]
   simp -implicitDefEqProofs [c274]
   refine postH_r ⟨?_,?_,?_,?_,?_,?_⟩<;>simp -implicitDefEqProofs [hib,hb]
  |cons a l=>
   simp only [rdHd,rdPm]
   generalize byteRows (textR (a::l))=B0 at *
   simp only [inSt,mpB,mpL,AV.mp,mpP,Pl.mp,List.cons_append,List.nil_append]
   simp -implicitDefEqProofs [c274]
   refine postH_r ⟨?_,?_,?_,?_,?_,?_⟩<;>simp -implicitDefEqProofs [hib,hb]
 rw [if_neg c5]
 have n5:=ne 117 c5
 dsimp only
 unfold rdBx
 cases hx:x.out with
 |nil=>
  simp only [rdHd,rdPm]
  simp only [inSt,mpB,mpL,AV.mp,mpP,Pl.mp,List.cons_append,List.nil_append]
  simp -implicitDefEqProofs [c274,n1,n2,n3,n4,n5]
  refine postH_r ⟨?_,?_,?_,?_,?_,?_⟩<;>simp -implicitDefEqProofs [hib,hb]
 |cons a l=>
  simp only [rdHd,rdPm]
  generalize byteRows (textR (a::l))=B0 at *
  simp only [inSt,mpB,mpL,AV.mp,mpP,Pl.mp,List.cons_append,List.nil_append]
  simp -implicitDefEqProofs [c274,n1,n2,n3,n4,n5]
  refine postH_r ⟨?_,?_,?_,?_,?_,?_⟩<;>simp -implicitDefEqProofs [hib,hb]
end Go.Ai
namespace Go.Ai
open Go.Proofs Go.Shelf
theorem hexR_lt (r:Int):hexR r<16:=by
 unfold hexR digR
 split
 ·rename_i h
  have:=of_decide_eq_true h
  omega
 ·split<;>omega
theorem or_hex (x h:Nat) (hx:x<16777216) (hh:h<16):bits BinOp.or IntKind.i32 ((x*16:Nat):Int) (h:Int)=((16*x+h:Nat):Int):=by
 have hx2:x*16|||h=16*x+h:=by
  rw [show x*16=2^4*x by omega,←Nat.two_pow_add_eq_or_of_lt (by omega)]
 have h1:(BitVec.ofInt 32 ((x*16:Nat):Int)).toNat=x*16:=by
  rw [BitVec.ofInt_natCast,BitVec.toNat_ofNat];exact Nat.mod_eq_of_lt (by omega)
 have h2:(BitVec.ofInt 32 (h:Int)).toNat=h:=by
  rw [BitVec.ofInt_natCast,BitVec.toNat_ofNat];exact Nat.mod_eq_of_lt (by omega)
 show IntKind.i32.wrap ((BitVec.ofInt 32 ((x*16:Nat):Int)|||BitVec.ofInt 32 (h:Int)).toNat:Int)=_
 rw [BitVec.toNat_or,h1,h2,hx2,wrap_i32']<;>omega
theorem shl_hex (x:Nat) (hx:x<16777216):IntKind.i32.wrap ((x:Int)*2^(min 4 IntKind.i32.bits))=((x*16:Nat):Int):=by
 have e:(2:Int)^(min 4 IntKind.i32.bits)=16:=by decide
 rw [e,wrap_i32']<;>omega
theorem rwithinR_spec (x:Rd) (hl:x.out.length≤1000000) (hc:x.c≤6) (hn:x.n<16^x.c) (r:Int) (d:Nat) (b:Id) (hb:b.isIt=false) (hbd:b.isNw d=false):
  SpH Tryz.prog gl 275 d ⟨[.ptr b 0,i3 r],[(b,rdBx b x)],rdPm b x.out⟩ ⟨.bool (withinR x r).2,[(b,rdBx b (withinR x r).1)],rdPm b (withinR x r).1.out⟩:=by
 refine h275 rfl ?_
 have hib:=inn_notNw hbd
 have tl:=textR_len x.out
 have HX:=thex_spec r
 have hlt:=hexR_lt r
 have nlt:x.n<16777216:=Nat.lt_of_lt_of_le hn (Nat.le_trans (Nat.pow_le_pow_right (by omega) hc) (by decide))
 have VS:=vrune_spec (x.n:Int)
 unfold withinR
 by_cases c1:0≤hexR r∧x.c<6
 ·rw [if_pos c1]
  dsimp only
  obtain ⟨h,hh⟩: ∃h:Nat,hexR r=h:=⟨(hexR r).toNat,by omega⟩
  rw [hh] at HX hlt c1 ⊢
  rw [Int.toNat_natCast]
  have k1:=shl_hex x.n nlt
  have k2:=or_hex x.n h nlt (by omega)
  have k3:IntKind.i64.wrap ((x.c:Int)+1)=(x.c+1:Nat):=by rw [wrap_i64]<;>omega
  have k4:(x.c:Int)<6:=by omega
  have k5:=c1.2
  have k6:=c1.1
  have kk:((16*x.n+h:Nat):Int)=16*(x.n:Int)+h:=by omega
  rw [kk] at k2
  generalize ((x.n*16:Nat):Int)=SV at *
  unfold rdBx
  clear VS
  cases hx:x.out with
  |nil=>
   simp only [rdHd,rdPm]
   simp only [inSt,mpB,mpL,AV.mp,mpP,Pl.mp,List.cons_append,List.nil_append]
   simp -implicitDefEqProofs [c275]
   refine onC_mk _ (HX) ?_
   simp -implicitDefEqProofs [k1,k2,k3,k4,k5,k6]
   refine postH_r ⟨?_,?_,?_,?_,?_,?_⟩<;>simp -implicitDefEqProofs [hib,hb]
  |cons a l=>
   simp only [rdHd,rdPm]
   generalize byteRows (textR (a::l))=B0 at *
   simp only [inSt,mpB,mpL,AV.mp,mpP,Pl.mp,List.cons_append,List.nil_append]
   simp -implicitDefEqProofs [c275]
   refine onC_mk _ (HX) ?_
   simp -implicitDefEqProofs [k1,k2,k3,k4,k5,k6]
   refine postH_r ⟨?_,?_,?_,?_,?_,?_⟩<;>simp -implicitDefEqProofs [hib,hb]
 rw [if_neg c1]
 by_cases c2:r=125
 ·subst c2
  have e:hexR 125= -1:=by decide
  rw [e] at HX
  by_cases c3:x.c=0
  ·rw [if_pos (.inr (.inl c3))]
   dsimp only
   unfold rdBx
   clear VS
   cases hx:x.out with
   |nil=>
    simp only [rdHd,rdPm]
    simp only [inSt,mpB,mpL,AV.mp,mpP,Pl.mp,List.cons_append,List.nil_append]
    simp -implicitDefEqProofs [c275]
    refine onC_mk _ (HX) ?_
    simp -implicitDefEqProofs [c3]
    refine postH_r ⟨?_,?_,?_,?_,?_,?_⟩<;>simp -implicitDefEqProofs [hib,hb,c3]
   |cons a l=>
    simp only [rdHd,rdPm]
    generalize byteRows (textR (a::l))=B0 at *
    simp only [inSt,mpB,mpL,AV.mp,mpP,Pl.mp,List.cons_append,List.nil_append]
    simp -implicitDefEqProofs [c275]
    refine onC_mk _ (HX) ?_
    simp -implicitDefEqProofs [c3]
    refine postH_r ⟨?_,?_,?_,?_,?_,?_⟩<;>simp -implicitDefEqProofs [hib,hb,c3]
  ·have c3':((x.c:Int)==0)=false:=beq_eq_false_iff_ne.2 (by omega)
   cases hv:validR (x.n:Int)
   ·rw [hv] at VS
    rw [if_pos (.inr (.inr rfl))]
    dsimp only
    unfold rdBx
    cases hx:x.out with
    |nil=>
     simp only [rdHd,rdPm]
     simp only [inSt,mpB,mpL,AV.mp,mpP,Pl.mp,List.cons_append,List.nil_append]
     simp -implicitDefEqProofs [c275]
     refine onC_mk _ (HX) ?_
     simp -implicitDefEqProofs [c3,c3']
     refine onC_mk _ (VS) ?_
     simp -implicitDefEqProofs
     refine postH_r ⟨?_,?_,?_,?_,?_,?_⟩<;>simp -implicitDefEqProofs [hib,hb]
    |cons a l=>
     simp only [rdHd,rdPm]
     generalize byteRows (textR (a::l))=B0 at *
     simp only [inSt,mpB,mpL,AV.mp,mpP,Pl.mp,List.cons_append,List.nil_append]
     simp -implicitDefEqProofs [c275]
     refine onC_mk _ (HX) ?_
     simp -implicitDefEqProofs [c3,c3']
     refine onC_mk _ (VS) ?_
     simp -implicitDefEqProofs
     refine postH_r ⟨?_,?_,?_,?_,?_,?_⟩<;>simp -implicitDefEqProofs [hib,hb]
   ·rw [hv] at VS
    rw [if_neg (by rintro (h|h|h)<;>first|exact h rfl|exact c3 h|cases h)]
    dsimp only
    have hq:=(validR_iff _).1 hv
    have W:=fun (s6:Int) (c0:AV) (hc0:c0= .nilT (.up b) 281 5∨c0= .ptr (.up b) 0) (e:Nat) (he:(Id.up b).isNw e=false)=>wr_spec (d:=e) (b:= .up b) hb he bld_reader hc0 [i6 s6,i3 x.n,i6 x.c] (textR x.out) x.n hq (by unfold runeV at hq;omega) (by omega)
    unfold rdBx
    rw [rdHd_snoc,rdPm_snoc]
    cases hx:x.out with
    |nil=>
     rw [hx] at W
     have W:=fun s6=>W s6 _ (.inl rfl)
     rw [show textR []=[] from rfl] at W ⊢
     simp only [List.nil_append] at W ⊢
     rw [show byteRows []=[] from rfl] at W
     generalize byteRows (encN x.n)=B at *
     simp only [rdHd,rdPm]
     simp only [inSt,mpB,mpL,AV.mp,mpP,Pl.mp,List.cons_append,List.nil_append]
     simp -implicitDefEqProofs [c275]
     refine onC_mk _ (HX) ?_
     simp -implicitDefEqProofs [c3,c3']
     refine onC_mk _ (VS) ?_
     simp -implicitDefEqProofs
     refine onH_mk _ _ (W x.st _ rfl) ⟨?_,?_,?_,?_,?_,?_,?_⟩ ?_
     iterate 7 (· simp [hb])
     simp -implicitDefEqProofs
     refine postH_r ⟨?_,?_,?_,?_,?_,?_⟩<;>simp -implicitDefEqProofs [hib,hb]
    |cons a l=>
     rw [hx] at W
     have W:=fun s6=>W s6 _ (.inr rfl)
     generalize byteRows (textR (a::l)++encN x.n)=B at *
     simp only [rdHd,rdPm]
     generalize byteRows (textR (a::l))=B0 at *
     simp only [inSt,mpB,mpL,AV.mp,mpP,Pl.mp,List.cons_append,List.nil_append]
     simp -implicitDefEqProofs [c275]
     refine onC_mk _ (HX) ?_
     simp -implicitDefEqProofs [c3,c3']
     refine onC_mk _ (VS) ?_
     simp -implicitDefEqProofs
     refine onH_mk _ _ (W x.st _ rfl) ⟨?_,?_,?_,?_,?_,?_,?_⟩ ?_
     iterate 7 (· simp [hb])
     simp -implicitDefEqProofs
     refine postH_r ⟨?_,?_,?_,?_,?_,?_⟩<;>simp -implicitDefEqProofs [hib,hb]
 ·rw [if_pos (.inl c2)]
  dsimp only
  have c2':(r !=125)=true:=bne_iff_ne.2 c2
  have c2'':(r==125)=false:=beq_eq_false_iff_ne.2 c2
  unfold rdBx
  clear VS
  by_cases c3:0≤hexR r
  ·have c4: ¬x.c<6:=fun h=>c1 ⟨c3,h⟩
   have c4': ¬(x.c:Int)<6:=by omega
   cases hx:x.out with
   |nil=>
    simp only [rdHd,rdPm]
    simp only [inSt,mpB,mpL,AV.mp,mpP,Pl.mp,List.cons_append,List.nil_append]
    simp -implicitDefEqProofs [c275]
    refine onC_mk _ (HX) ?_
    simp -implicitDefEqProofs [c3,c4,c4',c2',c2'']
    refine postH_r ⟨?_,?_,?_,?_,?_,?_⟩<;>simp -implicitDefEqProofs [hib,hb]
   |cons a l=>
    simp only [rdHd,rdPm]
    generalize byteRows (textR (a::l))=B0 at *
    simp only [inSt,mpB,mpL,AV.mp,mpP,Pl.mp,List.cons_append,List.nil_append]
    simp -implicitDefEqProofs [c275]
    refine onC_mk _ (HX) ?_
    simp -implicitDefEqProofs [c3,c4,c4',c2',c2'']
    refine postH_r ⟨?_,?_,?_,?_,?_,?_⟩<;>simp -implicitDefEqProofs [hib,hb]
  ·cases hx:x.out with
   |nil=>
    simp only [rdHd,rdPm]
    simp only [inSt,mpB,mpL,AV.mp,mpP,Pl.mp,List.cons_append,List.nil_append]
    simp -implicitDefEqProofs [c275]
    refine onC_mk _ (HX) ?_
    simp -implicitDefEqProofs [c3,c2',c2'']
    refine postH_r ⟨?_,?_,?_,?_,?_,?_⟩<;>simp -implicitDefEqProofs [hib,hb]
   |cons a l=>
    simp only [rdHd,rdPm]
    generalize byteRows (textR (a::l))=B0 at *
    simp only [inSt,mpB,mpL,AV.mp,mpP,Pl.mp,List.cons_append,List.nil_append]
    simp -implicitDefEqProofs [c275]
    refine onC_mk _ (HX) ?_
    simp -implicitDefEqProofs [c3,c2',c2'']
    refine postH_r ⟨?_,?_,?_,?_,?_,?_⟩<;>simp -implicitDefEqProofs [hib,hb]
end Go.Ai
namespace Go.Ai
open Go.Proofs Go.Shelf
def takeU (x:Rd) (r:Int):Rd×Bool:=
 if x.st=1 then afterR x r
 else if x.st=2 then ({x with st:=3,n:=0,c:=0},decide (r=123))
 else if x.st=3 then withinR x r
 else if x.st=4 then (x,false)
 else if r=34 then ({x with st:=4},true)
 else if r=92 then ({x with st:=1},true)
 else if r<32∨r=127 then (x,false)
 else ({x with out:=x.out++[r]},true)
theorem rtakeU_spec (x:Rd) (hl:x.out.length≤1000000) (hc:x.c≤6) (hn:x.n<16^x.c) (r:Int) (hr:runeV r) (d:Nat) (b:Id) (hb:b.isIt=false) (hbd:b.isNw d=false):
  SpH Tryz.prog gl 243 d ⟨[.ptr b 0,i3 r],[(b,rdBx b x)],rdPm b x.out⟩ ⟨.bool (takeU x r).2,[(b,rdBx b (takeU x r).1)],rdPm b (takeU x r).1.out⟩:=by
 refine h243 rfl ?_
 have hib:=inn_notNw hbd
 have tl:=textR_len x.out
 have ne: ∀z:Int,¬r=z→(r==z)=false:=fun z h=>beq_eq_false_iff_ne.2 h
 have A:=fun e=>rafter_spec x hl r e (.up b) hb
 have I:=fun e=>rwithinR_spec x hl hc hn r e (.up b) hb
 unfold takeU
 by_cases c1:x.st=1
 ·rw [if_pos c1]
  clear I
  generalize (afterR x r).2=ok at *
  generalize (afterR x r).1=y at *
  unfold rdBx at *
  cases hx:x.out with
  |nil=>
   rw [hx] at A
   cases hy:y.out with
   |nil=>
    rw [hy] at A
    simp only [rdHd,rdPm,List.cons_append,List.nil_append] at A ⊢
    simp only [inSt,mpB,mpL,AV.mp,mpP,Pl.mp,List.cons_append,List.nil_append]
    simp -implicitDefEqProofs [c243,c1]
    refine onH_mk _ _ (A _ rfl) ⟨?_,?_,?_,?_,?_,?_,?_⟩ ?_
    iterate 7 (· simp [hb,c1])
    simp -implicitDefEqProofs
    refine postH_r ⟨?_,?_,?_,?_,?_,?_⟩<;>simp -implicitDefEqProofs [hib,hb]
   |cons a2 l2=>
    rw [hy] at A
    simp only [rdHd,rdPm,List.cons_append,List.nil_append] at A ⊢
    generalize byteRows (textR (a2::l2))=B1 at *
    simp only [inSt,mpB,mpL,AV.mp,mpP,Pl.mp,List.cons_append,List.nil_append]
    simp -implicitDefEqProofs [c243,c1]
    refine onH_mk _ _ (A _ rfl) ⟨?_,?_,?_,?_,?_,?_,?_⟩ ?_
    iterate 7 (· simp [hb,c1])
    simp -implicitDefEqProofs
    refine postH_r ⟨?_,?_,?_,?_,?_,?_⟩<;>simp -implicitDefEqProofs [hib,hb]
  |cons a l=>
   rw [hx] at A
   cases hy:y.out with
   |nil=>
    rw [hy] at A
    simp only [rdHd,rdPm,List.cons_append,List.nil_append] at A ⊢
    generalize byteRows (textR (a::l))=B0 at *
    simp only [inSt,mpB,mpL,AV.mp,mpP,Pl.mp,List.cons_append,List.nil_append]
    simp -implicitDefEqProofs [c243,c1]
    refine onH_mk _ _ (A _ rfl) ⟨?_,?_,?_,?_,?_,?_,?_⟩ ?_
    iterate 7 (· simp [hb,c1])
    simp -implicitDefEqProofs
    refine postH_r ⟨?_,?_,?_,?_,?_,?_⟩<;>simp -implicitDefEqProofs [hib,hb]
   |cons a2 l2=>
    rw [hy] at A
    simp only [rdHd,rdPm,List.cons_append,List.nil_append] at A ⊢
    generalize byteRows (textR (a2::l2))=B1 at *
    generalize byteRows (textR (a::l))=B0 at *
    simp only [inSt,mpB,mpL,AV.mp,mpP,Pl.mp,List.cons_append,List.nil_append]
    simp -implicitDefEqProofs [c243,c1]
    refine onH_mk _ _ (A _ rfl) ⟨?_,?_,?_,?_,?_,?_,?_⟩ ?_
    iterate 7 (· simp [hb,c1])
    simp -implicitDefEqProofs
    refine postH_r ⟨?_,?_,?_,?_,?_,?_⟩<;>simp -implicitDefEqProofs [hib,hb]
 rw [if_neg c1]
 have n1:(x.st==1)=false:=beq_eq_false_iff_ne.2 c1
 clear A
 by_cases c2:x.st=2
 ·rw [if_pos c2]
  clear I
  dsimp only
  have e:(r==123)=decide (r=123):=by by_cases h:r=123<;>simp [h]
  rw [←e]
  unfold rdBx
  cases hx:x.out with
  |nil=>
   simp only [rdHd,rdPm,List.cons_append,List.nil_append]
   simp only [inSt,mpB,mpL,AV.mp,mpP,Pl.mp,List.cons_append,List.nil_append]
   simp -implicitDefEqProofs [c243,c2]
   refine postH_r ⟨?_,?_,?_,?_,?_,?_⟩<;>simp -implicitDefEqProofs [hib,hb]
  |cons a l=>
   simp only [rdHd,rdPm,List.cons_append,List.nil_append]
   generalize byteRows (textR (a::l))=B0 at *
   simp only [inSt,mpB,mpL,AV.mp,mpP,Pl.mp,List.cons_append,List.nil_append]
   simp -implicitDefEqProofs [c243,c2]
   refine postH_r ⟨?_,?_,?_,?_,?_,?_⟩<;>simp -implicitDefEqProofs [hib,hb]
 rw [if_neg c2]
 have n2:(x.st==2)=false:=beq_eq_false_iff_ne.2 c2
 by_cases c3:x.st=3
 ·rw [if_pos c3]
  generalize (withinR x r).2=ok at *
  generalize (withinR x r).1=y at *
  unfold rdBx at *
  cases hx:x.out with
  |nil=>
   rw [hx] at I
   cases hy:y.out with
   |nil=>
    rw [hy] at I
    simp only [rdHd,rdPm,List.cons_append,List.nil_append] at I ⊢
    simp only [inSt,mpB,mpL,AV.mp,mpP,Pl.mp,List.cons_append,List.nil_append]
    simp -implicitDefEqProofs [c243,c3]
    refine onH_mk _ _ (I _ rfl) ⟨?_,?_,?_,?_,?_,?_,?_⟩ ?_
    iterate 7 (· simp [hb,c3])
    simp -implicitDefEqProofs
    refine postH_r ⟨?_,?_,?_,?_,?_,?_⟩<;>simp -implicitDefEqProofs [hib,hb]
   |cons a2 l2=>
    rw [hy] at I
    simp only [rdHd,rdPm,List.cons_append,List.nil_append] at I ⊢
    generalize byteRows (textR (a2::l2))=B1 at *
    simp only [inSt,mpB,mpL,AV.mp,mpP,Pl.mp,List.cons_append,List.nil_append]
    simp -implicitDefEqProofs [c243,c3]
    refine onH_mk _ _ (I _ rfl) ⟨?_,?_,?_,?_,?_,?_,?_⟩ ?_
    iterate 7 (· simp [hb,c3])
    simp -implicitDefEqProofs
    refine postH_r ⟨?_,?_,?_,?_,?_,?_⟩<;>simp -implicitDefEqProofs [hib,hb]
  |cons a l=>
   rw [hx] at I
   cases hy:y.out with
   |nil=>
    rw [hy] at I
    simp only [rdHd,rdPm,List.cons_append,List.nil_append] at I ⊢
    generalize byteRows (textR (a::l))=B0 at *
    simp only [inSt,mpB,mpL,AV.mp,mpP,Pl.mp,List.cons_append,List.nil_append]
    simp -implicitDefEqProofs [c243,c3]
    refine onH_mk _ _ (I _ rfl) ⟨?_,?_,?_,?_,?_,?_,?_⟩ ?_
    iterate 7 (· simp [hb,c3])
    simp -implicitDefEqProofs
    refine postH_r ⟨?_,?_,?_,?_,?_,?_⟩<;>simp -implicitDefEqProofs [hib,hb]
   |cons a2 l2=>
    rw [hy] at I
    simp only [rdHd,rdPm,List.cons_append,List.nil_append] at I ⊢
    generalize byteRows (textR (a2::l2))=B1 at *
    generalize byteRows (textR (a::l))=B0 at *
    simp only [inSt,mpB,mpL,AV.mp,mpP,Pl.mp,List.cons_append,List.nil_append]
    simp -implicitDefEqProofs [c243,c3]
    refine onH_mk _ _ (I _ rfl) ⟨?_,?_,?_,?_,?_,?_,?_⟩ ?_
    iterate 7 (· simp [hb,c3])
    simp -implicitDefEqProofs
    refine postH_r ⟨?_,?_,?_,?_,?_,?_⟩<;>simp -implicitDefEqProofs [hib,hb]
 rw [if_neg c3]
 have n3:(x.st==3)=false:=beq_eq_false_iff_ne.2 c3
 clear I
 by_cases c4:x.st=4
 ·rw [if_pos c4]
  dsimp only
  unfold rdBx
  cases hx:x.out with
  |nil=>
   simp only [rdHd,rdPm,List.cons_append,List.nil_append]
   simp only [inSt,mpB,mpL,AV.mp,mpP,Pl.mp,List.cons_append,List.nil_append]
   simp -implicitDefEqProofs [c243,c4]
   refine postH_r ⟨?_,?_,?_,?_,?_,?_⟩<;>simp -implicitDefEqProofs [hib,hb,c4]
  |cons a l=>
   simp only [rdHd,rdPm,List.cons_append,List.nil_append]
   generalize byteRows (textR (a::l))=B0 at *
   simp only [inSt,mpB,mpL,AV.mp,mpP,Pl.mp,List.cons_append,List.nil_append]
   simp -implicitDefEqProofs [c243,c4]
   refine postH_r ⟨?_,?_,?_,?_,?_,?_⟩<;>simp -implicitDefEqProofs [hib,hb,c4]
 rw [if_neg c4]
 have n4:(x.st==4)=false:=beq_eq_false_iff_ne.2 c4
 by_cases d1:r=34
 ·rw [if_pos d1]
  subst d1
  dsimp only
  unfold rdBx
  cases hx:x.out with
  |nil=>
   simp only [rdHd,rdPm,List.cons_append,List.nil_append]
   simp only [inSt,mpB,mpL,AV.mp,mpP,Pl.mp,List.cons_append,List.nil_append]
   simp -implicitDefEqProofs [c243,n1,n2,n3,n4]
   refine postH_r ⟨?_,?_,?_,?_,?_,?_⟩<;>simp -implicitDefEqProofs [hib,hb]
  |cons a l=>
   simp only [rdHd,rdPm,List.cons_append,List.nil_append]
   generalize byteRows (textR (a::l))=B0 at *
   simp only [inSt,mpB,mpL,AV.mp,mpP,Pl.mp,List.cons_append,List.nil_append]
   simp -implicitDefEqProofs [c243,n1,n2,n3,n4]
   refine postH_r ⟨?_,?_,?_,?_,?_,?_⟩<;>simp -implicitDefEqProofs [hib,hb]
 rw [if_neg d1]
 have m1:=ne 34 d1
 by_cases d2:r=92
 ·rw [if_pos d2]
  subst d2
  dsimp only
  unfold rdBx
  cases hx:x.out with
  |nil=>
   simp only [rdHd,rdPm,List.cons_append,List.nil_append]
   simp only [inSt,mpB,mpL,AV.mp,mpP,Pl.mp,List.cons_append,List.nil_append]
   simp -implicitDefEqProofs [c243,n1,n2,n3,n4]
   refine postH_r ⟨?_,?_,?_,?_,?_,?_⟩<;>simp -implicitDefEqProofs [hib,hb]
  |cons a l=>
   simp only [rdHd,rdPm,List.cons_append,List.nil_append]
   generalize byteRows (textR (a::l))=B0 at *
   simp only [inSt,mpB,mpL,AV.mp,mpP,Pl.mp,List.cons_append,List.nil_append]
   simp -implicitDefEqProofs [c243,n1,n2,n3,n4]
   refine postH_r ⟨?_,?_,?_,?_,?_,?_⟩<;>simp -implicitDefEqProofs [hib,hb]
 rw [if_neg d2]
 have m2:=ne 92 d2
 by_cases d3:r<32∨r=127
 ·rw [if_pos d3]
  dsimp only
  have d4:r<32∨(¬r<32∧(r==127)=true):=by
   by_cases h:r<32
   ·exact .inl h
   ·exact .inr ⟨h,by rw [beq_iff_eq];omega⟩
  unfold rdBx
  cases hx:x.out with
  |nil=>
   simp only [rdHd,rdPm,List.cons_append,List.nil_append]
   simp only [inSt,mpB,mpL,AV.mp,mpP,Pl.mp,List.cons_append,List.nil_append]
   rcases d4 with d4|⟨d4,d5⟩
   ·simp [c243,n1,n2,n3,n4,m1,m2,d4]
    refine postH_r ⟨?_,?_,?_,?_,?_,?_⟩<;>simp -implicitDefEqProofs [hib,hb]
   ·simp [c243,n1,n2,n3,n4,m1,m2,d4,d5]
    refine postH_r ⟨?_,?_,?_,?_,?_,?_⟩<;>simp -implicitDefEqProofs [hib,hb]
  |cons a l=>
   simp only [rdHd,rdPm,List.cons_append,List.nil_append]
   generalize byteRows (textR (a::l))=B0 at *
   simp only [inSt,mpB,mpL,AV.mp,mpP,Pl.mp,List.cons_append,List.nil_append]
   rcases d4 with d4|⟨d4,d5⟩
   ·simp [c243,n1,n2,n3,n4,m1,m2,d4]
    refine postH_r ⟨?_,?_,?_,?_,?_,?_⟩<;>simp -implicitDefEqProofs [hib,hb]
   ·simp [c243,n1,n2,n3,n4,m1,m2,d4,d5]
    refine postH_r ⟨?_,?_,?_,?_,?_,?_⟩<;>simp -implicitDefEqProofs [hib,hb]
 rw [if_neg d3]
 have d4: ¬r<32:=fun h=>d3 (.inl h)
 have d5:=ne 127 (fun h=>d3 (.inr h))
 obtain ⟨q,rfl⟩: ∃q:Nat,r=q:=⟨r.toNat,by omega⟩
 have W:=fun (c0:AV) (hc0:c0= .nilT (.up b) 281 5∨c0= .ptr (.up b) 0) (e:Nat) (he:(Id.up b).isNw e=false)=>wr_spec (d:=e) (b:= .up b) hb he bld_reader hc0 [i6 x.st,i3 x.n,i6 x.c] (textR x.out) q hr (by unfold runeV at hr;omega) (by omega)
 dsimp only
 unfold rdBx
 rw [rdHd_snoc,rdPm_snoc]
 cases hx:x.out with
 |nil=>
  rw [hx] at W
  have W:=W _ (.inl rfl)
  rw [show textR []=[] from rfl] at W ⊢
  simp only [List.nil_append] at W ⊢
  rw [show byteRows []=[] from rfl] at W
  generalize byteRows (encN q)=B at *
  simp only [rdHd,rdPm]
  simp only [inSt,mpB,mpL,AV.mp,mpP,Pl.mp,List.cons_append,List.nil_append]
  simp -implicitDefEqProofs [c243,n1,n2,n3,n4,m1,m2,d4,d5]
  refine onH_mk _ _ (W _ rfl) ⟨?_,?_,?_,?_,?_,?_,?_⟩ ?_
  iterate 7 (· simp [hb])
  simp -implicitDefEqProofs
  refine postH_r ⟨?_,?_,?_,?_,?_,?_⟩<;>simp -implicitDefEqProofs [hib,hb]
 |cons a l=>
  rw [hx] at W
  have W:=W _ (.inr rfl)
  generalize byteRows (textR (a::l)++encN q)=B at *
  simp only [rdHd,rdPm]
  generalize byteRows (textR (a::l))=B0 at *
  simp only [inSt,mpB,mpL,AV.mp,mpP,Pl.mp,List.cons_append,List.nil_append]
  simp -implicitDefEqProofs [c243,n1,n2,n3,n4,m1,m2,d4,d5]
  refine onH_mk _ _ (W _ rfl) ⟨?_,?_,?_,?_,?_,?_,?_⟩ ?_
  iterate 7 (· simp [hb])
  simp -implicitDefEqProofs
  refine postH_r ⟨?_,?_,?_,?_,?_,?_⟩<;>simp -implicitDefEqProofs [hib,hb]
open Go.Proofs
structure Lb where
 n:List UInt8
 t:List UInt8
 deriving DecidableEq
structure Ru where
 n:List UInt8
 p:Bool
 l:Int
 s:Int
 f:Nat
 w:Int
 k:Int
 deriving DecidableEq
structure Gl where
 n:List UInt8
 t:Nat
 g:Int
 a:Int
 o:Int
 c:Int
 lb:List Lb
 ru:List Ru
 deriving DecidableEq
structure Cf where
 gs:List Gl
 r:Int
 v:Int
 i:Int
 x:Int
 y:Int
def Lb.row (x:Lb):List AV:=[.str x.n,.str x.t]
def Ru.row (x:Ru):List AV:=[.str x.n,.bool x.p,i6 x.l,i6 x.s,u x.f,i6 x.w,i6 x.k]
def Gl.row (x:Gl):List AV:=[.str x.n,.int .u32 x.t,i6 x.g,i6 x.a,i6 x.o,i6 x.c,.sl (x.lb.map Lb.row),.sl (x.ru.map Ru.row)]
def Cf.row (x:Cf):List AV:=[.sl (x.gs.map Gl.row),i6 x.r,i6 x.v,i6 x.i,i6 x.x,i6 x.y]
open Go.Proofs
end Go.Ai
namespace Go.Ai
open Go.Proofs
end Go.Ai
