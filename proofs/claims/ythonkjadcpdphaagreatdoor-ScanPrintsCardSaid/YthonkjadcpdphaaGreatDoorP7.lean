/- P7: a part of the proof: the rules, or what functions compute. Conditions: as each theorem says. -/
import Derived.Test.YthonkjadcpdphaaGreatDoorP6
import Derived.Test.YthonkjadcpdphaaGreatDoorP5
set_option linter.unusedSimpArgs false
set_option linter.unusedVariables false
set_option maxRecDepth 20000
namespace Go.Ai
open Go.Proofs
def qGo (l:List Int) (i:Nat):Nat:=
 if h:i<l.length then
  if l[i]=10 then 0 else if l[i]=34 then i+1
  else if l[i]=92 then (if l[i+1]?=some 10 then 0 else qGo l (i+2))
  else qGo l (i+1)
 else 0
termination_by l.length - i
theorem qGo_in {l:List Int} {i:Nat} (h:i<l.length):qGo l i=if l[i]=10 then 0 else if l[i]=34 then i+1 else if l[i]=92 then (if l[i+1]?=some 10 then 0 else qGo l (i+2)) else qGo l (i+1):=by
 rw [qGo,dif_pos h]
theorem qGo_out {l:List Int} {i:Nat} (h: ¬i<l.length):qGo l i=0:=by rw [qGo,dif_neg h]
def plc (a b:Int):List Int→List (Int×Int)
 |[]=>[(a,b)]
 |r::l=>(a,b)::(if r=10 then plc (a+1) 1 l else plc a (b+1) l)
open Go.Proofs
end Go.Ai
namespace Go.Ai
open Go.Proofs
def wthn (r:Int):Bool:=letter r||(digR r||(decide (r=95)||(decide (r=45)||(decide (r=46)||decide (r=37)))))
theorem sdigit_spec (r:Int):Sp Tryz.prog gl 117 [i3 r] (.bool (digR r)):=by
 refine s117 rfl rfl ?_
 unfold digR
 by_cases h:48≤r
 ·simp [c117,h]
 ·simp [c117,h]
theorem int_beq_decI (a b:Int):(a==b)=decide (a=b):=by
 by_cases h:a=b<;>simp [h]
theorem swithin_spec (r:Int):Sp Tryz.prog gl 63 [i3 r] (.bool (wthn r)):=by
 refine s63 rfl rfl ?_
 have L:=tletter_spec r
 have D:=sdigit_spec r
 unfold wthn
 generalize letter r=a at *
 generalize digR r=b at *
 cases a
 ·cases b
  ·have ne: ∀z:Int,¬r=z→(r==z)=false:=fun z h=>beq_eq_false_iff_ne.2 h
   by_cases h1:r=95
   ·simp [c63]
    refine onC_mk _ (L) ?_
    simp -implicitDefEqProofs
    refine onC_mk _ (D) ?_
    simp -implicitDefEqProofs [h1]
   ·by_cases h2:r=45
    ·simp [c63]
     refine onC_mk _ (L) ?_
     simp -implicitDefEqProofs
     refine onC_mk _ (D) ?_
     simp -implicitDefEqProofs [h1,h2,ne 95 h1]
    ·by_cases h3:r=46
     ·simp [c63]
      refine onC_mk _ (L) ?_
      simp -implicitDefEqProofs
      refine onC_mk _ (D) ?_
      simp -implicitDefEqProofs [h1,h2,h3,ne 95 h1,ne 45 h2]
     ·simp [c63]
      refine onC_mk _ (L) ?_
      simp -implicitDefEqProofs
      refine onC_mk _ (D) ?_
      simp -implicitDefEqProofs [h1,h2,h3,ne 95 h1,ne 45 h2,ne 46 h3]
      exact int_beq_decI r 37
  ·simp [c63]
   refine onC_mk _ (L) ?_
   simp -implicitDefEqProofs
   refine onC_mk _ (D) ?_
   simp -implicitDefEqProofs
 ·simp [c63]
  refine onC_mk _ (L) ?_
  simp -implicitDefEqProofs
open Go.Proofs
structure Tk where
 k:Int
 t:List UInt8
 n:Nat
 ln:Int
 co:Int
 deriving DecidableEq
def Tk.row (x:Tk):List AV:=[i6 x.k,.str x.t,u x.n,i6 x.ln,i6 x.co]
structure Sc where
 out:List Tk
 st:Int
 sa:Nat
 fl:Int
 fc:Int
 al:Int
 ac:Int
 cd:Int
 xl:Int
 xc:Int
def scB (s:List UInt8) (x:Sc):List AV:=[.str s,.sl (x.out.map Tk.row),i6 x.st,i6 x.sa,i6 x.fl,i6 x.fc,i6 x.al,i6 x.ac,i6 x.cd,i6 x.xl,i6 x.xc]
def Sc.begin (x:Sc) (i:Nat) (st:Int):Sc:={x with sa:=i,st:=st,fl:=x.al,fc:=x.ac}
def Sc.wrong (x:Sc) (e:Int):Sc:={x with cd:=e,xl:=x.fl,xc:=x.fc}
inductive TV where
 |e (c:Int)
 |t (k:Int) (w:List UInt8) (n:Nat)
def TV.av:TV→AV
 | .e c=> .ifc 38 (i6 c)
 | .t k w n=> .ifc 49 (.agg [i6 k,.str w,u n,i6 0,i6 0])
def TV.ok:TV→Bool
 | .e _=>false
 | .t _ _ _=>true
def Sc.add (x:Sc):TV→Sc
 | .e c=>x.wrong c
 | .t k w n=>{x with out:=x.out++[⟨k,w,n,x.fl,x.fc⟩],st:=0}
theorem tk_five (l:List Tk): ∀r∈l.map Tk.row,r.length=5:=by
 intro r hr
 obtain ⟨_,_,rfl⟩:=List.mem_map.1 hr
 rfl
theorem sbegin_spec (s:List UInt8) (x:Sc) (i:Nat) (st:Int) (d:Nat) (b:Id) (hb:b.isIt=false) (hbd:b.isNw d=false):
  SpH Tryz.prog gl 51 d ⟨[.ptr b 0,i6 i,i6 st],[(b,scB s x)],[(.b b 1,5)]⟩ ⟨.tup [],[(b,scB s (x.begin i st))],[(.b b 1,5)]⟩:=by
 refine h51 rfl ?_
 have hib:=inn_notNw hbd
 unfold scB Sc.begin
 generalize x.out.map Tk.row=L at *
 simp only [inSt,mpB,mpL,AV.mp,mpP,Pl.mp]
 simp -implicitDefEqProofs [c51]
 refine postH_r ⟨?_,?_,?_,?_,?_,?_⟩<;>simp -implicitDefEqProofs [hib,hb]
theorem swrong_spec (s:List UInt8) (x:Sc) (e:Int) (d:Nat) (b:Id) (hb:b.isIt=false) (hbd:b.isNw d=false):
  SpH Tryz.prog gl 52 d ⟨[.ptr b 0,i6 e],[(b,scB s x)],[(.b b 1,5)]⟩ ⟨.bool false,[(b,scB s (x.wrong e))],[(.b b 1,5)]⟩:=by
 refine h52 rfl ?_
 have hib:=inn_notNw hbd
 unfold scB Sc.wrong
 generalize x.out.map Tk.row=L at *
 simp only [inSt,mpB,mpL,AV.mp,mpP,Pl.mp]
 simp -implicitDefEqProofs [c52]
 refine postH_r ⟨?_,?_,?_,?_,?_,?_⟩<;>simp -implicitDefEqProofs [hib,hb]
theorem sadd_spec (s:List UInt8) (x:Sc) (hl:x.out.length≤1000000) (v:TV) (d:Nat) (b:Id) (hb:b.isIt=false) (hbd:b.isNw d=false):
  SpH Tryz.prog gl 105 d ⟨[.ptr b 0,v.av],[(b,scB s x)],[(.b b 1,5)]⟩ ⟨.bool v.ok,[(b,scB s (x.add v))],[(.b b 1,5)]⟩:=by
 refine h105 rfl ?_
 have hib:=inn_notNw hbd
 have hlim:lim=140737488355328:=rfl
 cases v with
 |e c=>
  have W:=fun e=>swrong_spec s x c e (.up b) hb
  unfold scB Sc.wrong at W
  unfold scB Sc.add Sc.wrong TV.av TV.ok
  generalize x.out.map Tk.row=L at *
  simp only [inSt,mpB,mpL,AV.mp,mpP,Pl.mp]
  simp -implicitDefEqProofs [c105]
  refine onH_mk _ _ (W _ rfl) ⟨?_,?_,?_,?_,?_,?_,?_⟩ ?_
  iterate 7 (· simp [hb])
  simp -implicitDefEqProofs
  refine postH_r ⟨?_,?_,?_,?_,?_,?_⟩<;>simp -implicitDefEqProofs [hib,hb]
 |t k w n=>
  have h5:=tk_five x.out
  have hll:((x.out.map Tk.row).length+1)*48≤140737488355328:=by simp;omega
  have he:(x.out++[(⟨k,w,n,x.fl,x.fc⟩:Tk)]).map Tk.row=x.out.map Tk.row++[[i6 k,.str w,u n,i6 x.fl,i6 x.fc]]:=by simp [Tk.row]
  unfold scB Sc.add TV.av TV.ok
  simp only [he]
  clear he
  generalize x.out.map Tk.row=L at *
  simp only [inSt,mpB,mpL,AV.mp,mpP,Pl.mp]
  simp -implicitDefEqProofs [c105,hlim]
  refine ⟨hll,h5,?_⟩
  refine postH_r ⟨?_,?_,?_,?_,?_,?_⟩<;>simp -implicitDefEqProofs [hib,hb]
open Go.Proofs
def subR (l:List Int) (a b:Nat):List Int:=(l.take b).drop a
theorem subR_mem {l:List Int} {a b:Nat} {r:Int} (h:r∈subR l a b):r∈l:=List.mem_of_mem_take (List.mem_of_mem_drop h)
def wEnd (l:List Int) (i:Nat):Nat:=if h:i<l.length then (if wthn l[i]=true then wEnd l (i+1) else i) else i
termination_by l.length - i
theorem wEnd_in {l:List Int} {i:Nat} (h:i<l.length):wEnd l i=if wthn l[i]=true then wEnd l (i+1) else i:=by rw [wEnd,dif_pos h]
theorem wEnd_out {l:List Int} {i:Nat} (h: ¬i<l.length):wEnd l i=i:=by rw [wEnd,dif_neg h]
theorem wEnd_le (l:List Int): ∀(n i:Nat),l.length - i≤n→i≤l.length→i≤wEnd l i∧wEnd l i≤l.length
 |0,i,h,hi=>by rw [wEnd_out (by omega)];omega
 |n+1,i,h,hi=>by
  by_cases g:i<l.length
  ·rw [wEnd_in g]
   split
   ·have:=wEnd_le l n (i+1) (by omega) (by omega)
    omega
   ·omega
  ·rw [wEnd_out g];omega
structure On where
 k:Int
 w:List UInt8
 n:Nat
 en:Nat
 c:Int
def TV.on (en:Nat):TV→On
 | .e c=>⟨0,[],0,en,c⟩
 | .t k w n=>⟨k,w,n,en,0⟩
def On.av (x:On):AV:= .tup [.agg [i6 x.k,.str x.w,u x.n,i6 0,i6 0],i6 x.en,i6 x.c]
def oneF (VR:List Int→TV) (U:List UInt8→List UInt8×Int) (l:List Int) (i:Nat) (r:Int):On:=
 if r=123 then ⟨7,[],0,i+1,0⟩ else if r=125 then ⟨8,[],0,i+1,0⟩ else if r=59 then ⟨9,[],0,i+1,0⟩
 else if r=34 then (if qGo l (i+1)=0 then ⟨0,[],0,0,5⟩ else ⟨2,(U (textR (subR l i (qGo l (i+1))))).1,0,qGo l (i+1),(U (textR (subR l i (qGo l (i+1))))).2⟩)
 else if wthn r=true then (VR (subR l i (wEnd l i))).on (wEnd l i)
 else ⟨0,[],0,0,5⟩
open Go.Proofs
def quoTV (q:List UInt8×Int):TV:=if q.2=0 then .t 2 q.1 0 else .e q.2
def freshF (x:Sc) (i:Nat) (r:Int):Sc×Bool:=
 let y:=x.begin i 0
 if r=32∨r=9∨r=10 then (y,true)
 else if r=35 then ({y with st:=4},true)
 else if r=34 then ({y with st:=2},true)
 else if r=123 then (y.add (.t 7 [] 0),true)
 else if r=125 then (y.add (.t 8 [] 0),true)
 else if r=59 then (y.add (.t 9 [] 0),true)
 else if wthn r=true then ({y with st:=1},true)
 else (y.wrong 5,false)
def subS (s:List UInt8) (a b:Nat):List UInt8:=(s.take b).drop a
def quotedF (U:List UInt8→List UInt8×Int) (s:List UInt8) (x:Sc) (e:Nat):Sc×Bool:=(x.add (quoTV (U (subS s x.sa e))),(quoTV (U (subS s x.sa e))).ok)
def insideF (U:List UInt8→List UInt8×Int) (s:List UInt8) (x:Sc) (i:Nat) (r:Int):Sc×Bool:=
 if r=10 then (x.wrong 5,false)
 else if x.st=3 then ({x with st:=2},true)
 else if r=92 then ({x with st:=3},true)
 else if r=34 then quotedF U s x (i+1)
 else (x,true)
def takeF (V:List UInt8→TV) (U:List UInt8→List UInt8×Int) (s:List UInt8) (x:Sc) (i:Nat) (r:Int):Sc×Bool:=
 if x.st=1 then (if wthn r=true then (x,true) else if (V (subS s x.sa i)).ok=true then freshF (x.add (V (subS s x.sa i))) i r else (x.add (V (subS s x.sa i)),false))
 else if x.st=4 then ((if r=10 then {x with st:=0} else x),true)
 else if x.st=2∨x.st=3 then insideF U s x i r
 else freshF x i r
def endF (V:List UInt8→TV) (s:List UInt8) (x:Sc):Sc×Bool:=
 if x.st=1 then (if (V (subS s x.sa s.length)).ok=true then (((x.add (V (subS s x.sa s.length))).begin s.length 0).add (.t 0 [] 0),true) else (x.add (V (subS s x.sa s.length)),false))
 else if x.st=2∨x.st=3 then (x.wrong 5,false)
 else ((x.begin s.length 0).add (.t 0 [] 0),true)
theorem Sc.begin_out (x:Sc) (i:Nat) (st:Int):(x.begin i st).out=x.out:=rfl
theorem Sc.wrong_out (x:Sc) (e:Int):(x.wrong e).out=x.out:=rfl
theorem Sc.add_out (x:Sc) (v:TV):(x.add v).out.length≤x.out.length+1:=by
 cases v with
 |e c=>simp [Sc.add,Sc.wrong_out]
 |t k w n=>simp [Sc.add]
theorem freshF_out (x:Sc) (i:Nat) (r:Int):(freshF x i r).1.out.length≤x.out.length+1:=by
 unfold freshF
 simp only
 repeat' split
 all_goals first|exact Nat.le_succ _|exact Sc.add_out (x.begin i 0) _|skip
theorem insideF_out (U:List UInt8→List UInt8×Int) (s:List UInt8) (x:Sc) (i:Nat) (r:Int):(insideF U s x i r).1.out.length≤x.out.length+1:=by
 unfold insideF quotedF
 repeat' split
 all_goals first|exact Nat.le_succ _|exact Sc.add_out x _|skip
theorem takeF_out (V:List UInt8→TV) (U:List UInt8→List UInt8×Int) (s:List UInt8) (x:Sc) (i:Nat) (r:Int):(takeF V U s x i r).1.out.length≤x.out.length+2:=by
 unfold takeF
 by_cases c1:x.st=1
 ·rw [if_pos c1]
  by_cases c2:wthn r=true
  ·rw [if_pos c2];simp
  ·rw [if_neg c2]
   by_cases c3:(V (subS s x.sa i)).ok=true
   ·rw [if_pos c3]
    have h1:=freshF_out (x.add (V (subS s x.sa i))) i r
    have h2:=Sc.add_out x (V (subS s x.sa i))
    omega
   ·rw [if_neg c3]
    have h2:=Sc.add_out x (V (subS s x.sa i))
    simp only
    omega
 ·rw [if_neg c1]
  by_cases c2:x.st=4
  ·rw [if_pos c2]
   simp only
   split<;>simp
  ·rw [if_neg c2]
   by_cases c3:x.st=2∨x.st=3
   ·rw [if_pos c3]
    have:=insideF_out U s x i r
    omega
   ·rw [if_neg c3]
    have:=freshF_out x i r
    omega
theorem sfresh_spec (s:List UInt8) (x:Sc) (hl:x.out.length≤900000) (i:Nat) (r:Int) (d:Nat) (b:Id) (hb:b.isIt=false) (hbd:b.isNw d=false):
  SpH Tryz.prog gl 106 d ⟨[.ptr b 0,i6 i,i3 r],[(b,scB s x)],[(.b b 1,5)]⟩ ⟨.bool (freshF x i r).2,[(b,scB s (freshF x i r).1)],[(.b b 1,5)]⟩:=by
 refine h106 rfl ?_
 have hib:=inn_notNw hbd
 have ne: ∀z:Int,¬r=z→(r==z)=false:=fun z h=>beq_eq_false_iff_ne.2 h
 have B:=fun e=>sbegin_spec s x i 0 e (.up b) hb
 have A:=fun v e=>sadd_spec s (x.begin i 0) (by rw [Sc.begin_out];omega) v e (.up b) hb
 have W:=fun e=>swrong_spec s (x.begin i 0) 5 e (.up b) hb
 have WI:=swithin_spec r
 have hz: ∀k:Int,(TV.t k [] 0).av= .ifc 49 (.agg [.int .i64 k,.str [],.int .u64 0,.int .i64 0,.int .i64 0]):=fun _=>rfl
 have ho: ∀k:Int,(TV.t k [] 0).ok=true:=fun _=>rfl
 unfold freshF
 simp only
 obtain ⟨y,hy⟩: ∃y,y=x.begin i 0:=⟨_,rfl⟩
 rw [←hy] at B A W ⊢
 clear hy
 by_cases c1:r=32
 ·subst c1
  rw [if_pos (by omega)]
  dsimp only
  unfold scB at *
  generalize y.out.map Tk.row=L at *
  generalize x.out.map Tk.row=L0 at *
  simp only [inSt,mpB,mpL,AV.mp,mpP,Pl.mp]
  simp -implicitDefEqProofs [c106]
  refine onH_mk _ _ (B _ rfl) ⟨?_,?_,?_,?_,?_,?_,?_⟩ ?_
  iterate 7 (· simp [hb])
  simp -implicitDefEqProofs
  refine postH_r ⟨?_,?_,?_,?_,?_,?_⟩<;>simp -implicitDefEqProofs [hib,hb]
 by_cases c2:r=9
 ·subst c2
  rw [if_pos (by omega)]
  dsimp only
  unfold scB at *
  generalize y.out.map Tk.row=L at *
  generalize x.out.map Tk.row=L0 at *
  simp only [inSt,mpB,mpL,AV.mp,mpP,Pl.mp]
  simp -implicitDefEqProofs [c106]
  refine onH_mk _ _ (B _ rfl) ⟨?_,?_,?_,?_,?_,?_,?_⟩ ?_
  iterate 7 (· simp [hb])
  simp -implicitDefEqProofs
  refine postH_r ⟨?_,?_,?_,?_,?_,?_⟩<;>simp -implicitDefEqProofs [hib,hb]
 by_cases c3:r=10
 ·subst c3
  rw [if_pos (by omega)]
  dsimp only
  unfold scB at *
  generalize y.out.map Tk.row=L at *
  generalize x.out.map Tk.row=L0 at *
  simp only [inSt,mpB,mpL,AV.mp,mpP,Pl.mp]
  simp -implicitDefEqProofs [c106]
  refine onH_mk _ _ (B _ rfl) ⟨?_,?_,?_,?_,?_,?_,?_⟩ ?_
  iterate 7 (· simp [hb])
  simp -implicitDefEqProofs
  refine postH_r ⟨?_,?_,?_,?_,?_,?_⟩<;>simp -implicitDefEqProofs [hib,hb]
 rw [if_neg (by omega)]
 have n1:=ne 32 c1
 have n2:=ne 9 c2
 have n3:=ne 10 c3
 by_cases c4:r=35
 ·subst c4
  rw [if_pos rfl]
  dsimp only
  unfold scB at *
  generalize y.out.map Tk.row=L at *
  generalize x.out.map Tk.row=L0 at *
  simp only [inSt,mpB,mpL,AV.mp,mpP,Pl.mp]
  simp -implicitDefEqProofs [c106]
  refine onH_mk _ _ (B _ rfl) ⟨?_,?_,?_,?_,?_,?_,?_⟩ ?_
  iterate 7 (· simp [hb])
  simp -implicitDefEqProofs
  refine postH_r ⟨?_,?_,?_,?_,?_,?_⟩<;>simp -implicitDefEqProofs [hib,hb]
 rw [if_neg c4]
 have n4:=ne 35 c4
 by_cases c5:r=34
 ·subst c5
  rw [if_pos rfl]
  dsimp only
  unfold scB at *
  generalize y.out.map Tk.row=L at *
  generalize x.out.map Tk.row=L0 at *
  simp only [inSt,mpB,mpL,AV.mp,mpP,Pl.mp]
  simp -implicitDefEqProofs [c106]
  refine onH_mk _ _ (B _ rfl) ⟨?_,?_,?_,?_,?_,?_,?_⟩ ?_
  iterate 7 (· simp [hb])
  simp -implicitDefEqProofs
  refine postH_r ⟨?_,?_,?_,?_,?_,?_⟩<;>simp -implicitDefEqProofs [hib,hb]
 rw [if_neg c5]
 have n5:=ne 34 c5
 by_cases c6:r=123
 ·subst c6
  have A:=A (.t 7 [] 0)
  rw [hz,ho] at A
  rw [if_pos rfl]
  dsimp only
  generalize y.add (.t 7 [] 0)=z at *
  unfold scB at *
  generalize y.out.map Tk.row=L at *
  generalize x.out.map Tk.row=L0 at *
  generalize z.out.map Tk.row=L1 at *
  simp only [inSt,mpB,mpL,AV.mp,mpP,Pl.mp]
  simp -implicitDefEqProofs [c106]
  refine onH_mk _ _ (B _ rfl) ⟨?_,?_,?_,?_,?_,?_,?_⟩ ?_
  iterate 7 (· simp [hb])
  simp -implicitDefEqProofs
  refine onH_mk _ _ (A _ rfl) ⟨?_,?_,?_,?_,?_,?_,?_⟩ ?_
  iterate 7 (· simp [hb])
  simp -implicitDefEqProofs
  refine postH_r ⟨?_,?_,?_,?_,?_,?_⟩<;>simp -implicitDefEqProofs [hib,hb]
 rw [if_neg c6]
 have n6:=ne 123 c6
 by_cases c7:r=125
 ·subst c7
  have A:=A (.t 8 [] 0)
  rw [hz,ho] at A
  rw [if_pos rfl]
  dsimp only
  generalize y.add (.t 8 [] 0)=z at *
  unfold scB at *
  generalize y.out.map Tk.row=L at *
  generalize x.out.map Tk.row=L0 at *
  generalize z.out.map Tk.row=L1 at *
  simp only [inSt,mpB,mpL,AV.mp,mpP,Pl.mp]
  simp -implicitDefEqProofs [c106]
  refine onH_mk _ _ (B _ rfl) ⟨?_,?_,?_,?_,?_,?_,?_⟩ ?_
  iterate 7 (· simp [hb])
  simp -implicitDefEqProofs
  refine onH_mk _ _ (A _ rfl) ⟨?_,?_,?_,?_,?_,?_,?_⟩ ?_
  iterate 7 (· simp [hb])
  simp -implicitDefEqProofs
  refine postH_r ⟨?_,?_,?_,?_,?_,?_⟩<;>simp -implicitDefEqProofs [hib,hb]
 rw [if_neg c7]
 have n7:=ne 125 c7
 by_cases c8:r=59
 ·subst c8
  have A:=A (.t 9 [] 0)
  rw [hz,ho] at A
  rw [if_pos rfl]
  dsimp only
  generalize y.add (.t 9 [] 0)=z at *
  unfold scB at *
  generalize y.out.map Tk.row=L at *
  generalize x.out.map Tk.row=L0 at *
  generalize z.out.map Tk.row=L1 at *
  simp only [inSt,mpB,mpL,AV.mp,mpP,Pl.mp]
  simp -implicitDefEqProofs [c106]
  refine onH_mk _ _ (B _ rfl) ⟨?_,?_,?_,?_,?_,?_,?_⟩ ?_
  iterate 7 (· simp [hb])
  simp -implicitDefEqProofs
  refine onH_mk _ _ (A _ rfl) ⟨?_,?_,?_,?_,?_,?_,?_⟩ ?_
  iterate 7 (· simp [hb])
  simp -implicitDefEqProofs
  refine postH_r ⟨?_,?_,?_,?_,?_,?_⟩<;>simp -implicitDefEqProofs [hib,hb]
 rw [if_neg c8]
 have n8:=ne 59 c8
 generalize wthn r=q at *
 cases q
 ·rw [if_neg (by decide)]
  dsimp only
  generalize y.wrong 5=z at *
  unfold scB at *
  generalize y.out.map Tk.row=L at *
  generalize x.out.map Tk.row=L0 at *
  generalize z.out.map Tk.row=L1 at *
  simp only [inSt,mpB,mpL,AV.mp,mpP,Pl.mp]
  simp -implicitDefEqProofs [c106]
  refine onH_mk _ _ (B _ rfl) ⟨?_,?_,?_,?_,?_,?_,?_⟩ ?_
  iterate 7 (· simp [hb])
  simp -implicitDefEqProofs [n1,n2,n3,n4,n5,n6,n7,n8]
  refine onC_mk _ (WI) ?_
  simp -implicitDefEqProofs
  refine onH_mk _ _ (W _ rfl) ⟨?_,?_,?_,?_,?_,?_,?_⟩ ?_
  iterate 7 (· simp [hb])
  simp -implicitDefEqProofs
  refine postH_r ⟨?_,?_,?_,?_,?_,?_⟩<;>simp -implicitDefEqProofs [hib,hb]
 ·rw [if_pos rfl]
  dsimp only
  unfold scB at *
  generalize y.out.map Tk.row=L at *
  generalize x.out.map Tk.row=L0 at *
  simp only [inSt,mpB,mpL,AV.mp,mpP,Pl.mp]
  simp -implicitDefEqProofs [c106]
  refine onH_mk _ _ (B _ rfl) ⟨?_,?_,?_,?_,?_,?_,?_⟩ ?_
  iterate 7 (· simp [hb])
  simp -implicitDefEqProofs [n1,n2,n3,n4,n5,n6,n7,n8]
  refine onC_mk _ (WI) ?_
  simp -implicitDefEqProofs
  refine postH_r ⟨?_,?_,?_,?_,?_,?_⟩<;>simp -implicitDefEqProofs [hib,hb]
end Go.Ai
