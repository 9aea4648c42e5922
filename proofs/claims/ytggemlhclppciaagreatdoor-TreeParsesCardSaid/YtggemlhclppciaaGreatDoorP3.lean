/- P3: a part of the proof: the rules, or what functions compute. Conditions: as each theorem says. -/
import Derived.Test.YtggemlhclppciaaGreatDoorP2
import Derived.Test.YtggemlhclppciaaGreatDoorP1
set_option linter.unusedSimpArgs false
set_option linter.unusedVariables false
set_option maxRecDepth 20000
namespace Go.Ai
open Go.Proofs
def quoTV (q:List UInt8×Int):TV:=if q.2=0 then .t 2 q.1 0 else .e q.2
def freshF (x:Sc) (i:Nat) (r:Int):Sc×Bool:=
 let y:=x.begin i 0
 if r=32∨r=9∨r=10 then (y,true)
 else if r=35 then ({y with st:=4},true)
 else if r=34 then ({y with st:=2},true)
 else if r=123 then (y.add (.t 7 [] 0),true)
 else if r=125 then (y.add (.t 8 [] 0),true)
 else if r=59 then (y.add (.t 9 [] 0),true)
 else if wthn r=true then ({y with st:=1},true)
 else (y.wrong 5,false)
def subS (s:List UInt8) (a b:Nat):List UInt8:=(s.take b).drop a
def quotedF (U:List UInt8→List UInt8×Int) (s:List UInt8) (x:Sc) (e:Nat):Sc×Bool:=(x.add (quoTV (U (subS s x.sa e))),(quoTV (U (subS s x.sa e))).ok)
def insideF (U:List UInt8→List UInt8×Int) (s:List UInt8) (x:Sc) (i:Nat) (r:Int):Sc×Bool:=
 if r=10 then (x.wrong 5,false)
 else if x.st=3 then ({x with st:=2},true)
 else if r=92 then ({x with st:=3},true)
 else if r=34 then quotedF U s x (i+1)
 else (x,true)
def takeF (V:List UInt8→TV) (U:List UInt8→List UInt8×Int) (s:List UInt8) (x:Sc) (i:Nat) (r:Int):Sc×Bool:=
 if x.st=1 then (if wthn r=true then (x,true) else if (V (subS s x.sa i)).ok=true then freshF (x.add (V (subS s x.sa i))) i r else (x.add (V (subS s x.sa i)),false))
 else if x.st=4 then ((if r=10 then {x with st:=0} else x),true)
 else if x.st=2∨x.st=3 then insideF U s x i r
 else freshF x i r
def endF (V:List UInt8→TV) (s:List UInt8) (x:Sc):Sc×Bool:=
 if x.st=1 then (if (V (subS s x.sa s.length)).ok=true then (((x.add (V (subS s x.sa s.length))).begin s.length 0).add (.t 0 [] 0),true) else (x.add (V (subS s x.sa s.length)),false))
 else if x.st=2∨x.st=3 then (x.wrong 5,false)
 else ((x.begin s.length 0).add (.t 0 [] 0),true)
theorem Sc.begin_out (x:Sc) (i:Nat) (st:Int):(x.begin i st).out=x.out:=rfl
theorem Sc.wrong_out (x:Sc) (e:Int):(x.wrong e).out=x.out:=rfl
theorem Sc.add_out (x:Sc) (v:TV):(x.add v).out.length≤x.out.length+1:=by
 cases v with
 |e c=>simp [Sc.add,Sc.wrong_out]
 |t k w n=>simp [Sc.add]
theorem freshF_out (x:Sc) (i:Nat) (r:Int):(freshF x i r).1.out.length≤x.out.length+1:=by
 unfold freshF
 simp only
 repeat' split
 all_goals first|exact Nat.le_succ _|exact Sc.add_out (x.begin i 0) _|skip
theorem insideF_out (U:List UInt8→List UInt8×Int) (s:List UInt8) (x:Sc) (i:Nat) (r:Int):(insideF U s x i r).1.out.length≤x.out.length+1:=by
 unfold insideF quotedF
 repeat' split
 all_goals first|exact Nat.le_succ _|exact Sc.add_out x _|skip
theorem takeF_out (V:List UInt8→TV) (U:List UInt8→List UInt8×Int) (s:List UInt8) (x:Sc) (i:Nat) (r:Int):(takeF V U s x i r).1.out.length≤x.out.length+2:=by
 unfold takeF
 by_cases c1:x.st=1
 ·rw [if_pos c1]
  by_cases c2:wthn r=true
  ·rw [if_pos c2];simp
  ·rw [if_neg c2]
   by_cases c3:(V (subS s x.sa i)).ok=true
   ·rw [if_pos c3]
    have h1:=freshF_out (x.add (V (subS s x.sa i))) i r
    have h2:=Sc.add_out x (V (subS s x.sa i))
    omega
   ·rw [if_neg c3]
    have h2:=Sc.add_out x (V (subS s x.sa i))
    simp only
    omega
 ·rw [if_neg c1]
  by_cases c2:x.st=4
  ·rw [if_pos c2]
   simp only
   split<;>simp
  ·rw [if_neg c2]
   by_cases c3:x.st=2∨x.st=3
   ·rw [if_pos c3]
    have:=insideF_out U s x i r
    omega
   ·rw [if_neg c3]
    have:=freshF_out x i r
    omega
theorem sfresh_spec (s:List UInt8) (x:Sc) (hl:x.out.length≤900000) (i:Nat) (r:Int) (d:Nat) (b:Id) (hb:b.isIt=false) (hbd:b.isNw d=false):
  SpH Tryz.prog gl 110 d ⟨[.ptr b 0,i6 i,i3 r],[(b,scB s x)],[(.b b 1,5)]⟩ ⟨.bool (freshF x i r).2,[(b,scB s (freshF x i r).1)],[(.b b 1,5)]⟩:=by
 refine h110 rfl ?_
 have hib:=inn_notNw hbd
 have ne: ∀z:Int,¬r=z→(r==z)=false:=fun z h=>beq_eq_false_iff_ne.2 h
 have B:=fun e=>sbegin_spec s x i 0 e (.up b) hb
 have A:=fun v e=>sadd_spec s (x.begin i 0) (by rw [Sc.begin_out];omega) v e (.up b) hb
 have W:=fun e=>swrong_spec s (x.begin i 0) 5 e (.up b) hb
 have WI:=swithin_spec r
 have hz: ∀k:Int,(TV.t k [] 0).av= .ifc 55 (.agg [.int .i64 k,.str [],.int .u64 0,.int .i64 0,.int .i64 0]):=fun _=>rfl
 have ho: ∀k:Int,(TV.t k [] 0).ok=true:=fun _=>rfl
 unfold freshF
 simp only
 obtain ⟨y,hy⟩: ∃y,y=x.begin i 0:=⟨_,rfl⟩
 rw [←hy] at B A W ⊢
 clear hy
 by_cases c1:r=32
 ·subst c1
  rw [if_pos (by omega)]
  dsimp only
  unfold scB at *
  generalize y.out.map Tk.row=L at *
  generalize x.out.map Tk.row=L0 at *
  simp only [inSt,mpB,mpL,AV.mp,mpP,Pl.mp]
  simp -implicitDefEqProofs [c110]
  refine onH_mk _ _ (B _ rfl) ⟨?_,?_,?_,?_,?_,?_,?_⟩ ?_
  iterate 7 (· simp [hb])
  simp -implicitDefEqProofs
  refine postH_r ⟨?_,?_,?_,?_,?_,?_⟩<;>simp -implicitDefEqProofs [hib,hb]
 by_cases c2:r=9
 ·subst c2
  rw [if_pos (by omega)]
  dsimp only
  unfold scB at *
  generalize y.out.map Tk.row=L at *
  generalize x.out.map Tk.row=L0 at *
  simp only [inSt,mpB,mpL,AV.mp,mpP,Pl.mp]
  simp -implicitDefEqProofs [c110]
  refine onH_mk _ _ (B _ rfl) ⟨?_,?_,?_,?_,?_,?_,?_⟩ ?_
  iterate 7 (· simp [hb])
  simp -implicitDefEqProofs
  refine postH_r ⟨?_,?_,?_,?_,?_,?_⟩<;>simp -implicitDefEqProofs [hib,hb]
 by_cases c3:r=10
 ·subst c3
  rw [if_pos (by omega)]
  dsimp only
  unfold scB at *
  generalize y.out.map Tk.row=L at *
  generalize x.out.map Tk.row=L0 at *
  simp only [inSt,mpB,mpL,AV.mp,mpP,Pl.mp]
  simp -implicitDefEqProofs [c110]
  refine onH_mk _ _ (B _ rfl) ⟨?_,?_,?_,?_,?_,?_,?_⟩ ?_
  iterate 7 (· simp [hb])
  simp -implicitDefEqProofs
  refine postH_r ⟨?_,?_,?_,?_,?_,?_⟩<;>simp -implicitDefEqProofs [hib,hb]
 rw [if_neg (by omega)]
 have n1:=ne 32 c1
 have n2:=ne 9 c2
 have n3:=ne 10 c3
 by_cases c4:r=35
 ·subst c4
  rw [if_pos rfl]
  dsimp only
  unfold scB at *
  generalize y.out.map Tk.row=L at *
  generalize x.out.map Tk.row=L0 at *
  simp only [inSt,mpB,mpL,AV.mp,mpP,Pl.mp]
  simp -implicitDefEqProofs [c110]
  refine onH_mk _ _ (B _ rfl) ⟨?_,?_,?_,?_,?_,?_,?_⟩ ?_
  iterate 7 (· simp [hb])
  simp -implicitDefEqProofs
  refine postH_r ⟨?_,?_,?_,?_,?_,?_⟩<;>simp -implicitDefEqProofs [hib,hb]
 rw [if_neg c4]
 have n4:=ne 35 c4
 by_cases c5:r=34
 ·subst c5
  rw [if_pos rfl]
  dsimp only
  unfold scB at *
  generalize y.out.map Tk.row=L at *
  generalize x.out.map Tk.row=L0 at *
  simp only [inSt,mpB,mpL,AV.mp,mpP,Pl.mp]
  simp -implicitDefEqProofs [c110]
  refine onH_mk _ _ (B _ rfl) ⟨?_,?_,?_,?_,?_,?_,?_⟩ ?_
  iterate 7 (· simp [hb])
  simp -implicitDefEqProofs
  refine postH_r ⟨?_,?_,?_,?_,?_,?_⟩<;>simp -implicitDefEqProofs [hib,hb]
 rw [if_neg c5]
 have n5:=ne 34 c5
 by_cases c6:r=123
 ·subst c6
  have A:=A (.t 7 [] 0)
  rw [hz,ho] at A
  rw [if_pos rfl]
  dsimp only
  generalize y.add (.t 7 [] 0)=z at *
  unfold scB at *
  generalize y.out.map Tk.row=L at *
  generalize x.out.map Tk.row=L0 at *
  generalize z.out.map Tk.row=L1 at *
  simp only [inSt,mpB,mpL,AV.mp,mpP,Pl.mp]
  simp -implicitDefEqProofs [c110]
  refine onH_mk _ _ (B _ rfl) ⟨?_,?_,?_,?_,?_,?_,?_⟩ ?_
  iterate 7 (· simp [hb])
  simp -implicitDefEqProofs
  refine onH_mk _ _ (A _ rfl) ⟨?_,?_,?_,?_,?_,?_,?_⟩ ?_
  iterate 7 (· simp [hb])
  simp -implicitDefEqProofs
  refine postH_r ⟨?_,?_,?_,?_,?_,?_⟩<;>simp -implicitDefEqProofs [hib,hb]
 rw [if_neg c6]
 have n6:=ne 123 c6
 by_cases c7:r=125
 ·subst c7
  have A:=A (.t 8 [] 0)
  rw [hz,ho] at A
  rw [if_pos rfl]
  dsimp only
  generalize y.add (.t 8 [] 0)=z at *
  unfold scB at *
  generalize y.out.map Tk.row=L at *
  generalize x.out.map Tk.row=L0 at *
  generalize z.out.map Tk.row=L1 at *
  simp only [inSt,mpB,mpL,AV.mp,mpP,Pl.mp]
  simp -implicitDefEqProofs [c110]
  refine onH_mk _ _ (B _ rfl) ⟨?_,?_,?_,?_,?_,?_,?_⟩ ?_
  iterate 7 (· simp [hb])
  simp -implicitDefEqProofs
  refine onH_mk _ _ (A _ rfl) ⟨?_,?_,?_,?_,?_,?_,?_⟩ ?_
  iterate 7 (· simp [hb])
  simp -implicitDefEqProofs
  refine postH_r ⟨?_,?_,?_,?_,?_,?_⟩<;>simp -implicitDefEqProofs [hib,hb]
 rw [if_neg c7]
 have n7:=ne 125 c7
 by_cases c8:r=59
 ·subst c8
  have A:=A (.t 9 [] 0)
  rw [hz,ho] at A
  rw [if_pos rfl]
  dsimp only
  generalize y.add (.t 9 [] 0)=z at *
  unfold scB at *
  generalize y.out.map Tk.row=L at *
  generalize x.out.map Tk.row=L0 at *
  generalize z.out.map Tk.row=L1 at *
  simp only [inSt,mpB,mpL,AV.mp,mpP,Pl.mp]
  simp -implicitDefEqProofs [c110]
  refine onH_mk _ _ (B _ rfl) ⟨?_,?_,?_,?_,?_,?_,?_⟩ ?_
  iterate 7 (· simp [hb])
  simp -implicitDefEqProofs
  refine onH_mk _ _ (A _ rfl) ⟨?_,?_,?_,?_,?_,?_,?_⟩ ?_
  iterate 7 (· simp [hb])
  simp -implicitDefEqProofs
  refine postH_r ⟨?_,?_,?_,?_,?_,?_⟩<;>simp -implicitDefEqProofs [hib,hb]
 rw [if_neg c8]
 have n8:=ne 59 c8
 generalize wthn r=q at *
 cases q
 ·rw [if_neg (by decide)]
  dsimp only
  generalize y.wrong 5=z at *
  unfold scB at *
  generalize y.out.map Tk.row=L at *
  generalize x.out.map Tk.row=L0 at *
  generalize z.out.map Tk.row=L1 at *
  simp only [inSt,mpB,mpL,AV.mp,mpP,Pl.mp]
  simp -implicitDefEqProofs [c110]
  refine onH_mk _ _ (B _ rfl) ⟨?_,?_,?_,?_,?_,?_,?_⟩ ?_
  iterate 7 (· simp [hb])
  simp -implicitDefEqProofs [n1,n2,n3,n4,n5,n6,n7,n8]
  refine onC_mk _ (WI) ?_
  simp -implicitDefEqProofs
  refine onH_mk _ _ (W _ rfl) ⟨?_,?_,?_,?_,?_,?_,?_⟩ ?_
  iterate 7 (· simp [hb])
  simp -implicitDefEqProofs
  refine postH_r ⟨?_,?_,?_,?_,?_,?_⟩<;>simp -implicitDefEqProofs [hib,hb]
 ·rw [if_pos rfl]
  dsimp only
  unfold scB at *
  generalize y.out.map Tk.row=L at *
  generalize x.out.map Tk.row=L0 at *
  simp only [inSt,mpB,mpL,AV.mp,mpP,Pl.mp]
  simp -implicitDefEqProofs [c110]
  refine onH_mk _ _ (B _ rfl) ⟨?_,?_,?_,?_,?_,?_,?_⟩ ?_
  iterate 7 (· simp [hb])
  simp -implicitDefEqProofs [n1,n2,n3,n4,n5,n6,n7,n8]
  refine onC_mk _ (WI) ?_
  simp -implicitDefEqProofs
  refine postH_r ⟨?_,?_,?_,?_,?_,?_⟩<;>simp -implicitDefEqProofs [hib,hb]
open Go.Proofs
theorem subS_len (s:List UInt8) (a b:Nat):(subS s a b).length≤s.length:=by
 unfold subS
 rw [List.length_drop,List.length_take]
 omega
theorem quoTV_e {q:List UInt8×Int} (h:q.2≠0):quoTV q= .e q.2:=if_neg h
theorem quoTV_t {q:List UInt8×Int} (h:q.2=0):quoTV q= .t 2 q.1 0:=if_pos h
theorem squoted_spec (U:List UInt8→List UInt8×Int) (s:List UInt8) (hU: ∀w,w.length≤s.length→Sp Tryz.prog gl 196 [.str w] (.tup [.str (U w).1,i6 (U w).2])) (x:Sc) (hl:x.out.length≤900000) (e:Nat) (h1:x.sa≤e) (h2:e≤s.length)
  (d:Nat) (b:Id) (hb:b.isIt=false) (hbd:b.isNw d=false):
  SpH Tryz.prog gl 150 d ⟨[.ptr b 0,i6 e],[(b,scB s x)],[(.b b 1,5)]⟩ ⟨.bool (quotedF U s x e).2,[(b,scB s (quotedF U s x e).1)],[(.b b 1,5)]⟩:=by
 refine h150 rfl ?_
 have hib:=inn_notNw hbd
 have HU:=hU (subS s x.sa e) (subS_len s x.sa e)
 unfold quotedF
 dsimp only
 have hs:List.drop x.sa (List.take e s)=subS s x.sa e:=rfl
 generalize subS s x.sa e=W at *
 generalize U W=q at *
 obtain ⟨qt,qc⟩:=q
 dsimp only at HU
 have h1':(x.sa:Int)≤e:=by omega
 have h2':(e:Int)≤s.length:=by omega
 by_cases c:qc=0
 ·subst c
  rw [quoTV_t rfl]
  dsimp only
  have A:=fun e=>sadd_spec s x (by omega) (.t 2 qt 0) e (.up b) hb
  have hz:(TV.t 2 qt 0).av= .ifc 55 (.agg [.int .i64 2,.str qt,.int .u64 0,.int .i64 0,.int .i64 0]):=rfl
  have ho:(TV.t 2 qt 0).ok=true:=rfl
  rw [hz,ho] at A
  rw [ho]
  generalize x.add (.t 2 qt 0)=y at *
  unfold scB at *
  generalize x.out.map Tk.row=L at *
  generalize y.out.map Tk.row=L1 at *
  simp only [inSt,mpB,mpL,AV.mp,mpP,Pl.mp]
  simp -implicitDefEqProofs [c150,h1,h2,h1',h2',hs]
  refine onC_mk _ (HU) ?_
  simp -implicitDefEqProofs
  refine onH_mk _ _ (A _ rfl) ⟨?_,?_,?_,?_,?_,?_,?_⟩ ?_
  iterate 7 (· simp [hb])
  simp -implicitDefEqProofs
  refine postH_r ⟨?_,?_,?_,?_,?_,?_⟩<;>simp -implicitDefEqProofs [hib,hb]
 ·rw [quoTV_e c]
  have W1:=fun e=>swrong_spec s x qc e (.up b) hb
  have hc:(qc==0)=false:=beq_eq_false_iff_ne.2 c
  have hc2:(qc !=0)=true:=by rw [bne,hc];rfl
  dsimp only [TV.ok,Sc.add]
  generalize x.wrong qc=y at *
  unfold scB at *
  generalize x.out.map Tk.row=L at *
  generalize y.out.map Tk.row=L1 at *
  simp only [inSt,mpB,mpL,AV.mp,mpP,Pl.mp]
  simp -implicitDefEqProofs [c150,h1,h2,h1',h2',hs]
  refine onC_mk _ (HU) ?_
  simp -implicitDefEqProofs [hc,hc2,c]
  refine onH_mk _ _ (W1 _ rfl) ⟨?_,?_,?_,?_,?_,?_,?_⟩ ?_
  iterate 7 (· simp [hb])
  simp -implicitDefEqProofs
  refine postH_r ⟨?_,?_,?_,?_,?_,?_⟩<;>simp -implicitDefEqProofs [hib,hb]
theorem sinside_spec (U:List UInt8→List UInt8×Int) (s:List UInt8) (hU: ∀w,w.length≤s.length→Sp Tryz.prog gl 196 [.str w] (.tup [.str (U w).1,i6 (U w).2])) (x:Sc) (hl:x.out.length≤900000) (hs:s.length≤1000000) (i:Nat) (h1:x.sa≤i) (h2:i<s.length) (r:Int)
  (d:Nat) (b:Id) (hb:b.isIt=false) (hbd:b.isNw d=false):
  SpH Tryz.prog gl 111 d ⟨[.ptr b 0,i6 i,i3 r],[(b,scB s x)],[(.b b 1,5)]⟩ ⟨.bool (insideF U s x i r).2,[(b,scB s (insideF U s x i r).1)],[(.b b 1,5)]⟩:=by
 refine h111 rfl ?_
 have hib:=inn_notNw hbd
 have ne: ∀z:Int,¬r=z→(r==z)=false:=fun z h=>beq_eq_false_iff_ne.2 h
 have Q:=fun e=>squoted_spec U s hU x hl (i+1) (by omega) (by omega) e (.up b) hb
 have t1:IntKind.i64.wrap ((i:Int)+1)=(i+1:Nat):=by rw [wrap_i64]<;>omega
 have W:=fun e=>swrong_spec s x 5 e (.up b) hb
 unfold insideF
 by_cases c1:r=10
 ·subst c1
  rw [if_pos rfl]
  dsimp only
  generalize x.wrong 5=y at *
  unfold scB at *
  generalize x.out.map Tk.row=L at *
  generalize y.out.map Tk.row=L1 at *
  simp only [inSt,mpB,mpL,AV.mp,mpP,Pl.mp]
  simp -implicitDefEqProofs [c111]
  refine onH_mk _ _ (W _ rfl) ⟨?_,?_,?_,?_,?_,?_,?_⟩ ?_
  iterate 7 (· simp [hb])
  simp -implicitDefEqProofs
  refine postH_r ⟨?_,?_,?_,?_,?_,?_⟩<;>simp -implicitDefEqProofs [hib,hb]
 rw [if_neg c1]
 have n1:=ne 10 c1
 by_cases c2:x.st=3
 ·rw [if_pos c2]
  dsimp only
  unfold scB at *
  generalize x.out.map Tk.row=L at *
  simp only [inSt,mpB,mpL,AV.mp,mpP,Pl.mp]
  simp -implicitDefEqProofs [c111,n1,c2]
  refine postH_r ⟨?_,?_,?_,?_,?_,?_⟩<;>simp -implicitDefEqProofs [hib,hb]
 rw [if_neg c2]
 have n2:(x.st==3)=false:=beq_eq_false_iff_ne.2 c2
 by_cases c3:r=92
 ·subst c3
  rw [if_pos rfl]
  dsimp only
  unfold scB at *
  generalize x.out.map Tk.row=L at *
  simp only [inSt,mpB,mpL,AV.mp,mpP,Pl.mp]
  simp -implicitDefEqProofs [c111,n1,n2]
  refine postH_r ⟨?_,?_,?_,?_,?_,?_⟩<;>simp -implicitDefEqProofs [hib,hb]
 rw [if_neg c3]
 have n3:=ne 92 c3
 by_cases c4:r=34
 ·subst c4
  rw [if_pos rfl]
  generalize (quotedF U s x (i+1)).2=ok at *
  generalize (quotedF U s x (i+1)).1=y at *
  unfold scB at *
  generalize x.out.map Tk.row=L at *
  generalize y.out.map Tk.row=L1 at *
  simp only [inSt,mpB,mpL,AV.mp,mpP,Pl.mp]
  simp -implicitDefEqProofs [c111,n1,n2,n3,t1]
  refine onH_mk _ _ (Q _ rfl) ⟨?_,?_,?_,?_,?_,?_,?_⟩ ?_
  iterate 7 (· simp [hb])
  simp -implicitDefEqProofs
  refine postH_r ⟨?_,?_,?_,?_,?_,?_⟩<;>simp -implicitDefEqProofs [hib,hb]
 rw [if_neg c4]
 have n4:=ne 34 c4
 dsimp only
 unfold scB at *
 generalize x.out.map Tk.row=L at *
 simp only [inSt,mpB,mpL,AV.mp,mpP,Pl.mp]
 simp -implicitDefEqProofs [c111,n1,n2,n3,n4]
 refine postH_r ⟨?_,?_,?_,?_,?_,?_⟩<;>simp -implicitDefEqProofs [hib,hb]
open Go.Proofs
theorem stake_spec (V:List UInt8→TV) (U:List UInt8→List UInt8×Int) (s:List UInt8) (hU: ∀w,w.length≤s.length→Sp Tryz.prog gl 196 [.str w] (.tup [.str (U w).1,i6 (U w).2])) (hV: ∀w,w.length≤s.length→Sp Tryz.prog gl 109 [.str w] (V w).av)
  (x:Sc) (hl:x.out.length≤800000) (hs:s.length≤1000000) (i:Nat) (h1:x.sa≤i) (h2:i<s.length) (r:Int) (d:Nat) (b:Id) (hb:b.isIt=false) (hbd:b.isNw d=false):
  SpH Tryz.prog gl 77 d ⟨[.ptr b 0,i6 i,i3 r],[(b,scB s x)],[(.b b 1,5)]⟩ ⟨.bool (takeF V U s x i r).2,[(b,scB s (takeF V U s x i r).1)],[(.b b 1,5)]⟩:=by
 refine h77 rfl ?_
 have hib:=inn_notNw hbd
 have ne: ∀z:Int,¬r=z→(r==z)=false:=fun z h=>beq_eq_false_iff_ne.2 h
 have I:=fun e=>sinside_spec U s hU x (by omega) hs i h1 h2 r e (.up b) hb
 have F:=fun e=>sfresh_spec s x (by omega) i r e (.up b) hb
 have WI:=swithin_spec r
 have HV:=hV (subS s x.sa i) (subS_len s x.sa i)
 have h1':(x.sa:Int)≤i:=by omega
 have h2':(i:Int)≤s.length:=by omega
 have h3:i≤s.length:=by omega
 have hss:List.drop x.sa (List.take i s)=subS s x.sa i:=rfl
 unfold takeF
 by_cases c1:x.st=1
 ·rw [if_pos c1]
  cases hw:wthn r
  ·rw [if_neg (by decide)]
   rw [hw] at WI
   have A:=fun e=>sadd_spec s x (by omega) (V (subS s x.sa i)) e (.up b) hb
   have ao:=Sc.add_out x (V (subS s x.sa i))
   have F2:=fun e=>sfresh_spec s (x.add (V (subS s x.sa i))) (by omega) i r e (.up b) hb
   generalize subS s x.sa i=W at *
   cases hk:(V W).ok
   ·rw [if_neg (by decide)]
    dsimp only
    rw [hk] at A
    have hsh:shut (V W).av=some (V W).av:=by cases V W<;>rfl
    have hid:(V W).av.ids=[]:=by cases V W<;>rfl
    have hmp: ∀f,(V W).av.mp f=(V W).av:=fun f=>by cases V W<;>rfl
    generalize (V W).av=vv at *
    generalize x.add (V W)=y at *
    unfold scB at *
    generalize x.out.map Tk.row=L at *
    generalize y.out.map Tk.row=L1 at *
    simp only [inSt,mpB,mpL,AV.mp,mpP,Pl.mp]
    simp -implicitDefEqProofs [c77,c1]
    refine onC_mk _ (WI) ?_
    simp -implicitDefEqProofs [h1,h3,h1',h2',hss]
    refine onC_mk _ (HV) ?_
    simp -implicitDefEqProofs [hsh,hid,hmp]
    refine onQ_mk _ _ (A _ rfl) ⟨?_,?_,?_,?_,?_,?_,?_⟩ ⟨?_,?_,?_⟩ ?_
    iterate 10 (· simp [Pl.isB,Pl.isF,hb,hid,hmp,c1])
    simp -implicitDefEqProofs [hid,hmp]
    refine postH_r ⟨?_,?_,?_,?_,?_,?_⟩<;>simp -implicitDefEqProofs [hib,hb,hid,hmp]
   ·rw [if_pos rfl]
    rw [hk] at A
    have hsh:shut (V W).av=some (V W).av:=by cases V W<;>rfl
    have hid:(V W).av.ids=[]:=by cases V W<;>rfl
    have hmp: ∀f,(V W).av.mp f=(V W).av:=fun f=>by cases V W<;>rfl
    generalize (V W).av=vv at *
    generalize x.add (V W)=y at *
    generalize (freshF y i r).2=ok2 at *
    generalize (freshF y i r).1=y2 at *
    unfold scB at *
    generalize x.out.map Tk.row=L at *
    generalize y.out.map Tk.row=L1 at *
    generalize y2.out.map Tk.row=L2 at *
    simp only [inSt,mpB,mpL,AV.mp,mpP,Pl.mp]
    simp -implicitDefEqProofs [c77,c1]
    refine onC_mk _ (WI) ?_
    simp -implicitDefEqProofs [h1,h3,h1',h2',hss]
    refine onC_mk _ (HV) ?_
    simp -implicitDefEqProofs [hsh,hid,hmp]
    refine onQ_mk _ _ (A _ rfl) ⟨?_,?_,?_,?_,?_,?_,?_⟩ ⟨?_,?_,?_⟩ ?_
    iterate 10 (· simp [Pl.isB,Pl.isF,hb,hid,hmp,c1])
    simp -implicitDefEqProofs [hid,hmp]
    refine onQ_mk _ _ (F2 _ rfl) ⟨?_,?_,?_,?_,?_,?_,?_⟩ ⟨?_,?_,?_⟩ ?_
    iterate 10 (· simp [Pl.isB,Pl.isF,hb,hid,hmp])
    simp -implicitDefEqProofs [hid,hmp]
    refine postH_r ⟨?_,?_,?_,?_,?_,?_⟩<;>simp -implicitDefEqProofs [hib,hb,hid,hmp]
  ·rw [if_pos rfl]
   rw [hw] at WI
   dsimp only
   unfold scB at *
   generalize x.out.map Tk.row=L at *
   simp only [inSt,mpB,mpL,AV.mp,mpP,Pl.mp]
   simp -implicitDefEqProofs [c77,c1]
   refine onC_mk _ (WI) ?_
   simp -implicitDefEqProofs
   refine postH_r ⟨?_,?_,?_,?_,?_,?_⟩<;>simp -implicitDefEqProofs [hib,hb]
 rw [if_neg c1]
 have n1:(x.st==1)=false:=beq_eq_false_iff_ne.2 c1
 by_cases c2:x.st=4
 ·rw [if_pos c2]
  by_cases c3:r=10
  ·subst c3
   rw [if_pos rfl]
   dsimp only
   unfold scB at *
   generalize x.out.map Tk.row=L at *
   simp only [inSt,mpB,mpL,AV.mp,mpP,Pl.mp]
   simp -implicitDefEqProofs [c77,c2]
   refine postH_r ⟨?_,?_,?_,?_,?_,?_⟩<;>simp -implicitDefEqProofs [hib,hb]
  ·rw [if_neg c3]
   have n3:=ne 10 c3
   dsimp only
   unfold scB at *
   generalize x.out.map Tk.row=L at *
   simp only [inSt,mpB,mpL,AV.mp,mpP,Pl.mp]
   simp -implicitDefEqProofs [c77,c2,n3,c3]
   refine postH_r ⟨?_,?_,?_,?_,?_,?_⟩<;>simp -implicitDefEqProofs [hib,hb,c2]
 rw [if_neg c2]
 have n2:(x.st==4)=false:=beq_eq_false_iff_ne.2 c2
 by_cases c3:x.st=2
 ·rw [if_pos (.inl c3)]
  generalize (insideF U s x i r).2=ok at *
  generalize (insideF U s x i r).1=y at *
  unfold scB at *
  generalize x.out.map Tk.row=L at *
  generalize y.out.map Tk.row=L1 at *
  simp only [inSt,mpB,mpL,AV.mp,mpP,Pl.mp]
  simp -implicitDefEqProofs [c77,c3]
  refine onH_mk _ _ (I _ rfl) ⟨?_,?_,?_,?_,?_,?_,?_⟩ ?_
  iterate 7 (· simp [hb,c3])
  simp -implicitDefEqProofs
  refine postH_r ⟨?_,?_,?_,?_,?_,?_⟩<;>simp -implicitDefEqProofs [hib,hb]
 have n3:(x.st==2)=false:=beq_eq_false_iff_ne.2 c3
 by_cases c4:x.st=3
 ·rw [if_pos (.inr c4)]
  generalize (insideF U s x i r).2=ok at *
  generalize (insideF U s x i r).1=y at *
  unfold scB at *
  generalize x.out.map Tk.row=L at *
  generalize y.out.map Tk.row=L1 at *
  simp only [inSt,mpB,mpL,AV.mp,mpP,Pl.mp]
  simp -implicitDefEqProofs [c77,c4]
  refine onH_mk _ _ (I _ rfl) ⟨?_,?_,?_,?_,?_,?_,?_⟩ ?_
  iterate 7 (· simp [hb,c4])
  simp -implicitDefEqProofs
  refine postH_r ⟨?_,?_,?_,?_,?_,?_⟩<;>simp -implicitDefEqProofs [hib,hb]
 have n4:(x.st==3)=false:=beq_eq_false_iff_ne.2 c4
 rw [if_neg (by omega)]
 generalize (freshF x i r).2=ok at *
 generalize (freshF x i r).1=y at *
 unfold scB at *
 generalize x.out.map Tk.row=L at *
 generalize y.out.map Tk.row=L1 at *
 simp only [inSt,mpB,mpL,AV.mp,mpP,Pl.mp]
 simp -implicitDefEqProofs [c77,n1,n2,n3,n4]
 refine onH_mk _ _ (F _ rfl) ⟨?_,?_,?_,?_,?_,?_,?_⟩ ?_
 iterate 7 (· simp [hb])
 simp -implicitDefEqProofs
 refine postH_r ⟨?_,?_,?_,?_,?_,?_⟩<;>simp -implicitDefEqProofs [hib,hb]
open Go.Proofs
theorem Sc.add_keep (x:Sc) (v:TV):(x.add v).al=x.al∧(x.add v).ac=x.ac∧(x.add v).sa=x.sa:=by
 cases v<;>exact ⟨rfl,rfl,rfl⟩
theorem freshF_keep (x:Sc) (i:Nat) (r:Int):(freshF x i r).1.al=x.al∧(freshF x i r).1.ac=x.ac∧(freshF x i r).1.sa=i:=by
 unfold freshF
 dsimp only
 repeat' split
 all_goals first|exact ⟨rfl,rfl,rfl⟩|exact Sc.add_keep (x.begin i 0) _
theorem takeF_keep (V:List UInt8→TV) (U:List UInt8→List UInt8×Int) (s:List UInt8) (x:Sc) (i:Nat) (r:Int) (h:x.sa≤i):(takeF V U s x i r).1.al=x.al∧(takeF V U s x i r).1.ac=x.ac∧(takeF V U s x i r).1.sa≤i:=by
 unfold takeF
 by_cases c1:x.st=1
 ·rw [if_pos c1]
  by_cases c2:wthn r=true
  ·rw [if_pos c2];exact ⟨rfl,rfl,h⟩
  ·rw [if_neg c2]
   have a:=Sc.add_keep x (V (subS s x.sa i))
   by_cases c3:(V (subS s x.sa i)).ok=true
   ·rw [if_pos c3]
    have f:=freshF_keep (x.add (V (subS s x.sa i))) i r
    exact ⟨f.1.trans a.1,f.2.1.trans a.2.1,by omega⟩
   ·rw [if_neg c3]
    exact ⟨a.1,a.2.1,by dsimp only;omega⟩
 ·rw [if_neg c1]
  by_cases c2:x.st=4
  ·rw [if_pos c2]
   dsimp only
   split
   ·exact ⟨rfl,rfl,h⟩
   ·exact ⟨rfl,rfl,h⟩
  ·rw [if_neg c2]
   by_cases c3:x.st=2∨x.st=3
   ·rw [if_pos c3]
    unfold insideF quotedF
    repeat' split
    all_goals first|exact ⟨rfl,rfl,h⟩|exact ⟨(Sc.add_keep x _).1,(Sc.add_keep x _).2.1,by have:=(Sc.add_keep x (quoTV (U (subS s x.sa (i+1))))).2.2;dsimp only;omega⟩
   ·rw [if_neg c3]
    have f:=freshF_keep x i r
    exact ⟨f.1,f.2.1,by omega⟩
def r65 (r:Int):Int:=if r= -1 then 65533 else r
def Sc.adv (x:Sc) (r:Int):Sc:=if r=10 then {x with al:=x.al+1,ac:=1} else {x with ac:=x.ac+1}
def runF (V:List UInt8→TV) (U:List UInt8→List UInt8×Int) (s:List UInt8) (x:Sc) (i:Nat):Sc×Bool:=
 if h:i<s.length then
  if (takeF V U s x i (r65 (stepR s i).1)).2=true then runF V U s ((takeF V U s x i (r65 (stepR s i).1)).1.adv (r65 (stepR s i).1)) (i+(stepR s i).2)
  else ((takeF V U s x i (r65 (stepR s i).1)).1,false)
 else (x,true)
termination_by s.length - i
decreasing_by have:=stepR_pos s i;omega
def sc0:Sc:=⟨[],0,0,1,1,1,1,0,0,0⟩
structure TR where
 l:List Tk
 c:Int
 a:Int
 b:Int
def TR.bad (x:Sc):TR:=⟨[],x.cd,x.xl,x.xc⟩
def scanF (V:List UInt8→TV) (U:List UInt8→List UInt8×Int) (s:List UInt8):TR:=
 if 40000<s.length then ⟨[],9,1,1⟩
 else if (runF V U s sc0 0).2=true then (if (endF V s (runF V U s sc0 0).1).2=true then ⟨(endF V s (runF V U s sc0 0).1).1.out,0,0,0⟩ else .bad (endF V s (runF V U s sc0 0).1).1)
 else .bad (runF V U s sc0 0).1
def TR.av (x:TR):AV:= .tup [.sl (x.l.map Tk.row),.agg [i6 x.c,i6 x.a,i6 x.b]]
theorem send_spec (V:List UInt8→TV) (s:List UInt8) (hV: ∀w,w.length≤s.length→Sp Tryz.prog gl 109 [.str w] (V w).av)
  (x:Sc) (hl:x.out.length≤800000) (hs:s.length≤1000000) (h1:x.sa≤s.length) (d:Nat) (b:Id) (hb:b.isIt=false) (hbd:b.isNw d=false):
  SpH Tryz.prog gl 78 d ⟨[.ptr b 0],[(b,scB s x)],[(.b b 1,5)]⟩ ⟨.bool (endF V s x).2,[(b,scB s (endF V s x).1)],[(.b b 1,5)]⟩:=by
 refine h78 rfl ?_
 have hib:=inn_notNw hbd
 have HV:=hV (subS s x.sa s.length) (subS_len s x.sa s.length)
 have h1':(x.sa:Int)≤s.length:=by omega
 have hss:List.drop x.sa s=subS s x.sa s.length:=by unfold subS;rw [List.take_length]
 have hz:(TV.t 0 [] 0).av= .ifc 55 (.agg [.int .i64 0,.str [],.int .u64 0,.int .i64 0,.int .i64 0]):=rfl
 have ho:(TV.t 0 [] 0).ok=true:=rfl
 have W:=fun e=>swrong_spec s x 5 e (.up b) hb
 unfold endF
 by_cases c1:x.st=1
 ·rw [if_pos c1]
  have A:=fun e=>sadd_spec s x (by omega) (V (subS s x.sa s.length)) e (.up b) hb
  have ao:=Sc.add_out x (V (subS s x.sa s.length))
  have B:=fun e=>sbegin_spec s (x.add (V (subS s x.sa s.length))) s.length 0 e (.up b) hb
  have A2:=fun e=>sadd_spec s ((x.add (V (subS s x.sa s.length))).begin s.length 0) (by rw [Sc.begin_out];omega) (.t 0 [] 0) e (.up b) hb
  rw [hz,ho] at A2
  generalize subS s x.sa s.length=W0 at *
  cases hk:(V W0).ok
  ·rw [if_neg (by decide)]
   dsimp only
   rw [hk] at A
   have hsh:shut (V W0).av=some (V W0).av:=by cases V W0<;>rfl
   have hid:(V W0).av.ids=[]:=by cases V W0<;>rfl
   have hmp: ∀f,(V W0).av.mp f=(V W0).av:=fun f=>by cases V W0<;>rfl
   generalize (V W0).av=vv at *
   generalize x.add (V W0)=y at *
   clear B A2
   unfold scB at *
   generalize x.out.map Tk.row=L at *
   generalize y.out.map Tk.row=L1 at *
   simp only [inSt,mpB,mpL,AV.mp,mpP,Pl.mp]
   simp -implicitDefEqProofs [c78,c1,h1,h1',hss]
   refine onC_mk _ (HV) ?_
   simp -implicitDefEqProofs [hsh,hid,hmp]
   refine onQ_mk _ _ (A _ rfl) ⟨?_,?_,?_,?_,?_,?_,?_⟩ ⟨?_,?_,?_⟩ ?_
   iterate 10 (· simp [Pl.isB,Pl.isF,hb,hid,hmp,c1])
   simp -implicitDefEqProofs [hid,hmp]
   refine postH_r ⟨?_,?_,?_,?_,?_,?_⟩<;>simp -implicitDefEqProofs [hib,hb,hid,hmp]
  ·rw [if_pos rfl]
   rw [hk] at A
   have hsh:shut (V W0).av=some (V W0).av:=by cases V W0<;>rfl
   have hid:(V W0).av.ids=[]:=by cases V W0<;>rfl
   have hmp: ∀f,(V W0).av.mp f=(V W0).av:=fun f=>by cases V W0<;>rfl
   generalize (V W0).av=vv at *
   generalize x.add (V W0)=y at *
   generalize y.begin s.length 0=y1 at *
   generalize y1.add (.t 0 [] 0)=y2 at *
   unfold scB at *
   generalize x.out.map Tk.row=L at *
   generalize y.out.map Tk.row=L1 at *
   generalize y1.out.map Tk.row=L2 at *
   generalize y2.out.map Tk.row=L3 at *
   simp only [inSt,mpB,mpL,AV.mp,mpP,Pl.mp]
   simp -implicitDefEqProofs [c78,c1,h1,h1',hss]
   refine onC_mk _ (HV) ?_
   simp -implicitDefEqProofs [hsh,hid,hmp]
   refine onQ_mk _ _ (A _ rfl) ⟨?_,?_,?_,?_,?_,?_,?_⟩ ⟨?_,?_,?_⟩ ?_
   iterate 10 (· simp [Pl.isB,Pl.isF,hb,hid,hmp,c1])
   simp -implicitDefEqProofs [hid,hmp]
   refine onH_mk _ _ (B _ rfl) ⟨?_,?_,?_,?_,?_,?_,?_⟩ ?_
   iterate 7 (· simp [hb,hid,hmp])
   simp -implicitDefEqProofs [hid,hmp]
   refine onH_mk _ _ (A2 _ rfl) ⟨?_,?_,?_,?_,?_,?_,?_⟩ ?_
   iterate 7 (· simp [hb,hid,hmp])
   simp -implicitDefEqProofs [hid,hmp]
   refine postH_r ⟨?_,?_,?_,?_,?_,?_⟩<;>simp -implicitDefEqProofs [hib,hb,hid,hmp]
 rw [if_neg c1]
 have n1:(x.st==1)=false:=beq_eq_false_iff_ne.2 c1
 by_cases c3:x.st=2
 ·rw [if_pos (.inl c3)]
  dsimp only
  generalize x.wrong 5=y at *
  unfold scB at *
  generalize x.out.map Tk.row=L at *
  generalize y.out.map Tk.row=L1 at *
  simp only [inSt,mpB,mpL,AV.mp,mpP,Pl.mp]
  simp -implicitDefEqProofs [c78,c3]
  refine onH_mk _ _ (W _ rfl) ⟨?_,?_,?_,?_,?_,?_,?_⟩ ?_
  iterate 7 (· simp [hb,c3])
  simp -implicitDefEqProofs
  refine postH_r ⟨?_,?_,?_,?_,?_,?_⟩<;>simp -implicitDefEqProofs [hib,hb]
 have n3:(x.st==2)=false:=beq_eq_false_iff_ne.2 c3
 by_cases c4:x.st=3
 ·rw [if_pos (.inr c4)]
  dsimp only
  generalize x.wrong 5=y at *
  unfold scB at *
  generalize x.out.map Tk.row=L at *
  generalize y.out.map Tk.row=L1 at *
  simp only [inSt,mpB,mpL,AV.mp,mpP,Pl.mp]
  simp -implicitDefEqProofs [c78,c4]
  refine onH_mk _ _ (W _ rfl) ⟨?_,?_,?_,?_,?_,?_,?_⟩ ?_
  iterate 7 (· simp [hb,c4])
  simp -implicitDefEqProofs
  refine postH_r ⟨?_,?_,?_,?_,?_,?_⟩<;>simp -implicitDefEqProofs [hib,hb]
 have n4:(x.st==3)=false:=beq_eq_false_iff_ne.2 c4
 rw [if_neg (by omega)]
 have B:=fun e=>sbegin_spec s x s.length 0 e (.up b) hb
 have A2:=fun e=>sadd_spec s (x.begin s.length 0) (by rw [Sc.begin_out];omega) (.t 0 [] 0) e (.up b) hb
 rw [hz,ho] at A2
 dsimp only
 generalize x.begin s.length 0=y1 at *
 generalize y1.add (.t 0 [] 0)=y2 at *
 clear W
 unfold scB at *
 generalize x.out.map Tk.row=L at *
 generalize y1.out.map Tk.row=L2 at *
 generalize y2.out.map Tk.row=L3 at *
 simp only [inSt,mpB,mpL,AV.mp,mpP,Pl.mp]
 simp -implicitDefEqProofs [c78,n1,n3,n4]
 refine onH_mk _ _ (B _ rfl) ⟨?_,?_,?_,?_,?_,?_,?_⟩ ?_
 iterate 7 (· simp [hb])
 simp -implicitDefEqProofs
 refine onH_mk _ _ (A2 _ rfl) ⟨?_,?_,?_,?_,?_,?_,?_⟩ ?_
 iterate 7 (· simp [hb])
 simp -implicitDefEqProofs
 refine postH_r ⟨?_,?_,?_,?_,?_,?_⟩<;>simp -implicitDefEqProofs [hib,hb]
open Go.Proofs
theorem nameGo_big: ∀(l:List Int) (n:Nat) (last:Int),24<n+l.length→nameGo n last l=false
 |[],n,last,h=>by
  simp only [nameGo]
  rw [decide_eq_false (show ¬(0<n∧n≤24) by simp at h;omega)];rfl
 |r::l,n,last,h=>by
  simp only [nameGo]
  rw [nameGo_big l (n+1) r (by simp at h;omega)];simp
theorem rname_spec (s:List UInt8) (hl:s.length≤900000):Sp Tryz.prog gl 57 [.str s] (.bool (nameT s)):=by
 refine s57 rfl rfl ?_
 have RS:=runes_spec s hl
 have rl:=runesL_len s s.length 0 (by omega)
 obtain ⟨R,hR⟩: ∃R,R=nameT s:=⟨_,rfl⟩
 rw [←hR]
 unfold nameT at hR
 generalize runesL s 0=l at *
 have el: ∀l,runeRows l=l.map fun r=>[i3 r]:=fun _=>rfl
 rw [el] at RS
 by_cases h0:l=[]
 ·subst h0
  subst hR
  simp -implicitDefEqProofs [c57]
  refine onC_mk _ RS ?_
  simp -implicitDefEqProofs [nameGo]
 ·have hlen:0<l.length:=List.length_pos_iff.2 h0
  have b0:((l.length:Int)==0)=false:=by rw [beq_eq_false_iff_ne];omega
  by_cases h24:24<l.length
  ·rw [nameGo_big l 0 32 (by omega)] at hR
   subst hR
   have hI:(24:Int)<l.length:=by omega
   simp -implicitDefEqProofs [c57]
   refine onC_mk _ RS ?_
   simp -implicitDefEqProofs [b0,hI]
  ·have hI: ¬(24:Int)<l.length:=by omega
   have L0:=rletter_spec l[0]
   cases hl0:letter l[0]
   ·rw [hl0] at L0
    have:R=false:=by
     rw [hR]
     cases l with
     |nil=>exact absurd rfl h0
     |cons r l=>simp only [List.getElem_cons_zero] at hl0;simp [nameGo,hl0]
    clear hR
    subst this
    simp -implicitDefEqProofs [c57]
    refine onC_mk _ RS ?_
    simp -implicitDefEqProofs [b0,hI,hlen,h0]
    refine onC_mk _ L0 ?_
    simp -implicitDefEqProofs
   ·rw [hl0] at L0
    simp -implicitDefEqProofs [c57]
    refine onC_mk _ RS ?_
    simp -implicitDefEqProofs [b0,hI,hlen,h0]
    refine onC_mk _ L0 ?_
    simp -implicitDefEqProofs
    refine wp_lpk (α:=Nat×Int) (fun x=>⟨[(3,.sl (l.map fun r=>[i3 r])),(4,i6 x.1)],[],[]⟩)
     (fun x=>x.1≤l.length∧nameGo x.1 x.2 (l.drop x.1)=R∧(0<x.1→x.1=l.length→(letter x.2||digR x.2)=true)) (fun x=>l.length - x.1) ?_ (0,32) ?_ ?_
    ·rintro K ⟨i,prev⟩ hK ⟨h1,h2,h3⟩
     simp only at h1 h2 h3
     by_cases g:i<l.length
     ·have t1:IntKind.i64.wrap ((i:Int)+1)=(i+1:Nat):=by rw [wrap_i64]<;>omega
      have t2:IntKind.i64.wrap ((l.length:Int) - 1)=(l.length - 1:Nat):=by rw [wrap_i64]<;>omega
      have LI:=rletter_spec l[i]
      rw [List.drop_eq_getElem_cons g] at h2
      simp only [nameGo] at h2
      have hz:i=0→letter l[i]=true:=by rintro rfl;exact hl0
      have fin:nameGo (i+1) l[i] (l.drop (i+1))=R→(i+1=l.length→(letter l[i]||digR l[i])=true)→ ∀σ',Weak σ' ⟨[(3,.sl (l.map fun r=>[i3 r])),(4,i6 (i+1:Nat))],[],[]⟩→K σ':=
       fun hh he σ' hσ=>hK (i+1,l[i]) σ' ⟨by simp only;omega,hh,fun _=>he⟩ (by simp only;omega) hσ
      have hend:i+1=l.length→l.drop (i+1)=[]:=fun h=>List.drop_eq_nil_of_le (by omega)
      obtain ⟨r,hr⟩: ∃r,l[i]=r:=⟨_,rfl⟩
      rw [hr] at h2 LI hz fin
      generalize l.drop (i+1)=l2 at *
      clear hK hR L0 RS h3
      cases hlt:letter r
      ·rw [hlt] at h2 LI hz
       have hi:0<i:=by
        rcases Nat.eq_zero_or_pos i with h|h
        ·have:=hz h;cases this
        ·exact h
       rw [decide_eq_true (show i≠0 by omega)] at h2
       cases hd:digR r
       ·rw [hd] at h2
        unfold digR at hd
        rw [decide_eq_false_iff_not] at hd
        have d1: ∀X Y:Prop,((48≤r→r≤57→X)→Y)→True:=fun _ _ _=>trivial
        by_cases hlast:i+1=l.length
        ·have:R=false:=by
          rw [←h2,hend hlast]
          simp only [nameGo]
          rw [hlt,show digR r=false from decide_eq_false hd]
          simp
         subst this
         have hq:((i:Int)==((l.length - 1:Nat):Int))=true:=by rw [beq_iff_eq];omega
         by_cases q1:48≤r
         ·have q2: ¬r≤57:=by omega
          simp -implicitDefEqProofs [g,hr,t2,hq,q1,q2]
          refine onC_mk _ LI ?_
          simp -implicitDefEqProofs
         ·simp [g,hr,t2,hq,q1]
          refine onC_mk _ LI ?_
          simp -implicitDefEqProofs
        ·have hq:((i:Int)==((l.length - 1:Nat):Int))=false:=by rw [beq_eq_false_iff_ne];omega
         by_cases e1:r=95
         ·have fin:=fin (by rw [←h2];simp [e1]) (fun h=>absurd h hlast)
          have q1:(48:Int)≤r:=by omega
          have q2: ¬r≤57:=by omega
          have e3:(r !=95)=false:=by simp [e1]
          simp -implicitDefEqProofs [g,hr,t2,hq,q1,q2]
          refine onC_mk _ LI ?_
          simp -implicitDefEqProofs [g,hr,e3]
          refine fin _ (weak_mk ?_ ?_ ?_ ?_ ?_ ?_)<;>simp -implicitDefEqProofs [t1]
         ·by_cases e2:r=45
          ·have fin:=fin (by rw [←h2];simp [e2]) (fun h=>absurd h hlast)
           have q1: ¬(48:Int)≤r:=by omega
           have e3:(r !=95)=true:=by simp [e1]
           have e4:(r !=45)=false:=by simp [e2]
           simp -implicitDefEqProofs [g,hr,t2,hq,q1]
           refine onC_mk _ LI ?_
           simp -implicitDefEqProofs [g,hr,e3,e4]
           refine fin _ (weak_mk ?_ ?_ ?_ ?_ ?_ ?_)<;>simp -implicitDefEqProofs [t1]
          ·have e3:(r !=95)=true:=by simp [e1]
           have e4:(r !=45)=true:=by simp [e2]
           have:R=false:=by
            rw [←h2,show (r==95)=false by simp [e1],show (r==45)=false by simp [e2]];simp
           subst this
           by_cases q1:48≤r
           ·have q2: ¬r≤57:=by omega
            simp -implicitDefEqProofs [g,hr,t2,hq,q1,q2]
            refine onC_mk _ LI ?_
            simp -implicitDefEqProofs [g,hr,e3,e4]
           ·simp [g,hr,t2,hq,q1]
            refine onC_mk _ LI ?_
            simp -implicitDefEqProofs [g,hr,e3,e4]
       ·rw [hd] at h2
        have fin:=fin (by rw [←h2];simp) (fun _=>by rw [hd];simp)
        unfold digR at hd
        rw [decide_eq_true_eq] at hd
        simp -implicitDefEqProofs [g,hr,t2,hd.1,hd.2]
        refine onC_mk _ LI ?_
        simp -implicitDefEqProofs
        refine fin _ (weak_mk ?_ ?_ ?_ ?_ ?_ ?_)<;>simp -implicitDefEqProofs [t1]
      ·rw [hlt] at h2 LI
       have fin:=fin (by rw [←h2];simp) (fun _=>by rw [hlt];rfl)
       by_cases q1:48≤r
       ·by_cases q2:r≤57
        ·simp [g,hr,t2,q1,q2]
         refine onC_mk _ LI ?_
         simp -implicitDefEqProofs
         refine fin _ (weak_mk ?_ ?_ ?_ ?_ ?_ ?_)<;>simp -implicitDefEqProofs [t1]
        ·simp [g,hr,t2,q1,q2]
         refine onC_mk _ LI ?_
         simp -implicitDefEqProofs
         refine fin _ (weak_mk ?_ ?_ ?_ ?_ ?_ ?_)<;>simp -implicitDefEqProofs [t1]
       ·simp [g,hr,t2,q1]
        refine onC_mk _ LI ?_
        simp -implicitDefEqProofs
        refine fin _ (weak_mk ?_ ?_ ?_ ?_ ?_ ?_)<;>simp -implicitDefEqProofs [t1]
     ·obtain rfl:i=l.length:=by omega
      have h3:=h3 hlen rfl
      rw [List.drop_length] at h2
      simp only [nameGo] at h2
      rw [h3,decide_eq_true (show 0<l.length∧l.length≤24 by omega)] at h2
      have:R=true:=by rw [←h2];rfl
      clear hK hR
      subst this
      simp -implicitDefEqProofs
    ·exact ⟨Nat.zero_le _,by simpa using hR.symm,fun h=>absurd h (by simp)⟩
    ·refine weak_mk ?_ ?_ ?_ ?_ ?_ ?_<;>simp -implicitDefEqProofs
open Go.Proofs
def skp (l:List Int) (i:Nat):Nat:=if h:i<l.length then (if l[i]=10 then i else skp l (i+1)) else i
termination_by l.length - i
theorem skp_in {l:List Int} {i:Nat} (h:i<l.length):skp l i=if l[i]=10 then i else skp l (i+1):=by rw [skp,dif_pos h]
theorem skp_out {l:List Int} {i:Nat} (h: ¬i<l.length):skp l i=i:=by rw [skp,dif_neg h]
theorem skp_le (l:List Int): ∀(n i:Nat),l.length - i≤n→i≤l.length→i≤skp l i∧skp l i≤l.length
 |0,i,h,hi=>by rw [skp_out (by omega)];omega
 |n+1,i,h,hi=>by
  by_cases g:i<l.length
  ·rw [skp_in g]
   split
   ·omega
   ·have:=skp_le l n (i+1) (by omega) (by omega)
    omega
  ·rw [skp_out g];omega
def refGo (VR:List Int→TV) (U:List UInt8→List UInt8×Int) (l:List Int) (P:List (Int×Int)):Nat→Nat→List Tk→TR
 |0,_,_=>⟨[],0,0,0⟩
 |f+1,i,out=>match l[i]? with
  |none=>⟨out++[⟨0,[],0,(P.getD l.length (0,0)).1,(P.getD l.length (0,0)).2⟩],0,0,0⟩
  |some r=>if r=32∨r=9∨r=10 then refGo VR U l P f (i+1) out
   else if r=35 then refGo VR U l P f (skp l i) out
   else if (oneF VR U l i r).c=0 then refGo VR U l P f (oneF VR U l i r).en (out++[⟨(oneF VR U l i r).k,(oneF VR U l i r).w,(oneF VR U l i r).n,(P.getD i (0,0)).1,(P.getD i (0,0)).2⟩])
   else ⟨[],(oneF VR U l i r).c,(P.getD i (0,0)).1,(P.getD i (0,0)).2⟩
def refF (VR:List Int→TV) (U:List UInt8→List UInt8×Int) (s:List UInt8):TR:=
 if 40000<s.length then ⟨[],9,1,1⟩ else refGo VR U (runesL s 0) (plc 1 1 (runesL s 0)) ((runesL s 0).length+1) 0 []
theorem oneF_en (VR:List Int→TV) (U:List UInt8→List UInt8×Int) (l:List Int) (i:Nat) (h:i<l.length) (hc:(oneF VR U l i l[i]).c=0):i<(oneF VR U l i l[i]).en∧(oneF VR U l i l[i]).en≤l.length:=by
 unfold oneF at hc ⊢
 by_cases c1:l[i]=123
 ·rw [if_pos c1];exact ⟨Nat.lt_succ_self _,h⟩
 rw [if_neg c1] at hc ⊢
 by_cases c2:l[i]=125
 ·rw [if_pos c2];exact ⟨Nat.lt_succ_self _,h⟩
 rw [if_neg c2] at hc ⊢
 by_cases c3:l[i]=59
 ·rw [if_pos c3];exact ⟨Nat.lt_succ_self _,h⟩
 rw [if_neg c3] at hc ⊢
 by_cases c4:l[i]=34
 ·rw [if_pos c4] at hc ⊢
  have:=qGo_le l l.length (i+1) (by omega)
  by_cases c5:qGo l (i+1)=0
  ·rw [if_pos c5] at hc;exact absurd hc (by decide)
  ·rw [if_neg c5]
   dsimp only
   omega
 rw [if_neg c4] at hc ⊢
 by_cases c5:wthn l[i]=true
 ·rw [if_pos c5] at hc ⊢
  have w1:=wEnd_in h
  rw [if_pos c5] at w1
  have w2:=wEnd_le l l.length (i+1) (by omega) (by omega)
  rw [←w1] at w2
  generalize VR (subR l i (wEnd l i))=v at *
  cases v<;>(dsimp only [TV.on];omega)
 ·rw [if_neg c5] at hc;exact absurd hc (by decide)
set_option maxHeartbeats 1000000 in
theorem rtokens_spec (VR:List Int→TV) (U:List UInt8→List UInt8×Int) (s:List UInt8)
  (hU: ∀w,w.length≤4*s.length→Sp Tryz.prog gl 113 [.str w] (.tup [.str (U w).1,i6 (U w).2]))
  (hV: ∀m:List Int,m.length≤s.length→(∀r∈m,r≤1114111)→Sp Tryz.prog gl 116 [.sl (runeRows m)] (VR m).rs):
  Sp Tryz.prog gl 50 [.str s] (refF VR U s).av:=by
 refine s50 rfl rfl ?_
 have hlim:lim=140737488355328:=rfl
 unfold refF
 by_cases hl:40000<s.length
 ·rw [if_pos hl]
  have hl':(40000:Int)<s.length:=by omega
  unfold TR.av
  simp -implicitDefEqProofs [c50,hl,hl']
 rw [if_neg hl]
 have hl': ¬(40000:Int)<s.length:=by omega
 have RS:=runes_spec s (by omega)
 have hlen:=runesL_len s s.length 0 (by omega)
 have hok:=runesL_okR s s.length 0 (by omega)
 generalize runesL s 0=l at *
 have hr: ∀r∈l,r≤1114111:=fun r h=>by
  rcases hok r h with h|h<;>omega
 have PL:=rplaces_spec l (by omega)
 have pl:=plc_len l 1 1
 have prl:=plR_len (plc 1 1 l)
 have pat:=plR_at (plc 1 1 l)
 generalize plc 1 1 l=P at *
 have ON:=fun i (hi:i<l.length)=>rone_spec VR U l (by omega) hr (fun w hw=>hU w (by omega)) (fun m hm=>hV m (by omega)) i hi
 have OE:=oneF_en VR U l
 have rl:=runeRows_len l
 have rat:=runeRows_at l
 generalize runeRows l=RR at *
 generalize plR P=PR0 at *
 obtain ⟨R,hR⟩: ∃R,R=refGo VR U l P (l.length+1) 0 []:=⟨_,rfl⟩
 rw [←hR]
 clear hU hV
 simp -implicitDefEqProofs [c50,hl,hl']
 refine onC_mk _ (RS) ?_
 simp -implicitDefEqProofs
 refine onC_mk _ (PL) ?_
 simp -implicitDefEqProofs
 refine wp_lpk (α:=Nat×Nat×List Tk) (fun y=>⟨[(3,.ptr (.n 3) 0),(4,.sl RR),(5,.sl PR0),(6,.sl (y.2.2.map Tk.row)),(7,i6 y.2.1)],[(.n 3,[i6 0,i6 0,i6 0])],[(.s 6,5)]⟩)
  (fun y=>y.2.1≤l.length∧l.length+1 - y.2.1≤y.1∧y.2.2.length≤y.2.1∧refGo VR U l P y.1 y.2.1 y.2.2=R) (fun y=>l.length - y.2.1) ?_ (l.length+1,0,[]) ?_ ?_
 ·rintro K ⟨f,i,out⟩ hK ⟨h1,h2,h3,h4⟩
  simp only at h1 h2 h3 h4
  cases f with
  |zero=>omega
  |succ f=>
  rw [refGo] at h4
  have h5:=tk_five out
  have hll:((out.map Tk.row).length+1)*48≤140737488355328:=by rw [List.length_map];omega
  by_cases g:i<l.length
  ·rw [List.getElem?_eq_getElem g] at h4
   dsimp only at h4
   have g':(i:Int)<l.length:=by omega
   have gR:i<RR.length:=by omega
   have ra:=rat i g gR
   have t1:IntKind.i64.wrap ((i:Int)+1)=(i+1:Nat):=by rw [wrap_i64]<;>omega
   have fin: ∀j out',i<j→j≤l.length→out'.length≤j→refGo VR U l P f j out'=R→ ∀σ',Weak σ' ⟨[(3,.ptr (.n 3) 0),(4,.sl RR),(5,.sl PR0),(6,.sl (out'.map Tk.row)),(7,i6 j)],[(.n 3,[i6 0,i6 0,i6 0])],[(.s 6,5)]⟩→K σ':=
    fun j out' a1 a2 a3 a4 σ' hσ=>hK (f,j,out') σ' ⟨a2,by simp only;omega,a3,a4⟩ (by simp only;omega) hσ
   have ne: ∀z:Int,¬l[i]=z→(l[i]==z)=false:=fun z h=>beq_eq_false_iff_ne.2 h
   by_cases c1:l[i]=32
   ·rw [if_pos (.inl c1)] at h4
    have fin:=fin (i+1) out (by omega) (by omega) (by omega) h4
    clear hK
    simp -implicitDefEqProofs [g,g',gR,ra,rl,c1]
    refine fin _ ?_
    refine weak_mk ?_ ?_ ?_ ?_ ?_ ?_<;>simp -implicitDefEqProofs [t1]
   have n1:=ne 32 c1
   by_cases c2:l[i]=9
   ·rw [if_pos (.inr (.inl c2))] at h4
    have fin:=fin (i+1) out (by omega) (by omega) (by omega) h4
    clear hK
    simp -implicitDefEqProofs [g,g',gR,ra,rl,n1,c2]
    refine fin _ ?_
    refine weak_mk ?_ ?_ ?_ ?_ ?_ ?_<;>simp -implicitDefEqProofs [t1]
   have n2:=ne 9 c2
   by_cases c3:l[i]=10
   ·rw [if_pos (.inr (.inr c3))] at h4
    have fin:=fin (i+1) out (by omega) (by omega) (by omega) h4
    clear hK
    simp -implicitDefEqProofs [g,g',gR,ra,rl,n1,n2,c3]
    refine fin _ ?_
    refine weak_mk ?_ ?_ ?_ ?_ ?_ ?_<;>simp -implicitDefEqProofs [t1]
   have n3:=ne 10 c3
   rw [if_neg (by omega)] at h4
   by_cases c4:l[i]=35
   ·rw [if_pos c4] at h4
    clear hK
    have s1:=skp_in g
    rw [if_neg c3] at s1
    have s2:=skp_le l l.length (i+1) (by omega) (by omega)
    rw [←s1] at s2
    have fin:=fin (skp l i) out (by omega) s2.2 (by omega) h4
    obtain ⟨Q,hQ⟩: ∃Q,Q=skp l i:=⟨_,rfl⟩
    rw [←hQ] at fin s2
    simp -implicitDefEqProofs [g,g',gR,ra,rl,n1,n2,n3,c4]
    refine wp_lpk (α:=Nat) (fun j=>⟨[(3,.ptr (.n 3) 0),(4,.sl RR),(5,.sl PR0),(6,.sl (out.map Tk.row)),(7,i6 j)],[(.n 3,[i6 0,i6 0,i6 0])],[(.s 6,5)]⟩)
     (fun j=>j≤l.length∧skp l j=Q) (fun j=>l.length - j) ?_ i ?_ ?_
    ·rintro K2 j hK2 ⟨k1,k2⟩
     by_cases gj:j<l.length
     ·have gj':(j:Int)<l.length:=by omega
      have gR2:j<RR.length:=by omega
      have rb:=rat j gj gR2
      have t2:IntKind.i64.wrap ((j:Int)+1)=(j+1:Nat):=by rw [wrap_i64]<;>omega
      rw [skp_in gj] at k2
      by_cases c5:l[j]=10
      ·rw [if_pos c5] at k2
       subst k2
       clear hK2
       have c5':(l[j]!=10)=false:=by rw [c5];rfl
       simp -implicitDefEqProofs [gj,gj',gR2,rb,rl,c5,c5']
       refine fin _ ?_
       refine weak_mk ?_ ?_ ?_ ?_ ?_ ?_<;>simp -implicitDefEqProofs
      ·rw [if_neg c5] at k2
       have c5':(l[j]!=10)=true:=bne_iff_ne.2 c5
       have c5'':(l[j]==10)=false:=beq_eq_false_iff_ne.2 c5
       simp -implicitDefEqProofs [gj,gj',gR2,rb,rl,c5,c5',c5'']
       refine hK2 (j+1) _ ⟨by omega,k2⟩ (by omega) ?_
       refine weak_mk ?_ ?_ ?_ ?_ ?_ ?_<;>simp -implicitDefEqProofs [t2]
     ·rw [skp_out gj] at k2
      subst k2
      clear hK2
      have gj': ¬(j:Int)<l.length:=by omega
      simp -implicitDefEqProofs [gj,gj',rl]
      refine fin _ ?_
      refine weak_mk ?_ ?_ ?_ ?_ ?_ ?_<;>simp -implicitDefEqProofs
    ·exact ⟨by omega,hQ.symm⟩
    ·refine weak_mk ?_ ?_ ?_ ?_ ?_ ?_<;>simp -implicitDefEqProofs
   rw [if_neg c4] at h4
   have n4:=ne 35 c4
   have ON:=ON i g
   have OE:=OE i g
   generalize oneF VR U l i l[i]=o at *
   have gP:i<P.length:=by omega
   have gP2:i<PR0.length:=by omega
   have pa:=pat i gP gP2
   rw [List.getD_eq_getElem?_getD,List.getElem?_eq_getElem gP,Option.getD_some] at h4
   generalize P[i]=pp at *
   obtain ⟨p1,p2⟩:=pp
   obtain ⟨ok,ow,on,oe,oc⟩:=o
   unfold On.av at ON
   dsimp only at ON OE h4 pa
   clear hK
   by_cases c5:oc=0
   ·subst c5
    rw [if_pos rfl] at h4
    have OE:=OE rfl
    have fin:=fin oe (out++[⟨ok,ow,on,p1,p2⟩]) OE.1 OE.2 (by simp;omega) h4
    have he:(out++[(⟨ok,ow,on,p1,p2⟩:Tk)]).map Tk.row=out.map Tk.row++[[i6 ok,.str ow,u on,i6 p1,i6 p2]]:=by simp [Tk.row]
    rw [he] at fin
    clear he h4
    generalize out.map Tk.row=L at *
    simp -implicitDefEqProofs [g,g',gR,ra,rl,n1,n2,n3,n4]
    refine onC_mk _ (ON) ?_
    simp -implicitDefEqProofs [gP,gP2,pa,prl,hlim]
    refine ⟨hll,h5,?_⟩
    refine fin _ ?_
    refine weak_mk ?_ ?_ ?_ ?_ ?_ ?_<;>simp -implicitDefEqProofs
   ·rw [if_neg c5] at h4
    subst h4
    have c5':(oc==0)=false:=beq_eq_false_iff_ne.2 c5
    have c5'':(oc !=0)=true:=bne_iff_ne.2 c5
    clear fin
    unfold TR.av
    dsimp only
    simp -implicitDefEqProofs [g,g',gR,ra,rl,n1,n2,n3,n4]
    refine onC_mk _ (ON) ?_
    simp -implicitDefEqProofs [gP,gP2,pa,prl,c5,c5',c5'']
  ·obtain rfl:i=l.length:=by omega
   rw [List.getElem?_eq_none (by omega)] at h4
   dsimp only at h4
   have gP:l.length<P.length:=by omega
   have gP2:l.length<PR0.length:=by omega
   have pa:=pat l.length gP gP2
   rw [List.getD_eq_getElem?_getD,List.getElem?_eq_getElem gP,Option.getD_some] at h4
   generalize P[l.length]=pp at *
   obtain ⟨p1,p2⟩:=pp
   dsimp only at h4 pa
   subst h4
   clear hK
   have he:(out++[(⟨0,[],0,p1,p2⟩:Tk)]).map Tk.row=out.map Tk.row++[[i6 0,.str [],u (0:Nat),i6 p1,i6 p2]]:=by simp [Tk.row]
   unfold TR.av
   dsimp only
   rw [he]
   generalize out.map Tk.row=L at *
   simp -implicitDefEqProofs [rl,gP,gP2,pa,prl,hlim]
   exact ⟨hll,h5⟩
 ·exact ⟨Nat.zero_le _,by simp only;omega,Nat.le_refl _,hR.symm⟩
 ·refine weak_mk ?_ ?_ ?_ ?_ ?_ ?_<;>simp -implicitDefEqProofs
end Go.Ai
