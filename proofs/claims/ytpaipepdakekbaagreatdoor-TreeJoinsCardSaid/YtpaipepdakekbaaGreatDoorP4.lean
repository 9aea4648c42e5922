/- P4: a part of the proof: the rules, or what functions compute. Conditions: as each theorem says. -/
import Derived.Test.YtpaipepdakekbaaGreatDoorP3
import Derived.Test.YtpaipepdakekbaaGreatDoorP2
import Derived.Test.YtpaipepdakekbaaGreatDoorP1
set_option linter.unusedSimpArgs false
set_option linter.unusedVariables false
set_option maxRecDepth 20000
namespace Go.Ai
open Go.Proofs
theorem subS_len (s:List UInt8) (a b:Nat):(subS s a b).length≤s.length:=by
 unfold subS
 rw [List.length_drop,List.length_take]
 omega
theorem quoTV_e {q:List UInt8×Int} (h:q.2≠0):quoTV q= .e q.2:=if_neg h
theorem quoTV_t {q:List UInt8×Int} (h:q.2=0):quoTV q= .t 2 q.1 0:=if_pos h
theorem squoted_spec (U:List UInt8→List UInt8×Int) (s:List UInt8) (hU: ∀w,w.length≤s.length→Sp Tryz.prog gl 84 [.str w] (.tup [.str (U w).1,i6 (U w).2])) (x:Sc) (hl:x.out.length≤900000) (e:Nat) (h1:x.sa≤e) (h2:e≤s.length)
  (d:Nat) (b:Id) (hb:b.isIt=false) (hbd:b.isNw d=false):
  SpH Tryz.prog gl 62 d ⟨[.ptr b 0,i6 e],[(b,scB s x)],[(.b b 1,5)]⟩ ⟨.bool (quotedF U s x e).2,[(b,scB s (quotedF U s x e).1)],[(.b b 1,5)]⟩:=by
 refine h62 rfl ?_
 have hib:=inn_notNw hbd
 have HU:=hU (subS s x.sa e) (subS_len s x.sa e)
 unfold quotedF
 dsimp only
 have hs:List.drop x.sa (List.take e s)=subS s x.sa e:=rfl
 generalize subS s x.sa e=W at *
 generalize U W=q at *
 obtain ⟨qt,qc⟩:=q
 dsimp only at HU
 have h1':(x.sa:Int)≤e:=by omega
 have h2':(e:Int)≤s.length:=by omega
 by_cases c:qc=0
 ·subst c
  rw [quoTV_t rfl]
  dsimp only
  have A:=fun e=>sadd_spec s x (by omega) (.t 2 qt 0) e (.up b) hb
  have hz:(TV.t 2 qt 0).av= .ifc 44 (.agg [.int .i64 2,.str qt,.int .u64 0,.int .i64 0,.int .i64 0]):=rfl
  have ho:(TV.t 2 qt 0).ok=true:=rfl
  rw [hz,ho] at A
  rw [ho]
  generalize x.add (.t 2 qt 0)=y at *
  unfold scB at *
  generalize x.out.map Tk.row=L at *
  generalize y.out.map Tk.row=L1 at *
  simp only [inSt,mpB,mpL,AV.mp,mpP,Pl.mp]
  simp -implicitDefEqProofs [c62,h1,h2,h1',h2',hs]
  refine onC_mk _ (HU) ?_
  simp -implicitDefEqProofs
  refine onH_mk _ _ (A _ rfl) ⟨?_,?_,?_,?_,?_,?_,?_⟩ ?_
  iterate 7 (· simp [hb])
  simp -implicitDefEqProofs
  refine postH_r ⟨?_,?_,?_,?_,?_,?_⟩<;>simp -implicitDefEqProofs [hib,hb]
 ·rw [quoTV_e c]
  have W1:=fun e=>swrong_spec s x qc e (.up b) hb
  have hc:(qc==0)=false:=beq_eq_false_iff_ne.2 c
  have hc2:(qc !=0)=true:=by rw [bne,hc];rfl
  dsimp only [TV.ok,Sc.add]
  generalize x.wrong qc=y at *
  unfold scB at *
  generalize x.out.map Tk.row=L at *
  generalize y.out.map Tk.row=L1 at *
  simp only [inSt,mpB,mpL,AV.mp,mpP,Pl.mp]
  simp -implicitDefEqProofs [c62,h1,h2,h1',h2',hs]
  refine onC_mk _ (HU) ?_
  simp -implicitDefEqProofs [hc,hc2,c]
  refine onH_mk _ _ (W1 _ rfl) ⟨?_,?_,?_,?_,?_,?_,?_⟩ ?_
  iterate 7 (· simp [hb])
  simp -implicitDefEqProofs
  refine postH_r ⟨?_,?_,?_,?_,?_,?_⟩<;>simp -implicitDefEqProofs [hib,hb]
theorem sinside_spec (U:List UInt8→List UInt8×Int) (s:List UInt8) (hU: ∀w,w.length≤s.length→Sp Tryz.prog gl 84 [.str w] (.tup [.str (U w).1,i6 (U w).2])) (x:Sc) (hl:x.out.length≤900000) (hs:s.length≤1000000) (i:Nat) (h1:x.sa≤i) (h2:i<s.length) (r:Int)
  (d:Nat) (b:Id) (hb:b.isIt=false) (hbd:b.isNw d=false):
  SpH Tryz.prog gl 39 d ⟨[.ptr b 0,i6 i,i3 r],[(b,scB s x)],[(.b b 1,5)]⟩ ⟨.bool (insideF U s x i r).2,[(b,scB s (insideF U s x i r).1)],[(.b b 1,5)]⟩:=by
 refine h39 rfl ?_
 have hib:=inn_notNw hbd
 have ne: ∀z:Int,¬r=z→(r==z)=false:=fun z h=>beq_eq_false_iff_ne.2 h
 have Q:=fun e=>squoted_spec U s hU x hl (i+1) (by omega) (by omega) e (.up b) hb
 have t1:IntKind.i64.wrap ((i:Int)+1)=(i+1:Nat):=by rw [wrap_i64]<;>omega
 have W:=fun e=>swrong_spec s x 5 e (.up b) hb
 unfold insideF
 by_cases c1:r=10
 ·subst c1
  rw [if_pos rfl]
  dsimp only
  generalize x.wrong 5=y at *
  unfold scB at *
  generalize x.out.map Tk.row=L at *
  generalize y.out.map Tk.row=L1 at *
  simp only [inSt,mpB,mpL,AV.mp,mpP,Pl.mp]
  simp -implicitDefEqProofs [c39]
  refine onH_mk _ _ (W _ rfl) ⟨?_,?_,?_,?_,?_,?_,?_⟩ ?_
  iterate 7 (· simp [hb])
  simp -implicitDefEqProofs
  refine postH_r ⟨?_,?_,?_,?_,?_,?_⟩<;>simp -implicitDefEqProofs [hib,hb]
 rw [if_neg c1]
 have n1:=ne 10 c1
 by_cases c2:x.st=3
 ·rw [if_pos c2]
  dsimp only
  unfold scB at *
  generalize x.out.map Tk.row=L at *
  simp only [inSt,mpB,mpL,AV.mp,mpP,Pl.mp]
  simp -implicitDefEqProofs [c39,n1,c2]
  refine postH_r ⟨?_,?_,?_,?_,?_,?_⟩<;>simp -implicitDefEqProofs [hib,hb]
 rw [if_neg c2]
 have n2:(x.st==3)=false:=beq_eq_false_iff_ne.2 c2
 by_cases c3:r=92
 ·subst c3
  rw [if_pos rfl]
  dsimp only
  unfold scB at *
  generalize x.out.map Tk.row=L at *
  simp only [inSt,mpB,mpL,AV.mp,mpP,Pl.mp]
  simp -implicitDefEqProofs [c39,n1,n2]
  refine postH_r ⟨?_,?_,?_,?_,?_,?_⟩<;>simp -implicitDefEqProofs [hib,hb]
 rw [if_neg c3]
 have n3:=ne 92 c3
 by_cases c4:r=34
 ·subst c4
  rw [if_pos rfl]
  generalize (quotedF U s x (i+1)).2=ok at *
  generalize (quotedF U s x (i+1)).1=y at *
  unfold scB at *
  generalize x.out.map Tk.row=L at *
  generalize y.out.map Tk.row=L1 at *
  simp only [inSt,mpB,mpL,AV.mp,mpP,Pl.mp]
  simp -implicitDefEqProofs [c39,n1,n2,n3,t1]
  refine onH_mk _ _ (Q _ rfl) ⟨?_,?_,?_,?_,?_,?_,?_⟩ ?_
  iterate 7 (· simp [hb])
  simp -implicitDefEqProofs
  refine postH_r ⟨?_,?_,?_,?_,?_,?_⟩<;>simp -implicitDefEqProofs [hib,hb]
 rw [if_neg c4]
 have n4:=ne 34 c4
 dsimp only
 unfold scB at *
 generalize x.out.map Tk.row=L at *
 simp only [inSt,mpB,mpL,AV.mp,mpP,Pl.mp]
 simp -implicitDefEqProofs [c39,n1,n2,n3,n4]
 refine postH_r ⟨?_,?_,?_,?_,?_,?_⟩<;>simp -implicitDefEqProofs [hib,hb]
open Go.Proofs
theorem stake_spec (V:List UInt8→TV) (U:List UInt8→List UInt8×Int) (s:List UInt8) (hU: ∀w,w.length≤s.length→Sp Tryz.prog gl 84 [.str w] (.tup [.str (U w).1,i6 (U w).2])) (hV: ∀w,w.length≤s.length→Sp Tryz.prog gl 37 [.str w] (V w).av)
  (x:Sc) (hl:x.out.length≤800000) (hs:s.length≤1000000) (i:Nat) (h1:x.sa≤i) (h2:i<s.length) (r:Int) (d:Nat) (b:Id) (hb:b.isIt=false) (hbd:b.isNw d=false):
  SpH Tryz.prog gl 25 d ⟨[.ptr b 0,i6 i,i3 r],[(b,scB s x)],[(.b b 1,5)]⟩ ⟨.bool (takeF V U s x i r).2,[(b,scB s (takeF V U s x i r).1)],[(.b b 1,5)]⟩:=by
 refine h25 rfl ?_
 have hib:=inn_notNw hbd
 have ne: ∀z:Int,¬r=z→(r==z)=false:=fun z h=>beq_eq_false_iff_ne.2 h
 have I:=fun e=>sinside_spec U s hU x (by omega) hs i h1 h2 r e (.up b) hb
 have F:=fun e=>sfresh_spec s x (by omega) i r e (.up b) hb
 have WI:=swithin_spec r
 have HV:=hV (subS s x.sa i) (subS_len s x.sa i)
 have h1':(x.sa:Int)≤i:=by omega
 have h2':(i:Int)≤s.length:=by omega
 have h3:i≤s.length:=by omega
 have hss:List.drop x.sa (List.take i s)=subS s x.sa i:=rfl
 unfold takeF
 by_cases c1:x.st=1
 ·rw [if_pos c1]
  cases hw:wthn r
  ·rw [if_neg (by decide)]
   rw [hw] at WI
   have A:=fun e=>sadd_spec s x (by omega) (V (subS s x.sa i)) e (.up b) hb
   have ao:=Sc.add_out x (V (subS s x.sa i))
   have F2:=fun e=>sfresh_spec s (x.add (V (subS s x.sa i))) (by omega) i r e (.up b) hb
   generalize subS s x.sa i=W at *
   cases hk:(V W).ok
   ·rw [if_neg (by decide)]
    dsimp only
    rw [hk] at A
    have hsh:shut (V W).av=some (V W).av:=by cases V W<;>rfl
    have hid:(V W).av.ids=[]:=by cases V W<;>rfl
    have hmp: ∀f,(V W).av.mp f=(V W).av:=fun f=>by cases V W<;>rfl
    generalize (V W).av=vv at *
    generalize x.add (V W)=y at *
    unfold scB at *
    generalize x.out.map Tk.row=L at *
    generalize y.out.map Tk.row=L1 at *
    simp only [inSt,mpB,mpL,AV.mp,mpP,Pl.mp]
    simp -implicitDefEqProofs [c25,c1]
    refine onC_mk _ (WI) ?_
    simp -implicitDefEqProofs [h1,h3,h1',h2',hss]
    refine onC_mk _ (HV) ?_
    simp -implicitDefEqProofs [hsh,hid,hmp]
    refine onQ_mk _ _ (A _ rfl) ⟨?_,?_,?_,?_,?_,?_,?_⟩ ⟨?_,?_,?_⟩ ?_
    iterate 10 (· simp [Pl.isB,Pl.isF,hb,hid,hmp,c1])
    simp -implicitDefEqProofs [hid,hmp]
    refine postH_r ⟨?_,?_,?_,?_,?_,?_⟩<;>simp -implicitDefEqProofs [hib,hb,hid,hmp]
   ·rw [if_pos rfl]
    rw [hk] at A
    have hsh:shut (V W).av=some (V W).av:=by cases V W<;>rfl
    have hid:(V W).av.ids=[]:=by cases V W<;>rfl
    have hmp: ∀f,(V W).av.mp f=(V W).av:=fun f=>by cases V W<;>rfl
    generalize (V W).av=vv at *
    generalize x.add (V W)=y at *
    generalize (freshF y i r).2=ok2 at *
    generalize (freshF y i r).1=y2 at *
    unfold scB at *
    generalize x.out.map Tk.row=L at *
    generalize y.out.map Tk.row=L1 at *
    generalize y2.out.map Tk.row=L2 at *
    simp only [inSt,mpB,mpL,AV.mp,mpP,Pl.mp]
    simp -implicitDefEqProofs [c25,c1]
    refine onC_mk _ (WI) ?_
    simp -implicitDefEqProofs [h1,h3,h1',h2',hss]
    refine onC_mk _ (HV) ?_
    simp -implicitDefEqProofs [hsh,hid,hmp]
    refine onQ_mk _ _ (A _ rfl) ⟨?_,?_,?_,?_,?_,?_,?_⟩ ⟨?_,?_,?_⟩ ?_
    iterate 10 (· simp [Pl.isB,Pl.isF,hb,hid,hmp,c1])
    simp -implicitDefEqProofs [hid,hmp]
    refine onQ_mk _ _ (F2 _ rfl) ⟨?_,?_,?_,?_,?_,?_,?_⟩ ⟨?_,?_,?_⟩ ?_
    iterate 10 (· simp [Pl.isB,Pl.isF,hb,hid,hmp])
    simp -implicitDefEqProofs [hid,hmp]
    refine postH_r ⟨?_,?_,?_,?_,?_,?_⟩<;>simp -implicitDefEqProofs [hib,hb,hid,hmp]
  ·rw [if_pos rfl]
   rw [hw] at WI
   dsimp only
   unfold scB at *
   generalize x.out.map Tk.row=L at *
   simp only [inSt,mpB,mpL,AV.mp,mpP,Pl.mp]
   simp -implicitDefEqProofs [c25,c1]
   refine onC_mk _ (WI) ?_
   simp -implicitDefEqProofs
   refine postH_r ⟨?_,?_,?_,?_,?_,?_⟩<;>simp -implicitDefEqProofs [hib,hb]
 rw [if_neg c1]
 have n1:(x.st==1)=false:=beq_eq_false_iff_ne.2 c1
 by_cases c2:x.st=4
 ·rw [if_pos c2]
  by_cases c3:r=10
  ·subst c3
   rw [if_pos rfl]
   dsimp only
   unfold scB at *
   generalize x.out.map Tk.row=L at *
   simp only [inSt,mpB,mpL,AV.mp,mpP,Pl.mp]
   simp -implicitDefEqProofs [c25,c2]
   refine postH_r ⟨?_,?_,?_,?_,?_,?_⟩<;>simp -implicitDefEqProofs [hib,hb]
  ·rw [if_neg c3]
   have n3:=ne 10 c3
   dsimp only
   unfold scB at *
   generalize x.out.map Tk.row=L at *
   simp only [inSt,mpB,mpL,AV.mp,mpP,Pl.mp]
   simp -implicitDefEqProofs [c25,c2,n3,c3]
   refine postH_r ⟨?_,?_,?_,?_,?_,?_⟩<;>simp -implicitDefEqProofs [hib,hb,c2]
 rw [if_neg c2]
 have n2:(x.st==4)=false:=beq_eq_false_iff_ne.2 c2
 by_cases c3:x.st=2
 ·rw [if_pos (.inl c3)]
  generalize (insideF U s x i r).2=ok at *
  generalize (insideF U s x i r).1=y at *
  unfold scB at *
  generalize x.out.map Tk.row=L at *
  generalize y.out.map Tk.row=L1 at *
  simp only [inSt,mpB,mpL,AV.mp,mpP,Pl.mp]
  simp -implicitDefEqProofs [c25,c3]
  refine onH_mk _ _ (I _ rfl) ⟨?_,?_,?_,?_,?_,?_,?_⟩ ?_
  iterate 7 (· simp [hb,c3])
  simp -implicitDefEqProofs
  refine postH_r ⟨?_,?_,?_,?_,?_,?_⟩<;>simp -implicitDefEqProofs [hib,hb]
 have n3:(x.st==2)=false:=beq_eq_false_iff_ne.2 c3
 by_cases c4:x.st=3
 ·rw [if_pos (.inr c4)]
  generalize (insideF U s x i r).2=ok at *
  generalize (insideF U s x i r).1=y at *
  unfold scB at *
  generalize x.out.map Tk.row=L at *
  generalize y.out.map Tk.row=L1 at *
  simp only [inSt,mpB,mpL,AV.mp,mpP,Pl.mp]
  simp -implicitDefEqProofs [c25,c4]
  refine onH_mk _ _ (I _ rfl) ⟨?_,?_,?_,?_,?_,?_,?_⟩ ?_
  iterate 7 (· simp [hb,c4])
  simp -implicitDefEqProofs
  refine postH_r ⟨?_,?_,?_,?_,?_,?_⟩<;>simp -implicitDefEqProofs [hib,hb]
 have n4:(x.st==3)=false:=beq_eq_false_iff_ne.2 c4
 rw [if_neg (by omega)]
 generalize (freshF x i r).2=ok at *
 generalize (freshF x i r).1=y at *
 unfold scB at *
 generalize x.out.map Tk.row=L at *
 generalize y.out.map Tk.row=L1 at *
 simp only [inSt,mpB,mpL,AV.mp,mpP,Pl.mp]
 simp -implicitDefEqProofs [c25,n1,n2,n3,n4]
 refine onH_mk _ _ (F _ rfl) ⟨?_,?_,?_,?_,?_,?_,?_⟩ ?_
 iterate 7 (· simp [hb])
 simp -implicitDefEqProofs
 refine postH_r ⟨?_,?_,?_,?_,?_,?_⟩<;>simp -implicitDefEqProofs [hib,hb]
open Go.Proofs
theorem Sc.add_keep (x:Sc) (v:TV):(x.add v).al=x.al∧(x.add v).ac=x.ac∧(x.add v).sa=x.sa:=by
 cases v<;>exact ⟨rfl,rfl,rfl⟩
theorem freshF_keep (x:Sc) (i:Nat) (r:Int):(freshF x i r).1.al=x.al∧(freshF x i r).1.ac=x.ac∧(freshF x i r).1.sa=i:=by
 unfold freshF
 dsimp only
 repeat' split
 all_goals first|exact ⟨rfl,rfl,rfl⟩|exact Sc.add_keep (x.begin i 0) _
theorem takeF_keep (V:List UInt8→TV) (U:List UInt8→List UInt8×Int) (s:List UInt8) (x:Sc) (i:Nat) (r:Int) (h:x.sa≤i):(takeF V U s x i r).1.al=x.al∧(takeF V U s x i r).1.ac=x.ac∧(takeF V U s x i r).1.sa≤i:=by
 unfold takeF
 by_cases c1:x.st=1
 ·rw [if_pos c1]
  by_cases c2:wthn r=true
  ·rw [if_pos c2];exact ⟨rfl,rfl,h⟩
  ·rw [if_neg c2]
   have a:=Sc.add_keep x (V (subS s x.sa i))
   by_cases c3:(V (subS s x.sa i)).ok=true
   ·rw [if_pos c3]
    have f:=freshF_keep (x.add (V (subS s x.sa i))) i r
    exact ⟨f.1.trans a.1,f.2.1.trans a.2.1,by omega⟩
   ·rw [if_neg c3]
    exact ⟨a.1,a.2.1,by dsimp only;omega⟩
 ·rw [if_neg c1]
  by_cases c2:x.st=4
  ·rw [if_pos c2]
   dsimp only
   split
   ·exact ⟨rfl,rfl,h⟩
   ·exact ⟨rfl,rfl,h⟩
  ·rw [if_neg c2]
   by_cases c3:x.st=2∨x.st=3
   ·rw [if_pos c3]
    unfold insideF quotedF
    repeat' split
    all_goals first|exact ⟨rfl,rfl,h⟩|exact ⟨(Sc.add_keep x _).1,(Sc.add_keep x _).2.1,by have:=(Sc.add_keep x (quoTV (U (subS s x.sa (i+1))))).2.2;dsimp only;omega⟩
   ·rw [if_neg c3]
    have f:=freshF_keep x i r
    exact ⟨f.1,f.2.1,by omega⟩
def r65 (r:Int):Int:=if r= -1 then 65533 else r
def Sc.adv (x:Sc) (r:Int):Sc:=if r=10 then {x with al:=x.al+1,ac:=1} else {x with ac:=x.ac+1}
def runF (V:List UInt8→TV) (U:List UInt8→List UInt8×Int) (s:List UInt8) (x:Sc) (i:Nat):Sc×Bool:=
 if h:i<s.length then
  if (takeF V U s x i (r65 (stepR s i).1)).2=true then runF V U s ((takeF V U s x i (r65 (stepR s i).1)).1.adv (r65 (stepR s i).1)) (i+(stepR s i).2)
  else ((takeF V U s x i (r65 (stepR s i).1)).1,false)
 else (x,true)
termination_by s.length - i
decreasing_by have:=stepR_pos s i;omega
def sc0:Sc:=⟨[],0,0,1,1,1,1,0,0,0⟩
structure TR where
 l:List Tk
 c:Int
 a:Int
 b:Int
def TR.bad (x:Sc):TR:=⟨[],x.cd,x.xl,x.xc⟩
def scanF (V:List UInt8→TV) (U:List UInt8→List UInt8×Int) (s:List UInt8):TR:=
 if 40000<s.length then ⟨[],9,1,1⟩
 else if (runF V U s sc0 0).2=true then (if (endF V s (runF V U s sc0 0).1).2=true then ⟨(endF V s (runF V U s sc0 0).1).1.out,0,0,0⟩ else .bad (endF V s (runF V U s sc0 0).1).1)
 else .bad (runF V U s sc0 0).1
def TR.av (x:TR):AV:= .tup [.sl (x.l.map Tk.row),.agg [i6 x.c,i6 x.a,i6 x.b]]
theorem send_spec (V:List UInt8→TV) (s:List UInt8) (hV: ∀w,w.length≤s.length→Sp Tryz.prog gl 37 [.str w] (V w).av)
  (x:Sc) (hl:x.out.length≤800000) (hs:s.length≤1000000) (h1:x.sa≤s.length) (d:Nat) (b:Id) (hb:b.isIt=false) (hbd:b.isNw d=false):
  SpH Tryz.prog gl 26 d ⟨[.ptr b 0],[(b,scB s x)],[(.b b 1,5)]⟩ ⟨.bool (endF V s x).2,[(b,scB s (endF V s x).1)],[(.b b 1,5)]⟩:=by
 refine h26 rfl ?_
 have hib:=inn_notNw hbd
 have HV:=hV (subS s x.sa s.length) (subS_len s x.sa s.length)
 have h1':(x.sa:Int)≤s.length:=by omega
 have hss:List.drop x.sa s=subS s x.sa s.length:=by unfold subS;rw [List.take_length]
 have hz:(TV.t 0 [] 0).av= .ifc 44 (.agg [.int .i64 0,.str [],.int .u64 0,.int .i64 0,.int .i64 0]):=rfl
 have ho:(TV.t 0 [] 0).ok=true:=rfl
 have W:=fun e=>swrong_spec s x 5 e (.up b) hb
 unfold endF
 by_cases c1:x.st=1
 ·rw [if_pos c1]
  have A:=fun e=>sadd_spec s x (by omega) (V (subS s x.sa s.length)) e (.up b) hb
  have ao:=Sc.add_out x (V (subS s x.sa s.length))
  have B:=fun e=>sbegin_spec s (x.add (V (subS s x.sa s.length))) s.length 0 e (.up b) hb
  have A2:=fun e=>sadd_spec s ((x.add (V (subS s x.sa s.length))).begin s.length 0) (by rw [Sc.begin_out];omega) (.t 0 [] 0) e (.up b) hb
  rw [hz,ho] at A2
  generalize subS s x.sa s.length=W0 at *
  cases hk:(V W0).ok
  ·rw [if_neg (by decide)]
   dsimp only
   rw [hk] at A
   have hsh:shut (V W0).av=some (V W0).av:=by cases V W0<;>rfl
   have hid:(V W0).av.ids=[]:=by cases V W0<;>rfl
   have hmp: ∀f,(V W0).av.mp f=(V W0).av:=fun f=>by cases V W0<;>rfl
   generalize (V W0).av=vv at *
   generalize x.add (V W0)=y at *
   clear B A2
   unfold scB at *
   generalize x.out.map Tk.row=L at *
   generalize y.out.map Tk.row=L1 at *
   simp only [inSt,mpB,mpL,AV.mp,mpP,Pl.mp]
   simp -implicitDefEqProofs [c26,c1,h1,h1',hss]
   refine onC_mk _ (HV) ?_
   simp -implicitDefEqProofs [hsh,hid,hmp]
   refine onQ_mk _ _ (A _ rfl) ⟨?_,?_,?_,?_,?_,?_,?_⟩ ⟨?_,?_,?_⟩ ?_
   iterate 10 (· simp [Pl.isB,Pl.isF,hb,hid,hmp,c1])
   simp -implicitDefEqProofs [hid,hmp]
   refine postH_r ⟨?_,?_,?_,?_,?_,?_⟩<;>simp -implicitDefEqProofs [hib,hb,hid,hmp]
  ·rw [if_pos rfl]
   rw [hk] at A
   have hsh:shut (V W0).av=some (V W0).av:=by cases V W0<;>rfl
   have hid:(V W0).av.ids=[]:=by cases V W0<;>rfl
   have hmp: ∀f,(V W0).av.mp f=(V W0).av:=fun f=>by cases V W0<;>rfl
   generalize (V W0).av=vv at *
   generalize x.add (V W0)=y at *
   generalize y.begin s.length 0=y1 at *
   generalize y1.add (.t 0 [] 0)=y2 at *
   unfold scB at *
   generalize x.out.map Tk.row=L at *
   generalize y.out.map Tk.row=L1 at *
   generalize y1.out.map Tk.row=L2 at *
   generalize y2.out.map Tk.row=L3 at *
   simp only [inSt,mpB,mpL,AV.mp,mpP,Pl.mp]
   simp -implicitDefEqProofs [c26,c1,h1,h1',hss]
   refine onC_mk _ (HV) ?_
   simp -implicitDefEqProofs [hsh,hid,hmp]
   refine onQ_mk _ _ (A _ rfl) ⟨?_,?_,?_,?_,?_,?_,?_⟩ ⟨?_,?_,?_⟩ ?_
   iterate 10 (· simp [Pl.isB,Pl.isF,hb,hid,hmp,c1])
   simp -implicitDefEqProofs [hid,hmp]
   refine onH_mk _ _ (B _ rfl) ⟨?_,?_,?_,?_,?_,?_,?_⟩ ?_
   iterate 7 (· simp [hb,hid,hmp])
   simp -implicitDefEqProofs [hid,hmp]
   refine onH_mk _ _ (A2 _ rfl) ⟨?_,?_,?_,?_,?_,?_,?_⟩ ?_
   iterate 7 (· simp [hb,hid,hmp])
   simp -implicitDefEqProofs [hid,hmp]
   refine postH_r ⟨?_,?_,?_,?_,?_,?_⟩<;>simp -implicitDefEqProofs [hib,hb,hid,hmp]
 rw [if_neg c1]
 have n1:(x.st==1)=false:=beq_eq_false_iff_ne.2 c1
 by_cases c3:x.st=2
 ·rw [if_pos (.inl c3)]
  dsimp only
  generalize x.wrong 5=y at *
  unfold scB at *
  generalize x.out.map Tk.row=L at *
  generalize y.out.map Tk.row=L1 at *
  simp only [inSt,mpB,mpL,AV.mp,mpP,Pl.mp]
  simp -implicitDefEqProofs [c26,c3]
  refine onH_mk _ _ (W _ rfl) ⟨?_,?_,?_,?_,?_,?_,?_⟩ ?_
  iterate 7 (· simp [hb,c3])
  simp -implicitDefEqProofs
  refine postH_r ⟨?_,?_,?_,?_,?_,?_⟩<;>simp -implicitDefEqProofs [hib,hb]
 have n3:(x.st==2)=false:=beq_eq_false_iff_ne.2 c3
 by_cases c4:x.st=3
 ·rw [if_pos (.inr c4)]
  dsimp only
  generalize x.wrong 5=y at *
  unfold scB at *
  generalize x.out.map Tk.row=L at *
  generalize y.out.map Tk.row=L1 at *
  simp only [inSt,mpB,mpL,AV.mp,mpP,Pl.mp]
  simp -implicitDefEqProofs [c26,c4]
  refine onH_mk _ _ (W _ rfl) ⟨?_,?_,?_,?_,?_,?_,?_⟩ ?_
  iterate 7 (· simp [hb,c4])
  simp -implicitDefEqProofs
  refine postH_r ⟨?_,?_,?_,?_,?_,?_⟩<;>simp -implicitDefEqProofs [hib,hb]
 have n4:(x.st==3)=false:=beq_eq_false_iff_ne.2 c4
 rw [if_neg (by omega)]
 have B:=fun e=>sbegin_spec s x s.length 0 e (.up b) hb
 have A2:=fun e=>sadd_spec s (x.begin s.length 0) (by rw [Sc.begin_out];omega) (.t 0 [] 0) e (.up b) hb
 rw [hz,ho] at A2
 dsimp only
 generalize x.begin s.length 0=y1 at *
 generalize y1.add (.t 0 [] 0)=y2 at *
 clear W
 unfold scB at *
 generalize x.out.map Tk.row=L at *
 generalize y1.out.map Tk.row=L2 at *
 generalize y2.out.map Tk.row=L3 at *
 simp only [inSt,mpB,mpL,AV.mp,mpP,Pl.mp]
 simp -implicitDefEqProofs [c26,n1,n3,n4]
 refine onH_mk _ _ (B _ rfl) ⟨?_,?_,?_,?_,?_,?_,?_⟩ ?_
 iterate 7 (· simp [hb])
 simp -implicitDefEqProofs
 refine onH_mk _ _ (A2 _ rfl) ⟨?_,?_,?_,?_,?_,?_,?_⟩ ?_
 iterate 7 (· simp [hb])
 simp -implicitDefEqProofs
 refine postH_r ⟨?_,?_,?_,?_,?_,?_⟩<;>simp -implicitDefEqProofs [hib,hb]
open Go.Proofs
end Go.Ai
namespace Go.Ai
open Go.Proofs
def skp (l:List Int) (i:Nat):Nat:=if h:i<l.length then (if l[i]=10 then i else skp l (i+1)) else i
termination_by l.length - i
theorem skp_in {l:List Int} {i:Nat} (h:i<l.length):skp l i=if l[i]=10 then i else skp l (i+1):=by rw [skp,dif_pos h]
theorem skp_out {l:List Int} {i:Nat} (h: ¬i<l.length):skp l i=i:=by rw [skp,dif_neg h]
theorem skp_le (l:List Int): ∀(n i:Nat),l.length - i≤n→i≤l.length→i≤skp l i∧skp l i≤l.length
 |0,i,h,hi=>by rw [skp_out (by omega)];omega
 |n+1,i,h,hi=>by
  by_cases g:i<l.length
  ·rw [skp_in g]
   split
   ·omega
   ·have:=skp_le l n (i+1) (by omega) (by omega)
    omega
  ·rw [skp_out g];omega
def refGo (VR:List Int→TV) (U:List UInt8→List UInt8×Int) (l:List Int) (P:List (Int×Int)):Nat→Nat→List Tk→TR
 |0,_,_=>⟨[],0,0,0⟩
 |f+1,i,out=>match l[i]? with
  |none=>⟨out++[⟨0,[],0,(P.getD l.length (0,0)).1,(P.getD l.length (0,0)).2⟩],0,0,0⟩
  |some r=>if r=32∨r=9∨r=10 then refGo VR U l P f (i+1) out
   else if r=35 then refGo VR U l P f (skp l i) out
   else if (oneF VR U l i r).c=0 then refGo VR U l P f (oneF VR U l i r).en (out++[⟨(oneF VR U l i r).k,(oneF VR U l i r).w,(oneF VR U l i r).n,(P.getD i (0,0)).1,(P.getD i (0,0)).2⟩])
   else ⟨[],(oneF VR U l i r).c,(P.getD i (0,0)).1,(P.getD i (0,0)).2⟩
def refF (VR:List Int→TV) (U:List UInt8→List UInt8×Int) (s:List UInt8):TR:=
 if 40000<s.length then ⟨[],9,1,1⟩ else refGo VR U (runesL s 0) (plc 1 1 (runesL s 0)) ((runesL s 0).length+1) 0 []
theorem oneF_en (VR:List Int→TV) (U:List UInt8→List UInt8×Int) (l:List Int) (i:Nat) (h:i<l.length) (hc:(oneF VR U l i l[i]).c=0):i<(oneF VR U l i l[i]).en∧(oneF VR U l i l[i]).en≤l.length:=by
 unfold oneF at hc ⊢
 by_cases c1:l[i]=123
 ·rw [if_pos c1];exact ⟨Nat.lt_succ_self _,h⟩
 rw [if_neg c1] at hc ⊢
 by_cases c2:l[i]=125
 ·rw [if_pos c2];exact ⟨Nat.lt_succ_self _,h⟩
 rw [if_neg c2] at hc ⊢
 by_cases c3:l[i]=59
 ·rw [if_pos c3];exact ⟨Nat.lt_succ_self _,h⟩
 rw [if_neg c3] at hc ⊢
 by_cases c4:l[i]=34
 ·rw [if_pos c4] at hc ⊢
  have:=qGo_le l l.length (i+1) (by omega)
  by_cases c5:qGo l (i+1)=0
  ·rw [if_pos c5] at hc;exact absurd hc (by decide)
  ·rw [if_neg c5]
   dsimp only
   omega
 rw [if_neg c4] at hc ⊢
 by_cases c5:wthn l[i]=true
 ·rw [if_pos c5] at hc ⊢
  have w1:=wEnd_in h
  rw [if_pos c5] at w1
  have w2:=wEnd_le l l.length (i+1) (by omega) (by omega)
  rw [←w1] at w2
  generalize VR (subR l i (wEnd l i))=v at *
  cases v<;>(dsimp only [TV.on];omega)
 ·rw [if_neg c5] at hc;exact absurd hc (by decide)
open Go.Proofs
theorem stepF_oneA (s:List UInt8) (i n r0 l:Nat) (h:(stepF s i n r0 l).1= -1):(stepF s i n r0 l).2=1:=by
 unfold stepF at h ⊢
 split
 ·rename_i c
  rw [if_pos c] at h
  simp only at h
  omega
 ·rfl
theorem stepR_oneA (s:List UInt8) (i:Nat) (h:(stepR s i).1= -1):(stepR s i).2=1:=by
 unfold stepR at h ⊢
 simp only at h ⊢
 split
 ·rfl
 ·rename_i c1
  rw [if_neg c1] at h
  split
  ·rename_i c2;rw [if_pos c2] at h;exact stepF_oneA _ _ _ _ _ h
  ·rename_i c2
   rw [if_neg c2] at h
   split
   ·rename_i c3;rw [if_pos c3] at h;exact stepF_oneA _ _ _ _ _ h
   ·rename_i c3
    rw [if_neg c3] at h
    split
    ·rename_i c4;rw [if_pos c4] at h;exact stepF_oneA _ _ _ _ _ h
    ·rfl
theorem conts_in (s:List UInt8) (i:Nat): ∀n,conts s i n=true→n=0∨i+n<s.length
 |0,_=> .inl rfl
 |k+1,h=>by
  rw [conts,Bool.and_eq_true] at h
  exact .inr (cont_in h.2)
theorem stepF_le (s:List UInt8) (i n r0 l:Nat) (h:i<s.length):i+(stepF s i n r0 l).2≤s.length:=by
 unfold stepF
 split
 ·rename_i c
  rw [Bool.and_eq_true] at c
  have:=conts_in s i n c.1
  simp only
  omega
 ·exact h
theorem stepR_le (s:List UInt8) (i:Nat) (h:i<s.length):i+(stepR s i).2≤s.length:=by
 unfold stepR
 simp only
 split
 ·exact h
 ·split
  ·exact stepF_le _ _ _ _ _ h
  ·split
   ·exact stepF_le _ _ _ _ _ h
   ·split
    ·exact stepF_le _ _ _ _ _ h
    ·exact h
theorem step_r65 (s:List UInt8) (i:Nat) (h:i<s.length):runeAt s i=(r65 (stepR s i).1,(stepR s i).2):=by
 rw [step_rune s i h]
 unfold r65
 by_cases c:(stepR s i).1= -1
 ·rw [if_pos c,if_pos c,stepR_oneA s i c]
 ·rw [if_neg c,if_neg c]
theorem runF_in (V:List UInt8→TV) (U:List UInt8→List UInt8×Int) (s:List UInt8) (x:Sc) (i:Nat) (h:i<s.length):runF V U s x i=
  if (takeF V U s x i (r65 (stepR s i).1)).2=true then runF V U s ((takeF V U s x i (r65 (stepR s i).1)).1.adv (r65 (stepR s i).1)) (i+(stepR s i).2) else ((takeF V U s x i (r65 (stepR s i).1)).1,false):=by
 rw [runF,dif_pos h]
theorem runF_out (V:List UInt8→TV) (U:List UInt8→List UInt8×Int) (s:List UInt8) (x:Sc) (i:Nat) (h: ¬i<s.length):runF V U s x i=(x,true):=by
 rw [runF,dif_neg h]
theorem Sc.adv_out (x:Sc) (r:Int):(x.adv r).out=x.out:=by unfold Sc.adv;split<;>rfl
theorem Sc.adv_sa (x:Sc) (r:Int):(x.adv r).sa=x.sa:=by unfold Sc.adv;split<;>rfl
structure ScOk (x:Sc) (i:Nat):Prop where
 sa:x.sa≤i
 ou:x.out.length≤2*i
 a0:0≤x.al
 a1:x.al≤i+1
 c0:0≤x.ac
 c1:x.ac≤i+1
theorem ScOk.step {x:Sc} {i:Nat} (h:ScOk x i) (V:List UInt8→TV) (U:List UInt8→List UInt8×Int) (s:List UInt8) (r:Int) (w:Nat) (hw:1≤w):ScOk ((takeF V U s x i r).1.adv r) (i+w):=by
 have k:=takeF_keep V U s x i r h.sa
 have o:=takeF_out V U s x i r
 have h2:=h.ou
 have h3:=h.a0
 have h4:=h.a1
 have h5:=h.c0
 have h6:=h.c1
 refine ⟨by rw [Sc.adv_sa];omega,by rw [Sc.adv_out];omega,?_,?_,?_,?_⟩<;>unfold Sc.adv<;>split<;>simp only<;>omega
theorem sc0_ok:ScOk sc0 0:=⟨Nat.le_refl _,Nat.le_refl _,by decide,by decide,by decide,by decide⟩
theorem stokens_spec (V:List UInt8→TV) (U:List UInt8→List UInt8×Int) (s:List UInt8) (hU: ∀w,w.length≤s.length→Sp Tryz.prog gl 84 [.str w] (.tup [.str (U w).1,i6 (U w).2])) (hV: ∀w,w.length≤s.length→Sp Tryz.prog gl 37 [.str w] (V w).av):
  Sp Tryz.prog gl 16 [.str s] (scanF V U s).av:=by
 refine s16 rfl rfl ?_
 have B:=fun (e:Nat) (he:(Id.n 10).isNw e=false)=>sbegin_spec s ⟨[],0,0,0,0,1,1,0,0,0⟩ 0 0 e (.n 10) rfl he
 have hB:Sc.begin ⟨[],0,0,0,0,1,1,0,0,0⟩ 0 0=sc0:=rfl
 rw [hB] at B
 unfold scanF
 by_cases hl:40000<s.length
 ·rw [if_pos hl]
  have hl':(40000:Int)<s.length:=by omega
  have W:=fun (e:Nat) (he:(Id.n 10).isNw e=false)=>swrong_spec s sc0 9 e (.n 10) rfl he
  unfold scB Sc.wrong sc0 at *
  simp only [List.map_nil] at B W
  unfold TR.av
  simp -implicitDefEqProofs [c16]
  refine onH_mk _ _ (B _ rfl) ⟨?_,?_,?_,?_,?_,?_,?_⟩ ?_
  iterate 7 (· simp)
  simp -implicitDefEqProofs [hl,hl']
  refine onH_mk _ _ (W _ rfl) ⟨?_,?_,?_,?_,?_,?_,?_⟩ ?_
  iterate 7 (· simp)
  simp -implicitDefEqProofs
 ·rw [if_neg hl]
  have hl': ¬(40000:Int)<s.length:=by omega
  have B: ∀(e:Nat) (he:(Id.n 10).isNw e=false),SpH Tryz.prog gl 23 e ⟨[.ptr (.n 10) 0,i6 0,i6 0],[(.n 10,[.str s,.sl [],i6 0,i6 0,i6 0,i6 0,i6 1,i6 1,i6 0,i6 0,i6 0])],[(.b (.n 10) 1,5)]⟩ ⟨.tup [],[(.n 10,scB s sc0)],[(.b (.n 10) 1,5)]⟩:=B
  obtain ⟨R,hR⟩: ∃R,R=runF V U s sc0 0:=⟨_,rfl⟩
  rw [←hR]
  have sl: ∀x,(scB s x).length=11:=fun _=>rfl
  have si: ∀x,idsL (scB s x)=[]:=fun _=>rfl
  simp -implicitDefEqProofs [c16]
  refine onH_mk _ _ (B _ rfl) ⟨?_,?_,?_,?_,?_,?_,?_⟩ ?_
  iterate 7 (· simp)
  simp -implicitDefEqProofs [hl,hl',sl,si]
  refine wp_lpk (α:=Sc×Nat) (fun y=>⟨[(0,.str s),(3,.ptr (.n 3) 0),(4,.ptr (.n 10) 0),(23,.itp 23)],[(.n 3,[i6 0,i6 0,i6 0]),(.n 10,scB s y.1),(.it 23,[.itr s y.2])],[(.b (.n 10) 1,5)]⟩)
   (fun y=>ScOk y.1 y.2∧y.2≤s.length∧runF V U s y.1 y.2=R) (fun y=>s.length - y.2) ?_ (sc0,0) ?_ ?_
  ·rintro K ⟨x,i⟩ hK ⟨h1,h2,h3⟩
   simp only at h1 h2 h3
   by_cases g:i<s.length
   ·have sr:=step_r65 s i g
    have sp:=stepR_pos s i
    have sw:=stepR_le s i g
    rw [runF_in V U s x i g] at h3
    have o1:=h1.ou
    have T:=fun r (e:Nat) (he:(Id.n 10).isNw e=false)=>stake_spec V U s hU hV x (by omega) (by omega) i h1.sa g r e (.n 10) rfl he
    have ko:=h1.step V U s (r65 (stepR s i).1) (stepR s i).2 sp
    have kk:=takeF_keep V U s x i (r65 (stepR s i).1) h1.sa
    have c0:=h1.c0
    have c1:=h1.c1
    have a0:=h1.a0
    have a1:=h1.a1
    have T:=T (r65 (stepR s i).1)
    generalize hq:r65 (stepR s i).1=r at *
    generalize (stepR s i).2=w at *
    generalize (takeF V U s x i r).2=ok at *
    generalize (takeF V U s x i r).1=y at *
    have fin:runF V U s (y.adv r) (i+w)=R→ ∀σ',Weak σ' ⟨[(0,.str s),(3,.ptr (.n 3) 0),(4,.ptr (.n 10) 0),(23,.itp 23)],[(.n 3,[i6 0,i6 0,i6 0]),(.n 10,scB s (y.adv r)),(.it 23,[.itr s (i+w)])],[(.b (.n 10) 1,5)]⟩→K σ':=
     fun hh σ' hσ=>hK (y.adv r,i+w) σ' ⟨ko,by simp only;omega,hh⟩ (by simp only;omega) hσ
    have w1:IntKind.i64.wrap (y.ac+1)=y.ac+1:=by rw [wrap_i64]<;>omega
    have w2:IntKind.i64.wrap (y.al+1)=y.al+1:=by rw [wrap_i64]<;>omega
    clear hK hR ko
    cases ok
    ·rw [if_neg (by decide)] at h3
     subst h3
     clear fin
     dsimp only
     rw [if_neg (by decide)]
     unfold TR.bad TR.av
     unfold scB at *
     generalize y.out.map Tk.row=L at *
     generalize x.out.map Tk.row=L0 at *
     simp -implicitDefEqProofs [g,sr]
     refine onH_mk _ _ (T _ rfl) ⟨?_,?_,?_,?_,?_,?_,?_⟩ ?_
     iterate 7 (· simp)
     simp -implicitDefEqProofs
    ·rw [if_pos rfl] at h3
     have fin:=fin h3
     clear h3
     generalize TR.av _=res
     unfold Sc.adv at fin
     by_cases c:r=10
     ·rw [if_pos c] at fin
      unfold scB at *
      generalize y.out.map Tk.row=L at *
      generalize x.out.map Tk.row=L0 at *
      simp -implicitDefEqProofs [g,sr]
      refine onH_mk _ _ (T _ rfl) ⟨?_,?_,?_,?_,?_,?_,?_⟩ ?_
      iterate 7 (· simp)
      simp -implicitDefEqProofs [c,w1,w2]
      refine fin _ ?_
      refine weak_mk ?_ ?_ ?_ ?_ ?_ ?_<;>simp -implicitDefEqProofs
     ·rw [if_neg c] at fin
      have c':(r==10)=false:=beq_eq_false_iff_ne.2 c
      unfold scB at *
      generalize y.out.map Tk.row=L at *
      generalize x.out.map Tk.row=L0 at *
      simp -implicitDefEqProofs [g,sr]
      refine onH_mk _ _ (T _ rfl) ⟨?_,?_,?_,?_,?_,?_,?_⟩ ?_
      iterate 7 (· simp)
      simp -implicitDefEqProofs [c,c',w1,w2]
      refine fin _ ?_
      refine weak_mk ?_ ?_ ?_ ?_ ?_ ?_<;>simp -implicitDefEqProofs
   ·rw [runF_out V U s x i g] at h3
    subst h3
    dsimp only
    rw [if_pos rfl]
    have o1:=h1.ou
    have hsa:=h1.sa
    clear hK
    have E:=fun (e:Nat) (he:(Id.n 10).isNw e=false)=>send_spec V s hV x (by omega) (by omega) (by omega) e (.n 10) rfl he
    generalize (endF V s x).2=ok at *
    generalize (endF V s x).1=y at *
    cases ok
    ·rw [if_neg (by decide)]
     unfold TR.bad TR.av
     unfold scB at *
     generalize y.out.map Tk.row=L at *
     generalize x.out.map Tk.row=L0 at *
     simp -implicitDefEqProofs [g]
     refine onH_mk _ _ (E _ rfl) ⟨?_,?_,?_,?_,?_,?_,?_⟩ ?_
     iterate 7 (· simp)
     simp -implicitDefEqProofs
    ·rw [if_pos rfl]
     unfold TR.av
     unfold scB at *
     dsimp only
     generalize y.out.map Tk.row=L at *
     generalize x.out.map Tk.row=L0 at *
     simp -implicitDefEqProofs [g]
     refine onH_mk _ _ (E _ rfl) ⟨?_,?_,?_,?_,?_,?_,?_⟩ ?_
     iterate 7 (· simp)
     simp -implicitDefEqProofs
  ·exact ⟨sc0_ok,by simp only;omega,hR.symm⟩
  ·refine weak_mk ?_ ?_ ?_ ?_ ?_ ?_<;>simp -implicitDefEqProofs [scB,sc0]
end Go.Ai
