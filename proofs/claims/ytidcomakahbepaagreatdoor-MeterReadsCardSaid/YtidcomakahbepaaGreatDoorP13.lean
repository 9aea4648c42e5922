/- P13: a part of the proof: the rules, or what functions compute. Conditions: as each theorem says. -/
import Derived.Test.YtidcomakahbepaaGreatDoorP12
import Derived.Test.YtidcomakahbepaaGreatDoorP8
set_option linter.unusedSimpArgs false
set_option linter.unusedVariables false
set_option maxRecDepth 20000
namespace Go.Ai
open Go.Proofs
def lbOk (x:Lb):Bool:=nameT x.n&&(goodR (runesL x.t 0)&&decide ((runesL x.t 0).length≤120))
def lbFit (x:Lb):Prop:=x.n.length≤2000∧x.t.length≤2000
def ruFit (x:Ru):Prop:=x.n.length≤2000
structure Gl.Fit (x:Gl):Prop where
 n:x.n.length≤2000
 lb:x.lb.length≤10
 ru:x.ru.length≤10
 lbs: ∀y∈x.lb,lbFit y
 rus: ∀y∈x.ru,ruFit y
structure Cf.Fit (x:Cf):Prop where
 n:x.gs.length≤10
 gs: ∀y∈x.gs,y.Fit
def labelsP (l:List Lb):Bool:=l.all lbOk&&(decide (l.length≤4)&&uniq (l.map Lb.n))
def rulesP (l:List Ru) (g:Int):Bool:=l.all (fun r=>ruP r g)&&(btw l.length 1 4&&uniq (l.map Ru.n))
def goalP (x:Gl):Bool:=nameT x.n&&(btw x.t 1 999999&&(btw x.g 1 86400&&(btw x.a 0 86400&&(btw x.o 0 34560000&&(x.o.tmod x.g==0&&(btw x.c 0 2&&(labelsP x.lb&&rulesP x.ru x.g)))))))
theorem rows_atF {α:Type} (f:α→List AV) (l:List α) (i:Nat) (h:i<l.length): ∀h2,(l.map f)[i]'h2=f l[i]:=fun _=>by simp
theorem labels_spec (l:List Lb) (hl:l.length≤10) (hf: ∀x∈l,lbFit x):Sp Tryz.prog gl 117 [.sl (l.map Lb.row)] (.bool (labelsP l)):=by
 refine s117 rfl rfl ?_
 obtain ⟨R,hR⟩: ∃R,R=labelsP l:=⟨_,rfl⟩
 rw [←hR]
 unfold labelsP at hR
 have U:=Sp.h (d:=33) (unlL_spec l (by omega))
 have rat:=rows_atF Lb.row l
 have rl:(l.map Lb.row).length=l.length:=by simp
 have fin0:l.all lbOk=true→ ∀e,lk e 0= .sl (l.map Lb.row)→wpA (SpH Tryz.prog gl) (AC.tl 2 c117) (postA [.t 2] (.bool R)) ⟨e,[],[]⟩:=by
  intro ha e l0
  rw [ha,Bool.true_and] at hR
  generalize uniq (l.map Lb.n)=U0 at *
  generalize l.map Lb.row=RR at *
  simp only [c117,AC.tl]
  by_cases g:l.length≤4
  ·have g':(l.length:Int)≤4:=by omega
   rw [decide_eq_true g] at hR
   simp -implicitDefEqProofs [l0,rl,g',g]
   refine onH_mk _ _ (U) ⟨?_,?_,?_,?_,?_,?_,?_⟩ ?_
   iterate 7 (· simp)
   simp -implicitDefEqProofs [hR]
  ·have g': ¬(l.length:Int)≤4:=by omega
   rw [decide_eq_false g] at hR
   simp -implicitDefEqProofs [l0,rl,g',g,hR]
 have ec:c117=AC.cutAt 2 (AC.tl 2 c117) c117:=rfl
 rw [ec]
 generalize AC.tl 2 c117=T at fin0 ⊢
 generalize uniq (l.map Lb.n)=U0 at *
 generalize l.map Lb.row=RR at *
 simp only [c117,AC.cutAt]
 simp -implicitDefEqProofs [rl]
 refine wp_lpk (α:=Nat) (fun i=>⟨[(0,.sl RR),(5,.sl RR),(6,i6 l.length),(7,i6 i)],[],[]⟩) (fun i=>i≤l.length∧(l.drop i).all lbOk=l.all lbOk) (fun i=>l.length - i) ?_ 0 ?_ ?_
 ·rintro K i hK ⟨h1,h2⟩
  by_cases g:i<l.length
  ·have t1:IntKind.i64.wrap ((i:Int)+1)=(i+1:Nat):=by rw [wrap_i64]<;>omega
   have ra:=rat i g
   have gR:i<RR.length:=by omega
   rw [List.drop_eq_getElem_cons g,List.all_cons] at h2
   have fin:lbOk l[i]=true→ ∀σ',Weak σ' ⟨[(0,.sl RR),(5,.sl RR),(6,i6 l.length),(7,i6 (i+1:Nat))],[],[]⟩→K σ':=fun hd σ' hσ=>hK (i+1) σ' ⟨by omega,by rw [hd,Bool.true_and] at h2;exact h2⟩ (by omega) hσ
   have hfi:=hf l[i] (List.getElem_mem _)
   have N:=tname_spec l[i].n (by have:=hfi.1;omega)
   have G:=tgood_spec l[i].t (by have:=hfi.2;omega)
   have C:=tcount_spec l[i].t (by have:=hfi.2;omega)
   have hno:lbOk l[i]=false→R=false:=fun h=>by rw [h,Bool.false_and] at h2;rw [hR,←h2];rfl
   unfold lbOk at fin hno
   clear hK h2 hR fin0 rat hf U
   generalize l[i]=x at *
   obtain ⟨xn,xt⟩:=x
   simp only [Lb.row] at *
   generalize nameT xn=b1 at *
   generalize goodR (runesL xt 0)=b2 at *
   generalize (runesL xt 0).length=c at *
   by_cases hc:c≤120
   ·have hc': ¬(120:Int)<c:=by omega
    have hc2: ¬120<c:=by omega
    rw [decide_eq_true hc] at fin hno
    simp -implicitDefEqProofs [g,gR,ra]
    repeat' first
     |(refine onC_mk _ (N) ?_;simp -implicitDefEqProofs [hc',hc2])
     |(refine onC_mk _ (G) ?_;simp -implicitDefEqProofs [hc',hc2])
     |(refine onC_mk _ (C) ?_;simp -implicitDefEqProofs [hc',hc2])
     |(refine onB_mk (fun h=>?_) (fun h=>?_)<;>(try simp only [Bool.not_eq_true',Bool.not_eq_false',decide_eq_true_eq,decide_eq_false_iff_not] at h)<;>simp -implicitDefEqProofs [h,hc',hc2])
    all_goals first
     |(refine fin (by simp [*]) _ (weak_mk ?_ ?_ ?_ ?_ ?_ ?_)<;>simp -implicitDefEqProofs [t1])
     |(rw [hno (by simp [*])])
   ·have hc':(120:Int)<c:=by omega
    have hc2:120<c:=by omega
    rw [decide_eq_false hc] at fin hno
    simp -implicitDefEqProofs [g,gR,ra]
    repeat' first
     |(refine onC_mk _ (N) ?_;simp -implicitDefEqProofs [hc',hc2])
     |(refine onC_mk _ (G) ?_;simp -implicitDefEqProofs [hc',hc2])
     |(refine onC_mk _ (C) ?_;simp -implicitDefEqProofs [hc',hc2])
     |(refine onB_mk (fun h=>?_) (fun h=>?_)<;>(try simp only [Bool.not_eq_true',Bool.not_eq_false',decide_eq_true_eq,decide_eq_false_iff_not] at h)<;>simp -implicitDefEqProofs [h,hc',hc2])
    all_goals (rw [hno (by simp [*])])
  ·obtain rfl:i=l.length:=by omega
   rw [List.drop_length] at h2
   have fin0:=fin0 (by rw [←h2];rfl)
   clear hK
   simp -implicitDefEqProofs
   refine fin0 _ ?_
   simp -implicitDefEqProofs
 ·exact ⟨Nat.zero_le _,rfl⟩
 ·refine weak_mk ?_ ?_ ?_ ?_ ?_ ?_<;>simp -implicitDefEqProofs [rl]
open Go.Proofs
theorem rules_spec (l:List Ru) (gr:Int) (hl:l.length≤10) (hf: ∀x∈l,ruFit x):Sp Tryz.prog gl 118 [.sl (l.map Ru.row),i6 gr] (.bool (rulesP l gr)):=by
 refine s118 rfl rfl ?_
 obtain ⟨R,hR⟩: ∃R,R=rulesP l gr:=⟨_,rfl⟩
 rw [←hR]
 unfold rulesP at hR
 have U:=Sp.h (d:=23) (unlR_spec l (by omega))
 have B:=btwI_spec l.length 1 4
 have rat:=rows_atF Ru.row l
 have rl:(l.map Ru.row).length=l.length:=by simp
 have fin0:(l.all fun r=>ruP r gr)=true→ ∀e,lk e 0= .sl (l.map Ru.row)→wpA (SpH Tryz.prog gl) (AC.tl 2 c118) (postA [.t 4] (.bool R)) ⟨e,[],[]⟩:=by
  intro ha e l0
  rw [ha,Bool.true_and] at hR
  generalize uniq (l.map Ru.n)=U0 at *
  generalize l.map Ru.row=RR at *
  generalize btw l.length 1 4=b at *
  simp only [c118,AC.tl]
  cases b
  ·simp [l0,rl]
   refine onC_mk _ (B) ?_
   simp -implicitDefEqProofs [hR]
  ·simp [l0,rl]
   refine onC_mk _ (B) ?_
   simp -implicitDefEqProofs [l0]
   refine onH_mk _ _ (U) ⟨?_,?_,?_,?_,?_,?_,?_⟩ ?_
   iterate 7 (· simp)
   simp -implicitDefEqProofs [hR]
 have ec:c118=AC.cutAt 2 (AC.tl 2 c118) c118:=rfl
 rw [ec]
 generalize AC.tl 2 c118=T at fin0 ⊢
 generalize uniq (l.map Ru.n)=U0 at *
 generalize l.map Ru.row=RR at *
 simp only [c118,AC.cutAt]
 simp -implicitDefEqProofs [rl]
 refine wp_lpk (α:=Nat) (fun i=>⟨[(0,.sl RR),(1,i6 gr),(7,.sl RR),(8,i6 l.length),(9,i6 i)],[],[]⟩) (fun i=>i≤l.length∧((l.drop i).all fun r=>ruP r gr)=l.all fun r=>ruP r gr) (fun i=>l.length - i) ?_ 0 ?_ ?_
 ·rintro K i hK ⟨h1,h2⟩
  by_cases g:i<l.length
  ·have t1:IntKind.i64.wrap ((i:Int)+1)=(i+1:Nat):=by rw [wrap_i64]<;>omega
   have ra:=rat i g
   have gR:i<RR.length:=by omega
   rw [List.drop_eq_getElem_cons g,List.all_cons] at h2
   have fin:ruP l[i] gr=true→ ∀σ',Weak σ' ⟨[(0,.sl RR),(1,i6 gr),(7,.sl RR),(8,i6 l.length),(9,i6 (i+1:Nat))],[],[]⟩→K σ':=fun hd σ' hσ=>hK (i+1) σ' ⟨by omega,by rw [hd,Bool.true_and] at h2;exact h2⟩ (by omega) hσ
   have hfi:=hf l[i] (List.getElem_mem _)
   have Q:=rru_spec l[i] gr (by have:l[i].n.length≤2000:=hfi;omega)
   have hno:ruP l[i] gr=false→R=false:=fun h=>by rw [h,Bool.false_and] at h2;rw [hR,←h2];rfl
   have hrl:(l[i].row).length=7:=rfl
   have hs:shutL l[i].row=some l[i].row:=rfl
   clear hK h2 hR fin0 rat hf U B
   generalize ruP l[i] gr=b1 at *
   generalize l[i].row=x at *
   have e7:List.take 7 x=x:=List.take_of_length_le (by omega)
   cases b1
   ·rw [hno rfl]
    simp -implicitDefEqProofs [g,gR,ra,hrl,e7,hs]
    refine onC_mk _ (Q) ?_
    simp -implicitDefEqProofs
   ·have fin:=fin rfl
    simp -implicitDefEqProofs [g,gR,ra,hrl,e7,hs]
    refine onC_mk _ (Q) ?_
    simp -implicitDefEqProofs
    refine fin _ ?_
    refine weak_mk ?_ ?_ ?_ ?_ ?_ ?_<;>simp -implicitDefEqProofs [t1]
  ·obtain rfl:i=l.length:=by omega
   rw [List.drop_length] at h2
   have fin0:=fin0 (by rw [←h2];rfl)
   clear hK
   simp -implicitDefEqProofs
   refine fin0 _ ?_
   simp -implicitDefEqProofs
 ·exact ⟨Nat.zero_le _,rfl⟩
 ·refine weak_mk ?_ ?_ ?_ ?_ ?_ ?_<;>simp -implicitDefEqProofs [rl]
theorem goal_spec (x:Gl) (hf:x.Fit):Sp Tryz.prog gl 71 [.agg x.row] (.bool (goalP x)):=by
 refine s71 rfl rfl ?_
 have N:=tname_spec x.n (by have:=hf.n;omega)
 have L:=labels_spec x.lb hf.lb hf.lbs
 have Q:=rules_spec x.ru x.g hf.ru hf.rus
 obtain ⟨nm,t,g,a,o,c,lb,ru⟩:=x
 have hR:goalP ⟨nm,t,g,a,o,c,lb,ru⟩=(nameT nm&&(btw t 1 999999&&(btw g 1 86400&&(btw a 0 86400&&(btw o 0 34560000&&(o.tmod g==0&&(btw c 0 2&&(labelsP lb&&rulesP ru g)))))))):=rfl
 simp only [Gl.row] at N L Q ⊢
 clear hf
 have B1:Sp Tryz.prog gl 114 [.int .u32 t,.int .u32 1,.int .u32 999999] (.bool (btw t 1 999999)):=between3_spec t 1 999999
 have B2:=between6_spec g 1 86400
 have B3:=between6_spec a 0 86400
 have B4:=between6_spec o 0 34560000
 have B5:=btwI_spec c 0 2
 generalize goalP ⟨nm,t,g,a,o,c,lb,ru⟩=R at *
 generalize nameT nm=b0 at *
 generalize labelsP lb=b6 at *
 generalize rulesP ru g=b7 at *
 generalize lb.map Lb.row=LB at *
 generalize ru.map Ru.row=RU at *
 generalize x1:btw (t:Int) 1 999999=b1 at *
 generalize x3:btw a 0 86400=b3 at *
 generalize x4:btw o 0 34560000=b4 at *
 generalize x5:btw c 0 2=b5 at *
 by_cases g0:1≤g∧g≤86400
 ·have e2:btw g 1 86400=true:=decide_eq_true g0
  have g1: ¬g=0:=by omega
  rw [e2] at B2 hR
  clear x1 x3 x4 x5 e2
  simp -implicitDefEqProofs [c71]
  repeat' first
   |(refine onC_mk _ (N) ?_;simp -implicitDefEqProofs [g1])
   |(refine onC_mk _ (B1) ?_;simp -implicitDefEqProofs [g1])
   |(refine onC_mk _ (B2) ?_;simp -implicitDefEqProofs [g1])
   |(refine onC_mk _ (B3) ?_;simp -implicitDefEqProofs [g1])
   |(refine onC_mk _ (B4) ?_;simp -implicitDefEqProofs [g1])
   |(refine onC_mk _ (B5) ?_;simp -implicitDefEqProofs [g1])
   |(refine onC_mk _ (L) ?_;simp -implicitDefEqProofs [g1])
   |(refine onC_mk _ (Q) ?_;simp -implicitDefEqProofs [g1])
   |(refine onB_mk (fun h=>?_) (fun h=>?_)<;>(try simp only [Bool.not_eq_true',Bool.not_eq_false',decide_eq_true_eq,decide_eq_false_iff_not] at h)<;>simp -implicitDefEqProofs [h,g1])
  all_goals first
   |(rw [hR];simp [*];done)
   |(rw [hR];simp_all)
 ·have e2:btw g 1 86400=false:=decide_eq_false g0
  rw [e2] at B2 hR
  clear x1 x3 x4 x5 e2
  simp -implicitDefEqProofs [c71]
  repeat' first
   |(refine onC_mk _ (N) ?_;simp -implicitDefEqProofs [])
   |(refine onC_mk _ (B1) ?_;simp -implicitDefEqProofs [])
   |(refine onC_mk _ (B2) ?_;simp -implicitDefEqProofs [])
   |(refine onB_mk (fun h=>?_) (fun h=>?_)<;>(try simp only [Bool.not_eq_true',Bool.not_eq_false',decide_eq_true_eq,decide_eq_false_iff_not] at h)<;>simp -implicitDefEqProofs [h])
  all_goals (rw [hR];simp [*])
open Go.Proofs
def ruQ (r:Ru) (g:Int):Bool:=!(decide (g<1)||(!btw r.l 1 34560000||(!btw r.s 1 34560000||(r.l.tmod g !=0||(r.s.tmod g !=0||decide (r.l<r.s))))))&&(nameT r.n&&(decide ((0:Int)<r.f)&&(decide ((r.f:Int)≤1000000)&&(btw r.w 0 604800&&btw r.k 0 604800))))
theorem ruQ_eq (r:Ru) (g:Int):ruQ r g=ruP r g:=by
 unfold ruQ ruP btw
 cases nameT r.n
 ·simp
 ·rw [Bool.eq_iff_iff]
  simp only [Bool.and_eq_true,Bool.not_eq_true',Bool.or_eq_false_iff,decide_eq_true_eq,decide_eq_false_iff_not,Bool.not_eq_false',bne_eq_false_iff_eq,beq_iff_eq,true_and]
  omega
def chk {α:Type} (ok:α→Bool) (nm:α→List UInt8):List (List UInt8)→List α→Bool
 |_,[]=>true
 |seen,x::r=>ok x&&(!seen.contains (nm x)&&chk ok nm (seen++[nm x]) r)
theorem chk_eq {α:Type} (ok:α→Bool) (nm:α→List UInt8): ∀(l:List α) (seen:List (List UInt8)),chk ok nm seen l=(l.all ok&&(decide (∀x∈l,nm x∉seen)&&uniq (l.map nm)))
 |[],seen=>by simp [chk,uniq]
 |x::r,seen=>by
  simp only [chk,chk_eq ok nm r,List.all_cons,List.map_cons]
  cases ok x
  ·simp
  ·rw [Bool.eq_iff_iff]
   unfold uniq
   simp only [Bool.true_and,Bool.and_eq_true,Bool.not_eq_true',decide_eq_true_eq,List.nodup_cons,List.mem_map,List.mem_cons,forall_eq_or_imp,List.mem_append,not_or]
   rw [←Bool.not_eq_true,List.contains_iff_mem]
   constructor
   ·rintro ⟨h1,h2,h3,h4⟩
    exact ⟨h2,⟨h1,fun y hy=>(h3 y hy).1⟩,⟨fun ⟨y,hy,e⟩=>by have:=(h3 y hy).2;simp at this;exact this e,h4⟩⟩
   ·rintro ⟨h2,⟨h1,h3⟩,⟨h5,h4⟩⟩
    exact ⟨h1,h2,fun y hy=>⟨h3 y hy,by simp;exact fun e=>h5 ⟨y,hy,e⟩⟩,h4⟩
theorem chk_uniq {α:Type} (ok:α→Bool) (nm:α→List UInt8) (l:List α):chk ok nm [] l=(l.all ok&&uniq (l.map nm)):=by
 rw [chk_eq];simp
theorem chk_at {α:Type} (ok:α→Bool) (nm:α→List UInt8) (l:List α) (i:Nat) (h:i<l.length):
  chk ok nm ((l.take i).map nm) (l.drop i)=(ok l[i]&&(!((l.take i).map nm).contains (nm l[i])&&chk ok nm ((l.take (i+1)).map nm) (l.drop (i+1)))):=by
 rw [List.drop_eq_getElem_cons h,List.take_succ_eq_append_getElem h,List.map_append]
 rfl
def goalQ (x:Gl):Bool:=!(!nameT x.n||(decide ((x.t:Int)<1)||(decide ((999999:Int)<x.t)||(!btw x.g 1 86400||(!btw x.a 0 86400||(!btw x.o 0 34560000||(x.o.tmod x.g !=0||(decide (x.c<0)||(decide (2<x.c)||(decide ((4:Int)<x.lb.length)||(decide ((x.ru.length:Int)<1)||decide ((4:Int)<x.ru.length))))))))))))&&(chk lbOk Lb.n [] x.lb&&chk (fun r=>ruP r x.g) Ru.n [] x.ru)
theorem goalQ_eq (x:Gl):goalQ x=goalP x:=by
 unfold goalQ goalP labelsP rulesP btw
 rw [chk_uniq,chk_uniq]
 cases nameT x.n
 ·simp
 ·generalize x.lb.all lbOk=p1
  generalize (x.ru.all fun r=>ruP r x.g)=p2
  generalize uniq (x.lb.map Lb.n)=p3
  generalize uniq (x.ru.map Ru.n)=p4
  rw [Bool.eq_iff_iff]
  cases p1<;>cases p2<;>cases p3<;>cases p4<;>simp only [Bool.and_eq_true,Bool.not_eq_true',Bool.or_eq_false_iff,decide_eq_true_eq,decide_eq_false_iff_not,Bool.not_eq_false',bne_eq_false_iff_eq,beq_iff_eq,true_and,and_true,Bool.not_true,Bool.true_and,Bool.false_and,Bool.and_false,Bool.and_true,Bool.false_eq_true,and_false,false_and]
  all_goals omega
theorem qru_spec (r:Ru) (g:Int) (hn:r.n.length≤900000):Sp Tryz.prog gl 56 [.agg r.row,i6 g] (.bool (ruP r g)):=by
 refine s56 rfl rfl ?_
 rw [←ruQ_eq]
 have N:=rname_spec r.n hn
 obtain ⟨nm,p,l,s,f,w,k⟩:=r
 have hR:ruQ ⟨nm,p,l,s,f,w,k⟩ g=(!(decide (g<1)||(!btw l 1 34560000||(!btw s 1 34560000||(l.tmod g !=0||(s.tmod g !=0||decide (l<s))))))&&(nameT nm&&(decide ((0:Int)<f)&&(decide ((f:Int)≤1000000)&&(btw w 0 604800&&btw k 0 604800))))):=rfl
 simp only [Ru.row] at N ⊢
 generalize ruQ ⟨nm,p,l,s,f,w,k⟩ g=R at *
 generalize nameT nm=T at *
 have B1:=rin_spec l 1 34560000
 have B2:=rin_spec s 1 34560000
 have B4:=rin_spec w 0 604800
 have B5:=rin_spec k 0 604800
 generalize x1:btw l 1 34560000=b1 at *
 generalize x2:btw s 1 34560000=b2 at *
 generalize x4:btw w 0 604800=b4 at *
 generalize x5:btw k 0 604800=b5 at *
 clear x1 x2 x4 x5
 by_cases g0:g<1
 ·rw [decide_eq_true g0] at hR
  simp -implicitDefEqProofs [c56,g0]
  rw [hR];simp
 ·have g1: ¬g=0:=by omega
  rw [decide_eq_false g0] at hR
  generalize hm1:(l.tmod g !=0)=m1 at *
  generalize hm2:(s.tmod g !=0)=m2 at *
  generalize hm3:decide (l<s)=m3 at *
  generalize hm4:decide ((0:Int)<f)=m4 at *
  generalize hm5:decide ((f:Int)≤1000000)=m5 at *
  simp -implicitDefEqProofs [c56,g0,g1]
  repeat' first
   |(refine onC_mk _ (B1) ?_;simp -implicitDefEqProofs [g1,hm1,hm2,hm3,hm4,hm5])
   |(refine onC_mk _ (B2) ?_;simp -implicitDefEqProofs [g1,hm1,hm2,hm3,hm4,hm5])
   |(refine onC_mk _ (N) ?_;simp -implicitDefEqProofs [g1,hm1,hm2,hm3,hm4,hm5])
   |(refine onC_mk _ (B4) ?_;simp -implicitDefEqProofs [g1,hm1,hm2,hm3,hm4,hm5])
   |(refine onC_mk _ (B5) ?_;simp -implicitDefEqProofs [g1,hm1,hm2,hm3,hm4,hm5])
   |(refine onB_mk (fun h=>?_) (fun h=>?_)<;>(try simp only [Bool.not_eq_true',Bool.not_eq_false',decide_eq_true_eq,decide_eq_false_iff_not] at h)<;>simp -implicitDefEqProofs [h,g1,hm1,hm2,hm3,hm4,hm5])
  all_goals first
   |(rw [hR];simp [*];done)
   |(rw [hR];simp_all;done)
open Go.Proofs
theorem contains_step (l:List (List UInt8)) (k:Nat) (h:k<l.length) (y:List UInt8):(l.drop k).contains y=((l[k]==y)||(l.drop (k+1)).contains y):=by
 rw [List.drop_eq_getElem_cons h,List.contains_cons]
 congr 1
 rw [Bool.eq_iff_iff];simp only [beq_iff_eq];exact eq_comm
theorem names_at {α:Type} (nm:α→List UInt8) (l:List α) (i k:Nat) (hk:k<i) (hi:i≤l.length): ∃h:k<((l.take i).map nm).length,((l.take i).map nm)[k]=nm (l[k]'(by omega)):=by
 refine ⟨by simp;omega,by simp⟩
theorem rgoal_rules (n:List UInt8) (t:Nat) (g a o c:Int) (LB:List (List AV)) (ru:List Ru) (hl:ru.length≤10) (hf: ∀y∈ru,ruFit y) (e:List (Nat×AV)) (l1:lk e 1= .ptr (.n 1) 0):
  wpA (SpH Tryz.prog gl) (AC.tl 3 c14) (postA [.t 2] (.bool (chk (fun r=>ruP r g) Ru.n [] ru))) ⟨e,[(.n 1,[.str n,.int .u32 t,i6 g,i6 a,i6 o,i6 c,.sl LB,.sl (ru.map Ru.row)])],[]⟩:=by
 obtain ⟨R,hR⟩: ∃R,R=chk (fun r=>ruP r g) Ru.n [] ru:=⟨_,rfl⟩
 rw [←hR]
 have rat:=rows_atF Ru.row ru
 have rl:(ru.map Ru.row).length=ru.length:=by simp
 have ex:=fun (y:Ru)=>show Ru.row y=[.str y.n,.bool y.p,i6 y.l,i6 y.s,u y.f,i6 y.w,i6 y.k] from rfl
 generalize ru.map Ru.row=RU at *
 simp only [c14,AC.tl]
 simp -implicitDefEqProofs
 refine wp_lpk (α:=Nat) (fun i=>⟨[(1,.ptr (.n 1) 0),(6,i6 i)],[(.n 1,[.str n,.int .u32 t,i6 g,i6 a,i6 o,i6 c,.sl LB,.sl RU])],[]⟩)
  (fun i=>i≤ru.length∧chk (fun r=>ruP r g) Ru.n ((ru.take i).map Ru.n) (ru.drop i)=R) (fun i=>ru.length - i) ?_ 0 ?_ ?_
 ·rintro K i hK ⟨h1,h2⟩
  by_cases gi:i<ru.length
  ·have t1:IntKind.i64.wrap ((i:Int)+1)=(i+1:Nat):=by rw [wrap_i64]<;>omega
   have ra:=rat i gi
   have gR:i<RU.length:=by omega
   rw [chk_at _ _ _ _ gi] at h2
   have hfi:=hf ru[i] (List.getElem_mem _)
   have Q:=qru_spec ru[i] g (by have:ru[i].n.length≤2000:=hfi;omega)
   have hs:shutL ru[i].row=some ru[i].row:=rfl
   have hrl:(ru[i].row).length=7:=rfl
   have e7:List.take 7 ru[i].row=ru[i].row:=List.take_of_length_le (by omega)
   cases b1:ruP ru[i] g
   ·rw [b1] at h2 Q
    simp only [Bool.false_and] at h2
    subst h2
    clear hK
    generalize ru[i].row=x at *
    simp -implicitDefEqProofs [gi,gR,ra,rl,hrl,e7,hs]
    refine onC_mk _ (Q) ?_
    simp -implicitDefEqProofs
   ·rw [b1] at h2 Q
    simp only [Bool.true_and] at h2
    have fin:((ru.take i).map Ru.n).contains ru[i].n=false→ ∀σ',Weak σ' ⟨[(1,.ptr (.n 1) 0),(6,i6 (i+1:Nat))],[(.n 1,[.str n,.int .u32 t,i6 g,i6 a,i6 o,i6 c,.sl LB,.sl RU])],[]⟩→K σ':=
     fun hd σ' hσ=>hK (i+1) σ' ⟨by omega,by rw [hd] at h2;simpa using h2⟩ (by omega) hσ
    have hno:((ru.take i).map Ru.n).contains ru[i].n=true→R=false:=fun hd=>by rw [hd] at h2;simpa using h2.symm
    have nat:=fun k hk=>names_at Ru.n ru i k hk (by omega)
    have ra2: ∀k (hk:k<i),∀h,RU[k]'h=[.str (ru[k]'(by omega)).n,.bool (ru[k]'(by omega)).p,i6 (ru[k]'(by omega)).l,i6 (ru[k]'(by omega)).s,u (ru[k]'(by omega)).f,i6 (ru[k]'(by omega)).w,i6 (ru[k]'(by omega)).k]:=fun k hk h=>by rw [rat k (by omega) h];rfl
    have ra3: ∀h,RU[i]'h=[.str ru[i].n,.bool ru[i].p,i6 ru[i].l,i6 ru[i].s,u ru[i].f,i6 ru[i].w,i6 ru[i].k]:=fun h=>by rw [rat i gi h];rfl
    have nl:((ru.take i).map Ru.n).length=i:=by simp;omega
    clear hK h2 hR
    simp -implicitDefEqProofs [gi,gR,ra,rl,hrl,e7,hs]
    refine onC_mk _ (Q) ?_
    simp -implicitDefEqProofs
    generalize (ru.take i).map Ru.n=N at *
    refine wp_lpk (α:=Nat) (fun k=>⟨[(1,.ptr (.n 1) 0),(6,i6 i),(7,i6 k)],[(.n 1,[.str n,.int .u32 t,i6 g,i6 a,i6 o,i6 c,.sl LB,.sl RU])],[]⟩)
     (fun k=>k≤i∧(N.drop k).contains ru[i].n=N.contains ru[i].n) (fun k=>i - k) ?_ 0 ?_ ?_
    ·rintro K2 k hK2 ⟨k1,k2⟩
     by_cases gk:k<i
     ·have gk':(k:Int)<i:=by omega
      have t2:IntKind.i64.wrap ((k:Int)+1)=(k+1:Nat):=by rw [wrap_i64]<;>omega
      obtain ⟨q1,q2⟩:=nat k gk
      rw [contains_step N k q1,q2] at k2
      have rk:=ra2 k gk
      have gRk:k<RU.length:=by omega
      have fin2:(ru[k].n==ru[i].n)=false→ ∀σ',Weak σ' ⟨[(1,.ptr (.n 1) 0),(6,i6 i),(7,i6 (k+1:Nat))],[(.n 1,[.str n,.int .u32 t,i6 g,i6 a,i6 o,i6 c,.sl LB,.sl RU])],[]⟩→K2 σ':=
       fun hd σ' hσ=>hK2 (k+1) σ' ⟨by omega,by rw [hd,Bool.false_or] at k2;exact k2⟩ (by omega) hσ
      clear hK2 fin nat ra2 ra rat
      cases b2:(ru[k].n==ru[i].n)
      ·have fin2:=fin2 b2
       simp -implicitDefEqProofs [gk,gk',gRk,gR,rk,ra3,b2]
       refine fin2 _ ?_
       refine weak_mk ?_ ?_ ?_ ?_ ?_ ?_<;>simp -implicitDefEqProofs [t2]
      ·rw [b2,Bool.true_or] at k2
       rw [hno k2.symm]
       simp -implicitDefEqProofs [gk,gk',gRk,gR,rk,ra3,b2]
     ·obtain rfl:k=i:=by omega
      rw [List.drop_eq_nil_of_le (by omega)] at k2
      have fin:=fin (by rw [←k2];rfl)
      clear hK2
      simp -implicitDefEqProofs
      refine fin _ ?_
      refine weak_mk ?_ ?_ ?_ ?_ ?_ ?_<;>simp -implicitDefEqProofs [t1]
    ·exact ⟨Nat.zero_le _,rfl⟩
    ·refine weak_mk ?_ ?_ ?_ ?_ ?_ ?_<;>simp -implicitDefEqProofs
  ·obtain rfl:i=ru.length:=by omega
   rw [List.drop_length] at h2
   have:R=true:=by rw [←h2];rfl
   subst this
   clear hK
   simp -implicitDefEqProofs [rl]
 ·exact ⟨Nat.zero_le _,by rw [hR];rfl⟩
 ·refine weak_mk ?_ ?_ ?_ ?_ ?_ ?_<;>simp -implicitDefEqProofs [l1]
theorem rgoal_labels (n:List UInt8) (t:Nat) (g a o c:Int) (lb:List Lb) (ru:List Ru) (hll:lb.length≤10) (hfl: ∀y∈lb,lbFit y) (hl:ru.length≤10) (hf: ∀y∈ru,ruFit y) (e:List (Nat×AV)) (l1:lk e 1= .ptr (.n 1) 0):
  wpA (SpH Tryz.prog gl) (AC.tl 2 c14) (postA [.t 2] (.bool (chk lbOk Lb.n [] lb&&chk (fun r=>ruP r g) Ru.n [] ru))) ⟨e,[(.n 1,[.str n,.int .u32 t,i6 g,i6 a,i6 o,i6 c,.sl (lb.map Lb.row),.sl (ru.map Ru.row)])],[]⟩:=by
 have ec:AC.tl 2 c14=AC.cutAt 1 (AC.tl 3 c14) (AC.tl 2 c14):=rfl
 rw [ec]
 have tail:=rgoal_rules n t g a o c (lb.map Lb.row) ru hl hf
 generalize AC.tl 3 c14=TT at tail ⊢
 obtain ⟨R,hR⟩: ∃R,R=chk lbOk Lb.n [] lb:=⟨_,rfl⟩
 obtain ⟨R2,hR2⟩: ∃R2,R2=chk (fun r=>ruP r g) Ru.n [] ru:=⟨_,rfl⟩
 rw [←hR2] at tail
 rw [←hR,←hR2]
 clear hR2
 have rat:=rows_atF Lb.row lb
 have rl:(lb.map Lb.row).length=lb.length:=by simp
 generalize lb.map Lb.row=RU at *
 generalize ru.map Ru.row=RR at *
 simp only [c14,AC.tl,AC.cutAt]
 simp -implicitDefEqProofs
 refine wp_lpk (α:=Nat) (fun i=>⟨[(1,.ptr (.n 1) 0),(3,i6 i)],[(.n 1,[.str n,.int .u32 t,i6 g,i6 a,i6 o,i6 c,.sl RU,.sl RR])],[]⟩)
  (fun i=>i≤lb.length∧chk lbOk Lb.n ((lb.take i).map Lb.n) (lb.drop i)=R) (fun i=>lb.length - i) ?_ 0 ?_ ?_
 ·rintro K i hK ⟨h1,h2⟩
  by_cases gi:i<lb.length
  ·have t1:IntKind.i64.wrap ((i:Int)+1)=(i+1:Nat):=by rw [wrap_i64]<;>omega
   have ra:=rat i gi
   have gR:i<RU.length:=by omega
   rw [chk_at _ _ _ _ gi] at h2
   have hfi:=hfl lb[i] (List.getElem_mem _)
   have N:=rname_spec lb[i].n (by have:=hfi.1;omega)
   have G:=rgood_spec lb[i].t (by have:=hfi.2;omega)
   have C:=runes_spec lb[i].t (by have:=hfi.2;omega)
   have cl:=runeRows_len (runesL lb[i].t 0)
   have ra2: ∀k (hk:k<lb.length),∀h,RU[k]'h=[.str lb[k].n,.str lb[k].t]:=fun k hk h=>by rw [rat k hk h];rfl
   have fin:lbOk lb[i]=true→((lb.take i).map Lb.n).contains lb[i].n=false→ ∀σ',Weak σ' ⟨[(1,.ptr (.n 1) 0),(3,i6 (i+1:Nat))],[(.n 1,[.str n,.int .u32 t,i6 g,i6 a,i6 o,i6 c,.sl RU,.sl RR])],[]⟩→K σ':=
    fun hb hd σ' hσ=>hK (i+1) σ' ⟨by omega,by rw [hb,hd] at h2;simpa using h2⟩ (by omega) hσ
   have hno:lbOk lb[i]=false→R=false:=fun hd=>by rw [hd] at h2;simpa using h2.symm
   have hno2:((lb.take i).map Lb.n).contains lb[i].n=true→R=false:=fun hd=>by rw [hd] at h2;simpa using h2.symm
   have nat:=fun k hk=>names_at Lb.n lb i k hk (by omega)
   have nl:((lb.take i).map Lb.n).length=i:=by simp;omega
   clear hK h2 hR
   unfold lbOk at fin hno
   generalize hnm:nameT lb[i].n=b1 at *
   generalize goodR (runesL lb[i].t 0)=b2 at *
   generalize runeRows (runesL lb[i].t 0)=RW at *
   generalize (runesL lb[i].t 0).length=cc at *
   clear hnm
   by_cases hc:cc≤120
   ·have hc': ¬(120:Int)<cc:=by omega
    have hc2: ¬120<cc:=by omega
    rw [decide_eq_true hc] at fin hno
    cases b1
    ·rw [hno (by simp)]
     simp -implicitDefEqProofs [gi,gR,ra2 i gi,rl]
     refine onC_mk _ (N) ?_
     simp -implicitDefEqProofs
    ·cases b2
     ·rw [hno (by simp)]
      simp -implicitDefEqProofs [gi,gR,ra2 i gi,rl]
      refine onC_mk _ (N) ?_
      simp -implicitDefEqProofs
      refine onC_mk _ (G) ?_
      simp -implicitDefEqProofs
     ·have fin:=fin (by simp)
      clear hno
      simp -implicitDefEqProofs [gi,gR,ra2 i gi,rl]
      refine onC_mk _ (N) ?_
      simp -implicitDefEqProofs
      refine onC_mk _ (G) ?_
      simp -implicitDefEqProofs
      refine onC_mk _ (C) ?_
      simp -implicitDefEqProofs [cl,hc',hc2]
      generalize (lb.take i).map Lb.n=NN at *
      refine wp_lpk (α:=Nat) (fun k=>⟨[(1,.ptr (.n 1) 0),(3,i6 i),(4,.ptr (.n 4) 0),(5,i6 k)],[(.n 1,[.str n,.int .u32 t,i6 g,i6 a,i6 o,i6 c,.sl RU,.sl RR]),(.n 4,[.str lb[i].n,.str lb[i].t])],[]⟩)
       (fun k=>k≤i∧(NN.drop k).contains lb[i].n=NN.contains lb[i].n) (fun k=>i - k) ?_ 0 ?_ ?_
      ·rintro K2 k hK2 ⟨k1,k2⟩
       by_cases gk:k<i
       ·have gk':(k:Int)<i:=by omega
        have t2:IntKind.i64.wrap ((k:Int)+1)=(k+1:Nat):=by rw [wrap_i64]<;>omega
        obtain ⟨q1,q2⟩:=nat k gk
        rw [contains_step NN k q1,q2] at k2
        have rk:=ra2 k (by omega)
        have gRk:k<RU.length:=by omega
        have fin2:(lb[k].n==lb[i].n)=false→ ∀σ',Weak σ' ⟨[(1,.ptr (.n 1) 0),(3,i6 i),(4,.ptr (.n 4) 0),(5,i6 (k+1:Nat))],[(.n 1,[.str n,.int .u32 t,i6 g,i6 a,i6 o,i6 c,.sl RU,.sl RR]),(.n 4,[.str lb[i].n,.str lb[i].t])],[]⟩→K2 σ':=
         fun hd σ' hσ=>hK2 (k+1) σ' ⟨by omega,by rw [hd,Bool.false_or] at k2;exact k2⟩ (by omega) hσ
        clear hK2 fin nat ra2 ra rat
        cases b2:(lb[k].n==lb[i].n)
        ·have fin2:=fin2 b2
         simp -implicitDefEqProofs [gk,gk',gRk,rk,b2]
         refine fin2 _ ?_
         refine weak_mk ?_ ?_ ?_ ?_ ?_ ?_<;>simp -implicitDefEqProofs [t2]
        ·rw [b2,Bool.true_or] at k2
         rw [hno2 k2.symm]
         simp -implicitDefEqProofs [gk,gk',gRk,rk,b2]
       ·obtain rfl:k=i:=by omega
        rw [List.drop_eq_nil_of_le (by omega)] at k2
        have fin:=fin (by rw [←k2];rfl)
        clear hK2
        simp -implicitDefEqProofs
        refine fin _ ?_
        refine weak_mk ?_ ?_ ?_ ?_ ?_ ?_<;>simp -implicitDefEqProofs [t1]
      ·exact ⟨Nat.zero_le _,rfl⟩
      ·refine weak_mk ?_ ?_ ?_ ?_ ?_ ?_<;>simp -implicitDefEqProofs
   ·have hc':(120:Int)<cc:=by omega
    have hc2:120<cc:=by omega
    rw [decide_eq_false hc] at hno
    rw [hno (by simp)]
    simp -implicitDefEqProofs [gi,gR,ra2 i gi,rl]
    repeat' first
     |(refine onC_mk _ (N) ?_;simp -implicitDefEqProofs [cl,hc',hc2])
     |(refine onC_mk _ (G) ?_;simp -implicitDefEqProofs [cl,hc',hc2])
     |(refine onC_mk _ (C) ?_;simp -implicitDefEqProofs [cl,hc',hc2])
     |(refine onB_mk (fun h=>?_) (fun h=>?_)<;>(try simp only [Bool.not_eq_true',Bool.not_eq_false',decide_eq_true_eq,decide_eq_false_iff_not] at h)<;>simp -implicitDefEqProofs [h,cl,hc',hc2])
  ·obtain rfl:i=lb.length:=by omega
   rw [List.drop_length] at h2
   have:R=true:=by rw [←h2];rfl
   subst this
   clear hK
   simp -implicitDefEqProofs [rl]
   refine tail _ ?_
   simp -implicitDefEqProofs
 ·exact ⟨Nat.zero_le _,by rw [hR];rfl⟩
 ·refine weak_mk ?_ ?_ ?_ ?_ ?_ ?_<;>simp -implicitDefEqProofs [l1]
theorem qgoal_spec (x:Gl) (hf:x.Fit):Sp Tryz.prog gl 14 [.agg x.row] (.bool (goalP x)):=by
 refine s14 rfl rfl ?_
 rw [←goalQ_eq]
 have ec:c14=AC.cutAt 2 (AC.tl 2 c14) c14:=rfl
 rw [ec]
 have N:=rname_spec x.n (by have:=hf.n;omega)
 obtain ⟨nm,t,g,a,o,c,lb,ru⟩:=x
 have tail:=rgoal_labels nm t g a o c lb ru hf.lb hf.lbs hf.ru hf.rus
 generalize AC.tl 2 c14=TT at tail ⊢
 have hR:goalQ ⟨nm,t,g,a,o,c,lb,ru⟩=(!(!nameT nm||(decide ((t:Int)<1)||(decide ((999999:Int)<t)||(!btw g 1 86400||(!btw a 0 86400||(!btw o 0 34560000||(o.tmod g !=0||(decide (c<0)||(decide (2<c)||(decide ((4:Int)<lb.length)||(decide ((ru.length:Int)<1)||decide ((4:Int)<ru.length))))))))))))&&(chk lbOk Lb.n [] lb&&chk (fun r=>ruP r g) Ru.n [] ru)):=rfl
 have rl1:(lb.map Lb.row).length=lb.length:=by simp
 have rl2:(ru.map Ru.row).length=ru.length:=by simp
 simp only [Gl.row] at N tail ⊢
 clear hf ec
 have B2:=rin_spec g 1 86400
 have B3:=rin_spec a 0 86400
 have B4:=rin_spec o 0 34560000
 generalize goalQ ⟨nm,t,g,a,o,c,lb,ru⟩=R at *
 generalize (chk lbOk Lb.n [] lb&&chk (fun r=>ruP r g) Ru.n [] ru)=E at *
 generalize nameT nm=b0 at *
 generalize lb.map Lb.row=LB at *
 generalize ru.map Ru.row=RU at *
 generalize x3:btw a 0 86400=b3 at *
 generalize x4:btw o 0 34560000=b4 at *
 generalize lb.length=n1 at *
 generalize ru.length=n2 at *
 clear x3 x4
 have y1:(decide ((t:Int)<1))=decide (t=0):=by rw [Bool.eq_iff_iff];simp;omega
 generalize hm1:decide ((t:Int)<1)=m1 at *
 generalize hm2:decide ((999999:Int)<t)=m2 at *
 generalize hm4:decide (c<0)=m4 at *
 generalize hm5:decide (2<c)=m5 at *
 generalize hm6:decide ((4:Int)<(n1:Int))=m6 at *
 generalize hm7:decide ((n2:Int)<1)=m7 at *
 generalize hm8:decide ((4:Int)<(n2:Int))=m8 at *
 simp only [c14,AC.cutAt]
 by_cases g0:1≤g∧g≤86400
 ·have e2:btw g 1 86400=true:=decide_eq_true g0
  have g1: ¬g=0:=by omega
  rw [e2] at B2 hR
  clear e2
  generalize hm3:(o.tmod g !=0)=m3 at *
  simp -implicitDefEqProofs
  repeat' first
   |(refine onC_mk _ (N) ?_;simp -implicitDefEqProofs [g1,rl1,rl2,hm1,hm2,hm3,hm4,hm5,hm6,hm7,hm8])
   |(refine onC_mk _ (B2) ?_;simp -implicitDefEqProofs [g1,rl1,rl2,hm1,hm2,hm3,hm4,hm5,hm6,hm7,hm8])
   |(refine onC_mk _ (B3) ?_;simp -implicitDefEqProofs [g1,rl1,rl2,hm1,hm2,hm3,hm4,hm5,hm6,hm7,hm8])
   |(refine onC_mk _ (B4) ?_;simp -implicitDefEqProofs [g1,rl1,rl2,hm1,hm2,hm3,hm4,hm5,hm6,hm7,hm8])
   |(refine onB_mk (fun h=>?_) (fun h=>?_)<;>(try simp only [Bool.not_eq_true',Bool.not_eq_false',decide_eq_true_eq,decide_eq_false_iff_not] at h)<;>simp -implicitDefEqProofs [h,g1,rl1,rl2,hm1,hm2,hm3,hm4,hm5,hm6,hm7,hm8])
  all_goals first
   |(rw [hR];simp [*];done)
   |(rw [hR];simp_all;done)
 ·have e2:btw g 1 86400=false:=decide_eq_false g0
  rw [e2] at B2 hR
  clear e2 tail
  simp -implicitDefEqProofs
  repeat' first
   |(refine onC_mk _ (N) ?_;simp -implicitDefEqProofs [rl1,rl2,hm1,hm2])
   |(refine onC_mk _ (B2) ?_;simp -implicitDefEqProofs [rl1,rl2,hm1,hm2])
   |(refine onB_mk (fun h=>?_) (fun h=>?_)<;>(try simp only [Bool.not_eq_true',Bool.not_eq_false',decide_eq_true_eq,decide_eq_false_iff_not] at h)<;>simp -implicitDefEqProofs [h,rl1,rl2,hm1,hm2])
  all_goals first
   |(rw [hR];simp [*];done)
   |(rw [hR];simp_all;done)
open Go.Proofs
end Go.Ai
namespace Go.Ai
open Go.Proofs
def heavyLb (y:Lb):Bool:=decide ((2000:Int)<y.n.length)||decide ((2000:Int)<y.t.length)
def heavyRu (y:Ru):Bool:=decide ((2000:Int)<y.n.length)
def heavyG (x:Gl):Bool:=(decide ((2000:Int)<x.n.length)||(decide ((10:Int)<x.lb.length)||decide ((10:Int)<x.ru.length)))||(x.lb.any heavyLb||x.ru.any heavyRu)
theorem any_at {α:Type} (p:α→Bool) (l:List α) (i:Nat) (h:i<l.length):(l.drop i).any p=(p l[i]||(l.drop (i+1)).any p):=by
 rw [List.drop_eq_getElem_cons h,List.any_cons]
theorem heavyG_rules (n:List UInt8) (t:Nat) (g a o c:Int) (LB:List (List AV)) (ru:List Ru) (hl:ru.length≤10) (e:List (Nat×AV)) (l1:lk e 1= .ptr (.n 1) 0):
  wpA (SpH Tryz.prog gl) (AC.tl 3 c13) (postA [.t 2] (.bool (ru.any heavyRu))) ⟨e,[(.n 1,[.str n,.int .u32 t,i6 g,i6 a,i6 o,i6 c,.sl LB,.sl (ru.map Ru.row)])],[]⟩:=by
 obtain ⟨R,hR⟩: ∃R,R=ru.any heavyRu:=⟨_,rfl⟩
 rw [←hR]
 have rat: ∀i (h:i<ru.length),∀h2,(ru.map Ru.row)[i]'h2=[.str ru[i].n,.bool ru[i].p,i6 ru[i].l,i6 ru[i].s,u ru[i].f,i6 ru[i].w,i6 ru[i].k]:=fun i h h2=>by simp [Ru.row]
 have rl:(ru.map Ru.row).length=ru.length:=by simp
 generalize ru.map Ru.row=RU at *
 simp only [c13,AC.tl]
 simp -implicitDefEqProofs
 refine wp_lpk (α:=Nat) (fun i=>⟨[(1,.ptr (.n 1) 0),(4,i6 i)],[(.n 1,[.str n,.int .u32 t,i6 g,i6 a,i6 o,i6 c,.sl LB,.sl RU])],[]⟩)
  (fun i=>i≤ru.length∧(ru.drop i).any heavyRu=R) (fun i=>ru.length - i) ?_ 0 ?_ ?_
 ·rintro K i hK ⟨h1,h2⟩
  by_cases gi:i<ru.length
  ·have t1:IntKind.i64.wrap ((i:Int)+1)=(i+1:Nat):=by rw [wrap_i64]<;>omega
   have ra:=rat i gi
   have gR:i<RU.length:=by omega
   rw [any_at _ _ _ gi] at h2
   have fin:heavyRu ru[i]=false→ ∀σ',Weak σ' ⟨[(1,.ptr (.n 1) 0),(4,i6 (i+1:Nat))],[(.n 1,[.str n,.int .u32 t,i6 g,i6 a,i6 o,i6 c,.sl LB,.sl RU])],[]⟩→K σ':=
    fun hb σ' hσ=>hK (i+1) σ' ⟨by omega,by rw [hb,Bool.false_or] at h2;exact h2⟩ (by omega) hσ
   have hno:heavyRu ru[i]=true→R=true:=fun hb=>by rw [hb,Bool.true_or] at h2;exact h2.symm
   unfold heavyRu at fin hno
   clear hK h2 hR rat
   generalize ru[i].n=yn at *
   by_cases q:(2000:Int)<yn.length
   ·have q2:2000<yn.length:=by omega
    rw [hno (by simpa using q)]
    simp -implicitDefEqProofs [gi,gR,ra,rl,q,q2]
   ·have q2: ¬2000<yn.length:=by omega
    have fin:=fin (by simpa using q)
    simp -implicitDefEqProofs [gi,gR,ra,rl,q,q2]
    refine fin _ ?_
    refine weak_mk ?_ ?_ ?_ ?_ ?_ ?_<;>simp -implicitDefEqProofs [t1]
  ·obtain rfl:i=ru.length:=by omega
   rw [List.drop_length] at h2
   have:R=false:=by rw [←h2];rfl
   subst this
   clear hK
   simp -implicitDefEqProofs [rl]
 ·exact ⟨Nat.zero_le _,by rw [hR];rfl⟩
 ·refine weak_mk ?_ ?_ ?_ ?_ ?_ ?_<;>simp -implicitDefEqProofs [l1]
theorem heavyG_labels (n:List UInt8) (t:Nat) (g a o c:Int) (lb:List Lb) (ru:List Ru) (hll:lb.length≤10) (hl:ru.length≤10) (e:List (Nat×AV)) (l1:lk e 1= .ptr (.n 1) 0):
  wpA (SpH Tryz.prog gl) (AC.tl 2 c13) (postA [.t 2] (.bool (lb.any heavyLb||ru.any heavyRu))) ⟨e,[(.n 1,[.str n,.int .u32 t,i6 g,i6 a,i6 o,i6 c,.sl (lb.map Lb.row),.sl (ru.map Ru.row)])],[]⟩:=by
 have ec:AC.tl 2 c13=AC.cutAt 1 (AC.tl 3 c13) (AC.tl 2 c13):=rfl
 rw [ec]
 have tail:=heavyG_rules n t g a o c (lb.map Lb.row) ru hl
 generalize AC.tl 3 c13=TT at tail ⊢
 obtain ⟨R,hR⟩: ∃R,R=lb.any heavyLb:=⟨_,rfl⟩
 rw [←hR]
 generalize ru.any heavyRu=R2 at *
 have rat: ∀i (h:i<lb.length),∀h2,(lb.map Lb.row)[i]'h2=[.str lb[i].n,.str lb[i].t]:=fun i h h2=>by simp [Lb.row]
 have rl:(lb.map Lb.row).length=lb.length:=by simp
 generalize lb.map Lb.row=RU at *
 generalize ru.map Ru.row=RR at *
 simp only [c13,AC.tl,AC.cutAt]
 simp -implicitDefEqProofs
 refine wp_lpk (α:=Nat) (fun i=>⟨[(1,.ptr (.n 1) 0),(3,i6 i)],[(.n 1,[.str n,.int .u32 t,i6 g,i6 a,i6 o,i6 c,.sl RU,.sl RR])],[]⟩)
  (fun i=>i≤lb.length∧(lb.drop i).any heavyLb=R) (fun i=>lb.length - i) ?_ 0 ?_ ?_
 ·rintro K i hK ⟨h1,h2⟩
  by_cases gi:i<lb.length
  ·have t1:IntKind.i64.wrap ((i:Int)+1)=(i+1:Nat):=by rw [wrap_i64]<;>omega
   have ra:=rat i gi
   have gR:i<RU.length:=by omega
   rw [any_at _ _ _ gi] at h2
   have fin:heavyLb lb[i]=false→ ∀σ',Weak σ' ⟨[(1,.ptr (.n 1) 0),(3,i6 (i+1:Nat))],[(.n 1,[.str n,.int .u32 t,i6 g,i6 a,i6 o,i6 c,.sl RU,.sl RR])],[]⟩→K σ':=
    fun hb σ' hσ=>hK (i+1) σ' ⟨by omega,by rw [hb,Bool.false_or] at h2;exact h2⟩ (by omega) hσ
   have hno:heavyLb lb[i]=true→R=true:=fun hb=>by rw [hb,Bool.true_or] at h2;exact h2.symm
   unfold heavyLb at fin hno
   clear hK h2 hR rat tail
   generalize lb[i].n=yn at *
   generalize lb[i].t=yt at *
   by_cases q:(2000:Int)<yn.length
   ·have q2:2000<yn.length:=by omega
    rw [hno (by rw [decide_eq_true q,Bool.true_or])]
    simp -implicitDefEqProofs [gi,gR,ra,rl,q,q2]
   ·have q2: ¬2000<yn.length:=by omega
    by_cases q3:(2000:Int)<yt.length
    ·have q4:2000<yt.length:=by omega
     rw [hno (by rw [decide_eq_true q3,Bool.or_true])]
     simp -implicitDefEqProofs [gi,gR,ra,rl,q,q2,q3,q4]
    ·have q4: ¬2000<yt.length:=by omega
     have fin:=fin (by rw [decide_eq_false q,decide_eq_false q3];rfl)
     simp -implicitDefEqProofs [gi,gR,ra,rl,q,q2,q3,q4]
     refine fin _ ?_
     refine weak_mk ?_ ?_ ?_ ?_ ?_ ?_<;>simp -implicitDefEqProofs [t1]
  ·obtain rfl:i=lb.length:=by omega
   rw [List.drop_length] at h2
   have:R=false:=by rw [←h2];rfl
   subst this
   clear hK
   simp -implicitDefEqProofs [rl]
   refine tail _ ?_
   simp -implicitDefEqProofs
 ·exact ⟨Nat.zero_le _,by rw [hR];rfl⟩
 ·refine weak_mk ?_ ?_ ?_ ?_ ?_ ?_<;>simp -implicitDefEqProofs [l1]
theorem heavyG_spec (x:Gl):Sp Tryz.prog gl 13 [.agg x.row] (.bool (heavyG x)):=by
 refine s13 rfl rfl ?_
 have ec:c13=AC.cutAt 2 (AC.tl 2 c13) c13:=rfl
 rw [ec]
 obtain ⟨nm,t,g,a,o,c,lb,ru⟩:=x
 have tail:=fun h1 h2=>heavyG_labels nm t g a o c lb ru h1 h2
 generalize AC.tl 2 c13=TT at tail ⊢
 have hR:heavyG ⟨nm,t,g,a,o,c,lb,ru⟩=((decide ((2000:Int)<nm.length)||(decide ((10:Int)<lb.length)||decide ((10:Int)<ru.length)))||(lb.any heavyLb||ru.any heavyRu)):=rfl
 have rl1:(lb.map Lb.row).length=lb.length:=by simp
 have rl2:(ru.map Ru.row).length=ru.length:=by simp
 simp only [Gl.row]
 generalize heavyG ⟨nm,t,g,a,o,c,lb,ru⟩=R at *
 generalize (lb.any heavyLb||ru.any heavyRu)=E at *
 generalize lb.map Lb.row=LB at *
 generalize ru.map Ru.row=RU at *
 generalize lb.length=n1 at *
 generalize ru.length=n2 at *
 simp only [c13,AC.cutAt]
 by_cases q1:(2000:Int)<nm.length
 ·have q1':2000<nm.length:=by omega
  rw [decide_eq_true q1] at hR
  simp -implicitDefEqProofs [q1,q1',hR]
 ·have q1': ¬2000<nm.length:=by omega
  by_cases q2:(10:Int)<n1
  ·have q2':10<n1:=by omega
   rw [decide_eq_true q2] at hR
   simp -implicitDefEqProofs [q1,q1',rl1,q2,q2',hR]
  ·have q2': ¬10<n1:=by omega
   by_cases q3:(10:Int)<n2
   ·have q3':10<n2:=by omega
    rw [decide_eq_true q3] at hR
    simp -implicitDefEqProofs [q1,q1',rl1,rl2,q2,q2',q3,q3',hR]
   ·have q3': ¬10<n2:=by omega
    rw [decide_eq_false q1,decide_eq_false q2,decide_eq_false q3] at hR
    have tail:=tail (by omega) (by omega)
    have:R=E:=by rw [hR];rfl
    subst this
    simp -implicitDefEqProofs [q1,q1',rl1,rl2,q2,q2',q3,q3']
    refine tail _ ?_
    simp -implicitDefEqProofs
end Go.Ai
