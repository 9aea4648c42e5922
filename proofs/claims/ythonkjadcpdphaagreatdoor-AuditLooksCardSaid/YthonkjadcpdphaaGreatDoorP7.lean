/- P7: a part of the proof: the rules, or what functions compute. Conditions: as each theorem says. -/
import Derived.Test.YthonkjadcpdphaaGreatDoorP6
import Derived.Test.YthonkjadcpdphaaGreatDoorCode
import Derived.Test.YthonkjadcpdphaaGreatDoorAiShelf2
import Derived.Shelf.SlicesE.Compact
import Derived.Shelf.SortM.Plain
import Derived.Shelf.SortM.SortNone
set_option linter.unusedSimpArgs false
set_option linter.unusedVariables false
set_option maxRecDepth 20000
namespace Go.Ai
open Go.Proofs
def lbOk (x:Lb):Bool:=nameT x.n&&(goodR (runesL x.t 0)&&decide ((runesL x.t 0).length≤120))
def lbFit (x:Lb):Prop:=x.n.length≤2000∧x.t.length≤2000
def ruFit (x:Ru):Prop:=x.n.length≤2000
structure Gl.Fit (x:Gl):Prop where
 n:x.n.length≤2000
 lb:x.lb.length≤10
 ru:x.ru.length≤10
 lbs: ∀y∈x.lb,lbFit y
 rus: ∀y∈x.ru,ruFit y
structure Cf.Fit (x:Cf):Prop where
 n:x.gs.length≤10
 gs: ∀y∈x.gs,y.Fit
def labelsP (l:List Lb):Bool:=l.all lbOk&&(decide (l.length≤4)&&uniq (l.map Lb.n))
def rulesP (l:List Ru) (g:Int):Bool:=l.all (fun r=>ruP r g)&&(btw l.length 1 4&&uniq (l.map Ru.n))
def goalP (x:Gl):Bool:=nameT x.n&&(btw x.t 1 999999&&(btw x.g 1 86400&&(btw x.a 0 86400&&(btw x.o 0 34560000&&(x.o.tmod x.g==0&&(btw x.c 0 2&&(labelsP x.lb&&rulesP x.ru x.g)))))))
def rightP (c:Cf):Bool:=c.gs.all goalP&&(btw c.r 1 64&&(btw c.v 0 c.r&&(btw c.i 1 86400&&(btw c.x c.i 604800&&(btw c.y 0 2592000&&(decide (c.gs.length≤6)&&uniq (c.gs.map Gl.n)))))))
theorem rows_atF {α:Type} (f:α→List AV) (l:List α) (i:Nat) (h:i<l.length): ∀h2,(l.map f)[i]'h2=f l[i]:=fun _=>by simp
theorem labels_spec (l:List Lb) (hl:l.length≤10) (hf: ∀x∈l,lbFit x):Sp Tryz.prog gl 141 [.sl (l.map Lb.row)] (.bool (labelsP l)):=by
 refine s141 rfl rfl ?_
 obtain ⟨R,hR⟩: ∃R,R=labelsP l:=⟨_,rfl⟩
 rw [←hR]
 unfold labelsP at hR
 have U:=Sp.h (d:=33) (unlL_spec l (by omega))
 have rat:=rows_atF Lb.row l
 have rl:(l.map Lb.row).length=l.length:=by simp
 have fin0:l.all lbOk=true→ ∀e,lk e 0= .sl (l.map Lb.row)→wpA (SpH Tryz.prog gl) (AC.tl 2 c141) (postA [.t 2] (.bool R)) ⟨e,[],[]⟩:=by
  intro ha e l0
  rw [ha,Bool.true_and] at hR
  generalize uniq (l.map Lb.n)=U0 at *
  generalize l.map Lb.row=RR at *
  simp only [c141,AC.tl]
  by_cases g:l.length≤4
  ·have g':(l.length:Int)≤4:=by omega
   rw [decide_eq_true g] at hR
   simp -implicitDefEqProofs [l0,rl,g',g]
   refine onH_mk _ _ (U) ⟨?_,?_,?_,?_,?_,?_,?_⟩ ?_
   iterate 7 (· simp)
   simp -implicitDefEqProofs [hR]
  ·have g': ¬(l.length:Int)≤4:=by omega
   rw [decide_eq_false g] at hR
   simp -implicitDefEqProofs [l0,rl,g',g,hR]
 have ec:c141=AC.cutAt 2 (AC.tl 2 c141) c141:=rfl
 rw [ec]
 generalize AC.tl 2 c141=T at fin0 ⊢
 generalize uniq (l.map Lb.n)=U0 at *
 generalize l.map Lb.row=RR at *
 simp only [c141,AC.cutAt]
 simp -implicitDefEqProofs [rl]
 refine wp_lpk (α:=Nat) (fun i=>⟨[(0,.sl RR),(5,.sl RR),(6,i6 l.length),(7,i6 i)],[],[]⟩) (fun i=>i≤l.length∧(l.drop i).all lbOk=l.all lbOk) (fun i=>l.length - i) ?_ 0 ?_ ?_
 ·rintro K i hK ⟨h1,h2⟩
  by_cases g:i<l.length
  ·have t1:IntKind.i64.wrap ((i:Int)+1)=(i+1:Nat):=by rw [wrap_i64]<;>omega
   have ra:=rat i g
   have gR:i<RR.length:=by omega
   rw [List.drop_eq_getElem_cons g,List.all_cons] at h2
   have fin:lbOk l[i]=true→ ∀σ',Weak σ' ⟨[(0,.sl RR),(5,.sl RR),(6,i6 l.length),(7,i6 (i+1:Nat))],[],[]⟩→K σ':=fun hd σ' hσ=>hK (i+1) σ' ⟨by omega,by rw [hd,Bool.true_and] at h2;exact h2⟩ (by omega) hσ
   have hfi:=hf l[i] (List.getElem_mem _)
   have N:=tname_spec l[i].n (by have:=hfi.1;omega)
   have G:=tgood_spec l[i].t (by have:=hfi.2;omega)
   have C:=tcount_spec l[i].t (by have:=hfi.2;omega)
   have hno:lbOk l[i]=false→R=false:=fun h=>by rw [h,Bool.false_and] at h2;rw [hR,←h2];rfl
   unfold lbOk at fin hno
   clear hK h2 hR fin0 rat hf U
   generalize l[i]=x at *
   obtain ⟨xn,xt⟩:=x
   simp only [Lb.row] at *
   generalize nameT xn=b1 at *
   generalize goodR (runesL xt 0)=b2 at *
   generalize (runesL xt 0).length=c at *
   by_cases hc:c≤120
   ·have hc': ¬(120:Int)<c:=by omega
    have hc2: ¬120<c:=by omega
    rw [decide_eq_true hc] at fin hno
    simp -implicitDefEqProofs [g,gR,ra]
    repeat' first
     |(refine onC_mk _ (N) ?_;simp -implicitDefEqProofs [hc',hc2])
     |(refine onC_mk _ (G) ?_;simp -implicitDefEqProofs [hc',hc2])
     |(refine onC_mk _ (C) ?_;simp -implicitDefEqProofs [hc',hc2])
     |(refine onB_mk (fun h=>?_) (fun h=>?_)<;>(try simp only [Bool.not_eq_true',Bool.not_eq_false',decide_eq_true_eq,decide_eq_false_iff_not] at h)<;>simp -implicitDefEqProofs [h,hc',hc2])
    all_goals first
     |(refine fin (by simp [*]) _ (weak_mk ?_ ?_ ?_ ?_ ?_ ?_)<;>simp -implicitDefEqProofs [t1])
     |(rw [hno (by simp [*])])
   ·have hc':(120:Int)<c:=by omega
    have hc2:120<c:=by omega
    rw [decide_eq_false hc] at fin hno
    simp -implicitDefEqProofs [g,gR,ra]
    repeat' first
     |(refine onC_mk _ (N) ?_;simp -implicitDefEqProofs [hc',hc2])
     |(refine onC_mk _ (G) ?_;simp -implicitDefEqProofs [hc',hc2])
     |(refine onC_mk _ (C) ?_;simp -implicitDefEqProofs [hc',hc2])
     |(refine onB_mk (fun h=>?_) (fun h=>?_)<;>(try simp only [Bool.not_eq_true',Bool.not_eq_false',decide_eq_true_eq,decide_eq_false_iff_not] at h)<;>simp -implicitDefEqProofs [h,hc',hc2])
    all_goals (rw [hno (by simp [*])])
  ·obtain rfl:i=l.length:=by omega
   rw [List.drop_length] at h2
   have fin0:=fin0 (by rw [←h2];rfl)
   clear hK
   simp -implicitDefEqProofs
   refine fin0 _ ?_
   simp -implicitDefEqProofs
 ·exact ⟨Nat.zero_le _,rfl⟩
 ·refine weak_mk ?_ ?_ ?_ ?_ ?_ ?_<;>simp -implicitDefEqProofs [rl]
open Go.Proofs
theorem rules_spec (l:List Ru) (gr:Int) (hl:l.length≤10) (hf: ∀x∈l,ruFit x):Sp Tryz.prog gl 142 [.sl (l.map Ru.row),i6 gr] (.bool (rulesP l gr)):=by
 refine s142 rfl rfl ?_
 obtain ⟨R,hR⟩: ∃R,R=rulesP l gr:=⟨_,rfl⟩
 rw [←hR]
 unfold rulesP at hR
 have U:=Sp.h (d:=23) (unlR_spec l (by omega))
 have B:=btwI_spec l.length 1 4
 have rat:=rows_atF Ru.row l
 have rl:(l.map Ru.row).length=l.length:=by simp
 have fin0:(l.all fun r=>ruP r gr)=true→ ∀e,lk e 0= .sl (l.map Ru.row)→wpA (SpH Tryz.prog gl) (AC.tl 2 c142) (postA [.t 4] (.bool R)) ⟨e,[],[]⟩:=by
  intro ha e l0
  rw [ha,Bool.true_and] at hR
  generalize uniq (l.map Ru.n)=U0 at *
  generalize l.map Ru.row=RR at *
  generalize btw l.length 1 4=b at *
  simp only [c142,AC.tl]
  cases b
  ·simp [l0,rl]
   refine onC_mk _ (B) ?_
   simp -implicitDefEqProofs [hR]
  ·simp [l0,rl]
   refine onC_mk _ (B) ?_
   simp -implicitDefEqProofs [l0]
   refine onH_mk _ _ (U) ⟨?_,?_,?_,?_,?_,?_,?_⟩ ?_
   iterate 7 (· simp)
   simp -implicitDefEqProofs [hR]
 have ec:c142=AC.cutAt 2 (AC.tl 2 c142) c142:=rfl
 rw [ec]
 generalize AC.tl 2 c142=T at fin0 ⊢
 generalize uniq (l.map Ru.n)=U0 at *
 generalize l.map Ru.row=RR at *
 simp only [c142,AC.cutAt]
 simp -implicitDefEqProofs [rl]
 refine wp_lpk (α:=Nat) (fun i=>⟨[(0,.sl RR),(1,i6 gr),(7,.sl RR),(8,i6 l.length),(9,i6 i)],[],[]⟩) (fun i=>i≤l.length∧((l.drop i).all fun r=>ruP r gr)=l.all fun r=>ruP r gr) (fun i=>l.length - i) ?_ 0 ?_ ?_
 ·rintro K i hK ⟨h1,h2⟩
  by_cases g:i<l.length
  ·have t1:IntKind.i64.wrap ((i:Int)+1)=(i+1:Nat):=by rw [wrap_i64]<;>omega
   have ra:=rat i g
   have gR:i<RR.length:=by omega
   rw [List.drop_eq_getElem_cons g,List.all_cons] at h2
   have fin:ruP l[i] gr=true→ ∀σ',Weak σ' ⟨[(0,.sl RR),(1,i6 gr),(7,.sl RR),(8,i6 l.length),(9,i6 (i+1:Nat))],[],[]⟩→K σ':=fun hd σ' hσ=>hK (i+1) σ' ⟨by omega,by rw [hd,Bool.true_and] at h2;exact h2⟩ (by omega) hσ
   have hfi:=hf l[i] (List.getElem_mem _)
   have Q:=rru_spec l[i] gr (by have:l[i].n.length≤2000:=hfi;omega)
   have hno:ruP l[i] gr=false→R=false:=fun h=>by rw [h,Bool.false_and] at h2;rw [hR,←h2];rfl
   have hrl:(l[i].row).length=7:=rfl
   have hs:shutL l[i].row=some l[i].row:=rfl
   clear hK h2 hR fin0 rat hf U B
   generalize ruP l[i] gr=b1 at *
   generalize l[i].row=x at *
   have e7:List.take 7 x=x:=List.take_of_length_le (by omega)
   cases b1
   ·rw [hno rfl]
    simp -implicitDefEqProofs [g,gR,ra,hrl,e7,hs]
    refine onC_mk _ (Q) ?_
    simp -implicitDefEqProofs
   ·have fin:=fin rfl
    simp -implicitDefEqProofs [g,gR,ra,hrl,e7,hs]
    refine onC_mk _ (Q) ?_
    simp -implicitDefEqProofs
    refine fin _ ?_
    refine weak_mk ?_ ?_ ?_ ?_ ?_ ?_<;>simp -implicitDefEqProofs [t1]
  ·obtain rfl:i=l.length:=by omega
   rw [List.drop_length] at h2
   have fin0:=fin0 (by rw [←h2];rfl)
   clear hK
   simp -implicitDefEqProofs
   refine fin0 _ ?_
   simp -implicitDefEqProofs
 ·exact ⟨Nat.zero_le _,rfl⟩
 ·refine weak_mk ?_ ?_ ?_ ?_ ?_ ?_<;>simp -implicitDefEqProofs [rl]
theorem goal_spec (x:Gl) (hf:x.Fit):Sp Tryz.prog gl 82 [.agg x.row] (.bool (goalP x)):=by
 refine s82 rfl rfl ?_
 have N:=tname_spec x.n (by have:=hf.n;omega)
 have L:=labels_spec x.lb hf.lb hf.lbs
 have Q:=rules_spec x.ru x.g hf.ru hf.rus
 obtain ⟨nm,t,g,a,o,c,lb,ru⟩:=x
 have hR:goalP ⟨nm,t,g,a,o,c,lb,ru⟩=(nameT nm&&(btw t 1 999999&&(btw g 1 86400&&(btw a 0 86400&&(btw o 0 34560000&&(o.tmod g==0&&(btw c 0 2&&(labelsP lb&&rulesP ru g)))))))):=rfl
 simp only [Gl.row] at N L Q ⊢
 clear hf
 have B1:Sp Tryz.prog gl 140 [.int .u32 t,.int .u32 1,.int .u32 999999] (.bool (btw t 1 999999)):=between3_spec t 1 999999
 have B2:=between6_spec g 1 86400
 have B3:=between6_spec a 0 86400
 have B4:=between6_spec o 0 34560000
 have B5:=btwI_spec c 0 2
 generalize goalP ⟨nm,t,g,a,o,c,lb,ru⟩=R at *
 generalize nameT nm=b0 at *
 generalize labelsP lb=b6 at *
 generalize rulesP ru g=b7 at *
 generalize lb.map Lb.row=LB at *
 generalize ru.map Ru.row=RU at *
 generalize x1:btw (t:Int) 1 999999=b1 at *
 generalize x3:btw a 0 86400=b3 at *
 generalize x4:btw o 0 34560000=b4 at *
 generalize x5:btw c 0 2=b5 at *
 by_cases g0:1≤g∧g≤86400
 ·have e2:btw g 1 86400=true:=decide_eq_true g0
  have g1: ¬g=0:=by omega
  rw [e2] at B2 hR
  clear x1 x3 x4 x5 e2
  simp -implicitDefEqProofs [c82]
  repeat' first
   |(refine onC_mk _ (N) ?_;simp -implicitDefEqProofs [g1])
   |(refine onC_mk _ (B1) ?_;simp -implicitDefEqProofs [g1])
   |(refine onC_mk _ (B2) ?_;simp -implicitDefEqProofs [g1])
   |(refine onC_mk _ (B3) ?_;simp -implicitDefEqProofs [g1])
   |(refine onC_mk _ (B4) ?_;simp -implicitDefEqProofs [g1])
   |(refine onC_mk _ (B5) ?_;simp -implicitDefEqProofs [g1])
   |(refine onC_mk _ (L) ?_;simp -implicitDefEqProofs [g1])
   |(refine onC_mk _ (Q) ?_;simp -implicitDefEqProofs [g1])
   |(refine onB_mk (fun h=>?_) (fun h=>?_)<;>(try simp only [Bool.not_eq_true',Bool.not_eq_false',decide_eq_true_eq,decide_eq_false_iff_not] at h)<;>simp -implicitDefEqProofs [h,g1])
  all_goals first
   |(rw [hR];simp [*];done)
   |(rw [hR];simp_all)
 ·have e2:btw g 1 86400=false:=decide_eq_false g0
  rw [e2] at B2 hR
  clear x1 x3 x4 x5 e2
  simp -implicitDefEqProofs [c82]
  repeat' first
   |(refine onC_mk _ (N) ?_;simp -implicitDefEqProofs [])
   |(refine onC_mk _ (B1) ?_;simp -implicitDefEqProofs [])
   |(refine onC_mk _ (B2) ?_;simp -implicitDefEqProofs [])
   |(refine onB_mk (fun h=>?_) (fun h=>?_)<;>(try simp only [Bool.not_eq_true',Bool.not_eq_false',decide_eq_true_eq,decide_eq_false_iff_not] at h)<;>simp -implicitDefEqProofs [h])
  all_goals (rw [hR];simp [*])
theorem right_tail (c:Cf) (hl:c.gs.length≤10) (T:Bool) (hT:T=(btw c.r 1 64&&(btw c.v 0 c.r&&(btw c.i 1 86400&&(btw c.x c.i 604800&&(btw c.y 0 2592000&&(decide (c.gs.length≤6)&&uniq (c.gs.map Gl.n)))))))) (e:List (Nat×AV)) (l1:lk e 1= .ptr (.n 1) 0):
  wpA (SpH Tryz.prog gl) (AC.tl 2 c33) (postA [.t 2] (.bool T)) ⟨e,[(.n 1,c.row)],[]⟩:=by
 have U:=Sp.h (d:=57) (unlG_spec c.gs (by omega))
 have rl:(c.gs.map Gl.row).length=c.gs.length:=by simp
 obtain ⟨gs,r,v,i,x,y⟩:=c
 simp only [Cf.row] at *
 generalize uniq (gs.map Gl.n)=b0 at *
 generalize gs.map Gl.row=G at *
 have B1:=btwI_spec r 1 64
 have B2:=btwI_spec v 0 r
 have B3:=between6_spec i 1 86400
 have B4:=between6_spec x i 604800
 have B5:=between6_spec y 0 2592000
 simp only [c33,AC.tl]
 generalize btw r 1 64=b1 at *
 generalize btw v 0 r=b2 at *
 generalize btw i 1 86400=b3 at *
 generalize btw x i 604800=b4 at *
 generalize btw y 0 2592000=b5 at *
 by_cases g:gs.length≤6
 ·have g':(gs.length:Int)≤6:=by omega
  rw [decide_eq_true g] at hT
  simp -implicitDefEqProofs [l1]
  repeat' first
   |(refine onC_mk _ (B1) ?_;simp -implicitDefEqProofs [l1,rl,g,g'])
   |(refine onC_mk _ (B2) ?_;simp -implicitDefEqProofs [l1,rl,g,g'])
   |(refine onC_mk _ (B3) ?_;simp -implicitDefEqProofs [l1,rl,g,g'])
   |(refine onC_mk _ (B4) ?_;simp -implicitDefEqProofs [l1,rl,g,g'])
   |(refine onC_mk _ (B5) ?_;simp -implicitDefEqProofs [l1,rl,g,g'])
   |(refine onB_mk (fun h=>?_) (fun h=>?_)<;>(try simp only [Bool.not_eq_true',Bool.not_eq_false',decide_eq_true_eq,decide_eq_false_iff_not] at h)<;>simp -implicitDefEqProofs [h,l1,rl,g,g'])
  all_goals first
   |(rw [hT];simp [*];done)
   |skip
  refine onH_mk _ _ (U) ⟨?_,?_,?_,?_,?_,?_,?_⟩ ?_
  iterate 7 (· simp)
  simp -implicitDefEqProofs
  rw [hT];simp [*]
 ·have g': ¬(gs.length:Int)≤6:=by omega
  rw [decide_eq_false g] at hT
  simp -implicitDefEqProofs [l1]
  repeat' first
   |(refine onC_mk _ (B1) ?_;simp -implicitDefEqProofs [l1,rl,g,g'])
   |(refine onC_mk _ (B2) ?_;simp -implicitDefEqProofs [l1,rl,g,g'])
   |(refine onC_mk _ (B3) ?_;simp -implicitDefEqProofs [l1,rl,g,g'])
   |(refine onC_mk _ (B4) ?_;simp -implicitDefEqProofs [l1,rl,g,g'])
   |(refine onC_mk _ (B5) ?_;simp -implicitDefEqProofs [l1,rl,g,g'])
   |(refine onB_mk (fun h=>?_) (fun h=>?_)<;>(try simp only [Bool.not_eq_true',Bool.not_eq_false',decide_eq_true_eq,decide_eq_false_iff_not] at h)<;>simp -implicitDefEqProofs [h,l1,rl,g,g'])
  all_goals (rw [hT];simp [*])
theorem right_spec (c:Cf) (hf:c.Fit):Sp Tryz.prog gl 33 [.agg c.row] (.bool (rightP c)):=by
 refine s33 rfl rfl ?_
 obtain ⟨R,hR⟩: ∃R,R=rightP c:=⟨_,rfl⟩
 rw [←hR]
 unfold rightP at hR
 obtain ⟨T,hT⟩: ∃T,T=(btw c.r 1 64&&(btw c.v 0 c.r&&(btw c.i 1 86400&&(btw c.x c.i 604800&&(btw c.y 0 2592000&&(decide (c.gs.length≤6)&&uniq (c.gs.map Gl.n))))))):=⟨_,rfl⟩
 rw [←hT] at hR
 have tail:=right_tail c hf.n T hT
 have fin0:c.gs.all goalP=true→R=T:=fun h=>by rw [hR,h,Bool.true_and]
 have rat:=rows_atF Gl.row c.gs
 have rl:(c.gs.map Gl.row).length=c.gs.length:=by simp
 have hc:c.row= .sl (c.gs.map Gl.row)::[i6 c.r,i6 c.v,i6 c.i,i6 c.x,i6 c.y]:=rfl
 have hfg:=hf.gs
 have hln:=hf.n
 have ec:c33=AC.cutAt 2 (AC.tl 2 c33) c33:=rfl
 rw [ec]
 generalize AC.tl 2 c33=TT at tail ⊢
 rw [hc] at tail ⊢
 generalize c.gs.map Gl.row=RR at *
 generalize c.gs=l at *
 clear hT hc hf
 simp only [c33,AC.cutAt]
 simp -implicitDefEqProofs [rl]
 refine wp_lpk (α:=Nat) (fun j=>⟨[(1,.ptr (.n 1) 0),(8,.sl RR),(9,i6 l.length),(10,i6 j)],[(.n 1,.sl RR::[i6 c.r,i6 c.v,i6 c.i,i6 c.x,i6 c.y])],[]⟩) (fun j=>j≤l.length∧(l.drop j).all goalP=l.all goalP) (fun j=>l.length - j) ?_ 0 ?_ ?_
 ·rintro K j hK ⟨h1,h2⟩
  by_cases g:j<l.length
  ·have t1:IntKind.i64.wrap ((j:Int)+1)=(j+1:Nat):=by rw [wrap_i64]<;>omega
   have ra:=rat j g
   have gR:j<RR.length:=by omega
   rw [List.drop_eq_getElem_cons g,List.all_cons] at h2
   have fin:goalP l[j]=true→ ∀σ',Weak σ' ⟨[(1,.ptr (.n 1) 0),(8,.sl RR),(9,i6 l.length),(10,i6 (j+1:Nat))],[(.n 1,.sl RR::[i6 c.r,i6 c.v,i6 c.i,i6 c.x,i6 c.y])],[]⟩→K σ':=fun hd σ' hσ=>hK (j+1) σ' ⟨by omega,by rw [hd,Bool.true_and] at h2;exact h2⟩ (by omega) hσ
   have Q:=goal_spec l[j] (hfg l[j] (List.getElem_mem _))
   have hno:goalP l[j]=false→R=false:=fun h=>by rw [h,Bool.false_and] at h2;rw [hR,←h2];rfl
   have hrl:(l[j].row).length=8:=rfl
   have hs:shutL l[j].row=some l[j].row:=rfl
   clear hK h2 hR fin0 rat tail hfg
   generalize goalP l[j]=b1 at *
   generalize l[j].row=x at *
   have e7:List.take 8 x=x:=List.take_of_length_le (by omega)
   cases b1
   ·rw [hno rfl]
    simp -implicitDefEqProofs [g,gR,ra,hrl,e7,hs]
    refine onC_mk _ (Q) ?_
    simp -implicitDefEqProofs
   ·have fin:=fin rfl
    simp -implicitDefEqProofs [g,gR,ra,hrl,e7,hs]
    refine onC_mk _ (Q) ?_
    simp -implicitDefEqProofs
    refine fin _ ?_
    refine weak_mk ?_ ?_ ?_ ?_ ?_ ?_<;>simp -implicitDefEqProofs [t1]
  ·obtain rfl:j=l.length:=by omega
   rw [List.drop_length] at h2
   have e:=fin0 (by rw [←h2];rfl)
   subst e
   clear hK
   simp -implicitDefEqProofs
   refine tail _ ?_
   simp -implicitDefEqProofs
 ·exact ⟨Nat.zero_le _,rfl⟩
 ·refine weak_mk ?_ ?_ ?_ ?_ ?_ ?_<;>simp -implicitDefEqProofs [rl]
open Go.Proofs
theorem mpL_apd (f:Id→Id): ∀a b:List AV,mpL f (a++b)=mpL f a++mpL f b
 |[],b=>by simp [mpL]
 |x::a,b=>by simp [mpL,mpL_apd f a b]
theorem idsL_apd: ∀a b:List AV,idsL (a++b)=idsL a++idsL b
 |[],b=>by simp [idsL]
 |x::a,b=>by simp [idsL,idsL_apd a b]
structure Fd where
 k:Int
 n:List UInt8
def Fd.row (x:Fd):List AV:=[i6 x.k,.str x.n]
def fadd (fs:List Fd) (ok:Bool) (k:Int) (n:List UInt8):List Fd:=if ok=true then fs else fs++[⟨k,n⟩]
theorem fd_two (fs:List Fd): ∀r∈fs.map Fd.row,r.length=2:=by
 intro r hr
 obtain ⟨_,_,rfl⟩:=List.mem_map.1 hr
 rfl
theorem say_spec (M:List AV) (hM:M.length=11) (hi:idsL M=[]) (fs:List Fd) (hl:fs.length≤1000000) (ok:Bool) (k:Int) (n:List UInt8) (d:Nat) (b:Id) (hb:b.isIt=false) (hbd:b.isNw d=false):
  SpH Tryz.prog gl 31 d ⟨[.ptr b 0,.bool ok,i6 k,.str n],[(b,M++[.sl (fs.map Fd.row)])],[(.b b 11,2)]⟩ ⟨.tup [],[(b,M++[.sl ((fadd fs ok k n).map Fd.row)])],[(.b b 11,2)]⟩:=by
 refine h31 rfl ?_
 have hib:=inn_notNw hbd
 have hlim:lim=140737488355328:=rfl
 have h11: ∀(x:AV) (h:11<(M++[x]).length),(M++[x])[11]=x:=by intro x h;rw [List.getElem_append_right (by omega)];simp [hM]
 have hset: ∀x y:AV,(M++[x]).set 11 y=M++[y]:=by intro x y;rw [List.set_append];simp [hM]
 have hln: ∀x:AV,(M++[x]).length=12:=by intro x;simp [hM]
 have hmp: ∀(f:Id→Id) (x:AV),mpL f (M++[x])=M++[x.mp f]:=by intro f x;rw [mpL_apd,mpL_noids hi];rfl
 have hid: ∀x:AV,idsL (M++[x])=x.ids:=by intro x;rw [idsL_apd,hi];simp [idsL]
 have h2:=fd_two fs
 have hll:((fs.map Fd.row).length+1)*24≤140737488355328:=by simp;omega
 cases ok
 ·have he:(fadd fs false k n).map Fd.row=fs.map Fd.row++[[i6 k,.str n]]:=by simp [fadd,Fd.row]
  rw [he]
  clear he
  generalize fs.map Fd.row=L at *
  simp only [inSt,mpB,hmp,mpL,AV.mp,mpP]
  simp -implicitDefEqProofs [c31,hlim,hll,h11,hset,hln,hid]
  refine ⟨h2,?_⟩
  refine postH_n ⟨?_,?_,?_,?_,?_,?_⟩<;>simp -implicitDefEqProofs [hib,hb,hmp,hid]
 ·have he:(fadd fs true k n).map Fd.row=fs.map Fd.row:=by simp [fadd]
  rw [he]
  clear he
  generalize fs.map Fd.row=L at *
  simp only [inSt,mpB,hmp,mpL,AV.mp,mpP]
  simp -implicitDefEqProofs [c31,hlim,hll,h11,hset,hln,hid]
  refine postH_n ⟨?_,?_,?_,?_,?_,?_⟩<;>simp -implicitDefEqProofs [hib,hb,hmp,hid]
def M0:List AV:=[i6 (-1),u 0,.sl [],i6 0,i6 0,i6 0,i6 0,i6 0,.sl [],u 0,.sl []]
theorem oright0:Sp Tryz.prog gl 91 [.agg [.sl [],u 0]] (.bool true):=by
 refine s91 rfl rfl ?_
 simp -implicitDefEqProofs [c91]
 refine wp_lpk (α:=Nat) (fun i=>⟨[(1,.ptr (.n 1) 0),(15,.sl []),(16,i6 0),(17,i6 0)],[(.n 1,[.sl [],u 0])],[]⟩)
  (fun i=>True) (fun i=>0) ?_ 0 trivial ?_
 ·rintro K i hK h1
  clear hK
  simp -implicitDefEqProofs
 ·refine weak_mk ?_ ?_ ?_ ?_ ?_ ?_<;>simp -implicitDefEqProofs
theorem goals0_spec (L:List (List AV)) (d:Nat) (b:Id) (hb:b.isIt=false) (hbd:b.isNw d=false):
  SpH Tryz.prog gl 34 d ⟨[.ptr b 0],[(b,M0++[.sl L])],[(.b b 11,2)]⟩ ⟨.tup [],[(b,M0++[.sl L])],[(.b b 11,2)]⟩:=by
 refine h34 rfl ?_
 have hib:=inn_notNw hbd
 unfold M0
 simp only [inSt,mpB,mpL,AV.mp,mpP,List.cons_append,List.nil_append]
 simp -implicitDefEqProofs [c34]
 refine wp_lpk (α:=Nat) (fun i=>⟨[(0,.ptr (.up b) 0),(16,.sl []),(17,i6 0),(18,i6 0)],[(.up b,[i6 (-1),u 0,.sl [],i6 0,i6 0,i6 0,i6 0,i6 0,.sl [],u 0,.sl [],.sl L])],[(.b (.up b) 11,2)]⟩)
  (fun i=>True) (fun i=>0) ?_ 0 trivial ?_
 ·rintro K i hK h1
  clear hK
  simp -implicitDefEqProofs
  refine postH_n ⟨?_,?_,?_,?_,?_,?_⟩<;>simp -implicitDefEqProofs [hib,hb]
 ·refine weak_mk ?_ ?_ ?_ ?_ ?_ ?_<;>simp -implicitDefEqProofs
theorem boxes0_spec (fs:List Fd) (hl:fs.length≤1000000) (d:Nat) (b:Id) (hb:b.isIt=false) (hbd:b.isNw d=false):
  SpH Tryz.prog gl 35 d ⟨[.ptr b 0],[(b,M0++[.sl (fs.map Fd.row)])],[(.b b 11,2)]⟩ ⟨.tup [],[(b,M0++[.sl (fs.map Fd.row)])],[(.b b 11,2)]⟩:=by
 refine h35 rfl ?_
 have hib:=inn_notNw hbd
 have OR:=oright0
 have SY:=fun (e:Nat)=>say_spec M0 rfl rfl fs hl true 8 [] e (.up b) hb rfl
 have he:(fadd fs true 8 []).map Fd.row=fs.map Fd.row:=by simp [fadd]
 rw [he] at SY
 generalize fs.map Fd.row=L at *
 unfold M0 at SY ⊢
 simp only [inSt,mpB,mpL,AV.mp,mpP,List.cons_append,List.nil_append] at SY ⊢
 simp -implicitDefEqProofs [c35]
 refine onC_mk _ OR ?_
 simp -implicitDefEqProofs
 refine onH_mk _ _ (SY _) ⟨?_,?_,?_,?_,?_,?_,?_⟩ ?_
 iterate 7 (· simp)
 simp -implicitDefEqProofs
 refine wp_lpk (α:=Nat) (fun i=>⟨[(0,.ptr (.up b) 0),(18,.sl []),(19,i6 0),(20,i6 0)],[(.up b,[i6 (-1),u 0,.sl [],i6 0,i6 0,i6 0,i6 0,i6 0,.sl [],u 0,.sl [],.sl L])],[(.b (.up b) 11,2)]⟩)
  (fun i=>True) (fun i=>0) ?_ 0 trivial ?_
 ·rintro K i hK h1
  clear hK
  simp -implicitDefEqProofs
  refine postH_n ⟨?_,?_,?_,?_,?_,?_⟩<;>simp -implicitDefEqProofs [hib,hb]
 ·refine weak_mk ?_ ?_ ?_ ?_ ?_ ?_<;>simp -implicitDefEqProofs
theorem tick_spec (n:Int):Sp Tryz.prog gl 32 [i6 n] (.bool (decide (0≤n)&&decide (n≤253402300799))):=by
 refine s32 rfl rfl ?_
 by_cases h:0≤n
 ·simp [c32,h]
 ·simp [c32,h]
theorem look0_spec:Sp Tryz.prog gl 10 [.agg M0] (.sl [[i6 1,.str []],[i6 2,.str []]]):=by
 refine s10 rfl rfl ?_
 have T1:=tick_spec (-1)
 have hf:(decide ((0:Int)≤ -1)&&decide ((-1:Int)≤253402300799))=false:=by decide
 rw [hf] at T1
 have SR:=right_spec ⟨[],0,0,0,0,0⟩ ⟨by simp,by simp⟩
 have hr:rightP ⟨[],0,0,0,0,0⟩=false:=by decide
 rw [hr] at SR
 have hc:(Cf.row ⟨[],0,0,0,0,0⟩)=[.sl [],i6 0,i6 0,i6 0,i6 0,i6 0]:=rfl
 rw [hc] at SR
 have S1:=fun (e:Nat) (he:(Id.n 9).isNw e=false)=>say_spec M0 rfl rfl [] (by simp) false 1 [] e (.n 9) rfl he
 have S2:=fun (e:Nat) (he:(Id.n 9).isNw e=false)=>say_spec M0 rfl rfl [⟨1,[]⟩] (by simp) false 2 [] e (.n 9) rfl he
 have GO:=fun (e:Nat) (he:(Id.n 9).isNw e=false)=>goals0_spec [[i6 1,.str []],[i6 2,.str []]] e (.n 9) rfl he
 have BO:=fun (e:Nat) (he:(Id.n 9).isNw e=false)=>boxes0_spec [⟨1,[]⟩,⟨2,[]⟩] (by simp) e (.n 9) rfl he
 have e1:(fadd [] false 1 []).map Fd.row=[[i6 1,.str []]]:=rfl
 have e2:(fadd [⟨1,[]⟩] false 2 []).map Fd.row=[[i6 1,.str []],[i6 2,.str []]]:=rfl
 rw [e1] at S1
 rw [e2] at S2
 simp only [List.map_cons,List.map_nil,Fd.row] at S1 S2 BO
 unfold M0 at *
 simp only [List.cons_append,List.nil_append] at S1 S2 GO BO
 simp -implicitDefEqProofs [c10]
 refine onC_mk _ T1 ?_
 simp -implicitDefEqProofs
 refine onH_mk _ _ (S1 _ rfl) ⟨?_,?_,?_,?_,?_,?_,?_⟩ ?_
 iterate 7 (· simp)
 simp -implicitDefEqProofs
 refine onC_mk _ SR ?_
 simp -implicitDefEqProofs
 refine onH_mk _ _ (S2 _ rfl) ⟨?_,?_,?_,?_,?_,?_,?_⟩ ?_
 iterate 7 (· simp)
 simp -implicitDefEqProofs
 refine onH_mk _ _ (GO _ rfl) ⟨?_,?_,?_,?_,?_,?_,?_⟩ ?_
 iterate 7 (· simp)
 simp -implicitDefEqProofs
 refine onH_mk _ _ (BO _ rfl) ⟨?_,?_,?_,?_,?_,?_,?_⟩ ?_
 iterate 7 (· simp)
 simp -implicitDefEqProofs
 refine wp_lpk (α:=Nat) (fun i=>⟨[(3,.ptr (.n 9) 0),(27,.sl []),(28,i6 0),(29,i6 0)],[(.n 9,[i6 (-1),u 0,.sl [],i6 0,i6 0,i6 0,i6 0,i6 0,.sl [],u 0,.sl [],.sl [[i6 1,.str []],[i6 2,.str []]]])],[]⟩)
  (fun i=>True) (fun i=>0) ?_ 0 trivial ?_
 ·rintro K i hK h1
  clear hK
  simp -implicitDefEqProofs
 ·refine weak_mk ?_ ?_ ?_ ?_ ?_ ?_<;>simp -implicitDefEqProofs
end Go.Ai
namespace Go.Ai
open Go.Proofs Go.Shelf
def ren_laysSort:Ren:={
 f:=fun x=>match x with
  |5=>199
  |8=>238
  |7=>237
  |19=>269
  |20=>232
  |10=>260
  |11=>261
  |12=>262
  |13=>263
  |14=>264
  |15=>265
  |16=>266
  |17=>267
  |18=>268
  |30=>280
  |31=>281
  |32=>282
  |33=>283
  |34=>284
  |35=>285
  |40=>288
  |n=>n
 t:=fun x=>match x with
  |23=>148
  |25=>2
  |3=>3
  |32=>207
  |22=>148
  |0=>0
  |44=>66
  |46=>22
  |4=>4
  |36=>291
  |35=>290
  |41=>296
  |5=>5
  |9=>9
  |53=>308
  |57=>312
  |63=>317
  |64=>318
  |n=>n
 g:=fun x=>x}
set_option maxRecDepth 100000 in
theorem laysSort:SlLaysM.n5 Tryz.prog ren_laysSort where
 mixed:=by kernel_rfl
 f5:=⟨Tryz.f199.name,by kernel_rfl,Eq.trans Tryz.func199 (congrArg some (show Tryz.f199={SlBodyM.n5 ren_laysSort with name:=Tryz.f199.name} by kernel_rfl))⟩
 f7:=⟨Tryz.f237.name,by kernel_rfl,Eq.trans Tryz.func237 (congrArg some (show Tryz.f237={SlBodyM.n7 ren_laysSort with name:=Tryz.f237.name} by kernel_rfl))⟩
 f8:=Eq.trans Tryz.func238 (congrArg some (show Tryz.f238=SlBodyM.n8 ren_laysSort by kernel_rfl))
 f10:=⟨Tryz.f260.name,by kernel_rfl,Eq.trans Tryz.func260 (congrArg some (show Tryz.f260={SlBodyM.n10 ren_laysSort with name:=Tryz.f260.name} by kernel_rfl))⟩
 f11:=⟨Tryz.f261.name,by kernel_rfl,Eq.trans Tryz.func261 (congrArg some (show Tryz.f261={SlBodyM.n11 ren_laysSort with name:=Tryz.f261.name} by kernel_rfl))⟩
 f12:=⟨Tryz.f262.name,by kernel_rfl,Eq.trans Tryz.func262 (congrArg some (show Tryz.f262={SlBodyM.n12 ren_laysSort with name:=Tryz.f262.name} by kernel_rfl))⟩
 f13:=⟨Tryz.f263.name,by kernel_rfl,Eq.trans Tryz.func263 (congrArg some (show Tryz.f263={SlBodyM.n13 ren_laysSort with name:=Tryz.f263.name} by kernel_rfl))⟩
 f14:=⟨Tryz.f264.name,by kernel_rfl,Eq.trans Tryz.func264 (congrArg some (show Tryz.f264={SlBodyM.n14 ren_laysSort with name:=Tryz.f264.name} by kernel_rfl))⟩
 f15:=⟨Tryz.f265.name,by kernel_rfl,Eq.trans Tryz.func265 (congrArg some (show Tryz.f265={SlBodyM.n15 ren_laysSort with name:=Tryz.f265.name} by kernel_rfl))⟩
 f16:=⟨Tryz.f266.name,by kernel_rfl,Eq.trans Tryz.func266 (congrArg some (show Tryz.f266={SlBodyM.n16 ren_laysSort with name:=Tryz.f266.name} by kernel_rfl))⟩
 f17:=⟨Tryz.f267.name,by kernel_rfl,Eq.trans Tryz.func267 (congrArg some (show Tryz.f267={SlBodyM.n17 ren_laysSort with name:=Tryz.f267.name} by kernel_rfl))⟩
 f18:=⟨Tryz.f268.name,by kernel_rfl,Eq.trans Tryz.func268 (congrArg some (show Tryz.f268={SlBodyM.n18 ren_laysSort with name:=Tryz.f268.name} by kernel_rfl))⟩
 f19:=Eq.trans Tryz.func269 (congrArg some (show Tryz.f269=SlBodyM.n19 ren_laysSort by kernel_rfl))
 f20:=Eq.trans Tryz.func232 (congrArg some (show Tryz.f232=SlBodyM.n20 ren_laysSort by kernel_rfl))
 f30:=⟨Tryz.f280.name,by kernel_rfl,Eq.trans Tryz.func280 (congrArg some (show Tryz.f280={SlBodyM.n30 ren_laysSort with name:=Tryz.f280.name} by kernel_rfl))⟩
 f31:=Eq.trans Tryz.func281 (congrArg some (show Tryz.f281=SlBodyM.n31 ren_laysSort by kernel_rfl))
 f32:=Eq.trans Tryz.func282 (congrArg some (show Tryz.f282=SlBodyM.n32 ren_laysSort by kernel_rfl))
 f33:=⟨Tryz.f283.name,by kernel_rfl,Eq.trans Tryz.func283 (congrArg some (show Tryz.f283={SlBodyM.n33 ren_laysSort with name:=Tryz.f283.name} by kernel_rfl))⟩
 f34:=⟨Tryz.f284.name,by kernel_rfl,Eq.trans Tryz.func284 (congrArg some (show Tryz.f284={SlBodyM.n34 ren_laysSort with name:=Tryz.f284.name} by kernel_rfl))⟩
 f35:=⟨Tryz.f285.name,by kernel_rfl,Eq.trans Tryz.func285 (congrArg some (show Tryz.f285={SlBodyM.n35 ren_laysSort with name:=Tryz.f285.name} by kernel_rfl))⟩
 f40:=⟨Tryz.f288.name,by kernel_rfl,Eq.trans Tryz.func288 (congrArg some (show Tryz.f288={SlBodyM.n40 ren_laysSort with name:=Tryz.f288.name} by kernel_rfl))⟩
 t0:=Tryz.underlying0
 a0:=Tryz.isAgg0
 z0:=Tryz.sizeOf0
 v0:=Tryz.zeroValue0
 t3:=Tryz.underlying3
 a3:=Tryz.isAgg3
 z3:=Tryz.sizeOf3
 v3:=Tryz.zeroValue3
 t4:=Tryz.underlying4
 a4:=Tryz.isAgg4
 z4:=Tryz.sizeOf4
 v4:=Tryz.zeroValue4
 t5:=Tryz.underlying5
 a5:=Tryz.isAgg5
 z5:=Tryz.sizeOf5
 v5:=Tryz.zeroValue5
 t9:=Tryz.underlying9
 a9:=Tryz.isAgg9
 z9:=Tryz.sizeOf9
 v9:=Tryz.zeroValue9
 t22:=Tryz.underlying148
 a22:=Tryz.isAgg148
 z22:=Tryz.sizeOf148
 v22:=Tryz.zeroValue148
 t23:=Tryz.underlying148
 a23:=Tryz.isAgg148
 z23:=Tryz.sizeOf148
 v23:=Tryz.zeroValue148
 t25:=Tryz.underlying2
 a25:=Tryz.isAgg2
 z25:=Tryz.sizeOf2
 v25:=Tryz.zeroValue2
 t32:=Tryz.underlying207
 a32:=Tryz.isAgg207
 z32:=Tryz.sizeOf207
 v32:=Tryz.zeroValue207
 t35:=Tryz.underlying290
 a35:=Tryz.isAgg290
 z35:=Tryz.sizeOf290
 v35:=Tryz.zeroValue290
 t36:=Tryz.underlying291
 a36:=Tryz.isAgg291
 z36:=Tryz.sizeOf291
 v36:=Tryz.zeroValue291
 t41:=Tryz.underlying296
 a41:=Tryz.isAgg296
 z41:=Tryz.sizeOf296
 v41:=Tryz.zeroValue296
 t44:=Tryz.underlying66
 a44:=Tryz.isAgg66
 z44:=Tryz.sizeOf66
 v44:=Tryz.zeroValue66
 t46:=Tryz.underlying22
 a46:=Tryz.isAgg22
 z46:=Tryz.sizeOf22
 v46:=Tryz.zeroValue22
 t53:=Tryz.underlying308
 a53:=Tryz.isAgg308
 z53:=Tryz.sizeOf308
 v53:=Tryz.zeroValue308
 t57:=Tryz.underlying312
 a57:=Tryz.isAgg312
 z57:=Tryz.sizeOf312
 v57:=Tryz.zeroValue312
 t63:=Tryz.underlying317
 a63:=Tryz.isAgg317
 z63:=Tryz.sizeOf317
 v63:=Tryz.zeroValue317
 t64:=Tryz.underlying318
 a64:=Tryz.isAgg318
 z64:=Tryz.sizeOf318
 v64:=Tryz.zeroValue318
def ren_laysCompact:Ren:={
 f:=fun x=>match x with
  |43=>200
  |n=>n
 t:=fun x=>match x with
  |22=>148
  |23=>2
  |3=>3
  |4=>4
  |0=>0
  |n=>n
 g:=fun x=>x}
set_option maxRecDepth 100000 in
theorem laysCompact:SlLaysE.n43 Tryz.prog ren_laysCompact where
 mixed:=by kernel_rfl
 f43:=⟨Tryz.f200.name,by kernel_rfl,Eq.trans Tryz.func200 (congrArg some (show Tryz.f200={SlBodyN.n43 ren_laysCompact with name:=Tryz.f200.name} by kernel_rfl))⟩
 t0:=Tryz.underlying0
 a0:=Tryz.isAgg0
 z0:=Tryz.sizeOf0
 v0:=Tryz.zeroValue0
 t3:=Tryz.underlying3
 a3:=Tryz.isAgg3
 z3:=Tryz.sizeOf3
 v3:=Tryz.zeroValue3
 t4:=Tryz.underlying4
 a4:=Tryz.isAgg4
 z4:=Tryz.sizeOf4
 v4:=Tryz.zeroValue4
 t22:=Tryz.underlying148
 a22:=Tryz.isAgg148
 z22:=Tryz.sizeOf148
 v22:=Tryz.zeroValue148
 a23:=Tryz.isAgg2
 z23:=Tryz.sizeOf2
open Go.Proofs
def ruQ (r:Ru) (g:Int):Bool:=!(decide (g<1)||(!btw r.l 1 34560000||(!btw r.s 1 34560000||(r.l.tmod g !=0||(r.s.tmod g !=0||decide (r.l<r.s))))))&&(nameT r.n&&(decide ((0:Int)<r.f)&&(decide ((r.f:Int)≤1000000)&&(btw r.w 0 604800&&btw r.k 0 604800))))
theorem ruQ_eq (r:Ru) (g:Int):ruQ r g=ruP r g:=by
 unfold ruQ ruP btw
 cases nameT r.n
 ·simp
 ·rw [Bool.eq_iff_iff]
  simp only [Bool.and_eq_true,Bool.not_eq_true',Bool.or_eq_false_iff,decide_eq_true_eq,decide_eq_false_iff_not,Bool.not_eq_false',bne_eq_false_iff_eq,beq_iff_eq,true_and]
  omega
def chk {α:Type} (ok:α→Bool) (nm:α→List UInt8):List (List UInt8)→List α→Bool
 |_,[]=>true
 |seen,x::r=>ok x&&(!seen.contains (nm x)&&chk ok nm (seen++[nm x]) r)
theorem chk_eq {α:Type} (ok:α→Bool) (nm:α→List UInt8): ∀(l:List α) (seen:List (List UInt8)),chk ok nm seen l=(l.all ok&&(decide (∀x∈l,nm x∉seen)&&uniq (l.map nm)))
 |[],seen=>by simp [chk,uniq]
 |x::r,seen=>by
  simp only [chk,chk_eq ok nm r,List.all_cons,List.map_cons]
  cases ok x
  ·simp
  ·rw [Bool.eq_iff_iff]
   unfold uniq
   simp only [Bool.true_and,Bool.and_eq_true,Bool.not_eq_true',decide_eq_true_eq,List.nodup_cons,List.mem_map,List.mem_cons,forall_eq_or_imp,List.mem_append,not_or]
   rw [←Bool.not_eq_true,List.contains_iff_mem]
   constructor
   ·rintro ⟨h1,h2,h3,h4⟩
    exact ⟨h2,⟨h1,fun y hy=>(h3 y hy).1⟩,⟨fun ⟨y,hy,e⟩=>by have:=(h3 y hy).2;simp at this;exact this e,h4⟩⟩
   ·rintro ⟨h2,⟨h1,h3⟩,⟨h5,h4⟩⟩
    exact ⟨h1,h2,fun y hy=>⟨h3 y hy,by simp;exact fun e=>h5 ⟨y,hy,e⟩⟩,h4⟩
theorem chk_uniq {α:Type} (ok:α→Bool) (nm:α→List UInt8) (l:List α):chk ok nm [] l=(l.all ok&&uniq (l.map nm)):=by
 rw [chk_eq];simp
theorem chk_at {α:Type} (ok:α→Bool) (nm:α→List UInt8) (l:List α) (i:Nat) (h:i<l.length):
  chk ok nm ((l.take i).map nm) (l.drop i)=(ok l[i]&&(!((l.take i).map nm).contains (nm l[i])&&chk ok nm ((l.take (i+1)).map nm) (l.drop (i+1)))):=by
 rw [List.drop_eq_getElem_cons h,List.take_succ_eq_append_getElem h,List.map_append]
 rfl
def goalQ (x:Gl):Bool:=!(!nameT x.n||(decide ((x.t:Int)<1)||(decide ((999999:Int)<x.t)||(!btw x.g 1 86400||(!btw x.a 0 86400||(!btw x.o 0 34560000||(x.o.tmod x.g !=0||(decide (x.c<0)||(decide (2<x.c)||(decide ((4:Int)<x.lb.length)||(decide ((x.ru.length:Int)<1)||decide ((4:Int)<x.ru.length))))))))))))&&(chk lbOk Lb.n [] x.lb&&chk (fun r=>ruP r x.g) Ru.n [] x.ru)
theorem goalQ_eq (x:Gl):goalQ x=goalP x:=by
 unfold goalQ goalP labelsP rulesP btw
 rw [chk_uniq,chk_uniq]
 cases nameT x.n
 ·simp
 ·generalize x.lb.all lbOk=p1
  generalize (x.ru.all fun r=>ruP r x.g)=p2
  generalize uniq (x.lb.map Lb.n)=p3
  generalize uniq (x.ru.map Ru.n)=p4
  rw [Bool.eq_iff_iff]
  cases p1<;>cases p2<;>cases p3<;>cases p4<;>simp only [Bool.and_eq_true,Bool.not_eq_true',Bool.or_eq_false_iff,decide_eq_true_eq,decide_eq_false_iff_not,Bool.not_eq_false',bne_eq_false_iff_eq,beq_iff_eq,true_and,and_true,Bool.not_true,Bool.true_and,Bool.false_and,Bool.and_false,Bool.and_true,Bool.false_eq_true,and_false,false_and]
  all_goals omega
def rightQ (c:Cf):Bool:=!decide ((6:Int)<c.gs.length)&&(chk goalP Gl.n [] c.gs&&(decide (1≤c.r)&&(decide (c.r≤64)&&(decide (0≤c.v)&&(decide (c.v≤c.r)&&(btw c.i 1 86400&&(btw c.x 1 604800&&(decide (c.i≤c.x)&&btw c.y 0 2592000))))))))
theorem rightQ_eq (c:Cf):rightQ c=rightP c:=by
 unfold rightQ rightP btw
 rw [chk_uniq]
 generalize c.gs.all goalP=p1
 generalize uniq (c.gs.map Gl.n)=p2
 rw [Bool.eq_iff_iff]
 cases p1<;>cases p2<;>simp only [Bool.and_eq_true,Bool.not_eq_true',Bool.or_eq_false_iff,decide_eq_true_eq,decide_eq_false_iff_not,true_and,and_true,Bool.true_and,Bool.false_and,Bool.and_false,Bool.and_true,Bool.false_eq_true,and_false,false_and]
 all_goals omega
theorem qru_spec (r:Ru) (g:Int) (hn:r.n.length≤900000):Sp Tryz.prog gl 97 [.agg r.row,i6 g] (.bool (ruP r g)):=by
 refine s97 rfl rfl ?_
 rw [←ruQ_eq]
 have N:=rname_spec r.n hn
 obtain ⟨nm,p,l,s,f,w,k⟩:=r
 have hR:ruQ ⟨nm,p,l,s,f,w,k⟩ g=(!(decide (g<1)||(!btw l 1 34560000||(!btw s 1 34560000||(l.tmod g !=0||(s.tmod g !=0||decide (l<s))))))&&(nameT nm&&(decide ((0:Int)<f)&&(decide ((f:Int)≤1000000)&&(btw w 0 604800&&btw k 0 604800))))):=rfl
 simp only [Ru.row] at N ⊢
 generalize ruQ ⟨nm,p,l,s,f,w,k⟩ g=R at *
 generalize nameT nm=T at *
 have B1:=rin_spec l 1 34560000
 have B2:=rin_spec s 1 34560000
 have B4:=rin_spec w 0 604800
 have B5:=rin_spec k 0 604800
 generalize x1:btw l 1 34560000=b1 at *
 generalize x2:btw s 1 34560000=b2 at *
 generalize x4:btw w 0 604800=b4 at *
 generalize x5:btw k 0 604800=b5 at *
 clear x1 x2 x4 x5
 by_cases g0:g<1
 ·rw [decide_eq_true g0] at hR
  simp -implicitDefEqProofs [c97,g0]
  rw [hR];simp
 ·have g1: ¬g=0:=by omega
  rw [decide_eq_false g0] at hR
  generalize hm1:(l.tmod g !=0)=m1 at *
  generalize hm2:(s.tmod g !=0)=m2 at *
  generalize hm3:decide (l<s)=m3 at *
  generalize hm4:decide ((0:Int)<f)=m4 at *
  generalize hm5:decide ((f:Int)≤1000000)=m5 at *
  simp -implicitDefEqProofs [c97,g0,g1]
  repeat' first
   |(refine onC_mk _ (B1) ?_;simp -implicitDefEqProofs [g1,hm1,hm2,hm3,hm4,hm5])
   |(refine onC_mk _ (B2) ?_;simp -implicitDefEqProofs [g1,hm1,hm2,hm3,hm4,hm5])
   |(refine onC_mk _ (N) ?_;simp -implicitDefEqProofs [g1,hm1,hm2,hm3,hm4,hm5])
   |(refine onC_mk _ (B4) ?_;simp -implicitDefEqProofs [g1,hm1,hm2,hm3,hm4,hm5])
   |(refine onC_mk _ (B5) ?_;simp -implicitDefEqProofs [g1,hm1,hm2,hm3,hm4,hm5])
   |(refine onB_mk (fun h=>?_) (fun h=>?_)<;>(try simp only [Bool.not_eq_true',Bool.not_eq_false',decide_eq_true_eq,decide_eq_false_iff_not] at h)<;>simp -implicitDefEqProofs [h,g1,hm1,hm2,hm3,hm4,hm5])
  all_goals first
   |(rw [hR];simp [*];done)
   |(rw [hR];simp_all;done)
open Go.Proofs
theorem contains_step (l:List (List UInt8)) (k:Nat) (h:k<l.length) (y:List UInt8):(l.drop k).contains y=((l[k]==y)||(l.drop (k+1)).contains y):=by
 rw [List.drop_eq_getElem_cons h,List.contains_cons]
 congr 1
 rw [Bool.eq_iff_iff];simp only [beq_iff_eq];exact eq_comm
theorem names_at {α:Type} (nm:α→List UInt8) (l:List α) (i k:Nat) (hk:k<i) (hi:i≤l.length): ∃h:k<((l.take i).map nm).length,((l.take i).map nm)[k]=nm (l[k]'(by omega)):=by
 refine ⟨by simp;omega,by simp⟩
theorem rgoal_rules (n:List UInt8) (t:Nat) (g a o c:Int) (LB:List (List AV)) (ru:List Ru) (hl:ru.length≤10) (hf: ∀y∈ru,ruFit y) (e:List (Nat×AV)) (l1:lk e 1= .ptr (.n 1) 0):
  wpA (SpH Tryz.prog gl) (AC.tl 3 c40) (postA [.t 2] (.bool (chk (fun r=>ruP r g) Ru.n [] ru))) ⟨e,[(.n 1,[.str n,.int .u32 t,i6 g,i6 a,i6 o,i6 c,.sl LB,.sl (ru.map Ru.row)])],[]⟩:=by
 obtain ⟨R,hR⟩: ∃R,R=chk (fun r=>ruP r g) Ru.n [] ru:=⟨_,rfl⟩
 rw [←hR]
 have rat:=rows_atF Ru.row ru
 have rl:(ru.map Ru.row).length=ru.length:=by simp
 have ex:=fun (y:Ru)=>show Ru.row y=[.str y.n,.bool y.p,i6 y.l,i6 y.s,u y.f,i6 y.w,i6 y.k] from rfl
 generalize ru.map Ru.row=RU at *
 simp only [c40,AC.tl]
 simp -implicitDefEqProofs
 refine wp_lpk (α:=Nat) (fun i=>⟨[(1,.ptr (.n 1) 0),(6,i6 i)],[(.n 1,[.str n,.int .u32 t,i6 g,i6 a,i6 o,i6 c,.sl LB,.sl RU])],[]⟩)
  (fun i=>i≤ru.length∧chk (fun r=>ruP r g) Ru.n ((ru.take i).map Ru.n) (ru.drop i)=R) (fun i=>ru.length - i) ?_ 0 ?_ ?_
 ·rintro K i hK ⟨h1,h2⟩
  by_cases gi:i<ru.length
  ·have t1:IntKind.i64.wrap ((i:Int)+1)=(i+1:Nat):=by rw [wrap_i64]<;>omega
   have ra:=rat i gi
   have gR:i<RU.length:=by omega
   rw [chk_at _ _ _ _ gi] at h2
   have hfi:=hf ru[i] (List.getElem_mem _)
   have Q:=qru_spec ru[i] g (by have:ru[i].n.length≤2000:=hfi;omega)
   have hs:shutL ru[i].row=some ru[i].row:=rfl
   have hrl:(ru[i].row).length=7:=rfl
   have e7:List.take 7 ru[i].row=ru[i].row:=List.take_of_length_le (by omega)
   cases b1:ruP ru[i] g
   ·rw [b1] at h2 Q
    simp only [Bool.false_and] at h2
    subst h2
    clear hK
    generalize ru[i].row=x at *
    simp -implicitDefEqProofs [gi,gR,ra,rl,hrl,e7,hs]
    refine onC_mk _ (Q) ?_
    simp -implicitDefEqProofs
   ·rw [b1] at h2 Q
    simp only [Bool.true_and] at h2
    have fin:((ru.take i).map Ru.n).contains ru[i].n=false→ ∀σ',Weak σ' ⟨[(1,.ptr (.n 1) 0),(6,i6 (i+1:Nat))],[(.n 1,[.str n,.int .u32 t,i6 g,i6 a,i6 o,i6 c,.sl LB,.sl RU])],[]⟩→K σ':=
     fun hd σ' hσ=>hK (i+1) σ' ⟨by omega,by rw [hd] at h2;simpa using h2⟩ (by omega) hσ
    have hno:((ru.take i).map Ru.n).contains ru[i].n=true→R=false:=fun hd=>by rw [hd] at h2;simpa using h2.symm
    have nat:=fun k hk=>names_at Ru.n ru i k hk (by omega)
    have ra2: ∀k (hk:k<i),∀h,RU[k]'h=[.str (ru[k]'(by omega)).n,.bool (ru[k]'(by omega)).p,i6 (ru[k]'(by omega)).l,i6 (ru[k]'(by omega)).s,u (ru[k]'(by omega)).f,i6 (ru[k]'(by omega)).w,i6 (ru[k]'(by omega)).k]:=fun k hk h=>by rw [rat k (by omega) h];rfl
    have ra3: ∀h,RU[i]'h=[.str ru[i].n,.bool ru[i].p,i6 ru[i].l,i6 ru[i].s,u ru[i].f,i6 ru[i].w,i6 ru[i].k]:=fun h=>by rw [rat i gi h];rfl
    have nl:((ru.take i).map Ru.n).length=i:=by simp;omega
    clear hK h2 hR
    simp -implicitDefEqProofs [gi,gR,ra,rl,hrl,e7,hs]
    refine onC_mk _ (Q) ?_
    simp -implicitDefEqProofs
    generalize (ru.take i).map Ru.n=N at *
    refine wp_lpk (α:=Nat) (fun k=>⟨[(1,.ptr (.n 1) 0),(6,i6 i),(7,i6 k)],[(.n 1,[.str n,.int .u32 t,i6 g,i6 a,i6 o,i6 c,.sl LB,.sl RU])],[]⟩)
     (fun k=>k≤i∧(N.drop k).contains ru[i].n=N.contains ru[i].n) (fun k=>i - k) ?_ 0 ?_ ?_
    ·rintro K2 k hK2 ⟨k1,k2⟩
     by_cases gk:k<i
     ·have gk':(k:Int)<i:=by omega
      have t2:IntKind.i64.wrap ((k:Int)+1)=(k+1:Nat):=by rw [wrap_i64]<;>omega
      obtain ⟨q1,q2⟩:=nat k gk
      rw [contains_step N k q1,q2] at k2
      have rk:=ra2 k gk
      have gRk:k<RU.length:=by omega
      have fin2:(ru[k].n==ru[i].n)=false→ ∀σ',Weak σ' ⟨[(1,.ptr (.n 1) 0),(6,i6 i),(7,i6 (k+1:Nat))],[(.n 1,[.str n,.int .u32 t,i6 g,i6 a,i6 o,i6 c,.sl LB,.sl RU])],[]⟩→K2 σ':=
       fun hd σ' hσ=>hK2 (k+1) σ' ⟨by omega,by rw [hd,Bool.false_or] at k2;exact k2⟩ (by omega) hσ
      clear hK2 fin nat ra2 ra rat
      cases b2:(ru[k].n==ru[i].n)
      ·have fin2:=fin2 b2
       simp -implicitDefEqProofs [gk,gk',gRk,gR,rk,ra3,b2]
       refine fin2 _ ?_
       refine weak_mk ?_ ?_ ?_ ?_ ?_ ?_<;>simp -implicitDefEqProofs [t2]
      ·rw [b2,Bool.true_or] at k2
       rw [hno k2.symm]
       simp -implicitDefEqProofs [gk,gk',gRk,gR,rk,ra3,b2]
     ·obtain rfl:k=i:=by omega
      rw [List.drop_eq_nil_of_le (by omega)] at k2
      have fin:=fin (by rw [←k2];rfl)
      clear hK2
      simp -implicitDefEqProofs
      refine fin _ ?_
      refine weak_mk ?_ ?_ ?_ ?_ ?_ ?_<;>simp -implicitDefEqProofs [t1]
    ·exact ⟨Nat.zero_le _,rfl⟩
    ·refine weak_mk ?_ ?_ ?_ ?_ ?_ ?_<;>simp -implicitDefEqProofs
  ·obtain rfl:i=ru.length:=by omega
   rw [List.drop_length] at h2
   have:R=true:=by rw [←h2];rfl
   subst this
   clear hK
   simp -implicitDefEqProofs [rl]
 ·exact ⟨Nat.zero_le _,by rw [hR];rfl⟩
 ·refine weak_mk ?_ ?_ ?_ ?_ ?_ ?_<;>simp -implicitDefEqProofs [l1]
theorem rgoal_labels (n:List UInt8) (t:Nat) (g a o c:Int) (lb:List Lb) (ru:List Ru) (hll:lb.length≤10) (hfl: ∀y∈lb,lbFit y) (hl:ru.length≤10) (hf: ∀y∈ru,ruFit y) (e:List (Nat×AV)) (l1:lk e 1= .ptr (.n 1) 0):
  wpA (SpH Tryz.prog gl) (AC.tl 2 c40) (postA [.t 2] (.bool (chk lbOk Lb.n [] lb&&chk (fun r=>ruP r g) Ru.n [] ru))) ⟨e,[(.n 1,[.str n,.int .u32 t,i6 g,i6 a,i6 o,i6 c,.sl (lb.map Lb.row),.sl (ru.map Ru.row)])],[]⟩:=by
 have ec:AC.tl 2 c40=AC.cutAt 1 (AC.tl 3 c40) (AC.tl 2 c40):=rfl
 rw [ec]
 have tail:=rgoal_rules n t g a o c (lb.map Lb.row) ru hl hf
 generalize AC.tl 3 c40=TT at tail ⊢
 obtain ⟨R,hR⟩: ∃R,R=chk lbOk Lb.n [] lb:=⟨_,rfl⟩
 obtain ⟨R2,hR2⟩: ∃R2,R2=chk (fun r=>ruP r g) Ru.n [] ru:=⟨_,rfl⟩
 rw [←hR2] at tail
 rw [←hR,←hR2]
 clear hR2
 have rat:=rows_atF Lb.row lb
 have rl:(lb.map Lb.row).length=lb.length:=by simp
 generalize lb.map Lb.row=RU at *
 generalize ru.map Ru.row=RR at *
 simp only [c40,AC.tl,AC.cutAt]
 simp -implicitDefEqProofs
 refine wp_lpk (α:=Nat) (fun i=>⟨[(1,.ptr (.n 1) 0),(3,i6 i)],[(.n 1,[.str n,.int .u32 t,i6 g,i6 a,i6 o,i6 c,.sl RU,.sl RR])],[]⟩)
  (fun i=>i≤lb.length∧chk lbOk Lb.n ((lb.take i).map Lb.n) (lb.drop i)=R) (fun i=>lb.length - i) ?_ 0 ?_ ?_
 ·rintro K i hK ⟨h1,h2⟩
  by_cases gi:i<lb.length
  ·have t1:IntKind.i64.wrap ((i:Int)+1)=(i+1:Nat):=by rw [wrap_i64]<;>omega
   have ra:=rat i gi
   have gR:i<RU.length:=by omega
   rw [chk_at _ _ _ _ gi] at h2
   have hfi:=hfl lb[i] (List.getElem_mem _)
   have N:=rname_spec lb[i].n (by have:=hfi.1;omega)
   have G:=rgood_spec lb[i].t (by have:=hfi.2;omega)
   have C:=runes_spec lb[i].t (by have:=hfi.2;omega)
   have cl:=runeRows_len (runesL lb[i].t 0)
   have ra2: ∀k (hk:k<lb.length),∀h,RU[k]'h=[.str lb[k].n,.str lb[k].t]:=fun k hk h=>by rw [rat k hk h];rfl
   have fin:lbOk lb[i]=true→((lb.take i).map Lb.n).contains lb[i].n=false→ ∀σ',Weak σ' ⟨[(1,.ptr (.n 1) 0),(3,i6 (i+1:Nat))],[(.n 1,[.str n,.int .u32 t,i6 g,i6 a,i6 o,i6 c,.sl RU,.sl RR])],[]⟩→K σ':=
    fun hb hd σ' hσ=>hK (i+1) σ' ⟨by omega,by rw [hb,hd] at h2;simpa using h2⟩ (by omega) hσ
   have hno:lbOk lb[i]=false→R=false:=fun hd=>by rw [hd] at h2;simpa using h2.symm
   have hno2:((lb.take i).map Lb.n).contains lb[i].n=true→R=false:=fun hd=>by rw [hd] at h2;simpa using h2.symm
   have nat:=fun k hk=>names_at Lb.n lb i k hk (by omega)
   have nl:((lb.take i).map Lb.n).length=i:=by simp;omega
   clear hK h2 hR
   unfold lbOk at fin hno
   generalize hnm:nameT lb[i].n=b1 at *
   generalize goodR (runesL lb[i].t 0)=b2 at *
   generalize runeRows (runesL lb[i].t 0)=RW at *
   generalize (runesL lb[i].t 0).length=cc at *
   clear hnm
   by_cases hc:cc≤120
   ·have hc': ¬(120:Int)<cc:=by omega
    have hc2: ¬120<cc:=by omega
    rw [decide_eq_true hc] at fin hno
    cases b1
    ·rw [hno (by simp)]
     simp -implicitDefEqProofs [gi,gR,ra2 i gi,rl]
     refine onC_mk _ (N) ?_
     simp -implicitDefEqProofs
    ·cases b2
     ·rw [hno (by simp)]
      simp -implicitDefEqProofs [gi,gR,ra2 i gi,rl]
      refine onC_mk _ (N) ?_
      simp -implicitDefEqProofs
      refine onC_mk _ (G) ?_
      simp -implicitDefEqProofs
     ·have fin:=fin (by simp)
      clear hno
      simp -implicitDefEqProofs [gi,gR,ra2 i gi,rl]
      refine onC_mk _ (N) ?_
      simp -implicitDefEqProofs
      refine onC_mk _ (G) ?_
      simp -implicitDefEqProofs
      refine onC_mk _ (C) ?_
      simp -implicitDefEqProofs [cl,hc',hc2]
      generalize (lb.take i).map Lb.n=NN at *
      refine wp_lpk (α:=Nat) (fun k=>⟨[(1,.ptr (.n 1) 0),(3,i6 i),(4,.ptr (.n 4) 0),(5,i6 k)],[(.n 1,[.str n,.int .u32 t,i6 g,i6 a,i6 o,i6 c,.sl RU,.sl RR]),(.n 4,[.str lb[i].n,.str lb[i].t])],[]⟩)
       (fun k=>k≤i∧(NN.drop k).contains lb[i].n=NN.contains lb[i].n) (fun k=>i - k) ?_ 0 ?_ ?_
      ·rintro K2 k hK2 ⟨k1,k2⟩
       by_cases gk:k<i
       ·have gk':(k:Int)<i:=by omega
        have t2:IntKind.i64.wrap ((k:Int)+1)=(k+1:Nat):=by rw [wrap_i64]<;>omega
        obtain ⟨q1,q2⟩:=nat k gk
        rw [contains_step NN k q1,q2] at k2
        have rk:=ra2 k (by omega)
        have gRk:k<RU.length:=by omega
        have fin2:(lb[k].n==lb[i].n)=false→ ∀σ',Weak σ' ⟨[(1,.ptr (.n 1) 0),(3,i6 i),(4,.ptr (.n 4) 0),(5,i6 (k+1:Nat))],[(.n 1,[.str n,.int .u32 t,i6 g,i6 a,i6 o,i6 c,.sl RU,.sl RR]),(.n 4,[.str lb[i].n,.str lb[i].t])],[]⟩→K2 σ':=
         fun hd σ' hσ=>hK2 (k+1) σ' ⟨by omega,by rw [hd,Bool.false_or] at k2;exact k2⟩ (by omega) hσ
        clear hK2 fin nat ra2 ra rat
        cases b2:(lb[k].n==lb[i].n)
        ·have fin2:=fin2 b2
         simp -implicitDefEqProofs [gk,gk',gRk,rk,b2]
         refine fin2 _ ?_
         refine weak_mk ?_ ?_ ?_ ?_ ?_ ?_<;>simp -implicitDefEqProofs [t2]
        ·rw [b2,Bool.true_or] at k2
         rw [hno2 k2.symm]
         simp -implicitDefEqProofs [gk,gk',gRk,rk,b2]
       ·obtain rfl:k=i:=by omega
        rw [List.drop_eq_nil_of_le (by omega)] at k2
        have fin:=fin (by rw [←k2];rfl)
        clear hK2
        simp -implicitDefEqProofs
        refine fin _ ?_
        refine weak_mk ?_ ?_ ?_ ?_ ?_ ?_<;>simp -implicitDefEqProofs [t1]
      ·exact ⟨Nat.zero_le _,rfl⟩
      ·refine weak_mk ?_ ?_ ?_ ?_ ?_ ?_<;>simp -implicitDefEqProofs
   ·have hc':(120:Int)<cc:=by omega
    have hc2:120<cc:=by omega
    rw [decide_eq_false hc] at hno
    rw [hno (by simp)]
    simp -implicitDefEqProofs [gi,gR,ra2 i gi,rl]
    repeat' first
     |(refine onC_mk _ (N) ?_;simp -implicitDefEqProofs [cl,hc',hc2])
     |(refine onC_mk _ (G) ?_;simp -implicitDefEqProofs [cl,hc',hc2])
     |(refine onC_mk _ (C) ?_;simp -implicitDefEqProofs [cl,hc',hc2])
     |(refine onB_mk (fun h=>?_) (fun h=>?_)<;>(try simp only [Bool.not_eq_true',Bool.not_eq_false',decide_eq_true_eq,decide_eq_false_iff_not] at h)<;>simp -implicitDefEqProofs [h,cl,hc',hc2])
  ·obtain rfl:i=lb.length:=by omega
   rw [List.drop_length] at h2
   have:R=true:=by rw [←h2];rfl
   subst this
   clear hK
   simp -implicitDefEqProofs [rl]
   refine tail _ ?_
   simp -implicitDefEqProofs
 ·exact ⟨Nat.zero_le _,by rw [hR];rfl⟩
 ·refine weak_mk ?_ ?_ ?_ ?_ ?_ ?_<;>simp -implicitDefEqProofs [l1]
theorem qgoal_spec (x:Gl) (hf:x.Fit):Sp Tryz.prog gl 40 [.agg x.row] (.bool (goalP x)):=by
 refine s40 rfl rfl ?_
 rw [←goalQ_eq]
 have ec:c40=AC.cutAt 2 (AC.tl 2 c40) c40:=rfl
 rw [ec]
 have N:=rname_spec x.n (by have:=hf.n;omega)
 obtain ⟨nm,t,g,a,o,c,lb,ru⟩:=x
 have tail:=rgoal_labels nm t g a o c lb ru hf.lb hf.lbs hf.ru hf.rus
 generalize AC.tl 2 c40=TT at tail ⊢
 have hR:goalQ ⟨nm,t,g,a,o,c,lb,ru⟩=(!(!nameT nm||(decide ((t:Int)<1)||(decide ((999999:Int)<t)||(!btw g 1 86400||(!btw a 0 86400||(!btw o 0 34560000||(o.tmod g !=0||(decide (c<0)||(decide (2<c)||(decide ((4:Int)<lb.length)||(decide ((ru.length:Int)<1)||decide ((4:Int)<ru.length))))))))))))&&(chk lbOk Lb.n [] lb&&chk (fun r=>ruP r g) Ru.n [] ru)):=rfl
 have rl1:(lb.map Lb.row).length=lb.length:=by simp
 have rl2:(ru.map Ru.row).length=ru.length:=by simp
 simp only [Gl.row] at N tail ⊢
 clear hf ec
 have B2:=rin_spec g 1 86400
 have B3:=rin_spec a 0 86400
 have B4:=rin_spec o 0 34560000
 generalize goalQ ⟨nm,t,g,a,o,c,lb,ru⟩=R at *
 generalize (chk lbOk Lb.n [] lb&&chk (fun r=>ruP r g) Ru.n [] ru)=E at *
 generalize nameT nm=b0 at *
 generalize lb.map Lb.row=LB at *
 generalize ru.map Ru.row=RU at *
 generalize x3:btw a 0 86400=b3 at *
 generalize x4:btw o 0 34560000=b4 at *
 generalize lb.length=n1 at *
 generalize ru.length=n2 at *
 clear x3 x4
 have y1:(decide ((t:Int)<1))=decide (t=0):=by rw [Bool.eq_iff_iff];simp;omega
 generalize hm1:decide ((t:Int)<1)=m1 at *
 generalize hm2:decide ((999999:Int)<t)=m2 at *
 generalize hm4:decide (c<0)=m4 at *
 generalize hm5:decide (2<c)=m5 at *
 generalize hm6:decide ((4:Int)<(n1:Int))=m6 at *
 generalize hm7:decide ((n2:Int)<1)=m7 at *
 generalize hm8:decide ((4:Int)<(n2:Int))=m8 at *
 simp only [c40,AC.cutAt]
 by_cases g0:1≤g∧g≤86400
 ·have e2:btw g 1 86400=true:=decide_eq_true g0
  have g1: ¬g=0:=by omega
  rw [e2] at B2 hR
  clear e2
  generalize hm3:(o.tmod g !=0)=m3 at *
  simp -implicitDefEqProofs
  repeat' first
   |(refine onC_mk _ (N) ?_;simp -implicitDefEqProofs [g1,rl1,rl2,hm1,hm2,hm3,hm4,hm5,hm6,hm7,hm8])
   |(refine onC_mk _ (B2) ?_;simp -implicitDefEqProofs [g1,rl1,rl2,hm1,hm2,hm3,hm4,hm5,hm6,hm7,hm8])
   |(refine onC_mk _ (B3) ?_;simp -implicitDefEqProofs [g1,rl1,rl2,hm1,hm2,hm3,hm4,hm5,hm6,hm7,hm8])
   |(refine onC_mk _ (B4) ?_;simp -implicitDefEqProofs [g1,rl1,rl2,hm1,hm2,hm3,hm4,hm5,hm6,hm7,hm8])
   |(refine onB_mk (fun h=>?_) (fun h=>?_)<;>(try simp only [Bool.not_eq_true',Bool.not_eq_false',decide_eq_true_eq,decide_eq_false_iff_not] at h)<;>simp -implicitDefEqProofs [h,g1,rl1,rl2,hm1,hm2,hm3,hm4,hm5,hm6,hm7,hm8])
  all_goals first
   |(rw [hR];simp [*];done)
   |(rw [hR];simp_all;done)
 ·have e2:btw g 1 86400=false:=decide_eq_false g0
  rw [e2] at B2 hR
  clear e2 tail
  simp -implicitDefEqProofs
  repeat' first
   |(refine onC_mk _ (N) ?_;simp -implicitDefEqProofs [rl1,rl2,hm1,hm2])
   |(refine onC_mk _ (B2) ?_;simp -implicitDefEqProofs [rl1,rl2,hm1,hm2])
   |(refine onB_mk (fun h=>?_) (fun h=>?_)<;>(try simp only [Bool.not_eq_true',Bool.not_eq_false',decide_eq_true_eq,decide_eq_false_iff_not] at h)<;>simp -implicitDefEqProofs [h,rl1,rl2,hm1,hm2])
  all_goals first
   |(rw [hR];simp [*];done)
   |(rw [hR];simp_all;done)
end Go.Ai
