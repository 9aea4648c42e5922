/- P8: a part of the proof: the rules, or what functions compute. Conditions: as each theorem says. -/
import Derived.Test.YthonkjadcpdphaaGreatDoorP7
import Derived.Test.YthonkjadcpdphaaGreatDoorP2
import Derived.Test.YthonkjadcpdphaaGreatDoorAiShelf3
import Derived.Test.YthonkjadcpdphaaGreatDoorAiUse
set_option linter.unusedSimpArgs false
set_option linter.unusedVariables false
set_option maxRecDepth 20000
namespace Go.Ai
open Go.Proofs
theorem qright_tail (c:Cf) (e:List (Nat×AV)) (l1:lk e 1= .ptr (.n 1) 0) (T:Bool) (hT:T=(decide (1≤c.r)&&(decide (c.r≤64)&&(decide (0≤c.v)&&(decide (c.v≤c.r)&&(btw c.i 1 86400&&(btw c.x 1 604800&&(decide (c.i≤c.x)&&btw c.y 0 2592000)))))))):
  wpA (SpH Tryz.prog gl) (AC.tl 3 c95) (postA [.t 2] (.bool T)) ⟨e,[(.n 1,c.row)],[]⟩:=by
 obtain ⟨gs,r,v,i,x,y⟩:=c
 simp only [Cf.row] at *
 generalize gs.map Gl.row=G at *
 have B3:=rin_spec i 1 86400
 have B4:=rin_spec x 1 604800
 have B5:=rin_spec y 0 2592000
 simp only [c95,AC.tl]
 generalize btw i 1 86400=b3 at *
 generalize btw x 1 604800=b4 at *
 generalize btw y 0 2592000=b5 at *
 generalize hm1:decide (1≤r)=m1 at *
 generalize hm2:decide (r≤64)=m2 at *
 generalize hm3:decide (0≤v)=m3 at *
 generalize hm4:decide (v≤r)=m4 at *
 generalize hm5:decide (i≤x)=m5 at *
 simp -implicitDefEqProofs [l1,hm1,hm2,hm3,hm4,hm5]
 repeat' first
  |(refine onC_mk _ (B3) ?_;simp -implicitDefEqProofs [l1,hm1,hm2,hm3,hm4,hm5])
  |(refine onC_mk _ (B4) ?_;simp -implicitDefEqProofs [l1,hm1,hm2,hm3,hm4,hm5])
  |(refine onC_mk _ (B5) ?_;simp -implicitDefEqProofs [l1,hm1,hm2,hm3,hm4,hm5])
  |(refine onB_mk (fun h=>?_) (fun h=>?_)<;>(try simp only [Bool.not_eq_true',Bool.not_eq_false',decide_eq_true_eq,decide_eq_false_iff_not] at h)<;>simp -implicitDefEqProofs [h,l1,hm1,hm2,hm3,hm4,hm5])
 all_goals first
  |(rw [hT];simp [*];done)
  |(rw [hT];simp_all;done)
theorem qright_spec (c:Cf) (hf:c.Fit):Sp Tryz.prog gl 95 [.agg c.row] (.bool (rightP c)):=by
 refine s95 rfl rfl ?_
 rw [←rightQ_eq]
 obtain ⟨T,hT⟩: ∃T,T=(decide (1≤c.r)&&(decide (c.r≤64)&&(decide (0≤c.v)&&(decide (c.v≤c.r)&&(btw c.i 1 86400&&(btw c.x 1 604800&&(decide (c.i≤c.x)&&btw c.y 0 2592000))))))):=⟨_,rfl⟩
 have hR:rightQ c=(!decide ((6:Int)<c.gs.length)&&(chk goalP Gl.n [] c.gs&&T)):=by rw [hT];rfl
 rw [hR]
 have tail:=fun e l1=>qright_tail c e l1 T hT
 clear hT hR
 have rl:(c.gs.map Gl.row).length=c.gs.length:=by simp
 have ec:c95=AC.cutAt 3 (AC.tl 3 c95) c95:=rfl
 rw [ec]
 generalize AC.tl 3 c95=TT at tail ⊢
 have hc:c.row= .sl (c.gs.map Gl.row)::[i6 c.r,i6 c.v,i6 c.i,i6 c.x,i6 c.y]:=rfl
 rw [hc] at tail ⊢
 obtain ⟨R,hR⟩: ∃R,R=chk goalP Gl.n [] c.gs:=⟨_,rfl⟩
 rw [←hR]
 have rat:=rows_atF Gl.row c.gs
 have hfg:=hf.gs
 have hln:=hf.n
 clear hc hf ec
 generalize c.gs=gs at *
 generalize c.r=cr at *
 generalize c.v=cv at *
 generalize c.i=ci at *
 generalize c.x=cx at *
 generalize c.y=cy at *
 generalize gs.map Gl.row=RU at *
 simp only [c95,AC.cutAt]
 by_cases g6:6<gs.length
 ·have g6':(6:Int)<gs.length:=by omega
  simp -implicitDefEqProofs [rl,g6,g6']
 ·have g6': ¬(6:Int)<gs.length:=by omega
  rw [decide_eq_false g6',Bool.not_false,Bool.true_and]
  simp -implicitDefEqProofs [rl,g6,g6']
  refine wp_lpk (α:=Nat) (fun i=>⟨[(1,.ptr (.n 1) 0),(3,i6 i)],[(.n 1,.sl RU::[i6 cr,i6 cv,i6 ci,i6 cx,i6 cy])],[]⟩)
   (fun i=>i≤gs.length∧chk goalP Gl.n ((gs.take i).map Gl.n) (gs.drop i)=R) (fun i=>gs.length - i) ?_ 0 ?_ ?_
  ·rintro K i hK ⟨h1,h2⟩
   by_cases gi:i<gs.length
   ·have t1:IntKind.i64.wrap ((i:Int)+1)=(i+1:Nat):=by rw [wrap_i64]<;>omega
    have ra:=rat i gi
    have gR:i<RU.length:=by omega
    rw [chk_at _ _ _ _ gi] at h2
    have Q:=qgoal_spec gs[i] (hfg _ (List.getElem_mem _))
    have hs:shutL gs[i].row=some gs[i].row:=rfl
    have hrl:(gs[i].row).length=8:=rfl
    have e7:List.take 8 gs[i].row=gs[i].row:=List.take_of_length_le (by omega)
    have fin:goalP gs[i]=true→((gs.take i).map Gl.n).contains gs[i].n=false→ ∀σ',Weak σ' ⟨[(1,.ptr (.n 1) 0),(3,i6 (i+1:Nat))],[(.n 1,.sl RU::[i6 cr,i6 cv,i6 ci,i6 cx,i6 cy])],[]⟩→K σ':=
     fun hb hd σ' hσ=>hK (i+1) σ' ⟨by omega,by rw [hb,hd] at h2;simpa using h2⟩ (by omega) hσ
    have hno:goalP gs[i]=false→R=false:=fun hd=>by rw [hd] at h2;simpa using h2.symm
    have hno2:((gs.take i).map Gl.n).contains gs[i].n=true→R=false:=fun hd=>by rw [hd] at h2;simpa using h2.symm
    have nat:=fun k hk=>names_at Gl.n gs i k hk (by omega)
    have nl:((gs.take i).map Gl.n).length=i:=by simp;omega
    have rx: ∀k (hk:k<gs.length),∃tl,∀h,RU[k]'h= .str gs[k].n::tl:=fun k hk=>⟨_,fun h=>by rw [rat k hk h];rfl⟩
    clear hK h2 hR
    cases b1:goalP gs[i]
    ·rw [hno b1]
     rw [b1] at Q
     generalize gs[i].row=x at *
     simp -implicitDefEqProofs [gi,gR,ra,rl,hrl,e7,hs]
     refine onC_mk _ (Q) ?_
     simp -implicitDefEqProofs
    ·rw [b1] at Q
     have fin:=fin b1
     clear hno
     obtain ⟨tli,hti⟩:=rx i gi
     generalize gs[i].row=x at *
     simp -implicitDefEqProofs [gi,gR,ra,rl,hrl,e7,hs]
     refine onC_mk _ (Q) ?_
     simp -implicitDefEqProofs
     generalize (gs.take i).map Gl.n=NN at *
     refine wp_lpk (α:=Nat) (fun k=>⟨[(1,.ptr (.n 1) 0),(3,i6 i),(4,i6 k)],[(.n 1,.sl RU::[i6 cr,i6 cv,i6 ci,i6 cx,i6 cy])],[]⟩)
      (fun k=>k≤i∧(NN.drop k).contains gs[i].n=NN.contains gs[i].n) (fun k=>i - k) ?_ 0 ?_ ?_
     ·rintro K2 k hK2 ⟨k1,k2⟩
      by_cases gk:k<i
      ·have gk':(k:Int)<i:=by omega
       have t2:IntKind.i64.wrap ((k:Int)+1)=(k+1:Nat):=by rw [wrap_i64]<;>omega
       obtain ⟨q1,q2⟩:=nat k gk
       rw [contains_step NN k q1,q2] at k2
       obtain ⟨tlk,htk⟩:=rx k (by omega)
       have gRk:k<RU.length:=by omega
       have fin2:(gs[k].n==gs[i].n)=false→ ∀σ',Weak σ' ⟨[(1,.ptr (.n 1) 0),(3,i6 i),(4,i6 (k+1:Nat))],[(.n 1,.sl RU::[i6 cr,i6 cv,i6 ci,i6 cx,i6 cy])],[]⟩→K2 σ':=
        fun hd σ' hσ=>hK2 (k+1) σ' ⟨by omega,by rw [hd,Bool.false_or] at k2;exact k2⟩ (by omega) hσ
       have hlk: ∀h,(RU[k]'h).length=8:=fun h=>by rw [rat k (by omega) h];rfl
       have hl1:tlk.length=7:=by have:=hlk gRk;rw [htk gRk] at this;simpa using this
       have hli: ∀h,(RU[i]'h).length=8:=fun h=>by rw [rat i (by omega) h];rfl
       have hl2:tli.length=7:=by have:=hli gR;rw [hti gR] at this;simpa using this
       clear hK2 fin nat ra rat rx hlk hli
       cases b2:(gs[k].n==gs[i].n)
       ·have fin2:=fin2 b2
        simp -implicitDefEqProofs [gk,gk',gRk,gR,htk,hti,b2,hl1,hl2]
        refine fin2 _ ?_
        refine weak_mk ?_ ?_ ?_ ?_ ?_ ?_<;>simp -implicitDefEqProofs [t2]
       ·rw [b2,Bool.true_or] at k2
        rw [hno2 k2.symm]
        simp -implicitDefEqProofs [gk,gk',gRk,gR,htk,hti,b2,hl1,hl2]
      ·obtain rfl:k=i:=by omega
       rw [List.drop_eq_nil_of_le (by omega)] at k2
       have fin:=fin (by rw [←k2];rfl)
       clear hK2
       simp -implicitDefEqProofs
       refine fin _ ?_
       refine weak_mk ?_ ?_ ?_ ?_ ?_ ?_<;>simp -implicitDefEqProofs [t1]
     ·exact ⟨Nat.zero_le _,rfl⟩
     ·refine weak_mk ?_ ?_ ?_ ?_ ?_ ?_<;>simp -implicitDefEqProofs
   ·obtain rfl:i=gs.length:=by omega
    rw [List.drop_length] at h2
    have:R=true:=by rw [←h2];rfl
    subst this
    clear hK
    simp -implicitDefEqProofs [rl]
    refine tail _ ?_
    simp -implicitDefEqProofs
  ·exact ⟨Nat.zero_le _,by rw [hR];rfl⟩
  ·refine weak_mk ?_ ?_ ?_ ?_ ?_ ?_<;>simp -implicitDefEqProofs
open Go.Proofs
def heavyLb (y:Lb):Bool:=decide ((2000:Int)<y.n.length)||decide ((2000:Int)<y.t.length)
def heavyRu (y:Ru):Bool:=decide ((2000:Int)<y.n.length)
def heavyG (x:Gl):Bool:=(decide ((2000:Int)<x.n.length)||(decide ((10:Int)<x.lb.length)||decide ((10:Int)<x.ru.length)))||(x.lb.any heavyLb||x.ru.any heavyRu)
theorem any_at {α:Type} (p:α→Bool) (l:List α) (i:Nat) (h:i<l.length):(l.drop i).any p=(p l[i]||(l.drop (i+1)).any p):=by
 rw [List.drop_eq_getElem_cons h,List.any_cons]
theorem heavyG_rules (n:List UInt8) (t:Nat) (g a o c:Int) (LB:List (List AV)) (ru:List Ru) (hl:ru.length≤10) (e:List (Nat×AV)) (l1:lk e 1= .ptr (.n 1) 0):
  wpA (SpH Tryz.prog gl) (AC.tl 3 c30) (postA [.t 2] (.bool (ru.any heavyRu))) ⟨e,[(.n 1,[.str n,.int .u32 t,i6 g,i6 a,i6 o,i6 c,.sl LB,.sl (ru.map Ru.row)])],[]⟩:=by
 obtain ⟨R,hR⟩: ∃R,R=ru.any heavyRu:=⟨_,rfl⟩
 rw [←hR]
 have rat: ∀i (h:i<ru.length),∀h2,(ru.map Ru.row)[i]'h2=[.str ru[i].n,.bool ru[i].p,i6 ru[i].l,i6 ru[i].s,u ru[i].f,i6 ru[i].w,i6 ru[i].k]:=fun i h h2=>by simp [Ru.row]
 have rl:(ru.map Ru.row).length=ru.length:=by simp
 generalize ru.map Ru.row=RU at *
 simp only [c30,AC.tl]
 simp -implicitDefEqProofs
 refine wp_lpk (α:=Nat) (fun i=>⟨[(1,.ptr (.n 1) 0),(4,i6 i)],[(.n 1,[.str n,.int .u32 t,i6 g,i6 a,i6 o,i6 c,.sl LB,.sl RU])],[]⟩)
  (fun i=>i≤ru.length∧(ru.drop i).any heavyRu=R) (fun i=>ru.length - i) ?_ 0 ?_ ?_
 ·rintro K i hK ⟨h1,h2⟩
  by_cases gi:i<ru.length
  ·have t1:IntKind.i64.wrap ((i:Int)+1)=(i+1:Nat):=by rw [wrap_i64]<;>omega
   have ra:=rat i gi
   have gR:i<RU.length:=by omega
   rw [any_at _ _ _ gi] at h2
   have fin:heavyRu ru[i]=false→ ∀σ',Weak σ' ⟨[(1,.ptr (.n 1) 0),(4,i6 (i+1:Nat))],[(.n 1,[.str n,.int .u32 t,i6 g,i6 a,i6 o,i6 c,.sl LB,.sl RU])],[]⟩→K σ':=
    fun hb σ' hσ=>hK (i+1) σ' ⟨by omega,by rw [hb,Bool.false_or] at h2;exact h2⟩ (by omega) hσ
   have hno:heavyRu ru[i]=true→R=true:=fun hb=>by rw [hb,Bool.true_or] at h2;exact h2.symm
   unfold heavyRu at fin hno
   clear hK h2 hR rat
   generalize ru[i].n=yn at *
   by_cases q:(2000:Int)<yn.length
   ·have q2:2000<yn.length:=by omega
    rw [hno (by simpa using q)]
    simp -implicitDefEqProofs [gi,gR,ra,rl,q,q2]
   ·have q2: ¬2000<yn.length:=by omega
    have fin:=fin (by simpa using q)
    simp -implicitDefEqProofs [gi,gR,ra,rl,q,q2]
    refine fin _ ?_
    refine weak_mk ?_ ?_ ?_ ?_ ?_ ?_<;>simp -implicitDefEqProofs [t1]
  ·obtain rfl:i=ru.length:=by omega
   rw [List.drop_length] at h2
   have:R=false:=by rw [←h2];rfl
   subst this
   clear hK
   simp -implicitDefEqProofs [rl]
 ·exact ⟨Nat.zero_le _,by rw [hR];rfl⟩
 ·refine weak_mk ?_ ?_ ?_ ?_ ?_ ?_<;>simp -implicitDefEqProofs [l1]
theorem heavyG_labels (n:List UInt8) (t:Nat) (g a o c:Int) (lb:List Lb) (ru:List Ru) (hll:lb.length≤10) (hl:ru.length≤10) (e:List (Nat×AV)) (l1:lk e 1= .ptr (.n 1) 0):
  wpA (SpH Tryz.prog gl) (AC.tl 2 c30) (postA [.t 2] (.bool (lb.any heavyLb||ru.any heavyRu))) ⟨e,[(.n 1,[.str n,.int .u32 t,i6 g,i6 a,i6 o,i6 c,.sl (lb.map Lb.row),.sl (ru.map Ru.row)])],[]⟩:=by
 have ec:AC.tl 2 c30=AC.cutAt 1 (AC.tl 3 c30) (AC.tl 2 c30):=rfl
 rw [ec]
 have tail:=heavyG_rules n t g a o c (lb.map Lb.row) ru hl
 generalize AC.tl 3 c30=TT at tail ⊢
 obtain ⟨R,hR⟩: ∃R,R=lb.any heavyLb:=⟨_,rfl⟩
 rw [←hR]
 generalize ru.any heavyRu=R2 at *
 have rat: ∀i (h:i<lb.length),∀h2,(lb.map Lb.row)[i]'h2=[.str lb[i].n,.str lb[i].t]:=fun i h h2=>by simp [Lb.row]
 have rl:(lb.map Lb.row).length=lb.length:=by simp
 generalize lb.map Lb.row=RU at *
 generalize ru.map Ru.row=RR at *
 simp only [c30,AC.tl,AC.cutAt]
 simp -implicitDefEqProofs
 refine wp_lpk (α:=Nat) (fun i=>⟨[(1,.ptr (.n 1) 0),(3,i6 i)],[(.n 1,[.str n,.int .u32 t,i6 g,i6 a,i6 o,i6 c,.sl RU,.sl RR])],[]⟩)
  (fun i=>i≤lb.length∧(lb.drop i).any heavyLb=R) (fun i=>lb.length - i) ?_ 0 ?_ ?_
 ·rintro K i hK ⟨h1,h2⟩
  by_cases gi:i<lb.length
  ·have t1:IntKind.i64.wrap ((i:Int)+1)=(i+1:Nat):=by rw [wrap_i64]<;>omega
   have ra:=rat i gi
   have gR:i<RU.length:=by omega
   rw [any_at _ _ _ gi] at h2
   have fin:heavyLb lb[i]=false→ ∀σ',Weak σ' ⟨[(1,.ptr (.n 1) 0),(3,i6 (i+1:Nat))],[(.n 1,[.str n,.int .u32 t,i6 g,i6 a,i6 o,i6 c,.sl RU,.sl RR])],[]⟩→K σ':=
    fun hb σ' hσ=>hK (i+1) σ' ⟨by omega,by rw [hb,Bool.false_or] at h2;exact h2⟩ (by omega) hσ
   have hno:heavyLb lb[i]=true→R=true:=fun hb=>by rw [hb,Bool.true_or] at h2;exact h2.symm
   unfold heavyLb at fin hno
   clear hK h2 hR rat tail
   generalize lb[i].n=yn at *
   generalize lb[i].t=yt at *
   by_cases q:(2000:Int)<yn.length
   ·have q2:2000<yn.length:=by omega
    rw [hno (by rw [decide_eq_true q,Bool.true_or])]
    simp -implicitDefEqProofs [gi,gR,ra,rl,q,q2]
   ·have q2: ¬2000<yn.length:=by omega
    by_cases q3:(2000:Int)<yt.length
    ·have q4:2000<yt.length:=by omega
     rw [hno (by rw [decide_eq_true q3,Bool.or_true])]
     simp -implicitDefEqProofs [gi,gR,ra,rl,q,q2,q3,q4]
    ·have q4: ¬2000<yt.length:=by omega
     have fin:=fin (by rw [decide_eq_false q,decide_eq_false q3];rfl)
     simp -implicitDefEqProofs [gi,gR,ra,rl,q,q2,q3,q4]
     refine fin _ ?_
     refine weak_mk ?_ ?_ ?_ ?_ ?_ ?_<;>simp -implicitDefEqProofs [t1]
  ·obtain rfl:i=lb.length:=by omega
   rw [List.drop_length] at h2
   have:R=false:=by rw [←h2];rfl
   subst this
   clear hK
   simp -implicitDefEqProofs [rl]
   refine tail _ ?_
   simp -implicitDefEqProofs
 ·exact ⟨Nat.zero_le _,by rw [hR];rfl⟩
 ·refine weak_mk ?_ ?_ ?_ ?_ ?_ ?_<;>simp -implicitDefEqProofs [l1]
theorem heavyG_spec (x:Gl):Sp Tryz.prog gl 30 [.agg x.row] (.bool (heavyG x)):=by
 refine s30 rfl rfl ?_
 have ec:c30=AC.cutAt 2 (AC.tl 2 c30) c30:=rfl
 rw [ec]
 obtain ⟨nm,t,g,a,o,c,lb,ru⟩:=x
 have tail:=fun h1 h2=>heavyG_labels nm t g a o c lb ru h1 h2
 generalize AC.tl 2 c30=TT at tail ⊢
 have hR:heavyG ⟨nm,t,g,a,o,c,lb,ru⟩=((decide ((2000:Int)<nm.length)||(decide ((10:Int)<lb.length)||decide ((10:Int)<ru.length)))||(lb.any heavyLb||ru.any heavyRu)):=rfl
 have rl1:(lb.map Lb.row).length=lb.length:=by simp
 have rl2:(ru.map Ru.row).length=ru.length:=by simp
 simp only [Gl.row]
 generalize heavyG ⟨nm,t,g,a,o,c,lb,ru⟩=R at *
 generalize (lb.any heavyLb||ru.any heavyRu)=E at *
 generalize lb.map Lb.row=LB at *
 generalize ru.map Ru.row=RU at *
 generalize lb.length=n1 at *
 generalize ru.length=n2 at *
 simp only [c30,AC.cutAt]
 by_cases q1:(2000:Int)<nm.length
 ·have q1':2000<nm.length:=by omega
  rw [decide_eq_true q1] at hR
  simp -implicitDefEqProofs [q1,q1',hR]
 ·have q1': ¬2000<nm.length:=by omega
  by_cases q2:(10:Int)<n1
  ·have q2':10<n1:=by omega
   rw [decide_eq_true q2] at hR
   simp -implicitDefEqProofs [q1,q1',rl1,q2,q2',hR]
  ·have q2': ¬10<n1:=by omega
   by_cases q3:(10:Int)<n2
   ·have q3':10<n2:=by omega
    rw [decide_eq_true q3] at hR
    simp -implicitDefEqProofs [q1,q1',rl1,rl2,q2,q2',q3,q3',hR]
   ·have q3': ¬10<n2:=by omega
    rw [decide_eq_false q1,decide_eq_false q2,decide_eq_false q3] at hR
    have tail:=tail (by omega) (by omega)
    have:R=E:=by rw [hR];rfl
    subst this
    simp -implicitDefEqProofs [q1,q1',rl1,rl2,q2,q2',q3,q3']
    refine tail _ ?_
    simp -implicitDefEqProofs
open Go.Proofs
theorem heavyG_fit {x:Gl} (h:heavyG x=false):x.Fit:=by
 unfold heavyG at h
 simp only [Bool.or_eq_false_iff,decide_eq_false_iff_not,List.any_eq_false,Bool.not_eq_true] at h
 obtain ⟨⟨h1,h2,h3⟩,h4,h5⟩:=h
 refine ⟨by omega,by omega,by omega,fun y hy=>?_,fun y hy=>?_⟩
 ·have:=h4 y hy
  simp only [heavyLb,Bool.or_eq_false_iff,decide_eq_false_iff_not] at this
  exact ⟨by omega,by omega⟩
 ·have:=h5 y hy
  simp only [heavyRu,decide_eq_false_iff_not] at this
  show y.n.length≤2000
  omega
end Go.Ai
namespace Go.Ai
open Go.Proofs Go.Shelf Go.RowKit Go.Sort
def sortI (l:List Int):List Int:=l.mergeSort fun x y=>decide (x≤y)
theorem sortI_len (l:List Int):(sortI l).length=l.length:=List.length_mergeSort l
theorem sort_spec (L:List Int) (hL:L.length≤1000000) (d:Nat) (b:Id) (hit:b.isIt=false) (hnw:b.isNw d=false):
  SpH Tryz.prog gl 199 d ⟨[.ms b 0 L.length 1],[(b,intCells .i64 L)],[]⟩ ⟨.tup [],[(b,intCells .i64 (sortI L))],[]⟩:=by
 refine mut_spec (l:=[]) Tryz.func199 (by kernel_rfl) (by kernel_rfl) hit hnw (by rw [intCells_len,intCells_len,sortI_len]) ?_
 intro S gb w g cap us T vs hg hvs hh hn hc1 hc2 hcs hp hone
 simp only [PRlist] at hvs
 subst hvs
 rw [intCells_len] at hcs hp ⊢
 have hp2:=intCells_PR.1 hp
 have hglt:g<w.heap.size:=(Array.getElem?_eq_some_iff.1 hh).1
 have J:=AnyM.slices_Sort_int laysSort g 0 cap L w (holds_ints hh hp2) hglt (by omega)
 refine J.mono ?_
 rintro e w' ⟨rfl,q,os,rfl⟩
 have hsl:(L.mergeSort fun x y=>decide (x≤y)).length=L.length:=List.length_mergeSort L
 obtain ⟨us',p1,p2,p3,p4,p5,p6⟩:=put_ints (k:= .i64) (zs:=L.mergeSort fun x y=>decide (x≤y)) q os hh (by rw [hsl];exact hcs) hone
 refine ⟨_,us',rfl,by simp only [PR,PRlist];exact ⟨_,rfl,rfl⟩,p1,p2,p3,?_,p5,p6,rfl,rfl,rfl⟩
 rw [←hsl]
 exact intCells_PR.2 p4
theorem sortNil_spec:Sp Tryz.prog gl 199 [.nils] (.tup []):=by
 refine shelf_spec Tryz.func199 (by kernel_rfl) (by kernel_rfl) ?_
 intro S gb w vs hvs hag
 simp only [PRlist,PR] at hvs
 obtain ⟨_,_,rfl,rfl,rfl⟩:=hvs
 exact (AnyM.slices_Sort_int_none laysSort none 0 w).mono fun e w' ⟨he,hw⟩=>⟨_,he,hw▸Below.refl _ _,by simp only [PR,PRlist];exact ⟨_,rfl,rfl⟩⟩
def compactI (l:List Int):List Int:=Lib.compact l
theorem compactUpTo_le {α:Type} [Inhabited α] [DecidableEq α] (d:Array α) (m:Nat):(Lib.compactUpTo d m).length≤m:=by
 unfold Lib.compactUpTo
 rw [List.length_map]
 exact Nat.le_trans (List.length_filter_le _ _) (by simp)
theorem compactI_le (l:List Int):(compactI l).length≤l.length:=compactUpTo_le _ _
theorem compact_spec (L:List Int) (hL:L.length≤1000000) (d:Nat) (b:Id) (hit:b.isIt=false) (hnw:b.isNw d=false):
  SpH Tryz.prog gl 200 d ⟨[.ms b 0 L.length 1],[(b,intCells .i64 L)],[]⟩ ⟨.ms b 0 (compactI L).length 1,[(b,intCells .i64 (compactI L++List.replicate (L.length - (compactI L).length) 0))],[]⟩:=by
 have hle:=compactI_le L
 have hll:(compactI L++List.replicate (L.length - (compactI L).length) 0).length=L.length:=by simp;omega
 refine mut_spec (l:=[]) Tryz.func200 (by kernel_rfl) (by kernel_rfl) hit hnw (by rw [intCells_len,intCells_len,hll]) ?_
 intro S gb w g cap us T vs hg hvs hh hn hc1 hc2 hcs hp hone
 simp only [PRlist] at hvs
 subst hvs
 rw [intCells_len] at hcs hp ⊢
 have hp2:=intCells_PR.1 hp
 have J:=AnyE.slices_Compact laysCompact (Value.int .i64) (fun _=>rfl) (EqlAt.intD _ _ .i64) (NeqAt.intD _ _ .i64) (0:Int) Tryz.zeroValue2 g 0 cap L.toArray w (holds_ints hh hp2) (by simp;omega) (by simpa using hn)
 have e1:Lib.compactUpTo L.toArray L.toArray.size=compactI L:=by simp [compactI,Lib.compact]
 rw [e1] at J
 simp only [List.size_toArray] at J
 refine J.mono ?_
 rintro e w' ⟨rfl,q,rfl⟩
 have hgr: ∀W:World,grow W #[]=W:=fun W=>by simp [grow]
 obtain ⟨us',p1,p2,p3,p4,p5,p6⟩:=put_ints (k:= .i64) (zs:=compactI L++List.replicate (L.length - (compactI L).length) 0) q #[] hh (by rw [hll];exact hcs) hone
 rw [hgr] at p1 p5 p6
 refine ⟨_,us',rfl,?_,p1,p2,p3,?_,p5,p6,rfl,rfl,rfl⟩
 ·simp only [PR]
  exact ⟨g,⟨us.size,T⟩,cap,hg,hit,rfl,by omega,hc1,by simp only;omega⟩
 ·rw [hll] at p4
  exact intCells_PR.2 p4
theorem compactNil_spec (d:Nat):SpH Tryz.prog gl 200 d ⟨[.nils],[],[]⟩ ⟨.nils,[],[]⟩:=by
 refine h200 rfl ?_
 simp -implicitDefEqProofs [c200]
 refine postH_r ⟨?_,?_,?_,?_,?_,?_⟩<;>simp -implicitDefEqProofs
open Go.Proofs
def ruW (l:List Ru):List Int:=l.flatMap fun r=>[r.l,r.s]
def allW (x:Gl):List Int:=ruW x.ru++(if x.o=0 then [] else [x.o])
def winP (x:Gl):List Int:=compactI (sortI (allW x))
theorem ruW_len (l:List Ru):(ruW l).length=2*l.length:=by
 induction l with
 |nil=>rfl
 |cons x r ih=>simp only [ruW,List.flatMap_cons,List.length_append,List.length_cons,List.length_nil] at ih ⊢;omega
theorem allW_len (x:Gl):(allW x).length≤2*x.ru.length+1:=by
 unfold allW
 rw [List.length_append,ruW_len]
 split<;>simp
def intRows (l:List Int):List (List AV):=l.map fun z=>[i6 z]
theorem intRows_flat (l:List Int):(intRows l).flatten=intCells .i64 l:=by
 induction l with
 |nil=>rfl
 |cons x r ih=>simp only [intRows,List.map_cons,List.flatten_cons] at ih ⊢;rw [ih];rfl
theorem intRows_len (l:List Int):(intRows l).length=l.length:=by simp [intRows]
theorem intRows_one (l:List Int): ∀r∈intRows l,r.length=1:=by
 intro r hr;simp only [intRows,List.mem_map] at hr;obtain ⟨z,_,rfl⟩:=hr;rfl
theorem intCells_ids (k:IntKind) (l:List Int):idsL (intCells k l)=[]:=by
 induction l with
 |nil=>rfl
 |cons x r ih=>simpa [intCells,idsL,AV.ids] using ih
theorem intCells_app (k:IntKind) (a b:List Int):intCells k (a++b)=intCells k a++intCells k b:=by simp [intCells]
def stW (row:List AV) (RU:List (List AV)) (n i:Nat):List Int→St
 |[]=>⟨[(1,.ptr (.n 1) 0),(3,.nils),(7,.sl RU),(8,i6 n),(9,i6 i)],[(.n 1,row)],[]⟩
 |z::r=>⟨[(1,.ptr (.n 1) 0),(3,.ms (.n 19) 0 (z::r).length 1),(7,.sl RU),(8,i6 n),(9,i6 i)],[(.n 1,row),(.n 19,intCells .i64 (z::r))],[]⟩
theorem stW_ne {row:List AV} {RU:List (List AV)} {n i:Nat} {l:List Int} (h:l≠[]):stW row RU n i l=⟨[(1,.ptr (.n 1) 0),(3,.ms (.n 19) 0 l.length 1),(7,.sl RU),(8,i6 n),(9,i6 i)],[(.n 1,row),(.n 19,intCells .i64 l)],[]⟩:=by
 cases l with
 |nil=>exact absurd rfl h
 |cons z r=>rfl
theorem win_tail (L:List Int) (hL:L.length≤1000) (b:Id) (hb:b= .n 19∨b= .n 28) (e:List (Nat×AV)) (row:List AV) (hrow:idsL row=[]) (l3:lk e 3= .ms b 0 L.length 1) (bx:List (Id×List AV)) (pm:List (Pl×Nat)) (hbx:bx=[(.n 1,row),(b,intCells .i64 L)]∨bx=[(b,intCells .i64 L),(.n 1,row)]):
  wpA (SpH Tryz.prog gl) (AC.tl 4 c145) (postF [.t 2] (.sl (intRows (compactI (sortI L))))) ⟨e,bx,pm⟩:=by
 have hit:b.isIt=false:=by rcases hb with rfl|rfl<;>rfl
 have hnw: ∀d,b.isNw d=false:=by rcases hb with rfl|rfl<;>intro d<;>rfl
 have hn1:b≠ .n 1:=by rcases hb with rfl|rfl<;>decide
 have hn1':Id.n 1≠b:=fun e=>hn1 e.symm
 have hup:b.isUp=false:=by rcases hb with rfl|rfl<;>rfl
 have S:=sort_spec L (by omega) 30 b hit (hnw 30)
 have C:=compact_spec (sortI L) (by rw [sortI_len];omega) 32 b hit (hnw 32)
 rw [sortI_len] at C
 obtain ⟨W,hW⟩: ∃W,W=compactI (sortI L):=⟨_,rfl⟩
 rw [←hW] at C ⊢
 rw [intCells_app] at C
 simp only [c145,AC.tl]
 have i1:=intCells_ids .i64 L
 have i2:=intCells_ids .i64 (sortI L)
 have hF: ∀(e:List (Nat×AV)) pm,lk e 2= .ms b 0 W.length 1→postF [.t 2] (.sl (intRows W)) .r ⟨e,[(b,intCells .i64 W++intCells .i64 (List.replicate (L.length - W.length) 0)),(.n 1,row)],pm⟩:=by
  intro e pm l2
  refine .inr (.inr ⟨2,b,W.length,1,intRows W,intCells .i64 (List.replicate (L.length - W.length) 0),⟨l2,?_,hup,intRows_len W,intRows_one W,?_,?_⟩,?_⟩)
  ·rw [intRows_flat];simp [lkB]
  ·rw [intRows_flat];exact intCells_ids _ _
  ·simp [hn1',hrow]
  ·simp [frzSt]
 generalize intCells .i64 W++intCells .i64 (List.replicate (L.length - W.length) 0)=CW at *
 generalize intCells .i64 (sortI L)=CS at *
 generalize intCells .i64 L=CL at *
 rcases hbx with rfl|rfl
 ·simp [l3]
  refine onH_mk _ _ S ⟨?_,?_,?_,?_,?_,?_,?_⟩ ?_
  iterate 7 (· simp [l3,hn1,hn1',hnw])
  simp -implicitDefEqProofs [l3,hn1,hn1']
  refine onH_mk _ _ C ⟨?_,?_,?_,?_,?_,?_,?_⟩ ?_
  iterate 7 (· simp [l3,hn1,hn1',hnw])
  simp -implicitDefEqProofs [l3,hn1,hn1']
  refine hF _ _ ?_
  simp -implicitDefEqProofs
 ·simp [l3]
  refine onH_mk _ _ S ⟨?_,?_,?_,?_,?_,?_,?_⟩ ?_
  iterate 7 (· simp [l3,hn1,hn1',hnw])
  simp -implicitDefEqProofs [l3,hn1,hn1']
  refine onH_mk _ _ C ⟨?_,?_,?_,?_,?_,?_,?_⟩ ?_
  iterate 7 (· simp [l3,hn1,hn1',hnw])
  simp -implicitDefEqProofs [l3,hn1,hn1']
  refine hF _ _ ?_
  simp -implicitDefEqProofs
end Go.Ai
namespace Go.Ai
def leapN (y:Nat):Bool:=decide (y%4=0)&&!decide (y%100=0)||decide (y%400=0)
def dimN (y m:Nat):Nat:=if m<1∨12<m then 0 else if m=2 then (if leapN y=true then 29 else 28) else 30+(m+m / 8)%2
def diyN (y:Nat):Nat:=if leapN y=true then 366 else 365
def aheadN (y m:Nat):Nat:=if m<3 then 365*(y - 1)+(y - 1) / 4 - (y - 1) / 100+(y - 1) / 400+(153*(m+9)+2) / 5 else 365*y+y / 4 - y / 100+y / 400+(153*(m - 3)+2) / 5
theorem leapN_iff (y:Nat):leapN y=true↔(y%4=0∧y%100≠0)∨y%400=0:=by simp [leapN]
theorem year4 (y:Nat): ∃u v t s,y=400*u+100*v+4*t+s∧v<4∧t<25∧s<4∧y / 4=100*u+25*v+t∧y / 100=4*u+v∧y / 400=u:=
 ⟨y / 400,y%400 / 100,y%100 / 4,y%4,by omega,by omega,by omega,by omega,by omega,by omega,rfl⟩
theorem leap4 {y u v t s:Nat} (h:y=400*u+100*v+4*t+s) (hv:v<4) (ht:t<25) (hs:s<4):leapN y=true↔s=0∧(t≠0∨v=0):=by
 rw [leapN_iff]
 have e1:y%4=s:=by omega
 have e2:y%100=4*t+s:=by omega
 have e3:y%400=100*v+4*t+s:=by omega
 rw [e1,e2,e3]
 omega
theorem sub1_4 {y u v t s:Nat} (hy:1≤y) (h:y=400*u+100*v+4*t+s) (hv:v<4) (ht:t<25) (hs:s<4):
  (y - 1) / 4=(if s=0 then 100*u+25*v+t - 1 else 100*u+25*v+t)∧(y - 1) / 100=(if s=0∧t=0 then 4*u+v - 1 else 4*u+v)∧(y - 1) / 400=(if s=0∧t=0∧v=0 then u - 1 else u):=by
 refine ⟨?_,?_,?_⟩<;>split<;>omega
theorem ahead_feb (y:Nat) (hy:1≤y):365*y+y / 4 - y / 100+y / 400=365*(y - 1)+(y - 1) / 4 - (y - 1) / 100+(y - 1) / 400+diyN y:=by
 obtain ⟨u,v,t,s,h,hv,ht,hs,d1,d2,d3⟩:=year4 y
 obtain ⟨e1,e2,e3⟩:=sub1_4 hy h hv ht hs
 have hl:=leap4 h hv ht hs
 rw [d1,d2,d3,e1,e2,e3]
 unfold diyN
 by_cases c1:s=0
 ·subst c1
  by_cases c2:t=0
  ·subst c2
   by_cases c3:v=0
   ·subst c3
    have:leapN y=true:=hl.2 ⟨rfl,.inr rfl⟩
    simp [this];omega
   ·have:leapN y=false:=by
     cases hb:leapN y
     ·rfl
     ·have:=hl.1 hb;omega
    simp [this,c3];omega
  ·have:leapN y=true:=hl.2 ⟨rfl,.inl c2⟩
   simp [this,c2];omega
 ·have:leapN y=false:=by
   cases hb:leapN y
   ·rfl
   ·have:=hl.1 hb;omega
  simp [this,c1];omega
theorem ahead_month (y m:Nat) (hy:1≤y) (h1:1≤m) (h2:m≤11):aheadN y (m+1)=aheadN y m+dimN y m:=by
 have hm:m=1∨m=2∨m=3∨m=4∨m=5∨m=6∨m=7∨m=8∨m=9∨m=10∨m=11:=by omega
 by_cases h3:m=2
 ·subst h3
  have hf:=ahead_feb y hy
  unfold aheadN dimN
  unfold diyN at hf
  simp only [show ¬2+1<3 by omega,show (2:Nat)<3 by omega,if_true,if_false,show ¬((2:Nat)<1∨12<2) by omega,hf]
  cases h:leapN y<;>simp<;>omega
 ·unfold aheadN dimN
  generalize 365*y+y / 4 - y / 100+y / 400=A
  generalize 365*(y - 1)+(y - 1) / 4 - (y - 1) / 100+(y - 1) / 400=B
  rcases hm with rfl|rfl|rfl|rfl|rfl|rfl|rfl|rfl|rfl|rfl|rfl<;>first
   |(exact absurd rfl h3)
   |(simp;done)
   |(simp;omega)
theorem ahead_dec (y:Nat):aheadN (y+1) 1=aheadN y 12+31:=by
 unfold aheadN
 simp
theorem ahead_year (y:Nat) (hy:1≤y):aheadN (y+1) 1=aheadN y 1+diyN y:=by
 have hf:=ahead_feb y hy
 unfold aheadN
 simp only [show (1:Nat)<3 by omega,if_true,Nat.add_sub_cancel]
 rw [hf]
 omega
theorem epochN:aheadN 1970 1=719468:=by decide
def cenN (n:Nat):Nat:=(4*n+3) / 146097
def restN (n:Nat):Nat:=n - 146097*cenN n / 4
def yrN (n:Nat):Nat:=(4*restN n+3) / 1461
def rest2N (n:Nat):Nat:=restN n - 1461*yrN n / 4
def moN (n:Nat):Nat:=(5*rest2N n+2) / 153
def yearN (n:Nat):Nat:=if 9<moN n then 100*cenN n+yrN n+1 else 100*cenN n+yrN n
def monthN (n:Nat):Nat:=if 9<moN n then moN n - 9 else moN n+3
theorem rest_le (n:Nat):146097*cenN n / 4≤n∧restN n≤36524∧(restN n=36524→cenN n%4=3):=by
 unfold restN
 have h:cenN n=(4*n+3) / 146097:=rfl
 generalize cenN n=c at *
 refine ⟨?_,?_,?_⟩<;>omega
theorem yr_le (n:Nat):yrN n≤99∧1461*yrN n / 4≤restN n∧rest2N n≤365∧(rest2N n=365→yrN n%4=3∧(yrN n=99→cenN n%4=3)):=by
 obtain ⟨h1,h2,h3⟩:=rest_le n
 unfold rest2N
 have h:yrN n=(4*restN n+3) / 1461:=rfl
 generalize restN n=r at *
 generalize yrN n=y at *
 generalize cenN n=c at *
 refine ⟨by omega,by omega,by omega,fun h5=>⟨by omega,fun h6=>h3 ?_⟩⟩
 omega
theorem mo_le (n:Nat):moN n≤11:=by
 have:=(yr_le n).2.2.1
 unfold moN;omega
theorem cy4 (c y:Nat) (hy:y≤99): ∃q v p s,c=4*q+v∧v<4∧y=4*p+s∧s<4∧p<25∧146097*c / 4=36524*c+q∧1461*y / 4=365*y+p∧(100*c+y) / 4=25*c+p∧(100*c+y) / 100=c∧(100*c+y) / 400=q:=by
 refine ⟨c / 4,c%4,y / 4,y%4,by omega,by omega,by omega,by omega,by omega,by omega,by omega,by omega,by omega,by omega⟩
theorem ahead_in (n:Nat) (h0:1≤100*cenN n+yrN n):1≤monthN n∧monthN n≤12∧aheadN (yearN n) (monthN n)≤n∧n<aheadN (yearN n) (monthN n)+dimN (yearN n) (monthN n):=by
 obtain ⟨a1,a2,a3⟩:=rest_le n
 obtain ⟨b1,b2,b3,b4⟩:=yr_le n
 have m1:=mo_le n
 have hr:restN n=n - 146097*cenN n / 4:=rfl
 have hr2:rest2N n=restN n - 1461*yrN n / 4:=rfl
 have hm:moN n=(5*rest2N n+2) / 153:=rfl
 obtain ⟨q,v,p,s,k1,k2,k3,k4,k5,e1,e2,e3,e4,e5⟩:=cy4 (cenN n) (yrN n) b1
 rw [e1] at a1 hr
 rw [e2] at b2 hr2
 have hn:n=365*(100*cenN n+yrN n)+(25*cenN n+p) - cenN n+q+rest2N n:=by omega
 have hlp:rest2N n=365→leapN (100*cenN n+yrN n+1)=true:=by
  intro h5
  obtain ⟨q1,q2⟩:=b4 h5
  rw [leapN_iff]
  by_cases h9:yrN n=99
  ·have:=q2 h9
   right;omega
  ·left;omega
 unfold yearN monthN aheadN dimN
 clear hr hr2 e1 e2 a1 a2 a3 b2 b4
 generalize moN n=m at *
 generalize rest2N n=r2 at *
 generalize restN n=r at *
 generalize yrN n=y at *
 generalize cenN n=c at *
 by_cases g:9<m
 ·rw [if_pos g,if_pos g]
  have hmm:m=10∨m=11:=by omega
  rcases hmm with rfl|rfl
  ·simp only [show (10:Nat) - 9=1 by omega,show (1:Nat)<3 by omega,if_true,Nat.add_sub_cancel,e3,e4,e5]
   simp
   omega
  ·simp only [show 11 - 9=2 by omega,show (2:Nat)<3 by omega,if_true,show ¬((2:Nat)<1∨12<2) by omega,if_false,Nat.add_sub_cancel,e3,e4,e5]
   cases hl:leapN (100*c+y+1)
   ·have:r2≠365:=by
     intro h5
     rw [hlp h5] at hl;cases hl
    simp
    omega
   ·simp
    omega
 ·rw [if_neg g,if_neg g]
  have hmm:m=0∨m=1∨m=2∨m=3∨m=4∨m=5∨m=6∨m=7∨m=8∨m=9:=by omega
  rw [e3,e4,e5]
  rcases hmm with rfl|rfl|rfl|rfl|rfl|rfl|rfl|rfl|rfl|rfl<;>simp<;>omega
end Go.Ai
