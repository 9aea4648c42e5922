/- P15: a part of the proof: the rules, or what functions compute. Conditions: as each theorem says. -/
import Derived.Test.YtggemlhclppciaaGreatDoorP14
import Derived.Test.YtggemlhclppciaaGreatDoorP2
import Derived.Test.YtggemlhclppciaaGreatDoorCode
import Derived.Lib.LaidU8
import GoSem.PinnedTables
set_option linter.unusedSimpArgs false
set_option linter.unusedVariables false
set_option maxRecDepth 20000
namespace Go.Ai
open Go.Proofs
theorem contains_step (l:List (List UInt8)) (k:Nat) (h:k<l.length) (y:List UInt8):(l.drop k).contains y=((l[k]==y)||(l.drop (k+1)).contains y):=by
 rw [List.drop_eq_getElem_cons h,List.contains_cons]
 congr 1
 rw [Bool.eq_iff_iff];simp only [beq_iff_eq];exact eq_comm
theorem names_at {α:Type} (nm:α→List UInt8) (l:List α) (i k:Nat) (hk:k<i) (hi:i≤l.length): ∃h:k<((l.take i).map nm).length,((l.take i).map nm)[k]=nm (l[k]'(by omega)):=by
 refine ⟨by simp;omega,by simp⟩
theorem rgoal_rules (n:List UInt8) (t:Nat) (g a o c:Int) (LB:List (List AV)) (ru:List Ru) (hl:ru.length≤10) (hf: ∀y∈ru,ruFit y) (e:List (Nat×AV)) (l1:lk e 1= .ptr (.n 1) 0):
  wpA (SpH Tryz.prog gl) (AC.tl 3 c28) (postA [.t 2] (.bool (chk (fun r=>ruP r g) Ru.n [] ru))) ⟨e,[(.n 1,[.str n,.int .u32 t,i6 g,i6 a,i6 o,i6 c,.sl LB,.sl (ru.map Ru.row)])],[]⟩:=by
 obtain ⟨R,hR⟩: ∃R,R=chk (fun r=>ruP r g) Ru.n [] ru:=⟨_,rfl⟩
 rw [←hR]
 have rat:=rows_atF Ru.row ru
 have rl:(ru.map Ru.row).length=ru.length:=by simp
 have ex:=fun (y:Ru)=>show Ru.row y=[.str y.n,.bool y.p,i6 y.l,i6 y.s,u y.f,i6 y.w,i6 y.k] from rfl
 generalize ru.map Ru.row=RU at *
 simp only [c28,AC.tl]
 simp -implicitDefEqProofs
 refine wp_lpk (α:=Nat) (fun i=>⟨[(1,.ptr (.n 1) 0),(6,i6 i)],[(.n 1,[.str n,.int .u32 t,i6 g,i6 a,i6 o,i6 c,.sl LB,.sl RU])],[]⟩)
  (fun i=>i≤ru.length∧chk (fun r=>ruP r g) Ru.n ((ru.take i).map Ru.n) (ru.drop i)=R) (fun i=>ru.length - i) ?_ 0 ?_ ?_
 ·rintro K i hK ⟨h1,h2⟩
  by_cases gi:i<ru.length
  ·have t1:IntKind.i64.wrap ((i:Int)+1)=(i+1:Nat):=by rw [wrap_i64]<;>omega
   have ra:=rat i gi
   have gR:i<RU.length:=by omega
   rw [chk_at _ _ _ _ gi] at h2
   have hfi:=hf ru[i] (List.getElem_mem _)
   have Q:=qru_spec ru[i] g (by have:ru[i].n.length≤2000:=hfi;omega)
   have hs:shutL ru[i].row=some ru[i].row:=rfl
   have hrl:(ru[i].row).length=7:=rfl
   have e7:List.take 7 ru[i].row=ru[i].row:=List.take_of_length_le (by omega)
   cases b1:ruP ru[i] g
   ·rw [b1] at h2 Q
    simp only [Bool.false_and] at h2
    subst h2
    clear hK
    generalize ru[i].row=x at *
    simp -implicitDefEqProofs [gi,gR,ra,rl,hrl,e7,hs]
    refine onC_mk _ (Q) ?_
    simp -implicitDefEqProofs
   ·rw [b1] at h2 Q
    simp only [Bool.true_and] at h2
    have fin:((ru.take i).map Ru.n).contains ru[i].n=false→ ∀σ',Weak σ' ⟨[(1,.ptr (.n 1) 0),(6,i6 (i+1:Nat))],[(.n 1,[.str n,.int .u32 t,i6 g,i6 a,i6 o,i6 c,.sl LB,.sl RU])],[]⟩→K σ':=
     fun hd σ' hσ=>hK (i+1) σ' ⟨by omega,by rw [hd] at h2;simpa using h2⟩ (by omega) hσ
    have hno:((ru.take i).map Ru.n).contains ru[i].n=true→R=false:=fun hd=>by rw [hd] at h2;simpa using h2.symm
    have nat:=fun k hk=>names_at Ru.n ru i k hk (by omega)
    have ra2: ∀k (hk:k<i),∀h,RU[k]'h=[.str (ru[k]'(by omega)).n,.bool (ru[k]'(by omega)).p,i6 (ru[k]'(by omega)).l,i6 (ru[k]'(by omega)).s,u (ru[k]'(by omega)).f,i6 (ru[k]'(by omega)).w,i6 (ru[k]'(by omega)).k]:=fun k hk h=>by rw [rat k (by omega) h];rfl
    have ra3: ∀h,RU[i]'h=[.str ru[i].n,.bool ru[i].p,i6 ru[i].l,i6 ru[i].s,u ru[i].f,i6 ru[i].w,i6 ru[i].k]:=fun h=>by rw [rat i gi h];rfl
    have nl:((ru.take i).map Ru.n).length=i:=by simp;omega
    clear hK h2 hR
    simp -implicitDefEqProofs [gi,gR,ra,rl,hrl,e7,hs]
    refine onC_mk _ (Q) ?_
    simp -implicitDefEqProofs
    generalize (ru.take i).map Ru.n=N at *
    refine wp_lpk (α:=Nat) (fun k=>⟨[(1,.ptr (.n 1) 0),(6,i6 i),(7,i6 k)],[(.n 1,[.str n,.int .u32 t,i6 g,i6 a,i6 o,i6 c,.sl LB,.sl RU])],[]⟩)
     (fun k=>k≤i∧(N.drop k).contains ru[i].n=N.contains ru[i].n) (fun k=>i - k) ?_ 0 ?_ ?_
    ·rintro K2 k hK2 ⟨k1,k2⟩
     by_cases gk:k<i
     ·have gk':(k:Int)<i:=by omega
      have t2:IntKind.i64.wrap ((k:Int)+1)=(k+1:Nat):=by rw [wrap_i64]<;>omega
      obtain ⟨q1,q2⟩:=nat k gk
      rw [contains_step N k q1,q2] at k2
      have rk:=ra2 k gk
      have gRk:k<RU.length:=by omega
      have fin2:(ru[k].n==ru[i].n)=false→ ∀σ',Weak σ' ⟨[(1,.ptr (.n 1) 0),(6,i6 i),(7,i6 (k+1:Nat))],[(.n 1,[.str n,.int .u32 t,i6 g,i6 a,i6 o,i6 c,.sl LB,.sl RU])],[]⟩→K2 σ':=
       fun hd σ' hσ=>hK2 (k+1) σ' ⟨by omega,by rw [hd,Bool.false_or] at k2;exact k2⟩ (by omega) hσ
      clear hK2 fin nat ra2 ra rat
      cases b2:(ru[k].n==ru[i].n)
      ·have fin2:=fin2 b2
       simp -implicitDefEqProofs [gk,gk',gRk,gR,rk,ra3,b2]
       refine fin2 _ ?_
       refine weak_mk ?_ ?_ ?_ ?_ ?_ ?_<;>simp -implicitDefEqProofs [t2]
      ·rw [b2,Bool.true_or] at k2
       rw [hno k2.symm]
       simp -implicitDefEqProofs [gk,gk',gRk,gR,rk,ra3,b2]
     ·obtain rfl:k=i:=by omega
      rw [List.drop_eq_nil_of_le (by omega)] at k2
      have fin:=fin (by rw [←k2];rfl)
      clear hK2
      simp -implicitDefEqProofs
      refine fin _ ?_
      refine weak_mk ?_ ?_ ?_ ?_ ?_ ?_<;>simp -implicitDefEqProofs [t1]
    ·exact ⟨Nat.zero_le _,rfl⟩
    ·refine weak_mk ?_ ?_ ?_ ?_ ?_ ?_<;>simp -implicitDefEqProofs
  ·obtain rfl:i=ru.length:=by omega
   rw [List.drop_length] at h2
   have:R=true:=by rw [←h2];rfl
   subst this
   clear hK
   simp -implicitDefEqProofs [rl]
 ·exact ⟨Nat.zero_le _,by rw [hR];rfl⟩
 ·refine weak_mk ?_ ?_ ?_ ?_ ?_ ?_<;>simp -implicitDefEqProofs [l1]
theorem rgoal_labels (n:List UInt8) (t:Nat) (g a o c:Int) (lb:List Lb) (ru:List Ru) (hll:lb.length≤10) (hfl: ∀y∈lb,lbFit y) (hl:ru.length≤10) (hf: ∀y∈ru,ruFit y) (e:List (Nat×AV)) (l1:lk e 1= .ptr (.n 1) 0):
  wpA (SpH Tryz.prog gl) (AC.tl 2 c28) (postA [.t 2] (.bool (chk lbOk Lb.n [] lb&&chk (fun r=>ruP r g) Ru.n [] ru))) ⟨e,[(.n 1,[.str n,.int .u32 t,i6 g,i6 a,i6 o,i6 c,.sl (lb.map Lb.row),.sl (ru.map Ru.row)])],[]⟩:=by
 have ec:AC.tl 2 c28=AC.cutAt 1 (AC.tl 3 c28) (AC.tl 2 c28):=rfl
 rw [ec]
 have tail:=rgoal_rules n t g a o c (lb.map Lb.row) ru hl hf
 generalize AC.tl 3 c28=TT at tail ⊢
 obtain ⟨R,hR⟩: ∃R,R=chk lbOk Lb.n [] lb:=⟨_,rfl⟩
 obtain ⟨R2,hR2⟩: ∃R2,R2=chk (fun r=>ruP r g) Ru.n [] ru:=⟨_,rfl⟩
 rw [←hR2] at tail
 rw [←hR,←hR2]
 clear hR2
 have rat:=rows_atF Lb.row lb
 have rl:(lb.map Lb.row).length=lb.length:=by simp
 generalize lb.map Lb.row=RU at *
 generalize ru.map Ru.row=RR at *
 simp only [c28,AC.tl,AC.cutAt]
 simp -implicitDefEqProofs
 refine wp_lpk (α:=Nat) (fun i=>⟨[(1,.ptr (.n 1) 0),(3,i6 i)],[(.n 1,[.str n,.int .u32 t,i6 g,i6 a,i6 o,i6 c,.sl RU,.sl RR])],[]⟩)
  (fun i=>i≤lb.length∧chk lbOk Lb.n ((lb.take i).map Lb.n) (lb.drop i)=R) (fun i=>lb.length - i) ?_ 0 ?_ ?_
 ·rintro K i hK ⟨h1,h2⟩
  by_cases gi:i<lb.length
  ·have t1:IntKind.i64.wrap ((i:Int)+1)=(i+1:Nat):=by rw [wrap_i64]<;>omega
   have ra:=rat i gi
   have gR:i<RU.length:=by omega
   rw [chk_at _ _ _ _ gi] at h2
   have hfi:=hfl lb[i] (List.getElem_mem _)
   have N:=rname_spec lb[i].n (by have:=hfi.1;omega)
   have G:=rgood_spec lb[i].t (by have:=hfi.2;omega)
   have C:=runes_spec lb[i].t (by have:=hfi.2;omega)
   have cl:=runeRows_len (runesL lb[i].t 0)
   have ra2: ∀k (hk:k<lb.length),∀h,RU[k]'h=[.str lb[k].n,.str lb[k].t]:=fun k hk h=>by rw [rat k hk h];rfl
   have fin:lbOk lb[i]=true→((lb.take i).map Lb.n).contains lb[i].n=false→ ∀σ',Weak σ' ⟨[(1,.ptr (.n 1) 0),(3,i6 (i+1:Nat))],[(.n 1,[.str n,.int .u32 t,i6 g,i6 a,i6 o,i6 c,.sl RU,.sl RR])],[]⟩→K σ':=
    fun hb hd σ' hσ=>hK (i+1) σ' ⟨by omega,by rw [hb,hd] at h2;simpa using h2⟩ (by omega) hσ
   have hno:lbOk lb[i]=false→R=false:=fun hd=>by rw [hd] at h2;simpa using h2.symm
   have hno2:((lb.take i).map Lb.n).contains lb[i].n=true→R=false:=fun hd=>by rw [hd] at h2;simpa using h2.symm
   have nat:=fun k hk=>names_at Lb.n lb i k hk (by omega)
   have nl:((lb.take i).map Lb.n).length=i:=by simp;omega
   clear hK h2 hR
   unfold lbOk at fin hno
   generalize hnm:nameT lb[i].n=b1 at *
   generalize goodR (runesL lb[i].t 0)=b2 at *
   generalize runeRows (runesL lb[i].t 0)=RW at *
   generalize (runesL lb[i].t 0).length=cc at *
   clear hnm
   by_cases hc:cc≤120
   ·have hc': ¬(120:Int)<cc:=by omega
    have hc2: ¬120<cc:=by omega
    rw [decide_eq_true hc] at fin hno
    cases b1
    ·rw [hno (by simp)]
     simp -implicitDefEqProofs [gi,gR,ra2 i gi,rl]
     refine onC_mk _ (N) ?_
     simp -implicitDefEqProofs
    ·cases b2
     ·rw [hno (by simp)]
      simp -implicitDefEqProofs [gi,gR,ra2 i gi,rl]
      refine onC_mk _ (N) ?_
      simp -implicitDefEqProofs
      refine onC_mk _ (G) ?_
      simp -implicitDefEqProofs
     ·have fin:=fin (by simp)
      clear hno
      simp -implicitDefEqProofs [gi,gR,ra2 i gi,rl]
      refine onC_mk _ (N) ?_
      simp -implicitDefEqProofs
      refine onC_mk _ (G) ?_
      simp -implicitDefEqProofs
      refine onC_mk _ (C) ?_
      simp -implicitDefEqProofs [cl,hc',hc2]
      generalize (lb.take i).map Lb.n=NN at *
      refine wp_lpk (α:=Nat) (fun k=>⟨[(1,.ptr (.n 1) 0),(3,i6 i),(4,.ptr (.n 4) 0),(5,i6 k)],[(.n 1,[.str n,.int .u32 t,i6 g,i6 a,i6 o,i6 c,.sl RU,.sl RR]),(.n 4,[.str lb[i].n,.str lb[i].t])],[]⟩)
       (fun k=>k≤i∧(NN.drop k).contains lb[i].n=NN.contains lb[i].n) (fun k=>i - k) ?_ 0 ?_ ?_
      ·rintro K2 k hK2 ⟨k1,k2⟩
       by_cases gk:k<i
       ·have gk':(k:Int)<i:=by omega
        have t2:IntKind.i64.wrap ((k:Int)+1)=(k+1:Nat):=by rw [wrap_i64]<;>omega
        obtain ⟨q1,q2⟩:=nat k gk
        rw [contains_step NN k q1,q2] at k2
        have rk:=ra2 k (by omega)
        have gRk:k<RU.length:=by omega
        have fin2:(lb[k].n==lb[i].n)=false→ ∀σ',Weak σ' ⟨[(1,.ptr (.n 1) 0),(3,i6 i),(4,.ptr (.n 4) 0),(5,i6 (k+1:Nat))],[(.n 1,[.str n,.int .u32 t,i6 g,i6 a,i6 o,i6 c,.sl RU,.sl RR]),(.n 4,[.str lb[i].n,.str lb[i].t])],[]⟩→K2 σ':=
         fun hd σ' hσ=>hK2 (k+1) σ' ⟨by omega,by rw [hd,Bool.false_or] at k2;exact k2⟩ (by omega) hσ
        clear hK2 fin nat ra2 ra rat
        cases b2:(lb[k].n==lb[i].n)
        ·have fin2:=fin2 b2
         simp -implicitDefEqProofs [gk,gk',gRk,rk,b2]
         refine fin2 _ ?_
         refine weak_mk ?_ ?_ ?_ ?_ ?_ ?_<;>simp -implicitDefEqProofs [t2]
        ·rw [b2,Bool.true_or] at k2
         rw [hno2 k2.symm]
         simp -implicitDefEqProofs [gk,gk',gRk,rk,b2]
       ·obtain rfl:k=i:=by omega
        rw [List.drop_eq_nil_of_le (by omega)] at k2
        have fin:=fin (by rw [←k2];rfl)
        clear hK2
        simp -implicitDefEqProofs
        refine fin _ ?_
        refine weak_mk ?_ ?_ ?_ ?_ ?_ ?_<;>simp -implicitDefEqProofs [t1]
      ·exact ⟨Nat.zero_le _,rfl⟩
      ·refine weak_mk ?_ ?_ ?_ ?_ ?_ ?_<;>simp -implicitDefEqProofs
   ·have hc':(120:Int)<cc:=by omega
    have hc2:120<cc:=by omega
    rw [decide_eq_false hc] at hno
    rw [hno (by simp)]
    simp -implicitDefEqProofs [gi,gR,ra2 i gi,rl]
    repeat' first
     |(refine onC_mk _ (N) ?_;simp -implicitDefEqProofs [cl,hc',hc2])
     |(refine onC_mk _ (G) ?_;simp -implicitDefEqProofs [cl,hc',hc2])
     |(refine onC_mk _ (C) ?_;simp -implicitDefEqProofs [cl,hc',hc2])
     |(refine onB_mk (fun h=>?_) (fun h=>?_)<;>(try simp only [Bool.not_eq_true',Bool.not_eq_false',decide_eq_true_eq,decide_eq_false_iff_not] at h)<;>simp -implicitDefEqProofs [h,cl,hc',hc2])
  ·obtain rfl:i=lb.length:=by omega
   rw [List.drop_length] at h2
   have:R=true:=by rw [←h2];rfl
   subst this
   clear hK
   simp -implicitDefEqProofs [rl]
   refine tail _ ?_
   simp -implicitDefEqProofs
 ·exact ⟨Nat.zero_le _,by rw [hR];rfl⟩
 ·refine weak_mk ?_ ?_ ?_ ?_ ?_ ?_<;>simp -implicitDefEqProofs [l1]
theorem qgoal_spec (x:Gl) (hf:x.Fit):Sp Tryz.prog gl 28 [.agg x.row] (.bool (goalP x)):=by
 refine s28 rfl rfl ?_
 rw [←goalQ_eq]
 have ec:c28=AC.cutAt 2 (AC.tl 2 c28) c28:=rfl
 rw [ec]
 have N:=rname_spec x.n (by have:=hf.n;omega)
 obtain ⟨nm,t,g,a,o,c,lb,ru⟩:=x
 have tail:=rgoal_labels nm t g a o c lb ru hf.lb hf.lbs hf.ru hf.rus
 generalize AC.tl 2 c28=TT at tail ⊢
 have hR:goalQ ⟨nm,t,g,a,o,c,lb,ru⟩=(!(!nameT nm||(decide ((t:Int)<1)||(decide ((999999:Int)<t)||(!btw g 1 86400||(!btw a 0 86400||(!btw o 0 34560000||(o.tmod g !=0||(decide (c<0)||(decide (2<c)||(decide ((4:Int)<lb.length)||(decide ((ru.length:Int)<1)||decide ((4:Int)<ru.length))))))))))))&&(chk lbOk Lb.n [] lb&&chk (fun r=>ruP r g) Ru.n [] ru)):=rfl
 have rl1:(lb.map Lb.row).length=lb.length:=by simp
 have rl2:(ru.map Ru.row).length=ru.length:=by simp
 simp only [Gl.row] at N tail ⊢
 clear hf ec
 have B2:=rin_spec g 1 86400
 have B3:=rin_spec a 0 86400
 have B4:=rin_spec o 0 34560000
 generalize goalQ ⟨nm,t,g,a,o,c,lb,ru⟩=R at *
 generalize (chk lbOk Lb.n [] lb&&chk (fun r=>ruP r g) Ru.n [] ru)=E at *
 generalize nameT nm=b0 at *
 generalize lb.map Lb.row=LB at *
 generalize ru.map Ru.row=RU at *
 generalize x3:btw a 0 86400=b3 at *
 generalize x4:btw o 0 34560000=b4 at *
 generalize lb.length=n1 at *
 generalize ru.length=n2 at *
 clear x3 x4
 have y1:(decide ((t:Int)<1))=decide (t=0):=by rw [Bool.eq_iff_iff];simp;omega
 generalize hm1:decide ((t:Int)<1)=m1 at *
 generalize hm2:decide ((999999:Int)<t)=m2 at *
 generalize hm4:decide (c<0)=m4 at *
 generalize hm5:decide (2<c)=m5 at *
 generalize hm6:decide ((4:Int)<(n1:Int))=m6 at *
 generalize hm7:decide ((n2:Int)<1)=m7 at *
 generalize hm8:decide ((4:Int)<(n2:Int))=m8 at *
 simp only [c28,AC.cutAt]
 by_cases g0:1≤g∧g≤86400
 ·have e2:btw g 1 86400=true:=decide_eq_true g0
  have g1: ¬g=0:=by omega
  rw [e2] at B2 hR
  clear e2
  generalize hm3:(o.tmod g !=0)=m3 at *
  simp -implicitDefEqProofs
  repeat' first
   |(refine onC_mk _ (N) ?_;simp -implicitDefEqProofs [g1,rl1,rl2,hm1,hm2,hm3,hm4,hm5,hm6,hm7,hm8])
   |(refine onC_mk _ (B2) ?_;simp -implicitDefEqProofs [g1,rl1,rl2,hm1,hm2,hm3,hm4,hm5,hm6,hm7,hm8])
   |(refine onC_mk _ (B3) ?_;simp -implicitDefEqProofs [g1,rl1,rl2,hm1,hm2,hm3,hm4,hm5,hm6,hm7,hm8])
   |(refine onC_mk _ (B4) ?_;simp -implicitDefEqProofs [g1,rl1,rl2,hm1,hm2,hm3,hm4,hm5,hm6,hm7,hm8])
   |(refine onB_mk (fun h=>?_) (fun h=>?_)<;>(try simp only [Bool.not_eq_true',Bool.not_eq_false',decide_eq_true_eq,decide_eq_false_iff_not] at h)<;>simp -implicitDefEqProofs [h,g1,rl1,rl2,hm1,hm2,hm3,hm4,hm5,hm6,hm7,hm8])
  all_goals first
   |(rw [hR];simp [*];done)
   |(rw [hR];simp_all;done)
 ·have e2:btw g 1 86400=false:=decide_eq_false g0
  rw [e2] at B2 hR
  clear e2 tail
  simp -implicitDefEqProofs
  repeat' first
   |(refine onC_mk _ (N) ?_;simp -implicitDefEqProofs [rl1,rl2,hm1,hm2])
   |(refine onC_mk _ (B2) ?_;simp -implicitDefEqProofs [rl1,rl2,hm1,hm2])
   |(refine onB_mk (fun h=>?_) (fun h=>?_)<;>(try simp only [Bool.not_eq_true',Bool.not_eq_false',decide_eq_true_eq,decide_eq_false_iff_not] at h)<;>simp -implicitDefEqProofs [h,rl1,rl2,hm1,hm2])
  all_goals first
   |(rw [hR];simp [*];done)
   |(rw [hR];simp_all;done)
open Go.Proofs
end Go.Ai
namespace Go.Ai
open Go.Proofs
def heavyLb (y:Lb):Bool:=decide ((2000:Int)<y.n.length)||decide ((2000:Int)<y.t.length)
def heavyRu (y:Ru):Bool:=decide ((2000:Int)<y.n.length)
def heavyG (x:Gl):Bool:=(decide ((2000:Int)<x.n.length)||(decide ((10:Int)<x.lb.length)||decide ((10:Int)<x.ru.length)))||(x.lb.any heavyLb||x.ru.any heavyRu)
theorem any_at {α:Type} (p:α→Bool) (l:List α) (i:Nat) (h:i<l.length):(l.drop i).any p=(p l[i]||(l.drop (i+1)).any p):=by
 rw [List.drop_eq_getElem_cons h,List.any_cons]
theorem heavyG_rules (n:List UInt8) (t:Nat) (g a o c:Int) (LB:List (List AV)) (ru:List Ru) (hl:ru.length≤10) (e:List (Nat×AV)) (l1:lk e 1= .ptr (.n 1) 0):
  wpA (SpH Tryz.prog gl) (AC.tl 3 c26) (postA [.t 2] (.bool (ru.any heavyRu))) ⟨e,[(.n 1,[.str n,.int .u32 t,i6 g,i6 a,i6 o,i6 c,.sl LB,.sl (ru.map Ru.row)])],[]⟩:=by
 obtain ⟨R,hR⟩: ∃R,R=ru.any heavyRu:=⟨_,rfl⟩
 rw [←hR]
 have rat: ∀i (h:i<ru.length),∀h2,(ru.map Ru.row)[i]'h2=[.str ru[i].n,.bool ru[i].p,i6 ru[i].l,i6 ru[i].s,u ru[i].f,i6 ru[i].w,i6 ru[i].k]:=fun i h h2=>by simp [Ru.row]
 have rl:(ru.map Ru.row).length=ru.length:=by simp
 generalize ru.map Ru.row=RU at *
 simp only [c26,AC.tl]
 simp -implicitDefEqProofs
 refine wp_lpk (α:=Nat) (fun i=>⟨[(1,.ptr (.n 1) 0),(4,i6 i)],[(.n 1,[.str n,.int .u32 t,i6 g,i6 a,i6 o,i6 c,.sl LB,.sl RU])],[]⟩)
  (fun i=>i≤ru.length∧(ru.drop i).any heavyRu=R) (fun i=>ru.length - i) ?_ 0 ?_ ?_
 ·rintro K i hK ⟨h1,h2⟩
  by_cases gi:i<ru.length
  ·have t1:IntKind.i64.wrap ((i:Int)+1)=(i+1:Nat):=by rw [wrap_i64]<;>omega
   have ra:=rat i gi
   have gR:i<RU.length:=by omega
   rw [any_at _ _ _ gi] at h2
   have fin:heavyRu ru[i]=false→ ∀σ',Weak σ' ⟨[(1,.ptr (.n 1) 0),(4,i6 (i+1:Nat))],[(.n 1,[.str n,.int .u32 t,i6 g,i6 a,i6 o,i6 c,.sl LB,.sl RU])],[]⟩→K σ':=
    fun hb σ' hσ=>hK (i+1) σ' ⟨by omega,by rw [hb,Bool.false_or] at h2;exact h2⟩ (by omega) hσ
   have hno:heavyRu ru[i]=true→R=true:=fun hb=>by rw [hb,Bool.true_or] at h2;exact h2.symm
   unfold heavyRu at fin hno
   clear hK h2 hR rat
   generalize ru[i].n=yn at *
   by_cases q:(2000:Int)<yn.length
   ·have q2:2000<yn.length:=by omega
    rw [hno (by simpa using q)]
    simp -implicitDefEqProofs [gi,gR,ra,rl,q,q2]
   ·have q2: ¬2000<yn.length:=by omega
    have fin:=fin (by simpa using q)
    simp -implicitDefEqProofs [gi,gR,ra,rl,q,q2]
    refine fin _ ?_
    refine weak_mk ?_ ?_ ?_ ?_ ?_ ?_<;>simp -implicitDefEqProofs [t1]
  ·obtain rfl:i=ru.length:=by omega
   rw [List.drop_length] at h2
   have:R=false:=by rw [←h2];rfl
   subst this
   clear hK
   simp -implicitDefEqProofs [rl]
 ·exact ⟨Nat.zero_le _,by rw [hR];rfl⟩
 ·refine weak_mk ?_ ?_ ?_ ?_ ?_ ?_<;>simp -implicitDefEqProofs [l1]
theorem heavyG_labels (n:List UInt8) (t:Nat) (g a o c:Int) (lb:List Lb) (ru:List Ru) (hll:lb.length≤10) (hl:ru.length≤10) (e:List (Nat×AV)) (l1:lk e 1= .ptr (.n 1) 0):
  wpA (SpH Tryz.prog gl) (AC.tl 2 c26) (postA [.t 2] (.bool (lb.any heavyLb||ru.any heavyRu))) ⟨e,[(.n 1,[.str n,.int .u32 t,i6 g,i6 a,i6 o,i6 c,.sl (lb.map Lb.row),.sl (ru.map Ru.row)])],[]⟩:=by
 have ec:AC.tl 2 c26=AC.cutAt 1 (AC.tl 3 c26) (AC.tl 2 c26):=rfl
 rw [ec]
 have tail:=heavyG_rules n t g a o c (lb.map Lb.row) ru hl
 generalize AC.tl 3 c26=TT at tail ⊢
 obtain ⟨R,hR⟩: ∃R,R=lb.any heavyLb:=⟨_,rfl⟩
 rw [←hR]
 generalize ru.any heavyRu=R2 at *
 have rat: ∀i (h:i<lb.length),∀h2,(lb.map Lb.row)[i]'h2=[.str lb[i].n,.str lb[i].t]:=fun i h h2=>by simp [Lb.row]
 have rl:(lb.map Lb.row).length=lb.length:=by simp
 generalize lb.map Lb.row=RU at *
 generalize ru.map Ru.row=RR at *
 simp only [c26,AC.tl,AC.cutAt]
 simp -implicitDefEqProofs
 refine wp_lpk (α:=Nat) (fun i=>⟨[(1,.ptr (.n 1) 0),(3,i6 i)],[(.n 1,[.str n,.int .u32 t,i6 g,i6 a,i6 o,i6 c,.sl RU,.sl RR])],[]⟩)
  (fun i=>i≤lb.length∧(lb.drop i).any heavyLb=R) (fun i=>lb.length - i) ?_ 0 ?_ ?_
 ·rintro K i hK ⟨h1,h2⟩
  by_cases gi:i<lb.length
  ·have t1:IntKind.i64.wrap ((i:Int)+1)=(i+1:Nat):=by rw [wrap_i64]<;>omega
   have ra:=rat i gi
   have gR:i<RU.length:=by omega
   rw [any_at _ _ _ gi] at h2
   have fin:heavyLb lb[i]=false→ ∀σ',Weak σ' ⟨[(1,.ptr (.n 1) 0),(3,i6 (i+1:Nat))],[(.n 1,[.str n,.int .u32 t,i6 g,i6 a,i6 o,i6 c,.sl RU,.sl RR])],[]⟩→K σ':=
    fun hb σ' hσ=>hK (i+1) σ' ⟨by omega,by rw [hb,Bool.false_or] at h2;exact h2⟩ (by omega) hσ
   have hno:heavyLb lb[i]=true→R=true:=fun hb=>by rw [hb,Bool.true_or] at h2;exact h2.symm
   unfold heavyLb at fin hno
   clear hK h2 hR rat tail
   generalize lb[i].n=yn at *
   generalize lb[i].t=yt at *
   by_cases q:(2000:Int)<yn.length
   ·have q2:2000<yn.length:=by omega
    rw [hno (by rw [decide_eq_true q,Bool.true_or])]
    simp -implicitDefEqProofs [gi,gR,ra,rl,q,q2]
   ·have q2: ¬2000<yn.length:=by omega
    by_cases q3:(2000:Int)<yt.length
    ·have q4:2000<yt.length:=by omega
     rw [hno (by rw [decide_eq_true q3,Bool.or_true])]
     simp -implicitDefEqProofs [gi,gR,ra,rl,q,q2,q3,q4]
    ·have q4: ¬2000<yt.length:=by omega
     have fin:=fin (by rw [decide_eq_false q,decide_eq_false q3];rfl)
     simp -implicitDefEqProofs [gi,gR,ra,rl,q,q2,q3,q4]
     refine fin _ ?_
     refine weak_mk ?_ ?_ ?_ ?_ ?_ ?_<;>simp -implicitDefEqProofs [t1]
  ·obtain rfl:i=lb.length:=by omega
   rw [List.drop_length] at h2
   have:R=false:=by rw [←h2];rfl
   subst this
   clear hK
   simp -implicitDefEqProofs [rl]
   refine tail _ ?_
   simp -implicitDefEqProofs
 ·exact ⟨Nat.zero_le _,by rw [hR];rfl⟩
 ·refine weak_mk ?_ ?_ ?_ ?_ ?_ ?_<;>simp -implicitDefEqProofs [l1]
theorem heavyG_spec (x:Gl):Sp Tryz.prog gl 26 [.agg x.row] (.bool (heavyG x)):=by
 refine s26 rfl rfl ?_
 have ec:c26=AC.cutAt 2 (AC.tl 2 c26) c26:=rfl
 rw [ec]
 obtain ⟨nm,t,g,a,o,c,lb,ru⟩:=x
 have tail:=fun h1 h2=>heavyG_labels nm t g a o c lb ru h1 h2
 generalize AC.tl 2 c26=TT at tail ⊢
 have hR:heavyG ⟨nm,t,g,a,o,c,lb,ru⟩=((decide ((2000:Int)<nm.length)||(decide ((10:Int)<lb.length)||decide ((10:Int)<ru.length)))||(lb.any heavyLb||ru.any heavyRu)):=rfl
 have rl1:(lb.map Lb.row).length=lb.length:=by simp
 have rl2:(ru.map Ru.row).length=ru.length:=by simp
 simp only [Gl.row]
 generalize heavyG ⟨nm,t,g,a,o,c,lb,ru⟩=R at *
 generalize (lb.any heavyLb||ru.any heavyRu)=E at *
 generalize lb.map Lb.row=LB at *
 generalize ru.map Ru.row=RU at *
 generalize lb.length=n1 at *
 generalize ru.length=n2 at *
 simp only [c26,AC.cutAt]
 by_cases q1:(2000:Int)<nm.length
 ·have q1':2000<nm.length:=by omega
  rw [decide_eq_true q1] at hR
  simp -implicitDefEqProofs [q1,q1',hR]
 ·have q1': ¬2000<nm.length:=by omega
  by_cases q2:(10:Int)<n1
  ·have q2':10<n1:=by omega
   rw [decide_eq_true q2] at hR
   simp -implicitDefEqProofs [q1,q1',rl1,q2,q2',hR]
  ·have q2': ¬10<n1:=by omega
   by_cases q3:(10:Int)<n2
   ·have q3':10<n2:=by omega
    rw [decide_eq_true q3] at hR
    simp -implicitDefEqProofs [q1,q1',rl1,rl2,q2,q2',q3,q3',hR]
   ·have q3': ¬10<n2:=by omega
    rw [decide_eq_false q1,decide_eq_false q2,decide_eq_false q3] at hR
    have tail:=tail (by omega) (by omega)
    have:R=E:=by rw [hR];rfl
    subst this
    simp -implicitDefEqProofs [q1,q1',rl1,rl2,q2,q2',q3,q3']
    refine tail _ ?_
    simp -implicitDefEqProofs
open Go.Proofs
theorem heavyG_fit {x:Gl} (h:heavyG x=false):x.Fit:=by
 unfold heavyG at h
 simp only [Bool.or_eq_false_iff,decide_eq_false_iff_not,List.any_eq_false,Bool.not_eq_true] at h
 obtain ⟨⟨h1,h2,h3⟩,h4,h5⟩:=h
 refine ⟨by omega,by omega,by omega,fun y hy=>?_,fun y hy=>?_⟩
 ·have:=h4 y hy
  simp only [heavyLb,Bool.or_eq_false_iff,decide_eq_false_iff_not] at this
  exact ⟨by omega,by omega⟩
 ·have:=h5 y hy
  simp only [heavyRu,decide_eq_false_iff_not] at this
  show y.n.length≤2000
  omega
open Go.Proofs
theorem okE:okAll 0 (flatL itE 1)=true:=by
 have n1:=nameT_asc [110,111,116,105,102,121] (by decide) (by decide)
 have n2:=nameT_asc [114,111,111,109] (by decide) (by decide)
 have n3:=nameT_asc [114,101,115,101,114,118,101] (by decide) (by decide)
 have n4:=nameT_asc [102,105,114,115,116] (by decide) (by decide)
 have n5:=nameT_asc [99,97,112] (by decide) (by decide)
 have n6:=nameT_asc [114,101,112,101,97,116] (by decide) (by decide)
 have w1:wordT ⟨3,[],16,0,0⟩=true:=rfl
 have w2:wordT ⟨3,[],0,0,0⟩=true:=rfl
 have w3:wordT ⟨6,[],10,0,0⟩=true:=rfl
 have w4:wordT ⟨6,[],300,0,0⟩=true:=rfl
 have w5:wordT ⟨6,[],0,0,0⟩=true:=rfl
 simp only [itE,kidE,flatL,flatI,okAll,okIt,n1,n2,n3,n4,n5,n6,w1,w2,w3,w4,w5,List.all_cons,List.all_nil,List.append_nil,List.cons_append,List.nil_append]
 rfl
theorem tkc3 (n:Nat):tkS ⟨3,[],n,0,0⟩=dec n:=by
 unfold tkS tkP
 rw [show tkR 3 [] n=true from rfl]
 simp only [if_neg (show ¬true=false by decide),if_neg (show ¬(3:Int)=1 by decide),if_neg (show ¬(3:Int)=2 by decide),if_pos]
theorem tkc6 (n:Nat) (h:tkR 6 [] n=true):tkS ⟨6,[],n,0,0⟩=spP n:=by
 unfold tkS tkP
 rw [h]
 simp only [if_neg (show ¬true=false by decide),if_neg (show ¬(6:Int)=1 by decide),if_neg (show ¬(6:Int)=2 by decide),if_neg (show ¬(6:Int)=3 by decide),if_neg (show ¬(6:Int)=4 by decide),if_neg (show ¬(6:Int)=5 by decide),if_true]
theorem prE:prL 0 itE=[110,111,116,105,102,121,32,123,10,32,32,114,111,111,109,32,49,54,59,10,32,32,114,101,115,101,114,118,101,32,48,59,10,32,32,102,105,114,115,116,32,49,48,115,59,10,32,32,99,97,112,32,53,109,59,10,32,32,114,101,112,101,97,116,32,48,115,59,10,125,10]:=by
 have w1:tkS ⟨3,[],16,0,0⟩=[49,54]:=by rw [tkc3];simp [dec]
 have w2:tkS ⟨3,[],0,0,0⟩=[48]:=by rw [tkc3];simp [dec]
 have w3:tkS ⟨6,[],10,0,0⟩=[49,48,115]:=by rw [tkc6 10 rfl];unfold spP;simp [unL,spG,dec]
 have w4:tkS ⟨6,[],300,0,0⟩=[53,109]:=by rw [tkc6 300 rfl];unfold spP;simp [unL,spG,dec]
 have w5:tkS ⟨6,[],0,0,0⟩=[48,115]:=by rw [tkc6 0 rfl];unfold spP;simp [unL,spG,dec]
 simp only [itE,kidE,prL,prI,wdS,w1,w2,w3,w4,w5,if_true,if_neg (show ¬true=false by decide),indS,Lib.repeatL,List.append_nil]
 rfl
theorem print_ex:Sp Tryz.prog gl 51 [.agg [.sl [],i6 16,i6 0,i6 10,i6 300,i6 0]] (.tup [.str (prL 0 itE),i6 0]):=by
 refine s51 rfl rfl ?_
 have LP:=lprint_spec itE (by decide) (by simp [itE,kidE,bdL,bdI]) (by simp [itE,kidE,nuL,nuI])
 unfold lprV at LP
 rw [okE,if_pos rfl] at LP
 have I:=items_ex
 generalize prL 0 itE=T at *
 generalize itRows itE=RU at *
 simp -implicitDefEqProofs [c51]
 refine onC_mk _ (I) ?_
 simp -implicitDefEqProofs
 refine onC_mk _ (LP) ?_
 simp -implicitDefEqProofs
theorem awake17_spec:Sp Tryz.prog gl 25 [] (.bool true):=by
 refine s25 rfl rfl ?_
 have P:=print_ex
 rw [prE] at P
 simp -implicitDefEqProofs [c25]
 refine onC_mk _ (P) ?_
 simp -implicitDefEqProofs
theorem showGoals_spec (x:Gl) (r:Ru) (g:Int):Sp Tryz.prog gl 7 [.agg x.row,.agg r.row,i6 g] (.bool true):=by
 refine s7 rfl rfl ?_
 have AW:=awake17_spec
 have H:=heavyG_spec x
 have hgx:x.row=[.str x.n,.int .u32 x.t,i6 x.g,i6 x.a,i6 x.o,i6 x.c,.sl (x.lb.map Lb.row),.sl (x.ru.map Ru.row)]:=rfl
 have hgr:r.row=[.str r.n,.bool r.p,i6 r.l,i6 r.s,u r.f,i6 r.w,i6 r.k]:=rfl
 cases hh:heavyG x
 ·have F:=heavyG_fit hh
  have G1:=goal_spec x F
  have G2:=qgoal_spec x F
  by_cases hn:2000<r.n.length
  ·have hn':(2000:Int)<r.n.length:=by omega
   rw [hh] at H
   clear G1 G2 F
   rw [hgx] at H
   rw [hgx,hgr]
   simp -implicitDefEqProofs [c7]
   refine onC_mk _ (AW) ?_
   simp -implicitDefEqProofs
   refine onC_mk _ (H) ?_
   simp -implicitDefEqProofs [hn,hn']
  ·have hn': ¬(2000:Int)<r.n.length:=by omega
   have R1:=rru_spec r g (by omega)
   have R2:=qru_spec r g (by omega)
   rw [hh] at H
   rw [hgx] at H G1 G2
   rw [hgr] at R1 R2
   rw [hgx,hgr]
   clear F
   generalize goalP x=b1 at *
   generalize ruP r g=b2 at *
   simp -implicitDefEqProofs [c7]
   refine onC_mk _ (AW) ?_
   simp -implicitDefEqProofs
   refine onC_mk _ (H) ?_
   simp -implicitDefEqProofs [hn,hn']
   refine onC_mk _ (G1) ?_
   simp -implicitDefEqProofs
   refine onC_mk _ (G2) ?_
   simp -implicitDefEqProofs
   refine onC_mk _ (R1) ?_
   simp -implicitDefEqProofs
   refine onC_mk _ (R2) ?_
   simp -implicitDefEqProofs
 ·rw [hh] at H
  rw [hgx] at H
  rw [hgx,hgr]
  simp -implicitDefEqProofs [c7]
  refine onC_mk _ (AW) ?_
  simp -implicitDefEqProofs
  refine onC_mk _ (H) ?_
  simp -implicitDefEqProofs
end Go.Ai
namespace Go.Ai
open Go.Proofs Go.Lib
set_option maxRecDepth 100000
def accCells:List Value:=(List.range 32).map fun o=>Value.int .u8 (if o%2=0 then (accLo (o / 2):Int) else (accHi (o / 2):Int))
def firstCells:List Value:=firstTab.map fun z=>Value.int .u8 z
theorem first_cell {W:World} (h:VarReads Tryz.prog W "unicode/utf8.first" firstData) (o:Nat) (u:Value) (hu:firstCells[o]?=some u):W.cell? ⟨0,o,none⟩=some u∧u.oneCell'=true:=by
 have hg0:Tryz.prog.globalNamed "unicode/utf8.first"=some 0:=by kernel_rfl
 have ht0:(Tryz.prog.globals[0]?).map (·.type)=some 201:=by kernel_rfl
 obtain ⟨g,t,cs,fuel,p,hg,hty,hvar,hd⟩:=h
 obtain rfl:=Option.some.inj (hg0.symm.trans hg)
 obtain rfl:=Option.some.inj (ht0.symm.trans hty)
 have hcs:=cells_of_tab (t:=201) (e:=5) (n:=256) (by kernel_rfl) (by kernel_rfl) (by kernel_rfl) (by kernel_rfl) hd
 refine ⟨?_,?_⟩
 ·rw [World.var?_cell hg hvar o,←Array.getElem?_toList,hcs]
  exact hu
 ·obtain ⟨z,_,rfl⟩:=List.mem_map.1 (List.mem_of_getElem? hu)
  rfl
theorem acc_cell {W:World} (h:VarReads Tryz.prog W "unicode/utf8.acceptRanges" acceptData) (o:Nat) (u:Value) (hu:accCells[o]?=some u):W.cell? ⟨1,o,none⟩=some u∧u.oneCell'=true:=by
 have hg0:Tryz.prog.globalNamed "unicode/utf8.acceptRanges"=some 1:=by kernel_rfl
 have ht0:(Tryz.prog.globals[1]?).map (·.type)=some 204:=by kernel_rfl
 have hc0:Tryz.prog.cellsOf 203=2:=by kernel_rfl
 obtain ⟨g,t,cs,fuel,p,hg,hty,hvar,hd⟩:=h
 obtain rfl:=Option.some.inj (hg0.symm.trans hg)
 obtain rfl:=Option.some.inj (ht0.symm.trans hty)
 have ho:o<32:=by have:=(List.getElem?_eq_some_iff.1 hu).1;simpa [accCells] using this
 simp only [accCells,List.getElem?_map,List.getElem?_range ho,Option.map_some,Option.some.injEq] at hu
 subst hu
 refine ⟨?_,by split<;>rfl⟩
 have hi:o / 2<16:=by omega
 obtain ⟨fuel',d,q,hdi,he⟩:=array_elem (t:=204) (e:=203) (n:=16) (by kernel_rfl) hd (o / 2) hi
 simp only [List.getElem?_map,List.getElem?_range hi,Option.map_some,Option.some.injEq] at hdi
 subst hdi
 rw [hc0] at he
 obtain ⟨fs,hfs,hsz,hf⟩: ∃fs:Array Field,Tryz.prog.underlying 203=some (.struct fs)∧fs.size=2∧ ∀(i:Nat) (f:Field),fs[i]?=some f→Tryz.prog.underlying f.type=some (.int .u8)∧f.offset=i∧Tryz.prog.cellsOf f.type=1:=by
  refine ⟨_,(by kernel_rfl:Tryz.prog.underlying 203=some (.struct #[Field.mk "lo" 5 0 false "" "unicode/utf8" 0,Field.mk "hi" 5 1 false "" "unicode/utf8" 1])),rfl,fun j f hj=>?_⟩
  match j,hj with
  |0,hj=>simp at hj;subst hj;exact ⟨by kernel_rfl,rfl,by kernel_rfl⟩
  |1,hj=>simp at hj;subst hj;exact ⟨by kernel_rfl,rfl,by kernel_rfl⟩
  |j+2,hj=>simp at hj
 have hcs:=ints_of_struct hfs hf (by rw [hc0,hsz]) he
 have e0:=congrArg (·[0]?) hcs
 have e1:=congrArg (·[1]?) hcs
 simp only [List.getElem?_take,List.getElem?_drop] at e0 e1
 rw [World.var?_cell hg hvar o,←Array.getElem?_toList]
 by_cases hp:o%2=0
 ·rw [if_pos hp]
  have eo:o / 2*2+0=o:=by omega
  rw [eo] at e0
  simpa using e0
 ·rw [if_neg hp]
  have eo:o / 2*2+1=o:=by omega
  rw [eo] at e1
  simpa using e1
end Go.Ai
