/- P14: a part of the proof: the rules, or what functions compute. Conditions: as each theorem says. -/
import Derived.Test.YthonkjadcpdphaaGreatDoorP13
import Derived.Test.YthonkjadcpdphaaGreatDoorP11
import Derived.Test.YthonkjadcpdphaaGreatDoorP12
import Derived.Test.YthonkjadcpdphaaGreatDoorP9
set_option linter.unusedSimpArgs false
set_option linter.unusedVariables false
set_option maxRecDepth 20000
namespace Go.Ai
open Go.Proofs
open Go.Proofs
end Go.Ai
namespace Go.Ai
open Go.Proofs
theorem rtick19_spec (n:Int):Sp Tryz.prog gl 38 [i6 n] (.bool (decide (0≤n)&&decide (n≤253402300799))):=by
 refine s38 rfl rfl ?_
 by_cases h:0≤n<;>simp -implicitDefEqProofs [c38,h]
open Go.Proofs
theorem tk_nat {n:Int} (h:tkB n=true): ∃t:Nat,n=t∧t≤253402300799:=by
 simp only [tkB,Bool.and_eq_true,decide_eq_true_eq] at h
 exact ⟨n.toNat,by omega,by omega⟩
theorem cat_bad (n:Int) (h:tkB n=false):Sp Tryz.prog gl 239 [i6 n] (.tup [.agg [i6 0,i6 0,i6 0],i6 8]):=by
 refine s239 rfl rfl ?_
 by_cases h1:n<0
 ·simp [c239,h1]
 ·have h2:253402300799<n:=by
   simp only [tkB,Bool.and_eq_false_iff,decide_eq_false_iff_not] at h
   omega
  simp -implicitDefEqProofs [c239,h1,h2]
theorem cperiod_bad (n s:Int) (h:tkB n=false):Sp Tryz.prog gl 201 [i6 n,i6 s] (.tup [i6 0,i6 0,i6 8]):=by
 refine s201 rfl rfl ?_
 have A:=cat_bad n h
 simp -implicitDefEqProofs [c201]
 refine onC_mk _ (A) ?_
 simp -implicitDefEqProofs
theorem cmonth_bad (n:Int) (h:tkB n=false):Sp Tryz.prog gl 146 [i6 n] (.tup [i6 0,i6 0,i6 8]):=by
 refine s146 rfl rfl ?_
 have A:=cperiod_bad n 1 h
 simp -implicitDefEqProofs [c146]
 refine onC_mk _ (A) ?_
 simp -implicitDefEqProofs
theorem cquarter_bad (n:Int) (h:tkB n=false):Sp Tryz.prog gl 147 [i6 n] (.tup [i6 0,i6 0,i6 8]):=by
 refine s147 rfl rfl ?_
 have A:=cperiod_bad n 3 h
 simp -implicitDefEqProofs [c147]
 refine onC_mk _ (A) ?_
 simp -implicitDefEqProofs
theorem cmonth_any (n:Int): ∃q,Sp Tryz.prog gl 146 [i6 n] (.tup [i6 (perFT 1 n).1,i6 (perFT 1 n).2,i6 q]):=by
 cases h:tkB n with
 |false=>exact ⟨8,by simpa [perFT,h] using cmonth_bad n h⟩
 |true=>
  obtain ⟨t,rfl,ht⟩:=tk_nat h
  exact ⟨0,by simpa [perFT,h] using cmonth_spec t ht⟩
theorem cquarter_any (n:Int): ∃q,Sp Tryz.prog gl 147 [i6 n] (.tup [i6 (perFT 2 n).1,i6 (perFT 2 n).2,i6 q]):=by
 cases h:tkB n with
 |false=>exact ⟨8,by simpa [perFT,h] using cquarter_bad n h⟩
 |true=>
  obtain ⟨t,rfl,ht⟩:=tk_nat h
  exact ⟨0,by simpa [perFT,h] using cquarter_spec t ht⟩
theorem perFT_else {c:Int} (now:Int) (h1:c≠1) (h2:c≠2):perFT c now=(0,0):=by
 unfold perFT
 rw [if_neg h1,if_neg h2]
 split<;>rfl
theorem perFT_bad {c now:Int} (h:tkB now=false):perFT c now=(0,0):=by
 unfold perFT
 rw [h];rfl
theorem rperiod35_tail (now c fr tt f t:Int) (hf:perFT c now=(f,t)) (a0 a1 a2 a3 a4 a6 a7 a8 a9 a12 a13 a14:AV) (E:List (Nat×AV)) (bx:List (Id×List AV)) (pm:List (Pl×Nat))
  (e1:lk E 1=i6 now) (e2:lk E 2= .ptr (.n 2) 0) (hb:lkB bx (.n 2)=some [a0,a1,a2,a3,a4,i6 c,a6,a7,a8,a9,i6 fr,i6 tt,a12,a13,a14]):
  wpA (SpH Tryz.prog gl) (AC.tl 2 c42) (postA [.t 4] (.bool (fr==f&&tt==t))) ⟨E,bx,pm⟩:=by
 simp only [c42,AC.tl]
 have T:=rtick19_spec now
 have k1:(decide (0≤now)&&decide (now≤253402300799))=tkB now:=rfl
 rw [k1] at T
 clear k1
 cases h:tkB now with
 |false=>
  rw [perFT_bad h] at hf
  obtain ⟨rfl,rfl⟩:=Prod.mk.inj hf
  rw [h] at T
  clear h hf
  simp -implicitDefEqProofs [e1,e2,hb]
  refine onC_mk _ (T) ?_
  simp -implicitDefEqProofs [e1,e2,hb]
  refine onC_mk _ (T) ?_
  simp -implicitDefEqProofs [e1,e2,hb]
  by_cases g:fr=0
  ·subst g;simp -implicitDefEqProofs [e1,e2,hb]
  ·have g':(fr==0)=false:=by rw [beq_eq_false_iff_ne];exact g
   simp -implicitDefEqProofs [e1,e2,hb,g,g']
 |true=>
  rw [h] at T
  obtain ⟨n,rfl,hn⟩:=tk_nat h
  have P1:=rperiod05_spec 1 n (.inl rfl) hn
  have P3:=rperiod05_spec 3 n (.inr rfl) hn
  have q1:c=1→f=perF 1 n∧t=perT 1 n:=by
   rintro rfl
   simp only [perFT,h,if_true,Int.toNat_natCast,Prod.mk.injEq] at hf
   exact ⟨hf.1.symm,hf.2.symm⟩
  have q2:c=2→f=perF 3 n∧t=perT 3 n:=by
   rintro rfl
   rw [perFT,h,if_pos rfl,if_neg (by decide),if_pos rfl] at hf
   simp only [Int.toNat_natCast,Prod.mk.injEq] at hf
   exact ⟨hf.1.symm,hf.2.symm⟩
  have q3:c≠1→c≠2→f=0∧t=0:=by
   intro h1 h2
   rw [perFT_else _ h1 h2] at hf
   exact ⟨(Prod.mk.inj hf).1.symm,(Prod.mk.inj hf).2.symm⟩
  clear hf h
  by_cases c1:c=1
  ·obtain ⟨rfl,rfl⟩:=q1 c1
   subst c1
   clear q1 q2 q3 P3
   generalize perF 1 n=F at *
   generalize perT 1 n=G at *
   simp -implicitDefEqProofs [e1,e2,hb]
   refine onC_mk _ (T) ?_
   simp -implicitDefEqProofs [e1,e2,hb]
   refine onC_mk _ (P1) ?_
   simp -implicitDefEqProofs [e1,e2,hb]
   refine onC_mk _ (T) ?_
   simp -implicitDefEqProofs [e1,e2,hb]
   by_cases g:fr=F
   ·subst g;simp -implicitDefEqProofs [e1,e2,hb]
   ·have g':(fr==(F:Int))=false:=by rw [beq_eq_false_iff_ne];exact g
    simp -implicitDefEqProofs [e1,e2,hb,g,g']
  ·have c1':(c==1)=false:=by rw [beq_eq_false_iff_ne];exact c1
   by_cases c2:c=2
   ·obtain ⟨rfl,rfl⟩:=q2 c2
    subst c2
    clear q1 q2 q3 P1
    generalize perF 3 n=F at *
    generalize perT 3 n=G at *
    simp -implicitDefEqProofs [e1,e2,hb]
    refine onC_mk _ (T) ?_
    simp -implicitDefEqProofs [e1,e2,hb]
    refine onC_mk _ (T) ?_
    simp -implicitDefEqProofs [e1,e2,hb]
    refine onC_mk _ (P3) ?_
    simp -implicitDefEqProofs [e1,e2,hb]
    by_cases g:fr=F
    ·subst g;simp -implicitDefEqProofs [e1,e2,hb]
    ·have g':(fr==(F:Int))=false:=by rw [beq_eq_false_iff_ne];exact g
     simp -implicitDefEqProofs [e1,e2,hb,g,g']
   ·have c2':(c==2)=false:=by rw [beq_eq_false_iff_ne];exact c2
    obtain ⟨rfl,rfl⟩:=q3 c1 c2
    clear q1 q2 q3 P1 P3
    simp -implicitDefEqProofs [e1,e2,hb]
    refine onC_mk _ (T) ?_
    simp -implicitDefEqProofs [e1,e2,hb,c1',c1]
    refine onC_mk _ (T) ?_
    simp -implicitDefEqProofs [e1,e2,hb,c2',c2]
    by_cases g:fr=0
    ·subst g;simp -implicitDefEqProofs [e1,e2,hb]
    ·have g':(fr==0)=false:=by rw [beq_eq_false_iff_ne];exact g
     simp -implicitDefEqProofs [e1,e2,hb,g,g']
open Go.Proofs
theorem ib_eq (a b:Int):(a==b)=decide (a=b):=rfl
theorem rperiod35_spec (x:GV) (now:Int):Sp Tryz.prog gl 42 [.agg x.row,i6 now] (.bool (periodF now x)):=by
 refine s42 rfl rfl ?_
 obtain ⟨R,hR⟩: ∃R,R=periodF now x:=⟨_,rfl⟩
 rw [←hR]
 obtain ⟨⟨gn,gt,gg,ga,go,gc,glb,gru⟩,st,ws,fr,tt,cg,cn,al⟩:=x
 simp only [GV.row]
 unfold periodF at hR
 simp only at hR
 have CT:=rcount35_spec cg cn
 have tail:=rperiod35_tail now gc fr tt (perFT gc now).1 (perFT gc now).2 rfl
 generalize (perFT gc now).1=f at *
 generalize (perFT gc now).2=t at *
 simp only [ib_eq] at tail
 have ec:c42=AC.cutAt 2 (AC.tl 2 c42) c42:=rfl
 rw [ec]
 generalize AC.tl 2 c42=tl0 at tail ⊢
 simp only [c42,AC.cutAt]
 generalize glb.map Lb.row=L1 at *
 generalize gru.map Ru.row=L2 at *
 generalize ws.map WV.row=L3 at *
 generalize al.map Al.row=L4 at *
 have tail:=tail (.str gn) (.int .u32 gt) (i6 gg) (i6 ga) (i6 go) (.sl L1) (.sl L2) (.bool st) (.sl L3) (u cg) (u cn) (.sl L4)
 by_cases c0:gc=0
 ·subst c0
  rw [if_pos rfl] at hR
  by_cases z1:cg=0
  ·subst z1
   by_cases z2:cn=0
   ·subst z2
    simp only [decide_true,Bool.and_true] at hR
    rw [←hR] at tail
    have hc:ctB 0 0=true:=by decide
    rw [hc] at CT
    simp -implicitDefEqProofs
    refine onC_mk _ (CT) ?_
    simp -implicitDefEqProofs
    refine tail _ _ _ ?_ ?_ ?_<;>simp -implicitDefEqProofs
   ·have z2':((cn:Int)==0)=false:=by rw [beq_eq_false_iff_ne];omega
    simp [z2] at hR
    subst hR
    simp -implicitDefEqProofs [z2,z2']
  ·have z1':((cg:Int)==0)=false:=by rw [beq_eq_false_iff_ne];omega
   simp [z1] at hR
   subst hR
   simp -implicitDefEqProofs [z1,z1']
 ·have c0':(gc==0)=false:=by rw [beq_eq_false_iff_ne];exact c0
  rw [if_neg c0] at hR
  cases hc:ctB cg cn with
  |false=>
   rw [hc] at hR CT
   simp only [Bool.and_false] at hR
   subst hR
   simp -implicitDefEqProofs [c0,c0']
   refine onC_mk _ (CT) ?_
   simp -implicitDefEqProofs
  |true=>
   rw [hc] at hR CT
   simp only [Bool.and_true] at hR
   rw [←hR] at tail
   simp -implicitDefEqProofs [c0,c0']
   refine onC_mk _ (CT) ?_
   simp -implicitDefEqProofs
   refine tail _ _ _ ?_ ?_ ?_<;>simp -implicitDefEqProofs
theorem periodOf_spec (now:Int) (M:List AV) (hM:M.length=10) (hi:idsL M=[]) (L:List (List AV)) (x:GV) (d:Nat) (b:Id) (hb:b.isIt=false) (hbd:b.isNw d=false):
  SpH Tryz.prog gl 88 d ⟨[.ptr b 0,.agg x.row],[(b,i6 now::M++[.sl L])],[(.b b 11,2)]⟩ ⟨.bool (periodF now x),[(b,i6 now::M++[.sl L])],[(.b b 11,2)]⟩:=by
 refine h88 rfl ?_
 have hib:=inn_notNw hbd
 obtain ⟨R,hR⟩: ∃R,R=periodF now x:=⟨_,rfl⟩
 rw [←hR]
 obtain ⟨⟨gn,gt,gg,ga,go,gc,glb,gru⟩,st,ws,fr,tt,cg,cn,al⟩:=x
 simp only [GV.row]
 unfold periodF at hR
 simp only at hR
 obtain ⟨y1,M1⟩:=cmonth_any now
 obtain ⟨y2,M2⟩:=cquarter_any now
 have CT:=acount_spec cg cn
 have E:=fun h1 h2=>perFT_else (c:=gc) now h1 h2
 have e1:gc=1→perFT gc now=perFT 1 now:=fun h=>by rw [h]
 have e2:gc=2→perFT gc now=perFT 2 now:=fun h=>by rw [h]
 generalize perFT gc now=ft at *
 generalize perFT 1 now=f1 at *
 generalize perFT 2 now=f2 at *
 generalize glb.map Lb.row=L1 at *
 generalize gru.map Ru.row=L2 at *
 generalize ws.map WV.row=L3 at *
 generalize al.map Al.row=L4 at *
 have hN0:idsL (i6 now::M++[AV.sl L])=[]:=by rw [List.cons_append];show idsL (M++[AV.sl L])=[];rw [idsL_apd,hi];simp [idsL,AV.ids]
 have hNm: ∀f,mpL f (i6 now::M++[AV.sl L])=i6 now::M++[AV.sl L]:=fun f=>mpL_noids hN0
 have hNl:(i6 now::M++[AV.sl L]).length=12:=by simp [hM]
 have hN: ∀h:0<(i6 now::M++[AV.sl L]).length,(i6 now::M++[AV.sl L])[0]=i6 now:=fun _=>rfl
 generalize i6 now::M++[AV.sl L]=N at *
 simp only [inSt,mpB,AV.mp,mpP,hNm]
 by_cases c1:gc=1
 ·have c1':(gc==1)=true:=by rw [c1];rfl
  rw [e1 c1] at hR
  have c0: ¬gc=0:=by omega
  rw [if_neg c0] at hR
  clear e1 e2 E M2
  simp -implicitDefEqProofs [c88,c1',hN,hNl,hNm]
  refine onC_mk _ (M1) ?_
  simp -implicitDefEqProofs
  by_cases g1:fr=f1.1
  ·by_cases g2:tt=f1.2
   ·have g1':(fr==f1.1)=true:=by rw [g1];simp
    have g2':(tt==f1.2)=true:=by rw [g2];simp
    simp only [decide_eq_true g1,decide_eq_true g2,Bool.true_and] at hR
    rw [←hR] at CT
    clear g1 g2
    simp -implicitDefEqProofs [g1',g2']
    refine onC_mk _ (CT) ?_
    simp -implicitDefEqProofs
    refine postH_r ⟨?_,?_,?_,?_,?_,?_⟩<;>simp -implicitDefEqProofs [hib,hb,hN0,hNm]
   ·have g1':(fr==f1.1)=true:=by rw [g1];simp
    have g2':(tt==f1.2)=false:=by rw [beq_eq_false_iff_ne];exact g2
    simp only [decide_eq_false g2,Bool.false_and,Bool.and_false] at hR
    subst hR
    clear g1 g2
    simp -implicitDefEqProofs [g1',g2']
    refine postH_r ⟨?_,?_,?_,?_,?_,?_⟩<;>simp -implicitDefEqProofs [hib,hb,hN0,hNm]
  ·have g1':(fr==f1.1)=false:=by rw [beq_eq_false_iff_ne];exact g1
   simp only [decide_eq_false g1,Bool.false_and] at hR
   subst hR
   clear g1
   simp -implicitDefEqProofs [g1']
   refine postH_r ⟨?_,?_,?_,?_,?_,?_⟩<;>simp -implicitDefEqProofs [hib,hb,hN0,hNm]
 ·have c1':(gc==1)=false:=by rw [beq_eq_false_iff_ne];exact c1
  by_cases c2:gc=2
  ·have c2':(gc==2)=true:=by rw [c2];rfl
   rw [e2 c2] at hR
   have c0: ¬gc=0:=by omega
   rw [if_neg c0] at hR
   clear e1 e2 E M1
   simp -implicitDefEqProofs [c88,c1',c2',hN,hNl,hNm]
   refine onC_mk _ (M2) ?_
   simp -implicitDefEqProofs
   by_cases g1:fr=f2.1
   ·by_cases g2:tt=f2.2
    ·have g1':(fr==f2.1)=true:=by rw [g1];simp
     have g2':(tt==f2.2)=true:=by rw [g2];simp
     simp only [decide_eq_true g1,decide_eq_true g2,Bool.true_and] at hR
     rw [←hR] at CT
     clear g1 g2
     simp -implicitDefEqProofs [g1',g2']
     refine onC_mk _ (CT) ?_
     simp -implicitDefEqProofs
     refine postH_r ⟨?_,?_,?_,?_,?_,?_⟩<;>simp -implicitDefEqProofs [hib,hb,hN0,hNm]
    ·have g1':(fr==f2.1)=true:=by rw [g1];simp
     have g2':(tt==f2.2)=false:=by rw [beq_eq_false_iff_ne];exact g2
     simp only [decide_eq_false g2,Bool.false_and,Bool.and_false] at hR
     subst hR
     clear g1 g2
     simp -implicitDefEqProofs [g1',g2']
     refine postH_r ⟨?_,?_,?_,?_,?_,?_⟩<;>simp -implicitDefEqProofs [hib,hb,hN0,hNm]
   ·have g1':(fr==f2.1)=false:=by rw [beq_eq_false_iff_ne];exact g1
    simp only [decide_eq_false g1,Bool.false_and] at hR
    subst hR
    clear g1
    simp -implicitDefEqProofs [g1']
    refine postH_r ⟨?_,?_,?_,?_,?_,?_⟩<;>simp -implicitDefEqProofs [hib,hb,hN0,hNm]
  ·have c2':(gc==2)=false:=by rw [beq_eq_false_iff_ne];exact c2
   rw [E c1 c2] at hR
   simp only at hR
   clear e1 e2 E M1 M2
   by_cases c0:gc=0
   ·have c0':(gc==0)=true:=by rw [c0];rfl
    rw [if_pos c0] at hR
    by_cases g1:fr=0
    ·by_cases g2:tt=0
     ·by_cases z1:cg=0
      ·by_cases z2:cn=0
       ·subst g1 g2 z1 z2
        simp at hR
        subst hR
        simp -implicitDefEqProofs [c88,c0',c1',c2',hN,hNl,hNm]
        refine postH_r ⟨?_,?_,?_,?_,?_,?_⟩<;>simp -implicitDefEqProofs [hib,hb,hN0,hNm]
       ·have z2':((cn:Int)==0)=false:=by rw [beq_eq_false_iff_ne];omega
        subst g1 g2 z1
        simp [z2] at hR
        subst hR
        simp -implicitDefEqProofs [c88,c0',c1',c2',hN,hNl,hNm,z2,z2']
        refine postH_r ⟨?_,?_,?_,?_,?_,?_⟩<;>simp -implicitDefEqProofs [hib,hb,hN0,hNm]
      ·have z1':((cg:Int)==0)=false:=by rw [beq_eq_false_iff_ne];omega
       subst g1 g2
       simp [z1] at hR
       subst hR
       simp -implicitDefEqProofs [c88,c0',c1',c2',hN,hNl,hNm,z1,z1']
       refine postH_r ⟨?_,?_,?_,?_,?_,?_⟩<;>simp -implicitDefEqProofs [hib,hb,hN0,hNm]
     ·have g2':(tt==0)=false:=by rw [beq_eq_false_iff_ne];exact g2
      subst g1
      simp [g2] at hR
      subst hR
      simp -implicitDefEqProofs [c88,c0',c1',c2',hN,hNl,hNm,g2,g2']
      refine postH_r ⟨?_,?_,?_,?_,?_,?_⟩<;>simp -implicitDefEqProofs [hib,hb,hN0,hNm]
    ·have g1':(fr==0)=false:=by rw [beq_eq_false_iff_ne];exact g1
     simp [g1] at hR
     subst hR
     simp -implicitDefEqProofs [c88,c0',c1',c2',hN,hNl,hNm,g1,g1']
     refine postH_r ⟨?_,?_,?_,?_,?_,?_⟩<;>simp -implicitDefEqProofs [hib,hb,hN0,hNm]
   ·have c0':(gc==0)=false:=by rw [beq_eq_false_iff_ne];exact c0
    rw [if_neg c0] at hR
    by_cases g1:fr=0
    ·by_cases g2:tt=0
     ·subst g1 g2
      simp only [decide_true,Bool.true_and] at hR
      rw [←hR] at CT
      simp -implicitDefEqProofs [c88,c0',c1',c2',hN,hNl,hNm]
      refine onC_mk _ (CT) ?_
      simp -implicitDefEqProofs
      refine postH_r ⟨?_,?_,?_,?_,?_,?_⟩<;>simp -implicitDefEqProofs [hib,hb,hN0,hNm]
     ·have g2':(tt==0)=false:=by rw [beq_eq_false_iff_ne];exact g2
      subst g1
      simp [g2] at hR
      subst hR
      simp -implicitDefEqProofs [c88,c0',c1',c2',hN,hNl,hNm,g2,g2']
      refine postH_r ⟨?_,?_,?_,?_,?_,?_⟩<;>simp -implicitDefEqProofs [hib,hb,hN0,hNm]
    ·have g1':(fr==0)=false:=by rw [beq_eq_false_iff_ne];exact g1
     simp [g1] at hR
     subst hR
     simp -implicitDefEqProofs [c88,c0',c1',c2',hN,hNl,hNm,g1,g1']
     refine postH_r ⟨?_,?_,?_,?_,?_,?_⟩<;>simp -implicitDefEqProofs [hib,hb,hN0,hNm]
open Go.Proofs
theorem altick_spec (n:Int):Sp Tryz.prog gl 203 [i6 n] (.bool (tkB n)):=by
 refine s203 rfl rfl ?_
 unfold tkB
 by_cases h:0≤n<;>simp -implicitDefEqProofs [c203,h]
theorem ph_cases (p:Int):p=0∨p=1∨p=2∨p=3∨(p≠0∧p≠1∧p≠2∧p≠3):=by omega
theorem nb_eq (a:Nat):((a:Int)==0)=decide (a=0):=by
 by_cases h:a=0
 ·subst h;rfl
 ·rw [decide_eq_false h,beq_eq_false_iff_ne];omega
theorem nb_ep (a:Nat):(decide ((1:Int)≤a)&&decide ((a:Int)≤4611686018427387904))=epB a:=by
 unfold epB
 congr 1
 ·exact decide_eq_decide.2 (by omega)
 ·exact decide_eq_decide.2 (by omega)
def alRightN (n:Bool) (a:Al):Bool:=
 if a.ph=0 then decide (a.si=0)&&(decide (a.cl=0)&&decide (a.e=0))
 else if a.ph=1 then decide (a.e=0)&&(decide (a.cl=0)&&tkB a.si)
 else if a.ph=2 then n&&(decide (a.cl=0)&&tkB a.si)
 else if a.ph=3 then n&&(tkB a.si&&(tkB a.cl&&decide (a.si≤a.cl)))
 else false
theorem alRight_n (a:Al):alRightN (epB a.e) a=alRight a:=rfl
theorem alright_tail (ph si cl:Int) (e:Nat) (n:Bool) (E:List (Nat×AV)) (bx:List (Id×List AV)) (pm:List (Pl×Nat)) (e1:lk E 1= .ptr (.n 1) 0) (e3:lk E 3= .bool n) (hb:lkB bx (.n 1)=some [i6 ph,i6 si,i6 cl,u e]):
  wpA (SpH Tryz.prog gl) (AC.tl 2 c150) (postA [.t 2] (.bool (alRightN n ⟨ph,si,cl,e⟩))) ⟨E,bx,pm⟩:=by
 simp only [c150,AC.tl]
 obtain ⟨R,hR⟩: ∃R,R=alRightN n ⟨ph,si,cl,e⟩:=⟨_,rfl⟩
 rw [←hR]
 unfold alRightN at hR
 simp only at hR
 have T1:=altick_spec si
 have T2:=altick_spec cl
 generalize tkB si=t1 at *
 generalize tkB cl=t2 at *
 rcases ph_cases ph with rfl|rfl|rfl|rfl|⟨p0,p1,p2,p3⟩
 ·rw [if_pos rfl] at hR
  subst hR
  simp -implicitDefEqProofs [e1,e3,hb]
  rw [nb_eq]
  rfl
 ·simp at hR
  by_cases e0:e=0
  ·subst e0
   by_cases c0:cl=0
   ·subst c0
    simp at hR
    subst hR
    simp -implicitDefEqProofs [e1,e3,hb]
    refine onC_mk _ (T1) ?_
    simp -implicitDefEqProofs
   ·have c0':(cl==0)=false:=by rw [beq_eq_false_iff_ne];exact c0
    simp [c0] at hR
    subst hR
    simp -implicitDefEqProofs [e1,e3,hb,c0,c0']
  ·have e0':((e:Int)==0)=false:=by rw [nb_eq,decide_eq_false e0]
   simp [e0] at hR
   subst hR
   simp -implicitDefEqProofs [e1,e3,hb,e0,e0']
 ·simp at hR
  cases n
  ·simp at hR
   subst hR
   simp -implicitDefEqProofs [e1,e3,hb]
  ·by_cases c0:cl=0
   ·subst c0
    simp at hR
    subst hR
    simp -implicitDefEqProofs [e1,e3,hb]
    refine onC_mk _ (T1) ?_
    simp -implicitDefEqProofs
   ·have c0':(cl==0)=false:=by rw [beq_eq_false_iff_ne];exact c0
    simp [c0] at hR
    subst hR
    simp -implicitDefEqProofs [e1,e3,hb,c0,c0']
 ·simp at hR
  cases n
  ·simp at hR
   subst hR
   simp -implicitDefEqProofs [e1,e3,hb]
  ·cases t1
   ·simp at hR
    subst hR
    simp -implicitDefEqProofs [e1,e3,hb]
    refine onC_mk _ (T1) ?_
    simp -implicitDefEqProofs
   ·cases t2
    ·simp at hR
     subst hR
     simp -implicitDefEqProofs [e1,e3,hb]
     refine onC_mk _ (T1) ?_
     simp -implicitDefEqProofs [e1,hb]
     refine onC_mk _ (T2) ?_
     simp -implicitDefEqProofs
    ·simp at hR
     subst hR
     simp -implicitDefEqProofs [e1,e3,hb]
     refine onC_mk _ (T1) ?_
     simp -implicitDefEqProofs [e1,hb]
     refine onC_mk _ (T2) ?_
     simp -implicitDefEqProofs [e1,hb]
 ·simp [p0,p1,p2,p3] at hR
  have q0:(ph==0)=false:=by rw [beq_eq_false_iff_ne];exact p0
  have q1:(ph==1)=false:=by rw [beq_eq_false_iff_ne];exact p1
  have q2:(ph==2)=false:=by rw [beq_eq_false_iff_ne];exact p2
  have q3:(ph==3)=false:=by rw [beq_eq_false_iff_ne];exact p3
  subst hR
  simp -implicitDefEqProofs [e1,e3,hb,q0,q1,q2,q3]
theorem alright_spec (a:Al):Sp Tryz.prog gl 150 [.agg a.row] (.bool (alRight a)):=by
 refine s150 rfl rfl ?_
 obtain ⟨ph,si,cl,e⟩:=a
 rw [←alRight_n]
 have tail:=alright_tail ph si cl e
 have ec:c150=AC.cutAt 2 (AC.tl 2 c150) c150:=rfl
 rw [ec]
 generalize AC.tl 2 c150=t at tail ⊢
 simp only [c150,AC.cutAt,Al.row]
 have ne:=nb_ep e
 by_cases h1:(1:Int)≤e
 ·by_cases h2:(e:Int)≤4611686018427387904
  ·simp [h1,h2] at ne
   rw [ne]
   simp -implicitDefEqProofs [h1,h2]
   refine tail _ _ _ _ ?_ ?_ ?_<;>simp -implicitDefEqProofs
  ·simp [h1,h2] at ne
   rw [ne]
   simp -implicitDefEqProofs [h1,h2]
   refine tail _ _ _ _ ?_ ?_ ?_<;>simp -implicitDefEqProofs
 ·simp [h1] at ne
  rw [ne]
  simp -implicitDefEqProofs [h1]
  refine tail _ _ _ _ ?_ ?_ ?_<;>simp -implicitDefEqProofs
theorem alfires_spec (a:Al):Sp Tryz.prog gl 151 [.agg a.row] (.bool (alFires a)):=by
 refine s151 rfl rfl ?_
 have A:=alright_spec a
 unfold alFires
 generalize alRight a=r at *
 obtain ⟨ph,si,cl,e⟩:=a
 simp only [Al.row] at A ⊢
 cases r
 ·simp [c151]
  refine onC_mk _ (A) ?_
  simp -implicitDefEqProofs
 ·simp [c151]
  refine onC_mk _ (A) ?_
  simp -implicitDefEqProofs
end Go.Ai
