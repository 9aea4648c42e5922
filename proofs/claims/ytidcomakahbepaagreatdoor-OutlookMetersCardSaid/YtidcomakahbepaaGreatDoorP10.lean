/- P10: a part of the proof: the rules, or what functions compute. Conditions: as each theorem says. -/
import Derived.Test.YtidcomakahbepaaGreatDoorP6
import Derived.Test.YtidcomakahbepaaGreatDoorP9
set_option linter.unusedSimpArgs false
set_option linter.unusedVariables false
set_option maxRecDepth 20000
namespace Go.Ai
open Go.Proofs
theorem roomB_all {c:Int} {n:Nat} {K w:Nat→Nat} {t:Nat} {L:List Ev} {a ct:Nat} (h:roomB c n K w t L a ct=true):(∀i,i<n→okW K w t L a ct i=true)∧okP c t L a ct=true:=by
 unfold roomB at h
 rw [Bool.and_eq_true,List.all_eq_true] at h
 exact ⟨fun i hi=>h.1 i (List.mem_range.2 hi),h.2⟩
theorem madd_spec (M A:Id) (R B:Nat→Id) (h:Nms M A R B) (x:Gl) (hx:0≤x.a∧x.a≤86400) (n:Nat) (hn:n≤1000000) (W:List (List AV)) (K w:Nat→Nat) (hk:KwOk n K w) (t:Nat) (L:List Ev) (hL:LOk n K w t L)
  (hP:pcT x.c t L≤9223372036854775807) (ht:t≤253402300799) (a cg ct:Nat) (hct:ct<18446744073709551616) (hE:addE x.a t a cg ct=0) (hs:roomB x.c n K w t L a ct=true) (d:Nat) (hd:M.isNw d=false):
  SpH Tryz.prog gl 23 d ⟨[.ptr M 0,i6 a,.agg [u cg,u ct]],mtB M A R B x n W K w t L false,[]⟩ ⟨i6 0,mtB M A R B x n W K w t (L++[(a,cg,ct)]) false,[]⟩:=by
 refine h23 rfl ?_
 obtain ⟨sd,hsd⟩: ∃sd,sd=false:=⟨_,rfl⟩
 rw [←hsd]
 have hu:=h.up
 have hi:=inn_notNw hd
 have hdA:A.isNw d=false:=by rw [←h.na];exact hd
 have hiA:=inn_notNw hdA
 have mi:=h.mi
 have ai:=h.ai
 have ma:=h.ma
 have ma':A≠M:=fun e=>h.ma e.symm
 have mr:=h.mr
 have mb:=h.mb
 have ar:=h.ar
 have ab:=h.ab
 have mr': ∀i,¬R i=M:=fun i e=>h.mr i e.symm
 have mb': ∀i,¬B i=M:=fun i e=>h.mb i e.symm
 have ar': ∀i,¬R i=A:=fun i e=>h.ar i e.symm
 have ab': ∀i,¬B i=A:=fun i e=>h.ab i e.symm
 have hpa:=fun i (hi:i<n)=>ptrC_at (R:=fun i=>Id.up (R i)) hi
 have hpl:=ptrC_len (fun i=>Id.up (R i)) n
 have hpu:=ptrC_up (R:=R) (n:=n)
 have hpo: ∀ob,∀i∈idsL (ptrC R n),idOk d ob i:=fun ob=>ptrC_outi h hd
 have hpi:=ptrC_inn h (n:=n) hd
 have hfree:=fun C D s=>rgs_free (R:=R) (B:=B) (C:=C) (D:=D) (n:=n) (s:=s)
 have hnn:=fun C D s=>rgsB_none (R:=fun i=>Id.up (R i)) (B:=fun i=>Id.up (B i)) (C:=C) (D:=D) (x:= .n s) (fun i e=>by cases e) (fun i e=>by cases e) n
 have hin:=mtB_up M A R B x n W K w t L sd
 subst hsd
 unfold addE at hE
 by_cases g1:ct<cg
 ·rw [if_pos g1] at hE;cases hE
 rw [if_neg g1] at hE
 by_cases g: ¬(0≤(a:Int)∧(a:Int)≤253402300799)
 ·rw [if_pos g] at hE;cases hE
 rw [if_neg g] at hE
 by_cases g2:(t:Int)<a
 ·rw [if_pos g2] at hE;cases hE
 rw [if_neg g2] at hE
 by_cases g3:(a:Int)<t - x.a
 ·rw [if_pos g3] at hE;cases hE
 clear hE
 have g1': ¬(ct:Int)<cg:=by omega
 have g2': ¬t<a:=by omega
 have TK:=mtick_spec a
 have tk:(decide ((0:Int)≤a)&&decide ((a:Int)≤253402300799))=true:=by simp;omega
 rw [tk] at TK
 have w1:IntKind.i64.wrap ((t:Int) - x.a)=(t:Int) - x.a:=wr (by omega) (by omega)
 have RM:=fun e he=>mroom_spec (.up M) (.up A) _ _ hu x n hn W K w hk t L hL false ht a cg ct (by omega) hct e he
 rw [hs] at RM
 obtain ⟨hok,hop⟩:=roomB_all hs
 have MC:=fun cg ct e he=>mcal_spec (.up M) (.up A) h.pa.up x n W (pF x.c t) (pT x.c t) cg ct t false e he
 have RA: ∀i,i<n→ ∀e,(Id.up (R i)).isNw e=false→SpH Tryz.prog gl 67 e ⟨[.ptr (.up (R i)) 0,i6 a,.agg [u cg,u ct]],[(.up (R i),ringC (.up (B i)) (K i) (w i) t L),(.up (B i),bkC (K i) (w i) (t / w i) L)],[]⟩
   ⟨i6 (addC (K i) (w i) t L a ct),[(.up (R i),ringC (.up (B i)) (K i) (w i) t (L++[(a,cg,ct)])),(.up (B i),bkC (K i) (w i) (t / w i) (L++[(a,cg,ct)]))],[]⟩:=by
  intro i hi e he
  have S:=radd_spec (.up (R i)) (.up (B i)) (h.pr i).up (K i) (w i) t L (hk.k1 i hi) (hk.k2 i hi) (hk.w1 i hi) ht hL.ok (hL.sm i hi) a cg ct (by omega) (by omega) hct e he
  obtain ⟨e1,e2⟩:=add_ok (cg:=cg) (hok i hi) (.up (B i))
  rw [e1,e2] at S
  exact S
 have hGT:=pc_GT (c:=x.c) (t:=t) hL.ok
 have hpz:=pc_zero (t:=t) (L:=L++[(a,cg,ct)])
 have hpz0:=pc_zero (t:=t) (L:=L)
 have hpa2:=fun e=>pc_add (c:=x.c) (t:=t) (L:=L) (a:=a) (cg:=cg) (ct:=ct) e
 have hout:=fun σ=>rgs_out h (C:=rgC K w t (L++[(a,cg,ct)])) (D:=rgD K w t (L++[(a,cg,ct)])) (n:=n) (d:=d) (σ:=σ) hd (fun f i b=>rgC_mp f K w t _ i b) (fun f i=>rgD_mp f K w t _ i)
 have houi:=fun ob=>rgs_outi h (C:=rgC K w t (L++[(a,cg,ct)])) (D:=rgD K w t (L++[(a,cg,ct)])) (n:=n) (d:=d) (ob:=ob) hd (rgC_ids K w t _) (rgD_ids K w t _)
 have hups:=fun k=>rgs_up (R:=R) (B:=B) (n:=n) (C:=upto k (rgC K w t (L++[(a,cg,ct)])) (rgC K w t L)) (D:=upto k (rgD K w t (L++[(a,cg,ct)])) (rgD K w t L)) (upto_ids (rgC_ids K w t L) (rgC_ids K w t _)) (upto_ids0 (rgD_ids K w t L) (rgD_ids K w t _))
 have hlk: ∀i,i<n→lkB (rgsB (fun i=> .up (R i)) (fun i=> .up (B i)) (rgC K w t L) (rgD K w t L) n) (.up (R i))=some (rgC K w t L i (.up (B i)))∧lkB (rgsB (fun i=> .up (R i)) (fun i=> .up (B i)) (rgC K w t L) (rgD K w t L) n) (.up (B i))=some (rgD K w t L i):=
  fun i hi=>⟨rgsB_R hu n hi,rgsB_B hu n hi⟩
 have hlk2: ∀i,i<n→lkB (rgsB (fun i=> .up (R i)) (fun i=> .up (B i)) (rgC K w t (L++[(a,cg,ct)])) (rgD K w t (L++[(a,cg,ct)])) n) (.up (R i))=some (rgC K w t (L++[(a,cg,ct)]) i (.up (B i)))∧lkB (rgsB (fun i=> .up (R i)) (fun i=> .up (B i)) (rgC K w t (L++[(a,cg,ct)])) (rgD K w t (L++[(a,cg,ct)])) n) (.up (B i))=some (rgD K w t (L++[(a,cg,ct)]) i):=
  fun i hi=>⟨rgsB_R hu n hi,rgsB_B hu n hi⟩
 clear hs g tk
 generalize (L++[(a,cg,ct)])=L2 at *
 simp only [inSt,mpL,mpP,AV.mp,hin]
 clear hin
 simp only [mtB,mtC] at RM MC ⊢
 simp -implicitDefEqProofs [c23,hnn,g1,g1']
 refine onC_mk _ TK ?_
 simp -implicitDefEqProofs [g2,g2',w1,g3]
 refine onH_pre (pre:=[(.n 5,[u cg,u ct])]) (RM _ rfl) rfl ?_ (mt_uniq hu _ _ _ _ n) (mt_keys _ _ _ _ _ _ _ _ n) ?_ ?_ ?_ ?_
 ·intro p hp
  simp only [List.mem_singleton] at hp
  subst hp;exact mt_none
 ·intro p hp
  rcases List.mem_cons.1 hp with rfl|hp
  ·rfl
  ·exact mt_free p hp
 ·simp
 ·simp
 generalize ptrC (fun i=>Id.up (R i)) n=PC at *
 clear RM TK
 simp -implicitDefEqProofs [ma,ma']
 refine wp_lpk (α:=Nat) (fun k=>⟨[(0,.ptr (.up M) 0),(1,i6 a),(5,.ptr (.n 5) 0),(60,.ms (.up A) 0 n 1),(61,i6 n),(62,i6 k)],(.n 5,[u cg,u ct])::(.up M,[.str x.n,.int .u32 x.t,i6 x.g,i6 x.a,i6 x.o,i6 x.c,.sl (x.lb.map Lb.row),.sl (x.ru.map Ru.row),.sl W,.ms (.up A) 0 n 1,i6 (pF x.c t),i6 (pT x.c t),u (pcG x.c t L),u (pcT x.c t L),i6 t,.bool false])::(.up A,PC)::rgsB (fun i=> .up (R i)) (fun i=> .up (B i)) (upto k (rgC K w t L2) (rgC K w t L)) (upto k (rgD K w t L2) (rgD K w t L)) n,[]⟩) (fun k=>k≤n) (fun k=>n - k) ?_ 0 ?_ ?_
 ·intro K' k hK' k1
  by_cases g:k<n
  ·have g':(k:Int)<n:=by omega
   have w1:IntKind.i64.wrap ((k:Int)+1)=(k+1:Nat):=by rw [wr]<;>omega
   have lR:lkB (rgsB (fun i=> .up (R i)) (fun i=> .up (B i)) (upto k (rgC K w t L2) (rgC K w t L)) (upto k (rgD K w t L2) (rgD K w t L)) n) (.up (R k))=some (ringC (.up (B k)) (K k) (w k) t L):=by
    rw [rgsB_R hu n g,upto_ge (Nat.le_refl k)];rfl
   have lB:lkB (rgsB (fun i=> .up (R i)) (fun i=> .up (B i)) (upto k (rgC K w t L2) (rgC K w t L)) (upto k (rgD K w t L2) (rgD K w t L)) n) (.up (B k))=some (bkC (K k) (w k) (t / w k) L):=by
    rw [rgsB_B hu n g,upto_ge (Nat.le_refl k)];rfl
   have fr:=hfree (upto k (rgC K w t L2) (rgC K w t L)) (upto k (rgD K w t L2) (rgD K w t L))
   have RAk:=RA k g
   have e0:PC[k]?=some (.ptr (.up (R k)) 0):=hpa k g
   have kl:k<PC.length:=by omega
   have e1:PC[k]'kl= .ptr (.up (R k)) 0:=by rw [List.getElem?_eq_getElem kl] at e0;exact Option.some.inj e0
   have hup:=hups (k+1)
   have st:=fun bx=>rgs_step hu (C:=rgC K w t L) (C':=rgC K w t L2) (D:=rgD K w t L) (D':=rgD K w t L2) g (bx:=bx)
   have lo: ∀i,i<n→lkB (rgsB (fun i=> .up (R i)) (fun i=> .up (B i)) (upto k (rgC K w t L2) (rgC K w t L)) (upto k (rgD K w t L2) (rgD K w t L)) n) (.up (R i))=some (upto k (rgC K w t L2) (rgC K w t L) i (.up (B i)))∧
    lkB (rgsB (fun i=> .up (R i)) (fun i=> .up (B i)) (upto k (rgC K w t L2) (rgC K w t L)) (upto k (rgD K w t L2) (rgD K w t L)) n) (.up (B i))=some (upto k (rgD K w t L2) (rgD K w t L) i):=fun i hi=>⟨rgsB_R hu n hi,rgsB_B hu n hi⟩
   have fin:=fun σ' hσ=>hK' (k+1) σ' (by omega) (by omega) hσ
   have rb: ¬R k=B k:=h.rb k k
   have rb': ¬B k=R k:=fun e=>h.rb k k e.symm
   have rb2: ∀i j,¬R i=B j:=fun i j=>h.rb i j
   have rb3: ∀i j,¬B i=R j:=fun i j e=>h.rb j i e.symm
   clear hK' RA hpa hfree hups hout houi hpo hpi MC
   generalize addC (K k) (w k) t L a ct=z at *
   simp -implicitDefEqProofs [g,g',e0,e1,kl,hpl,ma,ma',w1]
   refine onH_mk _ _ (RAk _ rfl) ⟨?_,?_,?_,?_,?_,?_,?_⟩ ?_
   iterate 6 (· simp [lR,lB,mr,mb,ar,ab,mr',mb',ar',ab',rb,rb'])
   ·simp;exact fr _
   simp -implicitDefEqProofs [mr,mb,ar,ab,mr',mb',ar',ab',rb,rb',w1]
   refine fin _ (weak_mk ?_ ?_ ?_ ?_ ?_ ?_)
   ·simp [w1]
   ·intro p hp
    rcases List.mem_cons.1 hp with rfl|hp
    ·simp
    ·rcases List.mem_cons.1 hp with rfl|hp
     ·simp [mr',mb']
     ·rcases List.mem_cons.1 hp with rfl|hp
      ·simp [mr',mb',ar',ab',ma,ma']
      ·refine st _ ?_ ?_ (fun i hi hne=>?_) p hp
       ·simp [rgC]
       ·simp [rgD,rb]
       ·have n1: ¬R k=R i:=fun q=>hne (h.rr _ _ q).symm
        have n2: ¬B k=B i:=fun q=>hne (h.bb _ _ q).symm
        constructor
        ·simp [lkB_rmB,mr,ar,n1,n2,rb2,rb3,lo i hi]
        ·simp [lkB_rmB,mb,ab,n1,n2,rb2,rb3,lo i hi]
   ·simp
   ·simp
   ·simp
    exact ⟨fun d hd=> .inr (hpu d hd),fun a b hm d hd=> .inr (hup a b hm d hd)⟩
   ·simp
  ·obtain rfl:k=n:=by omega
   have g': ¬((k:Int)<k):=by omega
   have g2: ¬k<k:=Nat.lt_irrefl _
   have hrm:=rgsB_rm (R:=fun i=>Id.up (R i)) (B:=fun i=>Id.up (B i)) (C:=rgC K w t L2) (D:=rgD K w t L2) (x:= .up M) hu.mr hu.mb k
   have fr:=hfree (rgC K w t L2) (rgD K w t L2)
   simp only [rgsB_upto]
   have P1:=MC (pcG x.c t L) (pcT x.c t L)
   clear hK' MC RA hpa hfree hups
   by_cases c0:x.c=0
   ·have c1':(x.c !=0)=false:=by rw [c0];rfl
    rw [c1'] at P1
    simp only [c0] at P1 ⊢
    simp only [hpz,hpz0] at P1 ⊢
    simp -implicitDefEqProofs [g',g2]
    refine onH_mk _ _ (P1 _ rfl) ⟨?_,?_,?_,?_,?_,?_,?_⟩ ?_
    iterate 6 (· simp)
    ·simp;exact fr _
    simp -implicitDefEqProofs [ma,ma',hrm]
    refine postH_r ⟨?_,?_,?_,?_,?_,?_⟩
    ·simp
    ·simp
    ·intro p hp
     rcases List.mem_cons.1 hp with rfl|hp
     ·simp [hi,hiA,mi]
     ·rcases List.mem_cons.1 hp with rfl|hp
      ·simp [hi,hiA,ai,ma,ma',hpi]
      ·refine hout _ (fun i hi=>?_) p hp
       simp -implicitDefEqProofs [mr,mb,ar,ab,hlk2 i hi]
    ·intro p hp
     rcases List.mem_cons.1 hp with rfl|hp
     ·simp [ai,hdA]
     ·rcases List.mem_cons.1 hp with rfl|hp
      ·exact hpo _
      ·exact houi _ p hp
    ·simp
    ·simp
   ·have c1':(x.c !=0)=true:=by rw [bne_iff_ne];exact c0
    rw [c1'] at P1
    obtain ⟨s1,s2⟩:=hpa2 c0
    by_cases c2:pF x.c t≤a
    ·have c2':(pF x.c t:Int)≤a:=by omega
     rw [if_pos c2] at s1 s2
     have hfit:pcT x.c t L+ct≤9223372036854775807:=by
      unfold okP fitB at hop
      have c0':(x.c==0)=false:=by rw [beq_eq_false_iff_ne];exact c0
      rw [c0',decide_eq_false (show ¬a<pF x.c t by omega)] at hop
      simp only [Bool.false_or,decide_eq_true_eq] at hop
      exact hop.2
     have v1:IntKind.u64.wrap ((pcG x.c t L:Int)+cg)=(pcG x.c t L2:Nat):=by rw [wrap_u64]<;>omega
     have v2:IntKind.u64.wrap ((pcT x.c t L:Int)+ct)=(pcT x.c t L2:Nat):=by rw [wrap_u64]<;>omega
     clear s1 s2
     simp -implicitDefEqProofs [g',g2]
     refine onH_mk _ _ (P1 _ rfl) ⟨?_,?_,?_,?_,?_,?_,?_⟩ ?_
     iterate 6 (· simp)
     ·simp;exact fr _
     simp -implicitDefEqProofs [ma,ma',hrm,c2,c2']
     try simp only [v1,v2]
     try simp -implicitDefEqProofs [ma,ma',v1,v2]
     refine postH_r ⟨?_,?_,?_,?_,?_,?_⟩
     ·simp
     ·simp
     ·intro p hp
      rcases List.mem_cons.1 hp with rfl|hp
      ·simp [hi,hiA,mi,v1,v2]
      ·rcases List.mem_cons.1 hp with rfl|hp
       ·simp [hi,hiA,ai,ma,ma',hpi]
       ·refine hout _ (fun i hi=>?_) p hp
        simp -implicitDefEqProofs [mr,mb,ar,ab,hlk2 i hi]
     ·intro p hp
      rcases List.mem_cons.1 hp with rfl|hp
      ·simp [ai,hdA]
      ·rcases List.mem_cons.1 hp with rfl|hp
       ·exact hpo _
       ·exact houi _ p hp
     ·simp
     ·simp
    ·have c2': ¬(pF x.c t:Int)≤a:=by omega
     rw [if_neg c2] at s1 s2
     rw [s1,s2]
     simp only [Nat.add_zero]
     generalize pF x.c t=f at *
     simp -implicitDefEqProofs [g',g2]
     refine onH_mk _ _ (P1 _ rfl) ⟨?_,?_,?_,?_,?_,?_,?_⟩ ?_
     iterate 6 (· simp)
     ·simp;exact fr _
     simp -implicitDefEqProofs [ma,ma',hrm,c2,c2']
     refine postH_r ⟨?_,?_,?_,?_,?_,?_⟩
     ·simp
     ·simp
     ·intro p hp
      rcases List.mem_cons.1 hp with rfl|hp
      ·simp [hi,hiA,mi]
      ·rcases List.mem_cons.1 hp with rfl|hp
       ·simp [hi,hiA,ai,ma,ma',hpi]
       ·refine hout _ (fun i hi=>?_) p hp
        simp -implicitDefEqProofs [mr,mb,ar,ab,hlk2 i hi]
     ·intro p hp
      rcases List.mem_cons.1 hp with rfl|hp
      ·simp [ai,hdA]
      ·rcases List.mem_cons.1 hp with rfl|hp
       ·exact hpo _
       ·exact houi _ p hp
     ·simp
     ·simp
 ·exact Nat.zero_le _
 ·have hup:=hups 0
  refine weak_mk ?_ ?_ ?_ ?_ ?_ ?_
  ·simp
  ·intro p hp
   rcases List.mem_cons.1 hp with rfl|hp
   ·simp [lkB_app,hnn]
   ·rcases List.mem_cons.1 hp with rfl|hp
    ·simp [mr',mb',ma,ma']
    ·rcases List.mem_cons.1 hp with rfl|hp
     ·simp [mr',mb',ar',ab',ma,ma']
     ·rw [upto_zero,upto_zero] at hp
      obtain ⟨i,hi,e|e⟩:=mem_rgsB.1 hp
      ·subst e;simp -implicitDefEqProofs [mr,mb,ar,ab,lkB_app,hlk i hi]
      ·subst e;simp -implicitDefEqProofs [mr,mb,ar,ab,lkB_app,hlk i hi]
  ·simp
  ·simp
  ·simp
   exact ⟨fun d hd=> .inr (hpu d hd),fun a b hm d hd=> .inr (hup a b hm d hd)⟩
  ·simp
open Go.Proofs
theorem ringC_nil (B:Id) (K w t:Nat):ringC B K w t []=rgL B K w (t / w) t 0 0:=rfl
theorem rreset_spec (R B:Id) (h:Pr2 R B) (K w t:Nat) (L:List Ev) (hK:1≤K) (d:Nat) (hd:R.isNw d=false):
  SpH Tryz.prog gl 92 d ⟨[.ptr R 0],[(R,ringC B K w t L),(B,bkC K w (t / w) L)],[]⟩ ⟨.tup [],[(R,ringC B K w t []),(B,bkC K w (t / w) [])],[]⟩:=by
 refine h92 rfl ?_
 have hi:=inn_notNw hd
 have hdB:B.isNw d=false:=by rw [←h.nw];exact hd
 have hiB:=inn_notNw hdB
 have r1:=h.ri
 have r2:=h.bi
 have ne:=h.ne
 have ne':B≠R:=fun e=>h.ne e.symm
 have hids:idsL (bkC K w (t / w) L)=[]:=cellsF_ids _ _ _
 have hlen:(bkC K w (t / w) L).length=2*K:=cellsF_len _ _ _
 have hids2:idsL (bkC K w (t / w) [])=[]:=cellsF_ids _ _ _
 have hlen2:(bkC K w (t / w) []).length=2*K:=cellsF_len _ _ _
 have iz:=fun f'=>mpL_noids (f:=f') hids
 have iz2:=fun f'=>mpL_noids (f:=f') hids2
 have hz:=bkC_zero K w (t / w)
 have hlr:((List.replicate K [AV.int .u64 0,AV.int .u64 0]).flatten).length=2*K:=by rw [←hz];exact hlen2
 rw [ringC_nil,ringC_eq]
 simp only [rgL]
 simp only [inSt,mpL,mpB,mpP,AV.mp,iz]
 have k0:0<K:=hK
 have k1:K*2≤2*K:=by omega
 have k2:2*K≤K*2:=by omega
 rw [hz] at hids2 iz2 ⊢
 generalize hzz:(List.replicate K [AV.int .u64 0,AV.int .u64 0]).flatten=Z at *
 generalize bkC K w (t / w) L=X at *
 have d0:X.drop Z.length=[]:=List.drop_eq_nil_of_le (by omega)
 have d2:X.drop (K*2)=[]:=List.drop_eq_nil_of_le (by omega)
 have d1:X.drop (2*K)=[]:=List.drop_eq_nil_of_le (by omega)
 simp -implicitDefEqProofs [c92,ne,ne',k0,hlen,k1,hlr,hzz,d0,d1,d2]
 refine postH_n ⟨?_,?_,?_,?_,?_,?_⟩<;>simp -implicitDefEqProofs [hi,hiB,r1,r2,hd,hdB,ne,ne',hids2,iz2,hzz,d0,d1,d2,hlr,hlen]
theorem mreset_spec (M A:Id) (R B:Nat→Id) (h:Nms M A R B) (x:Gl) (n:Nat) (hn:n≤1000000) (W:List (List AV)) (K w:Nat→Nat) (hk:KwOk n K w) (t:Nat) (L:List Ev) (sd:Bool) (d:Nat) (hd:M.isNw d=false):
  SpH Tryz.prog gl 40 d ⟨[.ptr M 0],mtB M A R B x n W K w t L sd,[]⟩ ⟨.tup [],mtB M A R B x n W K w t [] false,[]⟩:=by
 refine h40 rfl ?_
 have hu:=h.up
 have hi:=inn_notNw hd
 have hdA:A.isNw d=false:=by rw [←h.na];exact hd
 have hiA:=inn_notNw hdA
 have mi:=h.mi
 have ai:=h.ai
 have ma:=h.ma
 have ma':A≠M:=fun e=>h.ma e.symm
 have mr:=h.mr
 have mb:=h.mb
 have ar:=h.ar
 have ab:=h.ab
 have mr': ∀i,¬R i=M:=fun i e=>h.mr i e.symm
 have mb': ∀i,¬B i=M:=fun i e=>h.mb i e.symm
 have ar': ∀i,¬R i=A:=fun i e=>h.ar i e.symm
 have ab': ∀i,¬B i=A:=fun i e=>h.ab i e.symm
 have hpa:=fun i (hi:i<n)=>ptrC_at (R:=fun i=>Id.up (R i)) hi
 have hpl:=ptrC_len (fun i=>Id.up (R i)) n
 have hpu:=ptrC_up (R:=R) (n:=n)
 have hpo: ∀ob,∀i∈idsL (ptrC R n),idOk d ob i:=fun ob=>ptrC_outi h hd
 have hpi:=ptrC_inn h (n:=n) hd
 have hfree:=fun C D s=>rgs_free (R:=R) (B:=B) (C:=C) (D:=D) (n:=n) (s:=s)
 have hnn:=fun C D s=>rgsB_none (R:=fun i=>Id.up (R i)) (B:=fun i=>Id.up (B i)) (C:=C) (D:=D) (x:= .n s) (fun i e=>by cases e) (fun i e=>by cases e) n
 have hin:=mtB_up M A R B x n W K w t L sd
 have RR:=fun i (hi:i<n) e he=>rreset_spec (.up (R i)) (.up (B i)) (h.pr i).up (K i) (w i) t L (hk.k1 i hi) e he
 have hpz:pcG x.c t []=0∧pcT x.c t []=0:=by unfold pcG pcT;split<;>exact ⟨rfl,rfl⟩
 have hout:=fun σ=>rgs_out h (C:=rgC K w t []) (D:=rgD K w t []) (n:=n) (d:=d) (σ:=σ) hd (fun f i b=>rgC_mp f K w t _ i b) (fun f i=>rgD_mp f K w t _ i)
 have houi:=fun ob=>rgs_outi h (C:=rgC K w t []) (D:=rgD K w t []) (n:=n) (d:=d) (ob:=ob) hd (rgC_ids K w t _) (rgD_ids K w t _)
 have hups:=fun k=>rgs_up (R:=R) (B:=B) (n:=n) (C:=upto k (rgC K w t []) (rgC K w t L)) (D:=upto k (rgD K w t []) (rgD K w t L)) (upto_ids (rgC_ids K w t L) (rgC_ids K w t _)) (upto_ids0 (rgD_ids K w t L) (rgD_ids K w t _))
 have hlk2: ∀i,i<n→lkB (rgsB (fun i=> .up (R i)) (fun i=> .up (B i)) (rgC K w t []) (rgD K w t []) n) (.up (R i))=some (rgC K w t [] i (.up (B i)))∧lkB (rgsB (fun i=> .up (R i)) (fun i=> .up (B i)) (rgC K w t []) (rgD K w t []) n) (.up (B i))=some (rgD K w t [] i):=
  fun i hi=>⟨rgsB_R hu n hi,rgsB_B hu n hi⟩
 simp only [inSt,mpL,mpP,AV.mp,hin]
 clear hin
 generalize ptrC (fun i=>Id.up (R i)) n=PC at *
 simp only [mtB,mtC,hpz]
 simp -implicitDefEqProofs [c40]
 refine wp_lpk (α:=Nat) (fun k=>⟨[(0,.ptr (.up M) 0),(9,.ms (.up A) 0 n 1),(10,i6 n),(11,i6 k)],(.up M,[.str x.n,.int .u32 x.t,i6 x.g,i6 x.a,i6 x.o,i6 x.c,.sl (x.lb.map Lb.row),.sl (x.ru.map Ru.row),.sl W,.ms (.up A) 0 n 1,i6 (pF x.c t),i6 (pT x.c t),u (pcG x.c t L),u (pcT x.c t L),i6 t,.bool sd])::(.up A,PC)::rgsB (fun i=> .up (R i)) (fun i=> .up (B i)) (upto k (rgC K w t []) (rgC K w t L)) (upto k (rgD K w t []) (rgD K w t L)) n,[]⟩) (fun k=>k≤n) (fun k=>n - k) ?_ 0 ?_ ?_
 ·intro K' k hK' k1
  by_cases g:k<n
  ·have g':(k:Int)<n:=by omega
   have w1:IntKind.i64.wrap ((k:Int)+1)=(k+1:Nat):=by rw [wr]<;>omega
   have lR:lkB (rgsB (fun i=> .up (R i)) (fun i=> .up (B i)) (upto k (rgC K w t []) (rgC K w t L)) (upto k (rgD K w t []) (rgD K w t L)) n) (.up (R k))=some (ringC (.up (B k)) (K k) (w k) t L):=by
    rw [rgsB_R hu n g,upto_ge (Nat.le_refl k)];rfl
   have lB:lkB (rgsB (fun i=> .up (R i)) (fun i=> .up (B i)) (upto k (rgC K w t []) (rgC K w t L)) (upto k (rgD K w t []) (rgD K w t L)) n) (.up (B k))=some (bkC (K k) (w k) (t / w k) L):=by
    rw [rgsB_B hu n g,upto_ge (Nat.le_refl k)];rfl
   have fr:=hfree (upto k (rgC K w t []) (rgC K w t L)) (upto k (rgD K w t []) (rgD K w t L))
   have RRk:=RR k g
   have e0:PC[k]?=some (.ptr (.up (R k)) 0):=hpa k g
   have kl:k<PC.length:=by omega
   have e1:PC[k]'kl= .ptr (.up (R k)) 0:=by rw [List.getElem?_eq_getElem kl] at e0;exact Option.some.inj e0
   have hup:=hups (k+1)
   have st:=fun bx=>rgs_step hu (C:=rgC K w t L) (C':=rgC K w t []) (D:=rgD K w t L) (D':=rgD K w t []) g (bx:=bx)
   have lo: ∀i,i<n→lkB (rgsB (fun i=> .up (R i)) (fun i=> .up (B i)) (upto k (rgC K w t []) (rgC K w t L)) (upto k (rgD K w t []) (rgD K w t L)) n) (.up (R i))=some (upto k (rgC K w t []) (rgC K w t L) i (.up (B i)))∧
    lkB (rgsB (fun i=> .up (R i)) (fun i=> .up (B i)) (upto k (rgC K w t []) (rgC K w t L)) (upto k (rgD K w t []) (rgD K w t L)) n) (.up (B i))=some (upto k (rgD K w t []) (rgD K w t L) i):=fun i hi=>⟨rgsB_R hu n hi,rgsB_B hu n hi⟩
   have fin:=fun σ' hσ=>hK' (k+1) σ' (by omega) (by omega) hσ
   have rb: ¬R k=B k:=h.rb k k
   have rb': ¬B k=R k:=fun e=>h.rb k k e.symm
   have rb2: ∀i j,¬R i=B j:=fun i j=>h.rb i j
   have rb3: ∀i j,¬B i=R j:=fun i j e=>h.rb j i e.symm
   clear hK' RR hpa hfree hups hout houi hpo hpi
   simp -implicitDefEqProofs [g,g',e0,e1,kl,hpl,ma,ma',w1]
   refine onH_mk _ _ (RRk _ rfl) ⟨?_,?_,?_,?_,?_,?_,?_⟩ ?_
   iterate 6 (· simp [lR,lB,mr,mb,ar,ab,mr',mb',ar',ab',rb,rb'])
   ·simp;exact fr _
   simp -implicitDefEqProofs [mr,mb,ar,ab,mr',mb',ar',ab',rb,rb',w1]
   refine fin _ (weak_mk ?_ ?_ ?_ ?_ ?_ ?_)
   ·simp [w1]
   ·intro p hp
    rcases List.mem_cons.1 hp with rfl|hp
    ·simp [mr',mb']
    ·rcases List.mem_cons.1 hp with rfl|hp
     ·simp [mr',mb',ar',ab',ma,ma']
     ·refine st _ ?_ ?_ (fun i hi hne=>?_) p hp
      ·simp [rgC]
      ·simp [rgD,rb]
      ·have n1: ¬R k=R i:=fun q=>hne (h.rr _ _ q).symm
       have n2: ¬B k=B i:=fun q=>hne (h.bb _ _ q).symm
       constructor
       ·simp [lkB_rmB,mr,ar,n1,n2,rb2,rb3,lo i hi]
       ·simp [lkB_rmB,mb,ab,n1,n2,rb2,rb3,lo i hi]
   ·simp
   ·simp
   ·simp
    exact ⟨fun d hd=> .inr (hpu d hd),fun a b hm d hd=> .inr (hup a b hm d hd)⟩
   ·simp
  ·obtain rfl:k=n:=by omega
   have g': ¬((k:Int)<k):=by omega
   have g2: ¬k<k:=Nat.lt_irrefl _
   simp only [rgsB_upto]
   clear hK' RR hpa hfree hups
   simp -implicitDefEqProofs [g',g2]
   refine postH_n ⟨?_,?_,?_,?_,?_,?_⟩
   ·simp
   ·simp
   ·intro p hp
    rcases List.mem_cons.1 hp with rfl|hp
    ·simp [hi,hiA,mi]
    ·rcases List.mem_cons.1 hp with rfl|hp
     ·simp [hi,hiA,ai,ma,ma',hpi]
     ·refine hout _ (fun i hi=>?_) p hp
      simp -implicitDefEqProofs [mr,mb,ar,ab,hlk2 i hi]
   ·intro p hp
    rcases List.mem_cons.1 hp with rfl|hp
    ·simp [ai,hdA]
    ·rcases List.mem_cons.1 hp with rfl|hp
     ·exact hpo _
     ·exact houi _ p hp
   ·simp
   ·simp
 ·exact Nat.zero_le _
 ·have hup:=hups 0
  refine weak_mk ?_ ?_ ?_ ?_ ?_ ?_
  ·simp
  ·intro p hp
   rcases List.mem_cons.1 hp with rfl|hp
   ·simp [mr',mb',ma,ma']
   ·rcases List.mem_cons.1 hp with rfl|hp
    ·simp [mr',mb',ar',ab',ma,ma']
    ·rw [upto_zero,upto_zero] at hp
     obtain ⟨i,hi,e|e⟩:=mem_rgsB.1 hp
     ·subst e;simp -implicitDefEqProofs [mr,mb,ar,ab,rgsB_R hu n hi]
     ·subst e;simp -implicitDefEqProofs [mr,mb,ar,ab,rgsB_B hu n hi]
  ·simp
  ·simp
  ·simp
   exact ⟨fun d hd=> .inr (hpu d hd),fun a b hm d hd=> .inr (hup a b hm d hd)⟩
  ·simp
open Go.Proofs
end Go.Ai
namespace Go.Ai
open Go.Proofs
theorem xmove_ok (X:Id) (hX:X.isIt=false) (x:Gl) (t t':Nat) (htt:t≤t') (ht:t'≤253402300799) (sd:Bool) (L:List Ev) (d:Nat) (hd:X.isNw d=false):
  SpH Tryz.prog gl 57 d ⟨[.ptr X 0,i6 t'],[(X,xC x t sd L)],[(.b X 10,3)]⟩ ⟨i6 0,[(X,xC x t' sd L)],[(.b X 10,3)]⟩:=by
 refine h57 rfl ?_
 have hi:=inn_notNw hd
 have TK:=rtick19_spec t'
 have tk:(decide ((0:Int)≤t')&&decide ((t':Int)≤253402300799))=true:=by simp;omega
 rw [tk] at TK
 have a1: ¬((t':Int)<t):=by omega
 have a1': ¬(t'<t):=by omega
 simp only [xC]
 generalize evRows L=rows
 simp only [inSt,mpL,mpB,mpP,AV.mp,Pl.mp]
 simp -implicitDefEqProofs [c57]
 refine onC_mk _ TK ?_
 simp -implicitDefEqProofs [a1,a1']
 refine postH_r ⟨?_,?_,?_,?_,?_,?_⟩<;>simp -implicitDefEqProofs [hi,hX,hd]
theorem xmove_bad (X:Id) (hX:X.isIt=false) (x:Gl) (t:Nat) (now:Int) (hb: ¬(0≤now∧now≤253402300799)∨now<t) (sd:Bool) (L:List Ev) (d:Nat) (hd:X.isNw d=false):
  SpH Tryz.prog gl 57 d ⟨[.ptr X 0,i6 now],[(X,xC x t sd L)],[(.b X 10,3)]⟩ ⟨i6 (if 0≤now∧now≤253402300799 then 13 else 8),[(X,xC x t sd L)],[(.b X 10,3)]⟩:=by
 refine h57 rfl ?_
 have hi:=inn_notNw hd
 have TK:=rtick19_spec now
 simp only [xC]
 generalize evRows L=rows
 simp only [inSt,mpL,mpB,mpP,AV.mp,Pl.mp]
 by_cases g:0≤now∧now≤253402300799
 ·rw [if_pos g]
  have g1:now<t:=by rcases hb with h|h;exact absurd g h;exact h
  have tk:(decide (0≤now)&&decide (now≤253402300799))=true:=by simp [g]
  rw [tk] at TK
  simp -implicitDefEqProofs [c57]
  refine onC_mk _ TK ?_
  simp -implicitDefEqProofs [g1]
  refine postH_r ⟨?_,?_,?_,?_,?_,?_⟩<;>simp -implicitDefEqProofs [hi,hX,hd]
 ·rw [if_neg g]
  have tk:(decide (0≤now)&&decide (now≤253402300799))=false:=by
   rw [Bool.and_eq_false_iff,decide_eq_false_iff_not,decide_eq_false_iff_not]
   by_cases h:0≤now
   ·exact .inr fun e=>g ⟨h,e⟩
   ·exact .inl h
  rw [tk] at TK
  simp -implicitDefEqProofs [c57]
  refine onC_mk _ TK ?_
  simp -implicitDefEqProofs
  refine postH_r ⟨?_,?_,?_,?_,?_,?_⟩<;>simp -implicitDefEqProofs [hi,hX,hd]
theorem xcal_spec (X:Id) (hX:X.isIt=false) (x:Gl) (hc:0≤x.c) (t:Nat) (ht:t≤253402300799) (sd:Bool) (L:List Ev) (hE:EvOk L) (hll:L.length≤1000000) (hs:pcT x.c t L≤9223372036854775807) (d:Nat) (hd:X.isNw d=false):
  SpH Tryz.prog gl 21 d ⟨[.ptr X 0],[(X,xC x t sd L)],[(.b X 10,3)]⟩ ⟨if x.c=0 then .tup [.agg [u 0,u 0],i6 7] else if sd=true then .tup [.agg [u 0,u 0],i6 17] else .tup [.agg [u (pcG x.c t L),u (pcT x.c t L)],i6 0],[(X,xC x t sd L)],[(.b X 10,3)]⟩:=by
 refine h21 rfl ?_
 have hi:=inn_notNw hd
 have CS:=fun e he=>xcount_spec (.up X) hX x hc t ht sd L hE hll hs e he
 simp only [xC] at CS ⊢
 generalize evRows L=rows at *
 simp only [inSt,mpL,mpB,mpP,AV.mp,Pl.mp]
 by_cases c:x.c=0
 ·rw [if_pos c]
  have c':(x.c==0)=true:=by rw [c];rfl
  simp -implicitDefEqProofs [c21,c']
  refine postH_r ⟨?_,?_,?_,?_,?_,?_⟩<;>simp -implicitDefEqProofs [hi,hX,hd]
 ·rw [if_neg c]
  have c':(x.c==0)=false:=by rw [beq_eq_false_iff_ne];exact c
  cases sd
  ·rw [if_neg (by simp)]
   simp -implicitDefEqProofs [c21,c']
   refine onH_mk _ _ (CS _ rfl) ⟨?_,?_,?_,?_,?_,?_,?_⟩ ?_
   iterate 7 (· simp)
   simp -implicitDefEqProofs
   refine postH_r ⟨?_,?_,?_,?_,?_,?_⟩<;>simp -implicitDefEqProofs [hi,hX,hd]
  ·rw [if_pos rfl]
   simp -implicitDefEqProofs [c21,c']
   refine postH_r ⟨?_,?_,?_,?_,?_,?_⟩<;>simp -implicitDefEqProofs [hi,hX,hd]
structure WdOk (x:Gl) (n g:Nat) (wd:Nat→Nat):Prop where
 gg:x.g=(g:Nat)
 n1:n≤1000000
 len:(winP x).length=n
 wd: ∀i,i<n→(winP x)[i]?=some ((wd i:Nat):Int)∧Wd (wd i) g
theorem WdOk.at {x:Gl} {n g:Nat} {wd:Nat→Nat} (h:WdOk x n g wd) (k:Nat) (hk:k<n):(intRows (winP x))[k]?=some [i6 ((wd k:Nat):Int)]:=by
 have:=(h.wd k hk).1
 simp only [intRows,List.getElem?_map,this,Option.map_some]
theorem WdOk.rows {x:Gl} {n g:Nat} {wd:Nat→Nat} (h:WdOk x n g wd):(intRows (winP x)).length=n∧ ∀r∈intRows (winP x),r.length=1:=⟨by rw [intRows_len];exact h.len,intRows_one _⟩
theorem WdOk.getD {x:Gl} {n g:Nat} {wd:Nat→Nat} (h:WdOk x n g wd) (k:Nat) (hk:k<n):(winP x).getD k 0=((wd k:Nat):Int):=by
 rw [List.getD_eq_getElem?_getD,(h.wd k hk).1];rfl
theorem WdOk.kw {x:Gl} {n g:Nat} {wd:Nat→Nat} (h:WdOk x n g wd):KwOk n (fun i=>wK (wd i) g) (fun i=>wW (wd i) g):=
 ⟨fun i hi=>(wK_ok (h.wd i hi).2).1,fun i hi=>(wK_ok (h.wd i hi).2).2.1,fun i hi=>(wK_ok (h.wd i hi).2).2.2.2.1⟩
open Go.Proofs
end Go.Ai
namespace Go.Ai
open Go.Proofs
def Gl.zero:Gl:=⟨[],0,0,0,0,0,[],[]⟩
end Go.Ai
