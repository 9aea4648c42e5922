/- P11: a part of the proof: the rules, or what functions compute. Conditions: as each theorem says. -/
import Derived.Test.YtidcomakahbepaaGreatDoorP10
set_option linter.unusedSimpArgs false
set_option linter.unusedVariables false
set_option maxRecDepth 20000
namespace Go.Ai
open Go.Proofs
def okW (K w:Nat→Nat) (t:Nat) (L:List Ev) (a ct:Nat) (i:Nat):Bool:=!inW (K i) (t / w i) (a / w i)||fitB (sumT (K i) (w i) (t / w i) L) ct
def okP (c:Int) (t:Nat) (L:List Ev) (a ct:Nat):Bool:=c==0||(decide (a<pF c t)||fitB (pcT c t L) ct)
def roomB (c:Int) (n:Nat) (K w:Nat→Nat) (t:Nat) (L:List Ev) (a ct:Nat):Bool:=(List.range n).all (okW K w t L a ct)&&okP c t L a ct
theorem roomB_no {c:Int} {n:Nat} {K w:Nat→Nat} {t:Nat} {L:List Ev} {a ct k:Nat} (hk:k<n) (h:okW K w t L a ct k=false):roomB c n K w t L a ct=false:=by
 unfold roomB
 rw [Bool.and_eq_false_iff];left
 rw [List.all_eq_false]
 exact ⟨k,List.mem_range.2 hk,by rw [h];simp⟩
theorem roomB_yes {c:Int} {n:Nat} {K w:Nat→Nat} {t:Nat} {L:List Ev} {a ct:Nat} (h: ∀i,i<n→okW K w t L a ct i=true):roomB c n K w t L a ct=okP c t L a ct:=by
 unfold roomB
 have:(List.range n).all (okW K w t L a ct)=true:=List.all_eq_true.2 fun i hi=>h i (List.mem_range.1 hi)
 rw [this,Bool.true_and]
theorem mroom_spec (M A:Id) (R B:Nat→Id) (h:Nms M A R B) (x:Gl) (n:Nat) (hn:n≤1000000) (W:List (List AV)) (K w:Nat→Nat) (hk:KwOk n K w) (t:Nat) (L:List Ev) (hL:LOk n K w t L) (sd:Bool)
  (ht:t≤253402300799) (a cg ct:Nat) (ha:a≤t) (hct:ct<18446744073709551616) (d:Nat) (hd:M.isNw d=false):
  SpH Tryz.prog gl 66 d ⟨[.ptr M 0,i6 a,.agg [u cg,u ct]],mtB M A R B x n W K w t L sd,[]⟩ ⟨.bool (roomB x.c n K w t L a ct),mtB M A R B x n W K w t L sd,[]⟩:=by
 refine h66 rfl ?_
 have hu:=h.up
 have hi:=inn_notNw hd
 have hdA:A.isNw d=false:=by rw [←h.na];exact hd
 have hiA:=inn_notNw hdA
 have mi:=h.mi
 have ai:=h.ai
 have ma:=h.ma
 have ma':A≠M:=fun e=>h.ma e.symm
 have mr:=h.mr
 have mb:=h.mb
 have ar:=h.ar
 have ab:=h.ab
 have mr': ∀i,¬R i=M:=fun i e=>h.mr i e.symm
 have mb': ∀i,¬B i=M:=fun i e=>h.mb i e.symm
 have ar': ∀i,¬R i=A:=fun i e=>h.ar i e.symm
 have ab': ∀i,¬B i=A:=fun i e=>h.ab i e.symm
 have hpa:=fun i (hi:i<n)=>ptrC_at (R:=fun i=>Id.up (R i)) hi
 have hpl:=ptrC_len (fun i=>Id.up (R i)) n
 have hpu:=ptrC_up (R:=R) (n:=n)
 have hpo: ∀ob,∀i∈idsL (ptrC R n),idOk d ob i:=fun ob=>ptrC_outi h hd
 have hpi:=ptrC_inn h (n:=n) hd
 have hfree:=fun C D s=>rgs_free (R:=R) (B:=B) (C:=C) (D:=D) (n:=n) (s:=s)
 have hnn:=fun C D s=>rgsB_none (R:=fun i=>Id.up (R i)) (B:=fun i=>Id.up (B i)) (C:=C) (D:=D) (x:= .n s) (fun i e=>by cases e) (fun i e=>by cases e) n
 have hin:=mtB_up M A R B x n W K w t L sd
 have MC:=fun e he=>mcal_spec (.up M) (.up A) h.pa.up x n W (pF x.c t) (pT x.c t) (pcG x.c t L) (pcT x.c t L) t sd e he
 have HS:=fun i (hi:i<n) e he=>mhas_spec (.up (R i)) (.up (B i)) (h.pr i).up (K i) (w i) t L (hk.k1 i hi) (hk.k2 i hi) (hk.w1 i hi) ht hL.ok (hL.sm i hi) a ha e he
 have SM:=fun i e he=>rsum_spec (.up (R i)) (.up (B i)) (h.pr i).up (K i) (w i) (t / w i) t (sumG (K i) (w i) (t / w i) L) (sumT (K i) (w i) (t / w i) L) e he
 simp only [←ringC_eq] at SM
 have FT:=fun sg st=>mfits_spec sg st cg ct hct
 have hout:=fun σ=>rgs_out h (C:=rgC K w t L) (D:=rgD K w t L) (n:=n) (d:=d) (σ:=σ) hd (fun f i b=>rgC_mp f K w t L i b) (fun f i=>rgD_mp f K w t L i)
 have houi:=fun ob=>rgs_outi h (C:=rgC K w t L) (D:=rgD K w t L) (n:=n) (d:=d) (ob:=ob) hd (rgC_ids K w t L) (rgD_ids K w t L)
 have hups:=rgs_up (R:=R) (B:=B) (n:=n) (C:=rgC K w t L) (D:=rgD K w t L) (rgC_ids K w t L) (rgD_ids K w t L)
 have hlk: ∀i,i<n→lkB (rgsB (fun i=> .up (R i)) (fun i=> .up (B i)) (rgC K w t L) (rgD K w t L) n) (.up (R i))=some (rgC K w t L i (.up (B i)))∧lkB (rgsB (fun i=> .up (R i)) (fun i=> .up (B i)) (rgC K w t L) (rgD K w t L) n) (.up (B i))=some (rgD K w t L i):=
  fun i hi=>⟨rgsB_R hu n hi,rgsB_B hu n hi⟩
 simp only [inSt,mpL,mpP,AV.mp,hin]
 clear hin
 generalize ptrC (fun i=>Id.up (R i)) n=PC at *
 simp only [mtC] at MC ⊢
 simp only [mtB,mtC]
 simp -implicitDefEqProofs [c66,hnn]
 refine wp_lpk (α:=Nat) (fun k=>⟨[(0,.ptr (.up M) 0),(1,i6 a),(5,.ptr (.n 5) 0),(12,.ms (.up A) 0 n 1),(13,i6 n),(14,i6 k)],(.n 5,[u cg,u ct])::(.up M,[.str x.n,.int .u32 x.t,i6 x.g,i6 x.a,i6 x.o,i6 x.c,.sl (x.lb.map Lb.row),.sl (x.ru.map Ru.row),.sl W,.ms (.up A) 0 n 1,i6 (pF x.c t),i6 (pT x.c t),u (pcG x.c t L),u (pcT x.c t L),i6 t,.bool sd])::(.up A,PC)::rgsB (fun i=> .up (R i)) (fun i=> .up (B i)) (rgC K w t L) (rgD K w t L) n,[]⟩) (fun k=>k≤n∧ ∀i,i<k→okW K w t L a ct i=true) (fun k=>n - k) ?_ 0 ?_ ?_
 ·rintro K' k hK' ⟨k1,k2⟩
  by_cases g:k<n
  ·have g':(k:Int)<n:=by omega
   have w1:IntKind.i64.wrap ((k:Int)+1)=(k+1:Nat):=by rw [wr]<;>omega
   obtain ⟨lR,lB⟩:=hlk k g
   have fr:=hfree (rgC K w t L) (rgD K w t L)
   have fr2: ∀(a:Id) (b:List AV),(a,b)∈rmB (rmB (rgsB (fun i=> .up (R i)) (fun i=> .up (B i)) (rgC K w t L) (rgD K w t L) n) (.up (R k))) (.up (B k))→a.isNw 23=false:=fun a b hm=>fr 23 a b (mem_rmB (mem_rmB hm))
   have HSk:=HS k g
   have SMk:=SM k
   have FTk:=FT (sumG (K k) (w k) (t / w k) L) (sumT (K k) (w k) (t / w k) L)
   have e0:PC[k]?=some (.ptr (.up (R k)) 0):=hpa k g
   have kl:k<PC.length:=by omega
   have e1:PC[k]'kl= .ptr (.up (R k)) 0:=by rw [List.getElem?_eq_getElem kl] at e0;exact Option.some.inj e0
   have keep:=fun bx=>rgs_keep hu (C:=rgC K w t L) (D:=rgD K w t L) g (bx:=bx)
   have rb: ¬R k=B k:=h.rb k k
   have rb': ¬B k=R k:=fun e=>h.rb k k e.symm
   have rb2: ∀i j,¬R i=B j:=fun i j=>h.rb i j
   have rb3: ∀i j,¬B i=R j:=fun i j e=>h.rb j i e.symm
   have hok:okW K w t L a ct k=(!inW (K k) (t / w k) (a / w k)||fitB (sumT (K k) (w k) (t / w k) L) ct):=rfl
   have hno:=fun e=>roomB_no (c:=x.c) (K:=K) (w:=w) (t:=t) (L:=L) (a:=a) (ct:=ct) g e
   have fin:=fun (e:okW K w t L a ct k=true) σ' hσ=>hK' (k+1) σ' ⟨by omega,fun i hi=>by
    by_cases e2:i=k
    ·subst e2;exact e
    ·exact k2 i (by omega)⟩ (by omega) hσ
   clear hK' HS hpa SM FT MC
   simp only [rgC] at lR
   simp only [rgD] at lB
   cases hw:inW (K k) (t / w k) (a / w k) with
   |false=>
    rw [hw] at hok HSk
    have fin:=fin hok
    simp -implicitDefEqProofs [g,g',e0,e1,kl,hpl,ma,ma',w1]
    refine onQ_mk _ _ (HSk _ rfl) ⟨?_,?_,?_,?_,?_,?_,?_⟩ ⟨?_,?_,?_⟩ ?_
    iterate 6 (· simp [lR,lB,mr,mb,ar,ab,mr',mb',ar',ab',rb,rb'])
    ·simp;exact fr _
    iterate 3 (· simp)
    simp -implicitDefEqProofs [mr,mb,ar,ab,mr',mb',ar',ab',rb,rb',w1]
    refine fin _ (weak_mk ?_ ?_ ?_ ?_ ?_ ?_)
    ·simp [w1]
    ·intro p hp
     rcases List.mem_cons.1 hp with rfl|hp
     ·simp
     ·rcases List.mem_cons.1 hp with rfl|hp
      ·simp [mr',mb']
      ·rcases List.mem_cons.1 hp with rfl|hp
       ·simp [mr',mb',ar',ab',ma,ma']
       ·refine keep _ ?_ ?_ (fun i hi n1 n2=>⟨?_,?_⟩) p hp
        ·simp [rgC]
        ·simp [rgD,rb]
        ·simp [lkB_rmB,mr,ar,n1,n2,rb2,rb3]
        ·simp [lkB_rmB,mb,ab,n1,n2,rb2,rb3]
    ·simp
    ·simp
    ·simp
     exact ⟨fun d hd=> .inr (hpu d hd),fun a b hm d hd=> .inr (hups a b hm d hd)⟩
    ·simp
   |true=>
    rw [hw] at hok HSk
    cases hf:fitB (sumT (K k) (w k) (t / w k) L) ct with
    |true=>
     rw [hf] at hok FTk
     have fin:=fin hok
     simp -implicitDefEqProofs [g,g',e0,e1,kl,hpl,ma,ma',w1]
     refine onQ_mk _ _ (HSk _ rfl) ⟨?_,?_,?_,?_,?_,?_,?_⟩ ⟨?_,?_,?_⟩ ?_
     iterate 6 (· simp [lR,lB,mr,mb,ar,ab,mr',mb',ar',ab',rb,rb'])
     ·simp;exact fr _
     iterate 3 (· simp)
     simp -implicitDefEqProofs [mr,mb,ar,ab,mr',mb',ar',ab',rb,rb',w1]
     refine onQ_mk _ _ (SMk _ rfl) ⟨?_,?_,?_,?_,?_,?_,?_⟩ ⟨?_,?_,?_⟩ ?_
     iterate 6 (· simp [mr,mb,ar,ab,mr',mb',ar',ab',rb,rb'])
     ·simp;exact fun a b hm=>fr2 a b hm
     iterate 3 (· simp)
     simp -implicitDefEqProofs [mr,mb,ar,ab,mr',mb',ar',ab',rb,rb',w1]
     refine onC_mk _ FTk ?_
     simp -implicitDefEqProofs [w1]
     refine fin _ (weak_mk ?_ ?_ ?_ ?_ ?_ ?_)
     ·simp [w1]
     ·intro p hp
      rcases List.mem_cons.1 hp with rfl|hp
      ·simp
      ·rcases List.mem_cons.1 hp with rfl|hp
       ·simp [mr',mb']
       ·rcases List.mem_cons.1 hp with rfl|hp
        ·simp [mr',mb',ar',ab',ma,ma']
        ·refine keep _ ?_ ?_ (fun i hi n1 n2=>⟨?_,?_⟩) p hp
         ·simp [rgC]
         ·simp [rgD,rb]
         ·simp [lkB_rmB,mr,ar,n1,n2,rb2,rb3]
         ·simp [lkB_rmB,mb,ab,n1,n2,rb2,rb3]
     ·simp
     ·simp
     ·simp
      exact ⟨fun d hd=> .inr (hpu d hd),fun a b hm d hd=> .inr (hups a b hm d hd)⟩
     ·simp
    |false=>
     rw [hf] at hok FTk
     rw [hno hok]
     simp -implicitDefEqProofs [g,g',e0,e1,kl,hpl,ma,ma',w1]
     refine onQ_mk _ _ (HSk _ rfl) ⟨?_,?_,?_,?_,?_,?_,?_⟩ ⟨?_,?_,?_⟩ ?_
     iterate 6 (· simp [lR,lB,mr,mb,ar,ab,mr',mb',ar',ab',rb,rb'])
     ·simp;exact fr _
     iterate 3 (· simp)
     simp -implicitDefEqProofs [mr,mb,ar,ab,mr',mb',ar',ab',rb,rb',w1]
     refine onQ_mk _ _ (SMk _ rfl) ⟨?_,?_,?_,?_,?_,?_,?_⟩ ⟨?_,?_,?_⟩ ?_
     iterate 6 (· simp [mr,mb,ar,ab,mr',mb',ar',ab',rb,rb'])
     ·simp;exact fun a b hm=>fr2 a b hm
     iterate 3 (· simp)
     simp -implicitDefEqProofs [mr,mb,ar,ab,mr',mb',ar',ab',rb,rb',w1]
     refine onC_mk _ FTk ?_
     simp -implicitDefEqProofs [w1]
     refine postH_r ⟨?_,?_,?_,?_,?_,?_⟩
     ·simp
     ·simp
     ·intro p hp
      rcases List.mem_cons.1 hp with rfl|hp
      ·simp [hi,hiA,mi,mr',mb']
      ·rcases List.mem_cons.1 hp with rfl|hp
       ·simp [hi,hiA,ai,ma,ma',hpi,ar',ab']
       ·refine hout _ (fun i hi=>?_) p hp
        by_cases e:i=k
        ·subst e;simp -implicitDefEqProofs [rb,rgC,rgD]
        ·have n1: ¬R k=R i:=fun q=>e (h.rr _ _ q).symm
         have n2: ¬B k=B i:=fun q=>e (h.bb _ _ q).symm
         simp -implicitDefEqProofs [lkB_rmB,mr,mb,ar,ab,n1,n2,rb2,rb3,hlk i hi]
     ·intro p hp
      rcases List.mem_cons.1 hp with rfl|hp
      ·simp [ai,hdA]
      ·rcases List.mem_cons.1 hp with rfl|hp
       ·exact hpo _
       ·exact houi _ p hp
     ·simp
     ·simp
  ·obtain rfl:k=n:=by omega
   have g': ¬((k:Int)<k):=by omega
   have g2: ¬k<k:=Nat.lt_irrefl _
   have fr:=hfree (rgC K w t L) (rgD K w t L)
   rw [roomB_yes k2]
   have FTk:=FT (pcG x.c t L) (pcT x.c t L)
   clear hK' HS SM FT hpa
   unfold okP
   by_cases c0:x.c=0
   ·have c0':(x.c==0)=true:=by rw [c0];rfl
    have c1':(x.c !=0)=false:=by rw [c0];rfl
    rw [c0']
    rw [c1'] at MC
    simp -implicitDefEqProofs [g',g2]
    refine onQ_mk _ _ (MC _ rfl) ⟨?_,?_,?_,?_,?_,?_,?_⟩ ⟨?_,?_,?_⟩ ?_
    iterate 6 (· simp)
    ·simp;exact fr _
    iterate 3 (· simp)
    simp -implicitDefEqProofs [ma,ma']
    refine postH_r ⟨?_,?_,?_,?_,?_,?_⟩
    ·simp
    ·simp
    ·intro p hp
     rcases List.mem_cons.1 hp with rfl|hp
     ·simp [hi,hiA,mi]
     ·rcases List.mem_cons.1 hp with rfl|hp
      ·simp [hi,hiA,ai,ma,ma',hpi]
      ·refine hout _ (fun i hi=>?_) p hp
       simp -implicitDefEqProofs [lkB_rmB,mr,mb,ar,ab,hlk i hi]
    ·intro p hp
     rcases List.mem_cons.1 hp with rfl|hp
     ·simp [ai,hdA]
     ·rcases List.mem_cons.1 hp with rfl|hp
      ·exact hpo _
      ·exact houi _ p hp
    ·simp
    ·simp
   ·have c0':(x.c==0)=false:=by rw [beq_eq_false_iff_ne];exact c0
    have c1':(x.c !=0)=true:=by rw [bne_iff_ne];exact c0
    rw [c0']
    rw [c1'] at MC
    by_cases c2:a<pF x.c t
    ·have c2':(a:Int)<(pF x.c t:Nat):=by omega
     rw [decide_eq_true c2]
     simp -implicitDefEqProofs [g',g2]
     refine onQ_mk _ _ (MC _ rfl) ⟨?_,?_,?_,?_,?_,?_,?_⟩ ⟨?_,?_,?_⟩ ?_
     iterate 6 (· simp)
     ·simp;exact fr _
     iterate 3 (· simp)
     simp -implicitDefEqProofs [c2,c2',ma,ma']
     refine postH_r ⟨?_,?_,?_,?_,?_,?_⟩
     ·simp
     ·simp
     ·intro p hp
      rcases List.mem_cons.1 hp with rfl|hp
      ·simp [hi,hiA,mi]
      ·rcases List.mem_cons.1 hp with rfl|hp
       ·simp [hi,hiA,ai,ma,ma',hpi]
       ·refine hout _ (fun i hi=>?_) p hp
        simp -implicitDefEqProofs [lkB_rmB,mr,mb,ar,ab,hlk i hi]
     ·intro p hp
      rcases List.mem_cons.1 hp with rfl|hp
      ·simp [ai,hdA]
      ·rcases List.mem_cons.1 hp with rfl|hp
       ·exact hpo _
       ·exact houi _ p hp
     ·simp
     ·simp
    ·have c2': ¬(a:Int)<(pF x.c t:Nat):=by omega
     rw [decide_eq_false c2]
     generalize fitB (pcT x.c t L) ct=z at *
     simp -implicitDefEqProofs [g',g2]
     refine onQ_mk _ _ (MC _ rfl) ⟨?_,?_,?_,?_,?_,?_,?_⟩ ⟨?_,?_,?_⟩ ?_
     iterate 6 (· simp)
     ·simp;exact fr _
     iterate 3 (· simp)
     simp -implicitDefEqProofs [c2,c2',ma,ma']
     refine onC_mk _ FTk ?_
     simp -implicitDefEqProofs
     refine postH_r ⟨?_,?_,?_,?_,?_,?_⟩
     ·simp
     ·simp
     ·intro p hp
      rcases List.mem_cons.1 hp with rfl|hp
      ·simp [hi,hiA,mi]
      ·rcases List.mem_cons.1 hp with rfl|hp
       ·simp [hi,hiA,ai,ma,ma',hpi]
       ·refine hout _ (fun i hi=>?_) p hp
        simp -implicitDefEqProofs [lkB_rmB,mr,mb,ar,ab,hlk i hi]
     ·intro p hp
      rcases List.mem_cons.1 hp with rfl|hp
      ·simp [ai,hdA]
      ·rcases List.mem_cons.1 hp with rfl|hp
       ·exact hpo _
       ·exact houi _ p hp
     ·simp
     ·simp
 ·exact ⟨Nat.zero_le _,fun i hi=>by omega⟩
 ·refine weak_mk ?_ ?_ ?_ ?_ ?_ ?_
  ·simp
  ·intro p hp
   rcases List.mem_cons.1 hp with rfl|hp
   ·simp
   ·rcases List.mem_cons.1 hp with rfl|hp
    ·simp [mr',mb',ma,ma']
    ·rcases List.mem_cons.1 hp with rfl|hp
     ·simp [mr',mb',ar',ab',ma,ma']
     ·obtain ⟨i,hi,e|e⟩:=mem_rgsB.1 hp
      ·subst e;simp -implicitDefEqProofs [mr,mb,ar,ab,hlk i hi]
      ·subst e;simp -implicitDefEqProofs [mr,mb,ar,ab,hlk i hi]
  ·simp
  ·simp
  ·simp
   exact ⟨fun d hd=> .inr (hpu d hd),fun a b hm d hd=> .inr (hups a b hm d hd)⟩
  ·simp
open Go.Proofs
theorem rbuckets_spec (wd g:Nat) (h:Wd wd g):Sp Tryz.prog gl 128 [i6 wd,i6 g] (i6 (wK wd g)):=by
 refine s128 rfl rfl ?_
 obtain ⟨g1,g2,w1,w2,md⟩:=h
 have d1:=tdivL (x:=(wd:Int)) (y:=(g:Int)) (a:=wd) (b:=g) rfl rfl
 have d2:(wd:Int) / g=(wd / g:Nat):=(Int.natCast_ediv wd g).symm
 have ql:wd / g≤wd:=Nat.div_le_self _ _
 have g0: ¬((g:Int)=0):=by omega
 have g0': ¬(g=0):=by omega
 unfold wK shK
 generalize wd / g=q at *
 have t0:IntKind.i64.wrap (q:Int)=q:=by rw [wrap_i64]<;>omega
 simp -implicitDefEqProofs [c128]
 refine wp_lpk (α:=Nat) (fun k=>⟨[(0,i6 wd),(1,i6 g),(5,i6 (shD q k)),(6,i6 (k+1:Nat))],[],[]⟩) (fun k=>k≤60) (fun k=>60 - k) ?_ 0 ?_ ?_
 ·intro K k hK k1
  by_cases c:k+1≤60
  ·have c':((k+1:Nat):Int)≤60:=by omega
   have c0: ¬(((k+1:Nat):Int)=0):=by omega
   have m1:=tmodL (x:=(q:Int)) (y:=((k+1:Nat):Int)) (a:=q) (b:=k+1) rfl rfl
   have m2:(q:Int)%((k+1:Nat):Int)=(q%(k+1):Nat):=by omega
   have w1:IntKind.i64.wrap (((k+1:Nat):Int)+1)=(k+1+1:Nat):=by rw [wr]<;>omega
   have e:shD q (k+1)=if q%(k+1)=0 then k+1 else shD q k:=rfl
   have fin:=fun σ' hσ=>hK (k+1) σ' (by omega) (by omega) hσ
   clear hK
   generalize ((k+1+1:Nat):Int)=k3 at *
   by_cases z:q%(k+1)=0
   ·have z':(((q%(k+1):Nat):Int)==0)=true:=by rw [z];rfl
    rw [if_pos z] at e
    rw [e] at fin
    clear z e
    generalize ((q%(k+1):Nat):Int)=r at *
    generalize ((k+1:Nat):Int)=k2 at *
    simp -implicitDefEqProofs [c',g0,g0',d1,d2,t0,c0]
    simp -implicitDefEqProofs [m1,m2,z',w1]
    refine fin _ ?_
    refine weak_mk ?_ ?_ ?_ ?_ ?_ ?_<;>simp -implicitDefEqProofs
   ·have z':(((q%(k+1):Nat):Int)==0)=false:=by rw [beq_eq_false_iff_ne];omega
    rw [if_neg z] at e
    rw [e] at fin
    clear z e
    generalize ((q%(k+1):Nat):Int)=r at *
    generalize ((k+1:Nat):Int)=k2 at *
    simp -implicitDefEqProofs [c',g0,g0',d1,d2,t0,c0]
    simp -implicitDefEqProofs [m1,m2,z',w1]
    refine fin _ ?_
    refine weak_mk ?_ ?_ ?_ ?_ ?_ ?_<;>simp -implicitDefEqProofs
  ·obtain rfl:k=60:=by omega
   clear hK
   simp -implicitDefEqProofs
 ·exact Nat.zero_le _
 ·have e0:shD q 0=1:=rfl
  refine weak_mk ?_ ?_ ?_ ?_ ?_ ?_<;>simp -implicitDefEqProofs [e0]
theorem rtick19_spec (n:Int):Sp Tryz.prog gl 79 [i6 n] (.bool (decide (0≤n)&&decide (n≤253402300799))):=by
 refine s79 rfl rfl ?_
 by_cases h:0≤n<;>simp -implicitDefEqProofs [c79,h]
theorem rover_spec (sg st cg ct:Nat) (hc:ct<18446744073709551616):Sp Tryz.prog gl 129 [.agg [u sg,u st],.agg [u cg,u ct]] (.bool (!fitB st ct)):=by
 refine s129 rfl rfl ?_
 unfold fitB
 by_cases h1:ct≤9223372036854775807
 ·have h1': ¬(9223372036854775807:Int)<ct:=by omega
  have h2': ¬9223372036854775807<ct:=by omega
  have t1:IntKind.u64.wrap (9223372036854775807 - (ct:Int))=9223372036854775807 - (ct:Int):=by rw [wrap_u64]<;>omega
  have e:decide (9223372036854775807 - (ct:Int)<st)=!decide (ct≤9223372036854775807∧st+ct≤9223372036854775807):=by
   rw [←decide_not]
   apply decide_eq_decide.2
   omega
  rw [←e]
  simp -implicitDefEqProofs [c129,h1',h2']
  simp only [t1]
  try trivial
 ·have h1':(9223372036854775807:Int)<ct:=by omega
  have h2':9223372036854775807<ct:=by omega
  have e:decide (ct≤9223372036854775807∧st+ct≤9223372036854775807)=false:=decide_eq_false (fun h=>h1 h.1)
  rw [e]
  simp -implicitDefEqProofs [c129,h1',h2']
open Go.Proofs
end Go.Ai
namespace Go.Ai
open Go.Proofs
theorem rmBs_filter: ∀(r l:List (Id×List AV)),rmBs l r=l.filter fun p=>!(lkB r p.1).isSome
 |[],l=>by
  simp only [rmBs,lkB]
  exact (List.filter_eq_self.2 fun _ _=>rfl).symm
 |(d,c)::r,l=>by
  have e: ∀(l:List (Id×List AV)),rmB l d=l.filter fun p=>!decide (p.1=d):=by
   intro l
   induction l with
   |nil=>rfl
   |cons x l ih=>
    obtain ⟨k,v⟩:=x
    simp only [rmB,List.filter_cons]
    by_cases h:k=d<;>simp [h,ih]
  simp only [rmBs]
  rw [rmBs_filter r,e,List.filter_filter]
  apply List.filter_congr
  intro p _
  simp only [lkB]
  by_cases h:d=p.1
  ·rw [if_pos h];simp [h]
  ·have h': ¬p.1=d:=fun q=>h q.symm
   rw [if_neg h];simp [h']
theorem rmBs_pre {pre l:List (Id×List AV)} (h: ∀p∈pre,lkB l p.1=none):rmBs (pre++l) l=pre:=by
 rw [rmBs_filter,List.filter_append]
 have e1:pre.filter (fun p=>!(lkB l p.1).isSome)=pre:=List.filter_eq_self.2 fun p hp=>by rw [h p hp];rfl
 have e2:l.filter (fun p=>!(lkB l p.1).isSome)=[]:=List.filter_eq_nil_iff.2 fun p hp=>by
  have:(lkB l p.1).isSome:=lkB_isSome hp
  simp [this]
 rw [e1,e2,List.append_nil]
theorem dlBs_off {l:List (Id×List AV)}: ∀ {pm:List (Pl×Nat)},(∀p∈pm,∀e∈p.1.ids,lkB l e=none)→dlBs pm l=pm:=by
 have one: ∀(d:Id) (pm:List (Pl×Nat)),(∀p∈pm,∀e∈p.1.ids,e≠d)→dlB pm d=pm:=by
  intro d pm
  induction pm with
  |nil=>intro _;rfl
  |cons x r ih=>
   intro h
   obtain ⟨q,k⟩:=x
   have ih:=ih fun p hp=>h p (List.mem_cons_of_mem _ hp)
   have hx:=h _ (List.mem_cons_self ..)
   cases q with
   |s t=>simp only [dlB,ih]
   |t t i=>simp only [dlB,ih]
   |b e o=>
    simp only [Pl.ids,List.mem_singleton] at hx
    simp only [dlB,ih,if_neg (hx e rfl)]
 induction l with
 |nil=>intro pm _;rfl
 |cons x l ih=>
  intro pm h
  obtain ⟨d,c⟩:=x
  simp only [dlBs]
  rw [one d pm fun p hp e he q=>by
   have:=h p hp e he
   simp only [lkB] at this
   rw [if_pos q.symm] at this;cases this]
  refine ih fun p hp e he=>?_
  have:=h p hp e he
  simp only [lkB] at this
  split at this
  ·cases this
  ·exact this
section
variable {P:Program} {GL:List (Nat×List Value)} {K:St→Prop} {σ:St} {f d:Nat} {xs:List X} {pre l l':List (Id×List AV)} {vs:List AV} {r:AV}
theorem callOk_pre (hσ:σ.bx=pre++l) (hpre: ∀p∈pre,lkB l p.1=none) (hu: ∀p∈l,lkB l p.1=some p.2) (hkeep: ∀i,(lkB l' i).isSome=(lkB l i).isSome) (hf: ∀p∈σ.bx,p.1.isNw d=false) (hv:wkL (xs.map σ.v) vs):
  CallOk d σ xs ⟨vs,l,[]⟩ ⟨r,l',[]⟩:=by
 refine ⟨hv,fun p hp=>?_,by simp,trivial,fun p hp=>?_,fun p hp=>?_,hf⟩
 ·have h2:=hu p hp
  have h3:lkB σ.bx p.1=some p.2:=by
   rw [hσ,lkB_app]
   cases h4:lkB pre p.1 with
   |none=>exact h2
   |some c=>
    have:=hpre _ (lkB_mem _ _ _ h4)
    simp only at this
    rw [h2] at this;cases this
  simp only [wkB,h3];exact wkL_rfl' _
 ·simp only [hkeep,hu p hp];rfl
 ·left;simp only [←hkeep];exact lkB_isSome hp
theorem callSt_pre (hσ:σ.bx=pre++l) (hpre: ∀p∈pre,lkB l p.1=none) (hpm: ∀p∈σ.pm,∀e∈p.1.ids,lkB l e=none):callSt d σ xs ⟨vs,l,[]⟩ ⟨r,l',[]⟩=⟨(d,r)::σ.e,l'++pre,dlS σ.pm d⟩:=by
 simp only [callSt,retP,dlXs,List.nil_append]
 rw [hσ,rmBs_pre hpre,dlBs_off hpm]
theorem onH_pre (S:SpH P GL f d ⟨vs,l,[]⟩ ⟨r,l',[]⟩) (hσ:σ.bx=pre++l) (hpre: ∀p∈pre,lkB l p.1=none) (hu: ∀p∈l,lkB l p.1=some p.2) (hkeep: ∀i,(lkB l' i).isSome=(lkB l i).isSome)
  (hf: ∀p∈σ.bx,p.1.isNw d=false) (hpm: ∀p∈σ.pm,∀e∈p.1.ids,lkB l e=none) (hv:wkL (xs.map σ.v) vs) (hk:K ⟨(d,r)::σ.e,l'++pre,dlS σ.pm d⟩):onH (SpH P GL) f d xs K σ:=by
 refine onH_mk _ _ S (callOk_pre hσ hpre hu hkeep hf hv) ?_
 rw [callSt_pre hσ hpre hpm];exact hk
end
theorem mt_uniq {M A:Id} {R B:Nat→Id} (h:Nms M A R B) (mc ac:List AV) (C:Nat→Id→List AV) (D:Nat→List AV) (n:Nat): ∀p∈(M,mc)::(A,ac)::rgsB R B C D n,lkB ((M,mc)::(A,ac)::rgsB R B C D n) p.1=some p.2:=by
 intro p hp
 rcases List.mem_cons.1 hp with rfl|hp
 ·simp [lkB]
 ·rcases List.mem_cons.1 hp with rfl|hp
  ·simp only [lkB]
   rw [if_neg h.ma];simp
  ·obtain ⟨i,hi,e|e⟩:=mem_rgsB.1 hp
   ·subst e
    simp only [lkB]
    rw [if_neg (h.mr i),if_neg (h.ar i)]
    exact rgsB_R h n hi
   ·subst e
    simp only [lkB]
    rw [if_neg (h.mb i),if_neg (h.ab i)]
    exact rgsB_B h n hi
theorem rgs_keys {R B:Nat→Id} (C C':Nat→Id→List AV) (D D':Nat→List AV) (j:Id): ∀n,(lkB (rgsB R B C' D' n) j).isSome=(lkB (rgsB R B C D n) j).isSome
 |0=>rfl
 |n+1=>by
  have ih:=rgs_keys (R:=R) (B:=B) C C' D D' j n
  rw [rgsB_succ,rgsB_succ,lkB_app,lkB_app]
  cases h1:lkB (rgsB R B C' D' n) j with
  |some c=>
   rw [h1] at ih
   obtain ⟨c',h2⟩:=Option.isSome_iff_exists.1 ih.symm
   rw [h2];rfl
  |none=>
   rw [h1] at ih
   have h2:lkB (rgsB R B C D n) j=none:=by
    cases h3:lkB (rgsB R B C D n) j with
    |none=>rfl
    |some c=>rw [h3] at ih;cases ih
   rw [h2]
   simp only [lkB]
   split
   ·rfl
   ·split<;>rfl
theorem mt_keys {M A:Id} {R B:Nat→Id} (mc mc' ac ac':List AV) (C C':Nat→Id→List AV) (D D':Nat→List AV) (n:Nat) (j:Id):
  (lkB ((M,mc')::(A,ac')::rgsB R B C' D' n) j).isSome=(lkB ((M,mc)::(A,ac)::rgsB R B C D n) j).isSome:=by
 simp only [lkB]
 split
 ·rfl
 ·split
  ·rfl
  ·exact rgs_keys C C' D D' j n
theorem mt_none {M A:Id} {R B:Nat→Id} {mc ac:List AV} {C:Nat→Id→List AV} {D:Nat→List AV} {n s:Nat}:lkB ((Id.up M,mc)::(Id.up A,ac)::rgsB (fun i=> .up (R i)) (fun i=> .up (B i)) C D n) (.n s)=none:=by
 simp only [lkB]
 rw [if_neg (fun e=>by cases e),if_neg (fun e=>by cases e)]
 exact rgsB_none (fun i e=>by cases e) (fun i e=>by cases e) n
theorem mt_free {M A:Id} {R B:Nat→Id} {mc ac:List AV} {C:Nat→Id→List AV} {D:Nat→List AV} {n s:Nat}: ∀p∈(Id.up M,mc)::(Id.up A,ac)::rgsB (fun i=> .up (R i)) (fun i=> .up (B i)) C D n,p.1.isNw s=false:=by
 intro p hp
 rcases List.mem_cons.1 hp with rfl|hp
 ·rfl
 ·rcases List.mem_cons.1 hp with rfl|hp
  ·rfl
  ·exact rgs_free p.1 p.2 hp
open Go.Proofs
def addE (late:Int) (t:Nat) (a:Int) (cg ct:Nat):Int:=if ct<cg then 16 else if ¬(0≤a∧a≤253402300799) then 8 else if (t:Int)<a then 14 else if a<t - late then 13 else 0
theorem madd_bad (M A:Id) (h:Pr2 M A) (x:Gl) (hx:0≤x.a∧x.a≤86400) (n:Nat) (W:List (List AV)) (fr to cg0 ct0 t:Nat) (ht:t≤253402300799) (sd:Bool) (a:Int) (cg ct:Nat) (hb:addE x.a t a cg ct≠0) (d:Nat) (hd:M.isNw d=false):
  SpH Tryz.prog gl 23 d ⟨[.ptr M 0,i6 a,.agg [u cg,u ct]],[(M,mtC x A n W fr to cg0 ct0 t sd)],[]⟩ ⟨i6 (addE x.a t a cg ct),[(M,mtC x A n W fr to cg0 ct0 t sd)],[]⟩:=by
 refine h23 rfl ?_
 have hi:=inn_notNw hd
 have hdA:A.isNw d=false:=by rw [←h.nw];exact hd
 have hiA:=inn_notNw hdA
 have r1:=h.ri
 have b1:=h.bi
 have TK:=mtick_spec a
 have w1:IntKind.i64.wrap ((t:Int) - x.a)=(t:Int) - x.a:=wr (by omega) (by omega)
 simp only [mtC]
 simp only [inSt,mpL,mpB,mpP,AV.mp]
 unfold addE at hb ⊢
 by_cases g1:ct<cg
 ·have g1':(ct:Int)<cg:=by omega
  rw [if_pos g1]
  simp -implicitDefEqProofs [c23,g1,g1']
  refine postH_r ⟨?_,?_,?_,?_,?_,?_⟩<;>simp -implicitDefEqProofs [hi,hiA,r1,b1,hd,hdA]
 ·have g1': ¬(ct:Int)<cg:=by omega
  rw [if_neg g1] at hb ⊢
  by_cases g:0≤a∧a≤253402300799
  ·have tk:(decide (0≤a)&&decide (a≤253402300799))=true:=by simp [g]
   rw [tk] at TK
   rw [if_neg (fun e=>e g)] at hb ⊢
   by_cases g2:(t:Int)<a
   ·rw [if_pos g2]
    simp -implicitDefEqProofs [c23,g1,g1']
    refine onC_mk _ TK ?_
    simp -implicitDefEqProofs [g2]
    refine postH_r ⟨?_,?_,?_,?_,?_,?_⟩<;>simp -implicitDefEqProofs [hi,hiA,r1,b1,hd,hdA]
   ·rw [if_neg g2] at hb ⊢
    by_cases g3:a<t - x.a
    ·rw [if_pos g3]
     simp -implicitDefEqProofs [c23,g1,g1']
     refine onC_mk _ TK ?_
     simp -implicitDefEqProofs [g2]
     simp -implicitDefEqProofs [w1,g3]
     refine postH_r ⟨?_,?_,?_,?_,?_,?_⟩<;>simp -implicitDefEqProofs [hi,hiA,r1,b1,hd,hdA]
    ·rw [if_neg g3] at hb;exact absurd rfl hb
  ·rw [if_pos g]
   have tk:(decide (0≤a)&&decide (a≤253402300799))=false:=by
    rw [Bool.and_eq_false_iff,decide_eq_false_iff_not,decide_eq_false_iff_not]
    by_cases h:0≤a
    ·exact .inr fun e=>g ⟨h,e⟩
    ·exact .inl h
   rw [tk] at TK
   simp -implicitDefEqProofs [c23,g1,g1']
   refine onC_mk _ TK ?_
   simp -implicitDefEqProofs
   refine postH_r ⟨?_,?_,?_,?_,?_,?_⟩<;>simp -implicitDefEqProofs [hi,hiA,r1,b1,hd,hdA]
theorem add_ok {K w:Nat→Nat} {t:Nat} {L:List Ev} {a cg ct i:Nat} (h:okW K w t L a ct i=true) (b:Id):
  ringC b (K i) (w i) t (addL (K i) (w i) t L a cg ct)=ringC b (K i) (w i) t (L++[(a,cg,ct)])∧bkC (K i) (w i) (t / w i) (addL (K i) (w i) t L a cg ct)=bkC (K i) (w i) (t / w i) (L++[(a,cg,ct)]):=by
 unfold okW at h
 by_cases g:a / w i+K i≤t / w i
 ·have e:addL (K i) (w i) t L a cg ct=L:=by unfold addL addC;rw [if_pos g];rfl
  rw [e]
  obtain ⟨e1,e2⟩:=ringC_out (B:=b) (K:=K i) (w:=w i) (t:=t) (L:=L) (e:=(a,cg,ct)) g
  exact ⟨e1.symm,e2.symm⟩
 ·have hw:inW (K i) (t / w i) (a / w i)=true:=decide_eq_true (by omega)
  rw [hw] at h
  simp only [Bool.not_true,Bool.false_or,fitB,decide_eq_true_eq] at h
  have e:addL (K i) (w i) t L a cg ct=L++[(a,cg,ct)]:=by unfold addL addC;rw [if_neg g,if_pos h];rfl
  rw [e];exact ⟨rfl,rfl⟩
theorem pc_add {c:Int} {t:Nat} {L:List Ev} {a cg ct:Nat} (hc:c≠0):pcG c t (L++[(a,cg,ct)])=pcG c t L+(if pF c t≤a then cg else 0)∧pcT c t (L++[(a,cg,ct)])=pcT c t L+(if pF c t≤a then ct else 0):=by
 unfold pcG pcT
 rw [if_neg hc,if_neg hc,if_neg hc,if_neg hc,sm_one,sm_one]
 simp only [Nat.div_one,decide_eq_true_eq,eG,eT]
 exact ⟨trivial,trivial⟩
theorem pc_zero {t:Nat} {L:List Ev}:pcG 0 t L=0∧pcT 0 t L=0:=⟨rfl,rfl⟩
theorem pc_GT {c:Int} {t:Nat} {L:List Ev} (h:EvOk L):pcG c t L≤pcT c t L:=by
 unfold pcG pcT
 split
 ·exact Nat.le_refl _
 ·exact sm_GT h
open Go.Proofs
end Go.Ai
