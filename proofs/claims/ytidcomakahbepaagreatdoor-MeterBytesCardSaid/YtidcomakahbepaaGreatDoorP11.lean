/- P11: a part of the proof: the rules, or what functions compute. Conditions: as each theorem says. -/
import Derived.Test.YtidcomakahbepaaGreatDoorP4
import Derived.Test.YtidcomakahbepaaGreatDoorP10
import Derived.Test.YtidcomakahbepaaGreatDoorP7
set_option linter.unusedSimpArgs false
set_option linter.unusedVariables false
set_option maxRecDepth 20000
namespace Go.Ai
open Go.Proofs
def mtG (M A:Id) (R B:Nat→Id) (c:List AV) (n:Nat) (C:Nat→Id→List AV) (D:Nat→List AV):List (Id×List AV):=(M,c)::(A,ptrC R n)::rgsB R B C D n
def gC (K w N:Nat→Nat) (t:Nat) (g s:Nat→Nat) (i:Nat) (b:Id):List AV:=rgL b (K i) (w i) (N i) t (g i) (s i)
def gD (K:Nat→Nat) (f q:Nat→Nat→Nat) (i:Nat):List AV:=cellsF (K i) (f i) (q i)
theorem gC_mp (f:Id→Id) (K w N:Nat→Nat) (t:Nat) (g s:Nat→Nat) (i:Nat) (b:Id):mpL f (gC K w N t g s i b)=gC K w N t g s i (f b):=rfl
theorem gC_ids (K w N:Nat→Nat) (t:Nat) (g s:Nat→Nat) (i:Nat) (b:Id):idsL (gC K w N t g s i b)=[b]:=rfl
theorem gD_ids (K:Nat→Nat) (f q:Nat→Nat→Nat) (i:Nat):idsL (gD K f q i)=[]:=cellsF_ids _ _ _
theorem gD_mp (h:Id→Id) (K:Nat→Nat) (f q:Nat→Nat→Nat) (i:Nat):mpL h (gD K f q i)=gD K f q i:=mpL_noids (gD_ids _ _ _ _)
theorem mtB_mtG (M A:Id) (R B:Nat→Id) (x:Gl) (n:Nat) (W:List (List AV)) (K w:Nat→Nat) (t:Nat) (L:List Ev) (sd:Bool):
  mtB M A R B x n W K w t L sd=mtG M A R B (mtC x A n W (pF x.c t) (pT x.c t) (pcG x.c t L) (pcT x.c t L) t sd) n (gC K w (fun i=>t / w i) t (fun i=>sumG (K i) (w i) (t / w i) L) (fun i=>sumT (K i) (w i) (t / w i) L)) (gD K (fun i=>bkv eG (K i) (w i) (inW (K i) (t / w i)) L) (fun i=>bkv eT (K i) (w i) (inW (K i) (t / w i)) L)):=rfl
theorem mtG_up (M A:Id) (R B:Nat→Id) (x:Gl) (n:Nat) (W:List (List AV)) (fr to cg ct t:Nat) (sd:Bool) {C:Nat→Id→List AV} {D:Nat→List AV} (hC: ∀f i b,mpL f (C i b)=C i (f b)) (hD: ∀f i,mpL f (D i)=D i):
  mpB Id.up (mtG M A R B (mtC x A n W fr to cg ct t sd) n C D)=mtG (.up M) (.up A) (fun i=> .up (R i)) (fun i=> .up (B i)) (mtC x (.up A) n W fr to cg ct t sd) n C D:=by
 unfold mtG
 rw [mpB,mpB,ptrC_mp,mtC_mp,mpB_rgs (hC Id.up) (hD Id.up)]
def ringsB (K N:Nat→Nat) (f q:Nat→Nat→Nat):Nat→List UInt8
 |0=>[]
 |k+1=>ringsB K N f q k++cntB (bkI (K k) (N k) (f k)) (bkI (K k) (N k) (q k)) (K k)
def calB (c:Int) (cg ct:Nat):List UInt8:=if c=0 then [] else numB cg++numB ct
def metB (c:Int) (sd:Bool) (cg ct:Nat) (K N:Nat→Nat) (f q:Nat→Nat→Nat) (n:Nat):List UInt8:=flagB sd++(calB c cg ct++ringsB K N f q n)
structure GkOk (n:Nat) (K N:Nat→Nat) (f q:Nat→Nat→Nat):Prop where
 k1: ∀i,i<n→1≤K i
 k2: ∀i,i<n→K i≤60
 n1: ∀i,i<n→N i≤253402300799
 fq: ∀k,k<n→ ∀i,i<K k→bkI (K k) (N k) (f k) i<18446744073709551616∧bkI (K k) (N k) (q k) i<18446744073709551616
theorem ringsB_len {n:Nat} {K N:Nat→Nat} {f q:Nat→Nat→Nat} (h:GkOk n K N f q): ∀ {k:Nat},k≤n→(ringsB K N f q k).length≤1080*k
 |0,_=>by simp [ringsB]
 |k+1,hk=>by
  have h1:=ringsB_len h (k:=k) (by omega)
  have h2:=cntB_len (n:=K k) (fun i hi=>h.fq k (by omega) i hi)
  have h3:=h.k2 k (by omega)
  rw [ringsB,List.length_append];omega
theorem mput_spec (M A:Id) (R B:Nat→Id) (h:Nms M A R B) (x:Gl) (n:Nat) (hn:n≤100) (W:List (List AV)) (fr to cg ct:Nat) (hcg:cg<18446744073709551616) (hct:ct<18446744073709551616) (sd:Bool) (K w N:Nat→Nat) (t:Nat) (g s:Nat→Nat) (f q:Nat→Nat→Nat) (hk:GkOk n K N f q) (l:List UInt8) (hl:l.length≤500000) (d:Nat) (hd:M.isNw d=false):
  SpH Tryz.prog gl 33 d ⟨[.ptr M 0,.sl (byteRows l)],mtG M A R B (mtC x A n W fr to cg ct t sd) n (gC K w N t g s) (gD K f q),[(.s 1,1)]⟩ ⟨.sl (byteRows (l++metB x.c sd cg ct K N f q n)),mtG M A R B (mtC x A n W fr to cg ct t sd) n (gC K w N t g s) (gD K f q),[(.s 0,1)]⟩:=by
 refine h33 rfl ?_
 have hu:=h.up
 have hi:=inn_notNw hd
 have hdA:A.isNw d=false:=by rw [←h.na];exact hd
 have hiA:=inn_notNw hdA
 have mi:=h.mi
 have ai:=h.ai
 have ma:=h.ma
 have ma':A≠M:=fun e=>h.ma e.symm
 have mr:=h.mr
 have mb:=h.mb
 have ar:=h.ar
 have ab:=h.ab
 have mr': ∀i,¬R i=M:=fun i e=>h.mr i e.symm
 have mb': ∀i,¬B i=M:=fun i e=>h.mb i e.symm
 have ar': ∀i,¬R i=A:=fun i e=>h.ar i e.symm
 have ab': ∀i,¬B i=A:=fun i e=>h.ab i e.symm
 have hpa:=fun i (hi:i<n)=>ptrC_at (R:=fun i=>Id.up (R i)) hi
 have hpl:=ptrC_len (fun i=>Id.up (R i)) n
 have hpu:=ptrC_up (R:=R) (n:=n)
 have hpo: ∀ob,∀i∈idsL (ptrC R n),idOk d ob i:=fun ob=>ptrC_outi h hd
 have hpi:=ptrC_inn h (n:=n) hd
 have hfree:=fun C D s=>rgs_free (R:=R) (B:=B) (C:=C) (D:=D) (n:=n) (s:=s)
 have hnn:=fun C D s=>rgsB_none (R:=fun i=>Id.up (R i)) (B:=fun i=>Id.up (B i)) (C:=C) (D:=D) (x:= .n s) (fun i e=>by cases e) (fun i e=>by cases e) n
 have hin:=mtG_up M A R B x n W fr to cg ct t sd (C:=gC K w N t g s) (D:=gD K f q) (fun f i b=>gC_mp f K w N t g s i b) (fun h i=>gD_mp h K f q i)
 have MC:=fun e he=>mcal_spec (.up M) (.up A) h.pa.up x n W fr to cg ct t sd e he
 have RP:=fun i (hi:i<n) l hl e he=>rgput_spec (.up (R i)) (.up (B i)) (h.pr i).up (K i) (w i) (N i) t (g i) (s i) (f i) (q i) (hk.k1 i hi) (hk.k2 i hi) (hk.n1 i hi) (hk.fq i hi) l hl e he
 have hout:=fun σ=>rgs_out h (C:=gC K w N t g s) (D:=gD K f q) (n:=n) (d:=d) (σ:=σ) hd (fun f i b=>gC_mp f K w N t g s i b) (fun h i=>gD_mp h K f q i)
 have houi:=fun ob=>rgs_outi h (C:=gC K w N t g s) (D:=gD K f q) (n:=n) (d:=d) (ob:=ob) hd (gC_ids K w N t g s) (gD_ids K f q)
 have hups:=rgs_up (R:=R) (B:=B) (n:=n) (C:=gC K w N t g s) (D:=gD K f q) (gC_ids K w N t g s) (gD_ids K f q)
 have hlk: ∀i,i<n→lkB (rgsB (fun i=> .up (R i)) (fun i=> .up (B i)) (gC K w N t g s) (gD K f q) n) (.up (R i))=some (gC K w N t g s i (.up (B i)))∧lkB (rgsB (fun i=> .up (R i)) (fun i=> .up (B i)) (gC K w N t g s) (gD K f q) n) (.up (B i))=some (gD K f q i):=
  fun i hi=>⟨rgsB_R hu n hi,rgsB_B hu n hi⟩
 have sl:=fun k (hk':k≤n)=>ringsB_len hk hk'
 have hc9:(calB x.c cg ct).length≤18:=by
  unfold calB
  split
  ·simp
  ·have:=numB_len _ hcg
   have:=numB_len _ hct
   rw [List.length_append];omega
 have F1:=appS_mk (fun e=>wflag_spec l sd (by omega) e)
 have F2:=appS_mk (fun e=>wnum_spec (l++flagB sd) cg (by rw [List.length_append];simp [flagB];omega) hcg e)
 have F3:=appS_mk (fun e=>wnum_spec ((l++flagB sd)++numB cg) ct (by
  have:=numB_len _ hcg
  rw [List.length_append,List.length_append];simp [flagB];omega) hct e)
 have hpre: ∀k,l++(flagB sd++(calB x.c cg ct++ringsB K N f q k))=((l++flagB sd)++calB x.c cg ct)++ringsB K N f q k:=fun k=>by simp only [List.append_assoc]
 have RP2:=fun k (hk':k<n) e he=>RP k hk' (((l++flagB sd)++calB x.c cg ct)++ringsB K N f q k) (by
  have:=sl k (by omega)
  rw [List.length_append,List.length_append,List.length_append];simp [flagB];omega) e he
 have e3: ∀k,byteRows ((((l++flagB sd)++calB x.c cg ct)++ringsB K N f q k)++cntB (bkI (K k) (N k) (f k)) (bkI (K k) (N k) (q k)) (K k))=byteRows (((l++flagB sd)++calB x.c cg ct)++ringsB K N f q (k+1)):=fun k=>by
  rw [ringsB];simp only [List.append_assoc]
 simp only [e3] at RP2
 unfold metB
 rw [hpre]
 have e0:byteRows ((l++flagB sd)++calB x.c cg ct)=byteRows (((l++flagB sd)++calB x.c cg ct)++ringsB K N f q 0):=by rw [ringsB,List.append_nil]
 have ec:x.c≠0→byteRows (((l++flagB sd)++numB cg)++numB ct)=byteRows ((l++flagB sd)++calB x.c cg ct):=fun h=>by unfold calB;rw [if_neg h];simp only [List.append_assoc]
 have ec0:x.c=0→byteRows (l++flagB sd)=byteRows ((l++flagB sd)++calB x.c cg ct):=fun h=>by unfold calB;rw [if_pos h,List.append_nil]
 obtain ⟨Q,hQ⟩: ∃Q:Nat→List (List AV),Q=fun k=>byteRows (((l++flagB sd)++calB x.c cg ct)++ringsB K N f q k):=⟨_,rfl⟩
 have hQk: ∀k,byteRows (((l++flagB sd)++calB x.c cg ct)++ringsB K N f q k)=Q k:=fun k=>by rw [hQ]
 rw [e0] at ec ec0
 simp only [hQk] at RP2 ec ec0 ⊢
 clear hQ hQk e3 e0 sl hpre RP
 simp only [inSt,mpL,mpP,AV.mp,hin,Pl.mp]
 clear hin
 simp only [mtG]
 generalize ptrC (fun i=>Id.up (R i)) n=PC at *
 simp only [mtC] at MC ⊢
 have loop: ∀e,lk e 0= .ptr (.up M) 0→lk e 1= .sl (Q 0)→wpA (SpH Tryz.prog gl) (AC.tl 4 c33) (postH d [.t 4] ⟨.sl (Q n),(M,[.str x.n,.int .u32 x.t,i6 x.g,i6 x.a,i6 x.o,i6 x.c,.sl (x.lb.map Lb.row),.sl (x.ru.map Ru.row),.sl W,.ms A 0 n 1,i6 fr,i6 to,u cg,u ct,i6 t,.bool sd])::(A,ptrC R n)::rgsB R B (gC K w N t g s) (gD K f q) n,[(.s 0,1)]⟩) ⟨e,(.up M,[.str x.n,.int .u32 x.t,i6 x.g,i6 x.a,i6 x.o,i6 x.c,.sl (x.lb.map Lb.row),.sl (x.ru.map Ru.row),.sl W,.ms (.up A) 0 n 1,i6 fr,i6 to,u cg,u ct,i6 t,.bool sd])::(.up A,PC)::rgsB (fun i=> .up (R i)) (fun i=> .up (B i)) (gC K w N t g s) (gD K f q) n,[(.s 1,1)]⟩:=by
  intro e l0 l1
  simp only [c33,AC.tl]
  simp -implicitDefEqProofs [l0,l1,ma,ma']
  refine wp_lpk (α:=Nat) (fun k=>⟨[(1,.sl (Q k)),(34,.ms (.up A) 0 n 1),(35,i6 n),(36,i6 k)],(.up M,[.str x.n,.int .u32 x.t,i6 x.g,i6 x.a,i6 x.o,i6 x.c,.sl (x.lb.map Lb.row),.sl (x.ru.map Ru.row),.sl W,.ms (.up A) 0 n 1,i6 fr,i6 to,u cg,u ct,i6 t,.bool sd])::(.up A,PC)::rgsB (fun i=> .up (R i)) (fun i=> .up (B i)) (gC K w N t g s) (gD K f q) n,[(.s 1,1)]⟩) (fun k=>k≤n) (fun k=>n - k) ?_ 0 ?_ ?_
  ·intro K' k hK' k1
   by_cases g0:k<n
   ·have g':(k:Int)<n:=by omega
    have w1:IntKind.i64.wrap ((k:Int)+1)=(k+1:Nat):=by rw [wr]<;>omega
    obtain ⟨lR,lB⟩:=hlk k g0
    have fr2:=hfree (gC K w N t g s) (gD K f q)
    have RPk:=RP2 k g0
    have e0:PC[k]?=some (.ptr (.up (R k)) 0):=hpa k g0
    have kl:k<PC.length:=by omega
    have e1:PC[k]'kl= .ptr (.up (R k)) 0:=by rw [List.getElem?_eq_getElem kl] at e0;exact Option.some.inj e0
    have keep:=fun bx=>rgs_keep hu (C:=gC K w N t g s) (D:=gD K f q) g0 (bx:=bx)
    have rb: ¬R k=B k:=h.rb k k
    have rb': ¬B k=R k:=fun e=>h.rb k k e.symm
    have rb2: ∀i j,¬R i=B j:=fun i j=>h.rb i j
    have rb3: ∀i j,¬B i=R j:=fun i j e=>h.rb j i e.symm
    have fin:=fun σ' hσ=>hK' (k+1) σ' (by omega) (by omega) hσ
    clear hK' RP2 hpa MC F1 F2 F3 ec ec0
    simp only [gC] at lR
    simp only [gD] at lB
    simp -implicitDefEqProofs [g0,g',e0,e1,kl,hpl,ma,ma',w1]
    refine onH_mk _ _ (RPk _ rfl) ⟨?_,?_,?_,?_,?_,?_,?_⟩ ?_
    iterate 6 (· simp [lR,lB,mr,mb,ar,ab,mr',mb',ar',ab',rb,rb'])
    ·simp;exact fr2 _
    simp -implicitDefEqProofs [mr,mb,ar,ab,mr',mb',ar',ab',rb,rb',w1]
    refine fin _ (weak_mk ?_ ?_ ?_ ?_ ?_ ?_)
    ·simp [w1]
    ·intro p hp
     rcases List.mem_cons.1 hp with rfl|hp
     ·simp [mr',mb']
     ·rcases List.mem_cons.1 hp with rfl|hp
      ·simp [mr',mb',ar',ab',ma,ma']
      ·refine keep _ ?_ ?_ (fun i hi n1 n2=>⟨?_,?_⟩) p hp
       ·simp [gC]
       ·simp [gD,rb]
       ·simp [lkB_rmB,mr,ar,n1,n2,rb2,rb3]
       ·simp [lkB_rmB,mb,ab,n1,n2,rb2,rb3]
    ·simp
    ·simp
    ·simp
     exact ⟨fun d hd=> .inr (hpu d hd),fun a b hm d hd=> .inr (hups a b hm d hd)⟩
    ·simp
   ·obtain rfl:k=n:=by omega
    have g': ¬((k:Int)<k):=by omega
    have g2: ¬k<k:=Nat.lt_irrefl _
    clear hK' RP2 hpa MC F1 F2 F3 ec ec0
    simp -implicitDefEqProofs [g',g2]
    refine postH_r ⟨?_,?_,?_,?_,?_,?_⟩
    ·simp
    ·simp
    ·intro p hp
     rcases List.mem_cons.1 hp with rfl|hp
     ·simp [hi,hiA,mi]
     ·rcases List.mem_cons.1 hp with rfl|hp
      ·simp [hi,hiA,ai,ma,ma',hpi]
      ·refine hout _ (fun i hi=>?_) p hp
       simp -implicitDefEqProofs [lkB_rmB,mr,mb,ar,ab,hlk i hi]
    ·intro p hp
     rcases List.mem_cons.1 hp with rfl|hp
     ·simp [ai,hdA]
     ·rcases List.mem_cons.1 hp with rfl|hp
      ·exact hpo _
      ·exact houi _ p hp
    ·simp
    ·simp
  ·exact Nat.zero_le _
  ·refine weak_mk ?_ ?_ ?_ ?_ ?_ ?_
   ·simp [l1]
   ·intro p hp
    rcases List.mem_cons.1 hp with rfl|hp
    ·simp [mr',mb',ma,ma']
    ·rcases List.mem_cons.1 hp with rfl|hp
     ·simp [mr',mb',ar',ab',ma,ma']
     ·obtain ⟨i,hi,e|e⟩:=mem_rgsB.1 hp
      ·subst e;simp -implicitDefEqProofs [mr,mb,ar,ab,hlk i hi]
      ·subst e;simp -implicitDefEqProofs [mr,mb,ar,ab,hlk i hi]
   ·simp
   ·simp
   ·simp
    exact ⟨fun d hd=> .inr (hpu d hd),fun a b hm d hd=> .inr (hups a b hm d hd)⟩
   ·simp
 have ec9:c33=AC.cutAt 4 (AC.tl 4 c33) c33:=rfl
 rw [ec9]
 generalize AC.tl 4 c33=t0 at loop ⊢
 have fr1:=hfree (gC K w N t g s) (gD K f q)
 have rn1:=hnn (gC K w N t g s) (gD K f q)
 have rmM:rmB (rgsB (fun i=> .up (R i)) (fun i=> .up (B i)) (gC K w N t g s) (gD K f q) n) (.up M)=rgsB (fun i=> .up (R i)) (fun i=> .up (B i)) (gC K w N t g s) (gD K f q) n:=rgsB_rm hu.mr hu.mb n
 clear hout houi hups hlk RP2 hfree hnn hpa
 generalize rgsB (fun i=> .up (R i)) (fun i=> .up (B i)) (gC K w N t g s) (gD K f q) n=RG at *
 simp only [c33,AC.cutAt]
 generalize byteRows (l++flagB sd++numB cg)=M2 at *
 by_cases hc:x.c=0
 ·rw [ec0 hc] at F1
  have hb:(x.c !=0)=false:=by rw [hc];rfl
  rw [hb] at MC
  clear F2 F3 ec ec0 hc9
  simp -implicitDefEqProofs
  refine onA_mk 1 (Q 0) ?_ ?_
  ·simp [caS]
   exact F1
  simp -implicitDefEqProofs [caSt]
  refine onH_mk _ _ (MC _ rfl) ⟨?_,?_,?_,?_,?_,?_,?_⟩ ?_
  iterate 6 (· simp [ma,ma'])
  ·simp;exact fr1 _
  simp -implicitDefEqProofs [ma,ma',rmM]
  refine loop _ ?_ ?_<;>simp -implicitDefEqProofs
 ·have hb:(x.c !=0)=true:=by rw [bne_iff_ne];exact hc
  rw [hb] at MC
  rw [ec hc] at F3
  generalize byteRows (l++flagB sd)=M1 at *
  clear ec ec0 hc9
  simp -implicitDefEqProofs
  refine onA_mk 1 M1 ?_ ?_
  ·simp [caS]
   exact F1
  simp -implicitDefEqProofs [caSt]
  refine onH_mk _ _ (MC _ rfl) ⟨?_,?_,?_,?_,?_,?_,?_⟩ ?_
  iterate 6 (· simp [ma,ma'])
  ·simp;exact fr1 _
  simp -implicitDefEqProofs [ma,ma',rmM]
  refine onA_mk 1 M2 ?_ ?_
  ·simp [caS]
   exact F2
  simp -implicitDefEqProofs [caSt]
  refine onA_mk 1 (Q 0) ?_ ?_
  ·simp [caS]
   exact F3
  simp -implicitDefEqProofs [caSt]
  refine loop _ ?_ ?_<;>simp -implicitDefEqProofs
end Go.Ai
namespace Go.Ai
def mhS (c:Int) (st:RS):RS:=if c=0 then (flagN st).1 else (getN (getN (flagN st).1).1).1
def mhG (c:Int) (st:RS):Nat:=if c=0 then 0 else (getN (flagN st).1).2
def mhT (c:Int) (st:RS):Nat:=if c=0 then 0 else (getN (getN (flagN st).1).1).2
def mrS (K:Nat→Nat) (st:RS):Nat→RS
 |0=>st
 |i+1=>rdS (mrS K st i) (K i)
def RingOk (K N:Nat) (st:RS):Prop:= ∀i,i<K→ROk K N st i
theorem mrS_le {K:Nat→Nat} {st:RS} {n:Nat} (h:rsLe st n): ∀i,rsLe (mrS K st i) n
 |0=>h
 |i+1=>rdS_le (mrS_le h i) (K i)
theorem mhS_le {c:Int} {st:RS} {n:Nat} (h:rsLe st n):rsLe (mhS c st) n:=by
 unfold mhS;split
 ·exact flagN_le h
 ·exact getN_le (getN_le (flagN_le h))
theorem mh_put (c:Int) (sd:Bool) {cg ct:Nat} (h1:cg<18446744073709551616) (h2:ct<18446744073709551616) (hz:c=0→cg=0∧ct=0) (r:List UInt8):(flagN (some (flagB sd++(calB c cg ct++r)))).2=sd∧mhS c (some (flagB sd++(calB c cg ct++r)))=some r∧mhG c (some (flagB sd++(calB c cg ct++r)))=cg∧mhT c (some (flagB sd++(calB c cg ct++r)))=ct:=by
 unfold mhS mhG mhT calB
 rw [flagN_put]
 by_cases hc:c=0
 ·obtain ⟨z1,z2⟩:=hz hc
  simp only [if_pos hc,List.nil_append]
  exact ⟨trivial,trivial,z1.symm,z2.symm⟩
 ·simp only [if_neg hc,List.append_assoc]
  rw [getN_put _ _ h1]
  simp only
  rw [getN_put _ _ h2]
  exact ⟨trivial,rfl,trivial,rfl⟩
theorem mrS_put {K N:Nat→Nat} {f q:Nat→Nat→Nat} {n:Nat} (h:GkOk n K N f q): ∀ {k:Nat},k≤n→ ∀r,mrS K (some (ringsB K N f q k++r)) k=some r
 |0,_,r=>rfl
 |k+1,hk,r=>by
  rw [mrS,ringsB,List.append_assoc,mrS_put h (k:=k) (by omega),rdS_put (fun i hi=>h.fq k (by omega) i hi)]
theorem ringsB_split {K N:Nat→Nat} {f q:Nat→Nat→Nat} {i:Nat}: ∀ {n:Nat},i<n→ ∃t,∀r,ringsB K N f q n++r=ringsB K N f q i++(cntB (bkI (K i) (N i) (f i)) (bkI (K i) (N i) (q i)) (K i)++(t++r))
 |n+1,h=>by
  by_cases e:i=n
  ·subst e
   exact ⟨[],fun r=>by rw [ringsB];simp only [List.append_assoc,List.nil_append]⟩
  ·obtain ⟨t,ht⟩:=ringsB_split (K:=K) (N:=N) (f:=f) (q:=q) (n:=n) (i:=i) (by omega)
   refine ⟨t++cntB (bkI (K n) (N n) (f n)) (bkI (K n) (N n) (q n)) (K n),fun r=>?_⟩
   rw [ringsB,List.append_assoc,ht]
   simp only [List.append_assoc]
theorem mr_put {K N:Nat→Nat} {f q:Nat→Nat→Nat} {n:Nat} (h:GkOk n K N f q) {i:Nat} (hi:i<n) (r:List UInt8): ∃t,mrS K (some (ringsB K N f q n++r)) i=some (cntB (bkI (K i) (N i) (f i)) (bkI (K i) (N i) (q i)) (K i)++t):=by
 obtain ⟨t,ht⟩:=ringsB_split (K:=K) (N:=N) (f:=f) (q:=q) hi
 exact ⟨t++r,by rw [ht,mrS_put h (by omega)]⟩
theorem suT_mono {v:Nat→Nat}: ∀ {n m:Nat},n≤m→suT v n≤suT v m
 |n,0,h=>by rw [Nat.le_zero.1 h];exact Nat.le_refl _
 |n,m+1,h=>by
  by_cases e:n=m+1
  ·rw [e];exact Nat.le_refl _
  ·have:=suT_mono (v:=v) (n:=n) (m:=m) (by omega)
   simp only [suT];omega
theorem bkG_congr {K N:Nat} {v v':Nat→Nat}: ∀ {i:Nat},(∀k,k<i→v k=v' k)→bkG K N v i=bkG K N v' i
 |0,_=>rfl
 |i+1,h=>by rw [bkG,bkG,bkG_congr (fun k hk=>h k (by omega)),h i (by omega)]
theorem bN_zero {v:Ev→Nat} {K w N:Nat} {L:List Ev} {i:Nat} (h: ¬K≤N+1+i):bN v K w N L i=0:=if_neg h
theorem ring_got {K w N:Nat} {L:List Ev} (hK:1≤K) (hE:EvOk L) (hL: ∀e∈L,e.1 / w≤N) (hs:sumT K w N L≤9223372036854775807) {r:List UInt8} {st:RS}
  (hst:st=some (cntB (bkI K N (bkv eG K w (inW K N) L)) (bkI K N (bkv eT K w (inW K N) L)) K++r)):
  RingOk K N st∧suT (rdG st) K=sumG K w N L∧suT (rdT st) K=sumT K w N L∧cellsF K (bkG K N (rdG st) K) (bkG K N (rdT st) K)=bkC K w N L∧rdS st K=some r:=by
 have bG: ∀i,i<K→bN eG K w N L i≤bN eT K w N L i:=fun i hi=>by
  unfold bN;split
  ·exact sm_GT hE
  ·exact Nat.le_refl _
 have bT: ∀i,i<K→bN eT K w N L i≤9223372036854775807:=fun i hi=>Nat.le_trans (bN_le hL hi) hs
 have c1:cntB (bkI K N (bkv eG K w (inW K N) L)) (bkI K N (bkv eT K w (inW K N) L)) K=cntB (bN eG K w N L) (bN eT K w N L) K:=cntB_congr fun i hi=>⟨bkI_bN hL hi,bkI_bN hL hi⟩
 rw [c1] at hst
 have hb: ∀i,i<K→bN eG K w N L i<18446744073709551616∧bN eT K w N L i<18446744073709551616:=fun i hi=>by
  have:=bG i hi
  have:=bT i hi
  omega
 have rp:=fun i (hi:i<K)=>rd_put (f:=bN eG K w N L) (g:=bN eT K w N L) (r:=r) hb hi
 rw [←hst] at rp
 have g1:suT (rdG st) K=suT (bN eG K w N L) K:=suT_congr fun i hi=>(rp i hi).1
 have g2:suT (rdT st) K=suT (bN eT K w N L) K:=suT_congr fun i hi=>(rp i hi).2.1
 have e1:suT (bN eG K w N L) K=sumG K w N L:=suT_bN hL
 have e2:suT (bN eT K w N L) K=sumT K w N L:=suT_bN hL
 refine ⟨fun i hi=>?_,by rw [g1,e1],by rw [g2,e2],?_,by rw [hst,rdS_put hb]⟩
 ·obtain ⟨r1,r2,r3⟩:=rp i hi
  refine ⟨r3,by rw [r1,r2];exact bG i hi,by rw [r2];exact bT i hi,?_,?_⟩
  ·have a1:suT (rdT st) i+rdT st i=suT (rdT st) (i+1):=rfl
   have a2:=suT_mono (v:=rdT st) (n:=i+1) (m:=K) hi
   rw [g2,e2] at a2
   omega
  ·by_cases c:K≤N+1+i
   ·exact .inl c
   ·exact .inr ⟨by rw [r1,bN_zero c],by rw [r2,bN_zero c]⟩
 ·unfold bkC
  refine cellsF_congr fun j hj=>⟨?_,?_⟩
  ·rw [bkG_congr (fun i hi=>(rp i hi).1),bkG_bN hK hL hj]
  ·rw [bkG_congr (fun i hi=>(rp i hi).2.1),bkG_bN hK hL hj]
def fG (K w:Nat→Nat) (t:Nat) (L:List Ev) (i:Nat):Nat→Nat:=bkv eG (K i) (w i) (inW (K i) (t / w i)) L
def fT (K w:Nat→Nat) (t:Nat) (L:List Ev) (i:Nat):Nat→Nat:=bkv eT (K i) (w i) (inW (K i) (t / w i)) L
theorem gk_of {n:Nat} {K w:Nat→Nat} (hk:KwOk n K w) {t:Nat} (ht:t≤253402300799) {L:List Ev} (hL:LOk n K w t L):GkOk n K (fun i=>t / w i) (fG K w t L) (fT K w t L):=by
 refine ⟨hk.k1,hk.k2,fun i _=>Nat.le_trans (Nat.div_le_self _ _) ht,fun k hk' i hi=>?_⟩
 have hd:=EvLe.div (w:=w k) hL.le
 unfold fG fT
 rw [bkI_bN hd hi,bkI_bN hd hi]
 have b1:=bN_le (v:=eG) (K:=K k) hd hi
 have b2:=bN_le (v:=eT) (K:=K k) hd hi
 have b3:=hL.sm k hk'
 have b4:=sm_GT (w:=w k) (p:=inW (K k) (t / w k)) hL.ok
 unfold sumT at b3
 omega
def ringsD (K w:Nat→Nat) (t:Nat) (L:List Ev):Nat→List UInt8
 |0=>[]
 |k+1=>ringsD K w t L k++ringB (K k) (w k) (t / w k) L
theorem ringsD_eq {K w:Nat→Nat} {t:Nat} {L:List Ev} (hL:EvLe L t): ∀n,ringsB K (fun i=>t / w i) (fG K w t L) (fT K w t L) n=ringsD K w t L n
 |0=>rfl
 |n+1=>by
  rw [ringsB,ringsD,ringsD_eq hL n]
  unfold ringB
  congr 1
  exact cntB_congr fun i hi=>⟨bkI_bN (EvLe.div hL) hi,bkI_bN (EvLe.div hL) hi⟩
open Go.Proofs
theorem rbuckets_spec (wd g:Nat) (h:Wd wd g):Sp Tryz.prog gl 128 [i6 wd,i6 g] (i6 (wK wd g)):=by
 refine s128 rfl rfl ?_
 obtain ⟨g1,g2,w1,w2,md⟩:=h
 have d1:=tdivL (x:=(wd:Int)) (y:=(g:Int)) (a:=wd) (b:=g) rfl rfl
 have d2:(wd:Int) / g=(wd / g:Nat):=(Int.natCast_ediv wd g).symm
 have ql:wd / g≤wd:=Nat.div_le_self _ _
 have g0: ¬((g:Int)=0):=by omega
 have g0': ¬(g=0):=by omega
 unfold wK shK
 generalize wd / g=q at *
 have t0:IntKind.i64.wrap (q:Int)=q:=by rw [wrap_i64]<;>omega
 simp -implicitDefEqProofs [c128]
 refine wp_lpk (α:=Nat) (fun k=>⟨[(0,i6 wd),(1,i6 g),(5,i6 (shD q k)),(6,i6 (k+1:Nat))],[],[]⟩) (fun k=>k≤60) (fun k=>60 - k) ?_ 0 ?_ ?_
 ·intro K k hK k1
  by_cases c:k+1≤60
  ·have c':((k+1:Nat):Int)≤60:=by omega
   have c0: ¬(((k+1:Nat):Int)=0):=by omega
   have m1:=tmodL (x:=(q:Int)) (y:=((k+1:Nat):Int)) (a:=q) (b:=k+1) rfl rfl
   have m2:(q:Int)%((k+1:Nat):Int)=(q%(k+1):Nat):=by omega
   have w1:IntKind.i64.wrap (((k+1:Nat):Int)+1)=(k+1+1:Nat):=by rw [wr]<;>omega
   have e:shD q (k+1)=if q%(k+1)=0 then k+1 else shD q k:=rfl
   have fin:=fun σ' hσ=>hK (k+1) σ' (by omega) (by omega) hσ
   clear hK
   generalize ((k+1+1:Nat):Int)=k3 at *
   by_cases z:q%(k+1)=0
   ·have z':(((q%(k+1):Nat):Int)==0)=true:=by rw [z];rfl
    rw [if_pos z] at e
    rw [e] at fin
    clear z e
    generalize ((q%(k+1):Nat):Int)=r at *
    generalize ((k+1:Nat):Int)=k2 at *
    simp -implicitDefEqProofs [c',g0,g0',d1,d2,t0,c0]
    simp -implicitDefEqProofs [m1,m2,z',w1]
    refine fin _ ?_
    refine weak_mk ?_ ?_ ?_ ?_ ?_ ?_<;>simp -implicitDefEqProofs
   ·have z':(((q%(k+1):Nat):Int)==0)=false:=by rw [beq_eq_false_iff_ne];omega
    rw [if_neg z] at e
    rw [e] at fin
    clear z e
    generalize ((q%(k+1):Nat):Int)=r at *
    generalize ((k+1:Nat):Int)=k2 at *
    simp -implicitDefEqProofs [c',g0,g0',d1,d2,t0,c0]
    simp -implicitDefEqProofs [m1,m2,z',w1]
    refine fin _ ?_
    refine weak_mk ?_ ?_ ?_ ?_ ?_ ?_<;>simp -implicitDefEqProofs
  ·obtain rfl:k=60:=by omega
   clear hK
   simp -implicitDefEqProofs
 ·exact Nat.zero_le _
 ·have e0:shD q 0=1:=rfl
  refine weak_mk ?_ ?_ ?_ ?_ ?_ ?_<;>simp -implicitDefEqProofs [e0]
theorem rwithin_spec (wd g now a:Nat) (h:Wd wd g) (hn:now≤253402300799) (ha:a≤253402300799):Sp Tryz.prog gl 104 [i6 wd,i6 g,i6 now,i6 a] (.bool (inW (wK wd g) (now / wW wd g) (a / wW wd g))):=by
 refine s104 rfl rfl ?_
 have BK:=rbuckets_spec wd g h
 obtain ⟨k1,k2,_,w1,w2⟩:=wK_ok h
 have hw:=h.w2
 have d1:=tdivL (x:=(wd:Int)) (y:=(wK wd g:Int)) (a:=wd) (b:=wK wd g) rfl rfl
 have d1':(wd:Int) / (wK wd g:Nat)=(wW wd g:Nat):=(Int.natCast_ediv wd (wK wd g)).symm
 have e1:wd / wK wd g=wW wd g:=rfl
 rw [e1] at d1
 generalize wK wd g=K at *
 generalize wW wd g=w at *
 have d2:=tdivL (x:=(now:Int)) (y:=(w:Int)) (a:=now) (b:=w) rfl rfl
 have d2':(now:Int) / w=(now / w:Nat):=(Int.natCast_ediv now w).symm
 have d3:=tdivL (x:=(a:Int)) (y:=(w:Int)) (a:=a) (b:=w) rfl rfl
 have d3':(a:Int) / w=(a / w:Nat):=(Int.natCast_ediv a w).symm
 have l2:now / w≤now:=Nat.div_le_self _ _
 have l3:a / w≤a:=Nat.div_le_self _ _
 have t1:IntKind.i64.wrap (w:Int)=w:=by rw [wr]<;>omega
 have e:decide (((now / w:Nat):Int) - K<(a / w:Nat))=inW K (now / w) (a / w):=by
  unfold inW
  exact decide_eq_decide.2 (by omega)
 have t2:IntKind.i64.wrap ((now / w:Nat):Int)=(now / w:Nat):=by
  generalize now / w=q at *
  rw [wr]<;>omega
 have t3:IntKind.i64.wrap ((a / w:Nat):Int)=(a / w:Nat):=by
  generalize a / w=q at *
  rw [wr]<;>omega
 have t4:IntKind.i64.wrap (((now / w:Nat):Int) - K)=((now / w:Nat):Int) - K:=by
  generalize now / w=q at *
  rw [wr]<;>omega
 have k0: ¬((K:Int)=0):=by omega
 have k0': ¬(K=0):=by omega
 have w0: ¬((w:Int)=0):=by omega
 have w0': ¬(w=0):=by omega
 rw [←e]
 generalize ((now / w:Nat):Int)=q1 at *
 generalize ((a / w:Nat):Int)=q2 at *
 simp -implicitDefEqProofs [c104]
 refine onC_mk _ BK ?_
 simp -implicitDefEqProofs [k0,k0',w0,w0',d1,d1',d2,d2',d3,d3',t1,t2,t3,t4]
theorem rtick19_spec (n:Int):Sp Tryz.prog gl 79 [i6 n] (.bool (decide (0≤n)&&decide (n≤253402300799))):=by
 refine s79 rfl rfl ?_
 by_cases h:0≤n<;>simp -implicitDefEqProofs [c79,h]
theorem rover_spec (sg st cg ct:Nat) (hc:ct<18446744073709551616):Sp Tryz.prog gl 129 [.agg [u sg,u st],.agg [u cg,u ct]] (.bool (!fitB st ct)):=by
 refine s129 rfl rfl ?_
 unfold fitB
 by_cases h1:ct≤9223372036854775807
 ·have h1': ¬(9223372036854775807:Int)<ct:=by omega
  have h2': ¬9223372036854775807<ct:=by omega
  have t1:IntKind.u64.wrap (9223372036854775807 - (ct:Int))=9223372036854775807 - (ct:Int):=by rw [wrap_u64]<;>omega
  have e:decide (9223372036854775807 - (ct:Int)<st)=!decide (ct≤9223372036854775807∧st+ct≤9223372036854775807):=by
   rw [←decide_not]
   apply decide_eq_decide.2
   omega
  rw [←e]
  simp -implicitDefEqProofs [c129,h1',h2']
  simp only [t1]
  try trivial
 ·have h1':(9223372036854775807:Int)<ct:=by omega
  have h2':9223372036854775807<ct:=by omega
  have e:decide (ct≤9223372036854775807∧st+ct≤9223372036854775807)=false:=decide_eq_false (fun h=>h1 h.1)
  rw [e]
  simp -implicitDefEqProofs [c129,h1',h2']
open Go.Proofs
def evRow (e:Ev):List AV:=[i6 e.1,u e.2.1,u e.2.2]
def evRows (L:List Ev):List (List AV):=L.map evRow
theorem evRows_len (L:List Ev):(evRows L).length=L.length:=by simp [evRows]
theorem evRows_3 (L:List Ev): ∀r∈evRows L,r.length=3:=by
 intro r hr;simp only [evRows,List.mem_map] at hr;obtain ⟨e,_,rfl⟩:=hr;rfl
theorem evRows_at (L:List Ev) (k:Nat) (h:k<L.length):(evRows L)[k]?=some (evRow L[k]):=by simp [evRows,h]
def xC (x:Gl) (t:Nat) (sd:Bool) (L:List Ev):List AV:=
 [.str x.n,.int .u32 x.t,i6 x.g,i6 x.a,i6 x.o,i6 x.c,.sl (x.lb.map Lb.row),.sl (x.ru.map Ru.row),i6 t,.bool sd,.sl (evRows L)]
def yC (wd g t:Nat) (L:List Ev):List AV:=[i6 wd,i6 g,i6 t,.sl (evRows L)]
theorem xring_spec (X:Id) (hX:X.isIt=false) (x:Gl) (g:Nat) (hg:x.g=(g:Nat)) (t:Nat) (sd:Bool) (L:List Ev) (wd:Nat) (d:Nat) (hd:X.isNw d=false):
  SpH Tryz.prog gl 61 d ⟨[.ptr X 0,i6 wd],[(X,xC x t sd L)],[(.b X 10,3)]⟩ ⟨.ptr (.nw d (.n 20)) 0,[(X,xC x t sd L),(.nw d (.n 20),yC wd g t L)],[(.b X 10,3)]⟩:=by
 refine h61 rfl ?_
 have hi:=inn_notNw hd
 have hn: ¬X= .nw d (.n 20):=fun e=>by rw [e] at hd;simp at hd
 have hn': ¬Id.nw d (.n 20)=X:=fun e=>hn e.symm
 simp only [xC,yC,hg]
 generalize evRows L=rows
 simp only [inSt,mpL,mpB,mpP,AV.mp,Pl.mp]
 simp -implicitDefEqProofs [c61]
 refine postH_r ⟨?_,?_,?_,?_,?_,?_⟩<;>simp -implicitDefEqProofs [hi,hX,hd,hn,hn']
theorem sm_take {v:Ev→Nat} {w:Nat} {p:Nat→Bool} {L:List Ev} {k:Nat} (h:k<L.length):sm v w p (L.take (k+1))=sm v w p (L.take k)+(if p (L[k].1 / w)=true then v L[k] else 0):=by
 rw [List.take_succ_eq_append_getElem h,sm_app]
 simp [sm]
theorem sm_part {v:Ev→Nat} {w:Nat} {p:Nat→Bool} {L:List Ev} (k:Nat):sm v w p (L.take k)≤sm v w p L:=by
 have:=sm_app v w p (L.take k) (L.drop k)
 rw [List.take_append_drop] at this
 omega
theorem ysum_spec (Y:Id) (hY:Y.isIt=false) (wd g:Nat) (hwd:Wd wd g) (t:Nat) (ht:t≤253402300799) (L:List Ev) (hL:EvLe L t) (hE:EvOk L) (hll:L.length≤1000000) (hs:sumT (wK wd g) (wW wd g) (t / wW wd g) L≤9223372036854775807) (d:Nat) (hd:Y.isNw d=false):
  SpH Tryz.prog gl 62 d ⟨[.ptr Y 0],[(Y,yC wd g t L)],[]⟩ ⟨.agg [u (sumG (wK wd g) (wW wd g) (t / wW wd g) L),u (sumT (wK wd g) (wW wd g) (t / wW wd g) L)],[(Y,yC wd g t L)],[]⟩:=by
 refine h62 rfl ?_
 have hi:=inn_notNw hd
 have WI:=fun a ha=>rwithin_spec wd g t a hwd ht ha
 have hGT:=sm_GT (w:=wW wd g) (p:=inW (wK wd g) (t / wW wd g)) hE
 have pG:=fun k=>sm_part (v:=eG) (w:=wW wd g) (p:=inW (wK wd g) (t / wW wd g)) (L:=L) k
 have pT:=fun k=>sm_part (v:=eT) (w:=wW wd g) (p:=inW (wK wd g) (t / wW wd g)) (L:=L) k
 have sG:=fun k h=>sm_take (v:=eG) (w:=wW wd g) (p:=inW (wK wd g) (t / wW wd g)) (L:=L) (k:=k) h
 have sT:=fun k h=>sm_take (v:=eT) (w:=wW wd g) (p:=inW (wK wd g) (t / wW wd g)) (L:=L) (k:=k) h
 have eGe:sumG (wK wd g) (wW wd g) (t / wW wd g) L=sm eG (wW wd g) (inW (wK wd g) (t / wW wd g)) (L.take L.length):=by rw [List.take_length];rfl
 have eTe:sumT (wK wd g) (wW wd g) (t / wW wd g) L=sm eT (wW wd g) (inW (wK wd g) (t / wW wd g)) (L.take L.length):=by rw [List.take_length];rfl
 have g0:sm eG (wW wd g) (inW (wK wd g) (t / wW wd g)) (L.take 0)=0:=rfl
 have t0:sm eT (wW wd g) (inW (wK wd g) (t / wW wd g)) (L.take 0)=0:=rfl
 have rl:=evRows_len L
 have r3:=evRows_3 L
 have rat:=evRows_at L
 unfold sumT at hs
 rw [eGe,eTe]
 clear eGe eTe
 generalize wW wd g=w at *
 generalize inW (wK wd g) (t / w)=p at *
 obtain ⟨FG,hFG⟩: ∃F:Nat→Nat,F=fun k=>sm eG w p (L.take k):=⟨_,rfl⟩
 obtain ⟨FT,hFT⟩: ∃F:Nat→Nat,F=fun k=>sm eT w p (L.take k):=⟨_,rfl⟩
 have hG: ∀k,sm eG w p (L.take k)=FG k:=fun k=>by rw [hFG]
 have hT: ∀k,sm eT w p (L.take k)=FT k:=fun k=>by rw [hFT]
 simp only [hG,hT] at pG pT sG sT g0 t0 ⊢
 have bG: ∀k,FG k≤9223372036854775807:=fun k=>Nat.le_trans (pG k) (Nat.le_trans hGT hs)
 have bT: ∀k,FT k≤9223372036854775807:=fun k=>Nat.le_trans (pT k) hs
 clear hG hT hFG hFT pG pT hGT hs
 simp only [yC]
 generalize hR:evRows L=rows at *
 simp only [inSt,mpL,mpB,mpP,AV.mp]
 simp -implicitDefEqProofs [c62]
 refine wp_lpk (α:=Nat) (fun k=>⟨[(0,.ptr (.up Y) 0),(2,.ptr (.n 2) 0),(3,.ptr (.n 3) 0),(4,i6 k)],[(.n 3,[u (FG k),u (FT k)]),(.n 2,[u 0,u 0]),(.up Y,[i6 wd,i6 g,i6 t,.sl rows])],[]⟩) (fun k=>k≤L.length) (fun k=>L.length - k) ?_ 0 ?_ ?_
 ·intro K k hK k1
  by_cases c:k<L.length
  ·have c':(k:Int)<L.length:=by omega
   have w1:IntKind.i64.wrap ((k:Int)+1)=(k+1:Nat):=by rw [wr]<;>omega
   have kl:k<rows.length:=by omega
   have ew0:=rat k c
   have ew:rows[k]'kl=evRow L[k]:=by rw [List.getElem?_eq_getElem kl] at ew0;exact Option.some.inj ew0
   have le:=hL L[k] (List.getElem_mem c)
   have WK:=WI L[k].1 (by omega)
   have e1:=sG k c
   have e2:=sT k c
   have b1:=bG (k+1)
   have b2:=bT (k+1)
   have fin:=fun σ' hσ=>hK (k+1) σ' (by omega) (by omega) hσ
   have ed:evRow L[k]=[i6 L[k].1,u L[k].2.1,u L[k].2.2]:=rfl
   have eg:eG L[k]=L[k].2.1:=rfl
   have et:eT L[k]=L[k].2.2:=rfl
   rw [ed] at ew ew0
   rw [eg] at e1
   rw [et] at e2
   clear hK sG sT bG bT WI rat ed eg et le hL hE
   generalize L[k].1=a at *
   generalize L[k].2.1=cg at *
   generalize L[k].2.2=ct at *
   cases hp:p (a / w) with
   |false=>
    rw [hp] at WK e1 e2
    simp only [Bool.false_eq_true,if_false,Nat.add_zero] at e1 e2
    rw [e1,e2] at fin
    simp -implicitDefEqProofs [rl,c,c',kl,ew,ew0,r3]
    refine onC_mk _ WK ?_
    simp -implicitDefEqProofs [w1]
    refine fin _ ?_
    refine weak_mk ?_ ?_ ?_ ?_ ?_ ?_<;>simp -implicitDefEqProofs [w1]
   |true=>
    rw [hp] at WK e1 e2
    simp only [if_true] at e1 e2
    have v1:IntKind.u64.wrap ((FG k:Int)+cg)=(FG (k+1):Nat):=by rw [wrap_u64]<;>omega
    have v2:IntKind.u64.wrap ((FT k:Int)+ct)=(FT (k+1):Nat):=by rw [wrap_u64]<;>omega
    clear e1 e2 b1 b2
    generalize FG (k+1)=G1 at *
    generalize FT (k+1)=T1 at *
    simp -implicitDefEqProofs [rl,c,c',kl,ew,ew0,r3]
    refine onC_mk _ WK ?_
    simp -implicitDefEqProofs [rl,c,c',kl,ew,ew0,r3,v1,v2,w1]
    refine fin _ ?_
    refine weak_mk ?_ ?_ ?_ ?_ ?_ ?_<;>simp -implicitDefEqProofs [w1]
  ·obtain rfl:k=L.length:=by omega
   clear hK
   have c': ¬((L.length:Int)<L.length):=by omega
   generalize FG L.length=G1 at *
   generalize FT L.length=T1 at *
   simp -implicitDefEqProofs [rl,c']
   refine postH_r ⟨?_,?_,?_,?_,?_,?_⟩<;>simp -implicitDefEqProofs [hi,hY,hd]
 ·exact Nat.zero_le _
 ·refine weak_mk ?_ ?_ ?_ ?_ ?_ ?_<;>simp -implicitDefEqProofs [g0,t0]
open Go.Proofs
theorem rmBs_filter: ∀(r l:List (Id×List AV)),rmBs l r=l.filter fun p=>!(lkB r p.1).isSome
 |[],l=>by
  simp only [rmBs,lkB]
  exact (List.filter_eq_self.2 fun _ _=>rfl).symm
 |(d,c)::r,l=>by
  have e: ∀(l:List (Id×List AV)),rmB l d=l.filter fun p=>!decide (p.1=d):=by
   intro l
   induction l with
   |nil=>rfl
   |cons x l ih=>
    obtain ⟨k,v⟩:=x
    simp only [rmB,List.filter_cons]
    by_cases h:k=d<;>simp [h,ih]
  simp only [rmBs]
  rw [rmBs_filter r,e,List.filter_filter]
  apply List.filter_congr
  intro p _
  simp only [lkB]
  by_cases h:d=p.1
  ·rw [if_pos h];simp [h]
  ·have h': ¬p.1=d:=fun q=>h q.symm
   rw [if_neg h];simp [h']
theorem rmBs_pre {pre l:List (Id×List AV)} (h: ∀p∈pre,lkB l p.1=none):rmBs (pre++l) l=pre:=by
 rw [rmBs_filter,List.filter_append]
 have e1:pre.filter (fun p=>!(lkB l p.1).isSome)=pre:=List.filter_eq_self.2 fun p hp=>by rw [h p hp];rfl
 have e2:l.filter (fun p=>!(lkB l p.1).isSome)=[]:=List.filter_eq_nil_iff.2 fun p hp=>by
  have:(lkB l p.1).isSome:=lkB_isSome hp
  simp [this]
 rw [e1,e2,List.append_nil]
theorem dlBs_off {l:List (Id×List AV)}: ∀ {pm:List (Pl×Nat)},(∀p∈pm,∀e∈p.1.ids,lkB l e=none)→dlBs pm l=pm:=by
 have one: ∀(d:Id) (pm:List (Pl×Nat)),(∀p∈pm,∀e∈p.1.ids,e≠d)→dlB pm d=pm:=by
  intro d pm
  induction pm with
  |nil=>intro _;rfl
  |cons x r ih=>
   intro h
   obtain ⟨q,k⟩:=x
   have ih:=ih fun p hp=>h p (List.mem_cons_of_mem _ hp)
   have hx:=h _ (List.mem_cons_self ..)
   cases q with
   |s t=>simp only [dlB,ih]
   |t t i=>simp only [dlB,ih]
   |b e o=>
    simp only [Pl.ids,List.mem_singleton] at hx
    simp only [dlB,ih,if_neg (hx e rfl)]
 induction l with
 |nil=>intro pm _;rfl
 |cons x l ih=>
  intro pm h
  obtain ⟨d,c⟩:=x
  simp only [dlBs]
  rw [one d pm fun p hp e he q=>by
   have:=h p hp e he
   simp only [lkB] at this
   rw [if_pos q.symm] at this;cases this]
  refine ih fun p hp e he=>?_
  have:=h p hp e he
  simp only [lkB] at this
  split at this
  ·cases this
  ·exact this
section
variable {P:Program} {GL:List (Nat×List Value)} {K:St→Prop} {σ:St} {f d:Nat} {xs:List X} {pre l l':List (Id×List AV)} {vs:List AV} {r:AV}
theorem callOk_pre (hσ:σ.bx=pre++l) (hpre: ∀p∈pre,lkB l p.1=none) (hu: ∀p∈l,lkB l p.1=some p.2) (hkeep: ∀i,(lkB l' i).isSome=(lkB l i).isSome) (hf: ∀p∈σ.bx,p.1.isNw d=false) (hv:wkL (xs.map σ.v) vs):
  CallOk d σ xs ⟨vs,l,[]⟩ ⟨r,l',[]⟩:=by
 refine ⟨hv,fun p hp=>?_,by simp,trivial,fun p hp=>?_,fun p hp=>?_,hf⟩
 ·have h2:=hu p hp
  have h3:lkB σ.bx p.1=some p.2:=by
   rw [hσ,lkB_app]
   cases h4:lkB pre p.1 with
   |none=>exact h2
   |some c=>
    have:=hpre _ (lkB_mem _ _ _ h4)
    simp only at this
    rw [h2] at this;cases this
  simp only [wkB,h3];exact wkL_rfl' _
 ·simp only [hkeep,hu p hp];rfl
 ·left;simp only [←hkeep];exact lkB_isSome hp
theorem callSt_pre (hσ:σ.bx=pre++l) (hpre: ∀p∈pre,lkB l p.1=none) (hpm: ∀p∈σ.pm,∀e∈p.1.ids,lkB l e=none):callSt d σ xs ⟨vs,l,[]⟩ ⟨r,l',[]⟩=⟨(d,r)::σ.e,l'++pre,dlS σ.pm d⟩:=by
 simp only [callSt,retP,dlXs,List.nil_append]
 rw [hσ,rmBs_pre hpre,dlBs_off hpm]
theorem onH_pre (S:SpH P GL f d ⟨vs,l,[]⟩ ⟨r,l',[]⟩) (hσ:σ.bx=pre++l) (hpre: ∀p∈pre,lkB l p.1=none) (hu: ∀p∈l,lkB l p.1=some p.2) (hkeep: ∀i,(lkB l' i).isSome=(lkB l i).isSome)
  (hf: ∀p∈σ.bx,p.1.isNw d=false) (hpm: ∀p∈σ.pm,∀e∈p.1.ids,lkB l e=none) (hv:wkL (xs.map σ.v) vs) (hk:K ⟨(d,r)::σ.e,l'++pre,dlS σ.pm d⟩):onH (SpH P GL) f d xs K σ:=by
 refine onH_mk _ _ S (callOk_pre hσ hpre hu hkeep hf hv) ?_
 rw [callSt_pre hσ hpre hpm];exact hk
theorem onQ_pre {fr:List Nat} (S:SpH P GL f d ⟨vs,l,[]⟩ ⟨r,l',[]⟩) (hσ:σ.bx=pre++l) (hpre: ∀p∈pre,lkB l p.1=none) (hu: ∀p∈l,lkB l p.1=some p.2) (hkeep: ∀i,(lkB l' i).isSome=(lkB l i).isSome)
  (hf: ∀p∈σ.bx,p.1.isNw d=false) (hpm: ∀p∈σ.pm,∀e∈p.1.ids,lkB l e=none) (hv:wkL (xs.map σ.v) vs) (hq: ∀p∈l',inF fr p.1=false) (hk:K ⟨(d,r)::σ.e,l'++pre,dlS σ.pm d⟩) (hn:fr.contains d=false:=by decide):onQ (SpH P GL) f d xs fr K σ:=by
 refine onQ_mk _ _ S (callOk_pre hσ hpre hu hkeep hf hv) ⟨by simp,by simp,hq⟩ ?_ hn
 rw [callSt_pre hσ hpre hpm];exact hk
end
theorem mt_uniq {M A:Id} {R B:Nat→Id} (h:Nms M A R B) (mc ac:List AV) (C:Nat→Id→List AV) (D:Nat→List AV) (n:Nat): ∀p∈(M,mc)::(A,ac)::rgsB R B C D n,lkB ((M,mc)::(A,ac)::rgsB R B C D n) p.1=some p.2:=by
 intro p hp
 rcases List.mem_cons.1 hp with rfl|hp
 ·simp [lkB]
 ·rcases List.mem_cons.1 hp with rfl|hp
  ·simp only [lkB]
   rw [if_neg h.ma];simp
  ·obtain ⟨i,hi,e|e⟩:=mem_rgsB.1 hp
   ·subst e
    simp only [lkB]
    rw [if_neg (h.mr i),if_neg (h.ar i)]
    exact rgsB_R h n hi
   ·subst e
    simp only [lkB]
    rw [if_neg (h.mb i),if_neg (h.ab i)]
    exact rgsB_B h n hi
theorem rgs_keys {R B:Nat→Id} (C C':Nat→Id→List AV) (D D':Nat→List AV) (j:Id): ∀n,(lkB (rgsB R B C' D' n) j).isSome=(lkB (rgsB R B C D n) j).isSome
 |0=>rfl
 |n+1=>by
  have ih:=rgs_keys (R:=R) (B:=B) C C' D D' j n
  rw [rgsB_succ,rgsB_succ,lkB_app,lkB_app]
  cases h1:lkB (rgsB R B C' D' n) j with
  |some c=>
   rw [h1] at ih
   obtain ⟨c',h2⟩:=Option.isSome_iff_exists.1 ih.symm
   rw [h2];rfl
  |none=>
   rw [h1] at ih
   have h2:lkB (rgsB R B C D n) j=none:=by
    cases h3:lkB (rgsB R B C D n) j with
    |none=>rfl
    |some c=>rw [h3] at ih;cases ih
   rw [h2]
   simp only [lkB]
   split
   ·rfl
   ·split<;>rfl
theorem mt_keys {M A:Id} {R B:Nat→Id} (mc mc' ac ac':List AV) (C C':Nat→Id→List AV) (D D':Nat→List AV) (n:Nat) (j:Id):
  (lkB ((M,mc')::(A,ac')::rgsB R B C' D' n) j).isSome=(lkB ((M,mc)::(A,ac)::rgsB R B C D n) j).isSome:=by
 simp only [lkB]
 split
 ·rfl
 ·split
  ·rfl
  ·exact rgs_keys C C' D D' j n
theorem mt_none {M A:Id} {R B:Nat→Id} {mc ac:List AV} {C:Nat→Id→List AV} {D:Nat→List AV} {n s:Nat}:lkB ((Id.up M,mc)::(Id.up A,ac)::rgsB (fun i=> .up (R i)) (fun i=> .up (B i)) C D n) (.n s)=none:=by
 simp only [lkB]
 rw [if_neg (fun e=>by cases e),if_neg (fun e=>by cases e)]
 exact rgsB_none (fun i e=>by cases e) (fun i e=>by cases e) n
theorem mt_free {M A:Id} {R B:Nat→Id} {mc ac:List AV} {C:Nat→Id→List AV} {D:Nat→List AV} {n s:Nat}: ∀p∈(Id.up M,mc)::(Id.up A,ac)::rgsB (fun i=> .up (R i)) (fun i=> .up (B i)) C D n,p.1.isNw s=false:=by
 intro p hp
 rcases List.mem_cons.1 hp with rfl|hp
 ·rfl
 ·rcases List.mem_cons.1 hp with rfl|hp
  ·rfl
  ·exact rgs_free p.1 p.2 hp
open Go.Proofs
def addE (late:Int) (t:Nat) (a:Int) (cg ct:Nat):Int:=if ct<cg then 16 else if ¬(0≤a∧a≤253402300799) then 8 else if (t:Int)<a then 14 else if a<t - late then 13 else 0
theorem madd_bad (M A:Id) (h:Pr2 M A) (x:Gl) (hx:0≤x.a∧x.a≤86400) (n:Nat) (W:List (List AV)) (fr to cg0 ct0 t:Nat) (ht:t≤253402300799) (sd:Bool) (a:Int) (cg ct:Nat) (hb:addE x.a t a cg ct≠0) (d:Nat) (hd:M.isNw d=false):
  SpH Tryz.prog gl 23 d ⟨[.ptr M 0,i6 a,.agg [u cg,u ct]],[(M,mtC x A n W fr to cg0 ct0 t sd)],[]⟩ ⟨i6 (addE x.a t a cg ct),[(M,mtC x A n W fr to cg0 ct0 t sd)],[]⟩:=by
 refine h23 rfl ?_
 have hi:=inn_notNw hd
 have hdA:A.isNw d=false:=by rw [←h.nw];exact hd
 have hiA:=inn_notNw hdA
 have r1:=h.ri
 have b1:=h.bi
 have TK:=mtick_spec a
 have w1:IntKind.i64.wrap ((t:Int) - x.a)=(t:Int) - x.a:=wr (by omega) (by omega)
 simp only [mtC]
 simp only [inSt,mpL,mpB,mpP,AV.mp]
 unfold addE at hb ⊢
 by_cases g1:ct<cg
 ·have g1':(ct:Int)<cg:=by omega
  rw [if_pos g1]
  simp -implicitDefEqProofs [c23,g1,g1']
  refine postH_r ⟨?_,?_,?_,?_,?_,?_⟩<;>simp -implicitDefEqProofs [hi,hiA,r1,b1,hd,hdA]
 ·have g1': ¬(ct:Int)<cg:=by omega
  rw [if_neg g1] at hb ⊢
  by_cases g:0≤a∧a≤253402300799
  ·have tk:(decide (0≤a)&&decide (a≤253402300799))=true:=by simp [g]
   rw [tk] at TK
   rw [if_neg (fun e=>e g)] at hb ⊢
   by_cases g2:(t:Int)<a
   ·rw [if_pos g2]
    simp -implicitDefEqProofs [c23,g1,g1']
    refine onC_mk _ TK ?_
    simp -implicitDefEqProofs [g2]
    refine postH_r ⟨?_,?_,?_,?_,?_,?_⟩<;>simp -implicitDefEqProofs [hi,hiA,r1,b1,hd,hdA]
   ·rw [if_neg g2] at hb ⊢
    by_cases g3:a<t - x.a
    ·rw [if_pos g3]
     simp -implicitDefEqProofs [c23,g1,g1']
     refine onC_mk _ TK ?_
     simp -implicitDefEqProofs [g2]
     simp -implicitDefEqProofs [w1,g3]
     refine postH_r ⟨?_,?_,?_,?_,?_,?_⟩<;>simp -implicitDefEqProofs [hi,hiA,r1,b1,hd,hdA]
    ·rw [if_neg g3] at hb;exact absurd rfl hb
  ·rw [if_pos g]
   have tk:(decide (0≤a)&&decide (a≤253402300799))=false:=by
    rw [Bool.and_eq_false_iff,decide_eq_false_iff_not,decide_eq_false_iff_not]
    by_cases h:0≤a
    ·exact .inr fun e=>g ⟨h,e⟩
    ·exact .inl h
   rw [tk] at TK
   simp -implicitDefEqProofs [c23,g1,g1']
   refine onC_mk _ TK ?_
   simp -implicitDefEqProofs
   refine postH_r ⟨?_,?_,?_,?_,?_,?_⟩<;>simp -implicitDefEqProofs [hi,hiA,r1,b1,hd,hdA]
theorem add_ok {K w:Nat→Nat} {t:Nat} {L:List Ev} {a cg ct i:Nat} (h:okW K w t L a ct i=true) (b:Id):
  ringC b (K i) (w i) t (addL (K i) (w i) t L a cg ct)=ringC b (K i) (w i) t (L++[(a,cg,ct)])∧bkC (K i) (w i) (t / w i) (addL (K i) (w i) t L a cg ct)=bkC (K i) (w i) (t / w i) (L++[(a,cg,ct)]):=by
 unfold okW at h
 by_cases g:a / w i+K i≤t / w i
 ·have e:addL (K i) (w i) t L a cg ct=L:=by unfold addL addC;rw [if_pos g];rfl
  rw [e]
  obtain ⟨e1,e2⟩:=ringC_out (B:=b) (K:=K i) (w:=w i) (t:=t) (L:=L) (e:=(a,cg,ct)) g
  exact ⟨e1.symm,e2.symm⟩
 ·have hw:inW (K i) (t / w i) (a / w i)=true:=decide_eq_true (by omega)
  rw [hw] at h
  simp only [Bool.not_true,Bool.false_or,fitB,decide_eq_true_eq] at h
  have e:addL (K i) (w i) t L a cg ct=L++[(a,cg,ct)]:=by unfold addL addC;rw [if_neg g,if_pos h];rfl
  rw [e];exact ⟨rfl,rfl⟩
theorem pc_add {c:Int} {t:Nat} {L:List Ev} {a cg ct:Nat} (hc:c≠0):pcG c t (L++[(a,cg,ct)])=pcG c t L+(if pF c t≤a then cg else 0)∧pcT c t (L++[(a,cg,ct)])=pcT c t L+(if pF c t≤a then ct else 0):=by
 unfold pcG pcT
 rw [if_neg hc,if_neg hc,if_neg hc,if_neg hc,sm_one,sm_one]
 simp only [Nat.div_one,decide_eq_true_eq,eG,eT]
 exact ⟨trivial,trivial⟩
theorem pc_zero {t:Nat} {L:List Ev}:pcG 0 t L=0∧pcT 0 t L=0:=⟨rfl,rfl⟩
theorem pc_GT {c:Int} {t:Nat} {L:List Ev} (h:EvOk L):pcG c t L≤pcT c t L:=by
 unfold pcG pcT
 split
 ·exact Nat.le_refl _
 ·exact sm_GT h
theorem madd_full (M A:Id) (R B:Nat→Id) (h:Nms M A R B) (x:Gl) (hx:0≤x.a∧x.a≤86400) (n:Nat) (hn:n≤1000000) (W:List (List AV)) (K w:Nat→Nat) (hk:KwOk n K w) (t:Nat) (L:List Ev) (hL:LOk n K w t L) (sd:Bool)
  (ht:t≤253402300799) (a cg ct:Nat) (hct:ct<18446744073709551616) (hE:addE x.a t a cg ct=0) (hs:sd=true∨roomB x.c n K w t L a ct=false) (d:Nat) (hd:M.isNw d=false):
  SpH Tryz.prog gl 23 d ⟨[.ptr M 0,i6 a,.agg [u cg,u ct]],mtB M A R B x n W K w t L sd,[]⟩ ⟨i6 17,mtB M A R B x n W K w t L true,[]⟩:=by
 refine h23 rfl ?_
 have hu:=h.up
 have hi:=inn_notNw hd
 have hdA:A.isNw d=false:=by rw [←h.na];exact hd
 have hiA:=inn_notNw hdA
 have mi:=h.mi
 have ai:=h.ai
 have ma:=h.ma
 have ma':A≠M:=fun e=>h.ma e.symm
 have mr:=h.mr
 have mb:=h.mb
 have ar:=h.ar
 have ab:=h.ab
 have mr': ∀i,¬R i=M:=fun i e=>h.mr i e.symm
 have mb': ∀i,¬B i=M:=fun i e=>h.mb i e.symm
 have ar': ∀i,¬R i=A:=fun i e=>h.ar i e.symm
 have ab': ∀i,¬B i=A:=fun i e=>h.ab i e.symm
 have hpa:=fun i (hi:i<n)=>ptrC_at (R:=fun i=>Id.up (R i)) hi
 have hpl:=ptrC_len (fun i=>Id.up (R i)) n
 have hpu:=ptrC_up (R:=R) (n:=n)
 have hpo: ∀ob,∀i∈idsL (ptrC R n),idOk d ob i:=fun ob=>ptrC_outi h hd
 have hpi:=ptrC_inn h (n:=n) hd
 have hfree:=fun C D s=>rgs_free (R:=R) (B:=B) (C:=C) (D:=D) (n:=n) (s:=s)
 have hnn:=fun C D s=>rgsB_none (R:=fun i=>Id.up (R i)) (B:=fun i=>Id.up (B i)) (C:=C) (D:=D) (x:= .n s) (fun i e=>by cases e) (fun i e=>by cases e) n
 have hin:=mtB_up M A R B x n W K w t L sd
 unfold addE at hE
 by_cases g1:ct<cg
 ·rw [if_pos g1] at hE;cases hE
 rw [if_neg g1] at hE
 by_cases g: ¬(0≤(a:Int)∧(a:Int)≤253402300799)
 ·rw [if_pos g] at hE;cases hE
 rw [if_neg g] at hE
 by_cases g2:(t:Int)<a
 ·rw [if_pos g2] at hE;cases hE
 rw [if_neg g2] at hE
 by_cases g3:(a:Int)<t - x.a
 ·rw [if_pos g3] at hE;cases hE
 clear hE
 have g1': ¬(ct:Int)<cg:=by omega
 have g2': ¬t<a:=by omega
 have TK:=mtick_spec a
 have tk:(decide ((0:Int)≤a)&&decide ((a:Int)≤253402300799))=true:=by simp;omega
 rw [tk] at TK
 have w1:IntKind.i64.wrap ((t:Int) - x.a)=(t:Int) - x.a:=wr (by omega) (by omega)
 have RM:=fun e he=>mroom_spec (.up M) (.up A) _ _ hu x n hn W K w hk t L hL sd ht a cg ct (by omega) hct e he
 have hout:=fun σ=>rgs_out h (C:=rgC K w t L) (D:=rgD K w t L) (n:=n) (d:=d) (σ:=σ) hd (fun f i b=>rgC_mp f K w t L i b) (fun f i=>rgD_mp f K w t L i)
 have houi:=fun ob=>rgs_outi h (C:=rgC K w t L) (D:=rgD K w t L) (n:=n) (d:=d) (ob:=ob) hd (rgC_ids K w t L) (rgD_ids K w t L)
 have hlk: ∀i,i<n→lkB (rgsB (fun i=> .up (R i)) (fun i=> .up (B i)) (rgC K w t L) (rgD K w t L) n) (.up (R i))=some (rgC K w t L i (.up (B i)))∧lkB (rgsB (fun i=> .up (R i)) (fun i=> .up (B i)) (rgC K w t L) (rgD K w t L) n) (.up (B i))=some (rgD K w t L i):=
  fun i hi=>⟨rgsB_R hu n hi,rgsB_B hu n hi⟩
 have fr:=hfree (rgC K w t L) (rgD K w t L)
 simp only [inSt,mpL,mpP,AV.mp,hin]
 clear hin
 simp only [mtB,mtC] at RM ⊢
 cases sd with
 |true=>
  simp -implicitDefEqProofs [c23,hnn,g1,g1']
  refine onC_mk _ TK ?_
  simp -implicitDefEqProofs [g2,g2',w1,g3]
  refine postH_r ⟨?_,?_,?_,?_,?_,?_⟩
  ·simp
  ·simp
  ·intro p hp
   rcases List.mem_cons.1 hp with rfl|hp
   ·simp [hi,hiA,mi]
   ·rcases List.mem_cons.1 hp with rfl|hp
    ·simp [hi,hiA,ai,ma,ma',hpi]
    ·refine hout _ (fun i hi=>?_) p hp
     simp -implicitDefEqProofs [mr,mb,ar,ab,hlk i hi]
  ·intro p hp
   rcases List.mem_cons.1 hp with rfl|hp
   ·simp [ai,hdA]
   ·rcases List.mem_cons.1 hp with rfl|hp
    ·exact hpo _
    ·exact houi _ p hp
  ·simp
  ·simp
 |false=>
  rcases hs with h0|h0
  ·cases h0
  rw [h0] at RM
  simp -implicitDefEqProofs [c23,hnn,g1,g1']
  refine onC_mk _ TK ?_
  simp -implicitDefEqProofs [g2,g2',w1,g3]
  refine onH_pre (pre:=[(.n 5,[u cg,u ct])]) (RM _ rfl) rfl ?_ (mt_uniq hu _ _ _ _ n) (mt_keys _ _ _ _ _ _ _ _ n) ?_ ?_ ?_ ?_
  ·intro p hp
   simp only [List.mem_singleton] at hp
   subst hp;exact mt_none
  ·intro p hp
   rcases List.mem_cons.1 hp with rfl|hp
   ·rfl
   ·exact mt_free p hp
  ·simp
  ·simp
  simp -implicitDefEqProofs [ma,ma']
  refine postH_r ⟨?_,?_,?_,?_,?_,?_⟩
  ·simp
  ·simp
  ·intro p hp
   rcases List.mem_cons.1 hp with rfl|hp
   ·simp [hi,hiA,mi]
   ·rcases List.mem_cons.1 hp with rfl|hp
    ·simp [hi,hiA,ai,ma,ma',hpi]
    ·refine hout _ (fun i hi=>?_) p hp
     simp -implicitDefEqProofs [mr,mb,ar,ab,lkB_app,hlk i hi]
  ·intro p hp
   rcases List.mem_cons.1 hp with rfl|hp
   ·simp [ai,hdA]
   ·rcases List.mem_cons.1 hp with rfl|hp
    ·exact hpo _
    ·exact houi _ p hp
  ·simp
  ·simp
end Go.Ai
