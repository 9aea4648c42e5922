/- P10: a part of the proof: the rules, or what functions compute. Conditions: as each theorem says. -/
import Derived.Test.YtidcomakahbepaaGreatDoorP9
import Derived.Test.YtidcomakahbepaaGreatDoorP8
set_option linter.unusedSimpArgs false
set_option linter.unusedVariables false
set_option maxRecDepth 20000
namespace Go.Ai
open Go.Proofs
open Go.Proofs
theorem mtick_spec (n:Int):Sp Tryz.prog gl 65 [i6 n] (.bool (decide (0≤n)&&decide (n≤253402300799))):=by
 refine s65 rfl rfl ?_
 by_cases h:0≤n<;>simp -implicitDefEqProofs [c65,h]
def pF (c:Int) (t:Nat):Nat:=if c=1 then perF 1 t else if c=2 then perF 3 t else 0
def pT (c:Int) (t:Nat):Nat:=if c=1 then perT 1 t else if c=2 then perT 3 t else 0
theorem mperiod_spec (M A:Id) (h:Pr2 M A) (x:Gl) (n:Nat) (W:List (List AV)) (fr to cg ct t:Nat) (sd:Bool) (now:Nat) (ht:now≤253402300799) (d:Nat) (hd:M.isNw d=false):
  SpH Tryz.prog gl 88 d ⟨[.ptr M 0,i6 now],[(M,mtC x A n W fr to cg ct t sd)],[]⟩ ⟨.tup [i6 (pF x.c now),i6 (pT x.c now)],[(M,mtC x A n W fr to cg ct t sd)],[]⟩:=by
 refine h88 rfl ?_
 have hi:=inn_notNw hd
 have hdA:A.isNw d=false:=by rw [←h.nw];exact hd
 have hiA:=inn_notNw hdA
 have r1:=h.ri
 have b1:=h.bi
 have S1:=cmonth_spec now ht
 have S2:=cquarter_spec now ht
 unfold pF pT
 generalize perF 1 now=f1 at *
 generalize perT 1 now=t1 at *
 generalize perF 3 now=f3 at *
 generalize perT 3 now=t3 at *
 simp only [mtC]
 simp only [inSt,mpL,mpB,mpP,AV.mp]
 by_cases c1:x.c=1
 ·rw [if_pos c1,if_pos c1]
  have c1':(x.c==1)=true:=by rw [c1];rfl
  simp -implicitDefEqProofs [c88,c1']
  refine onC_mk _ S1 ?_
  simp -implicitDefEqProofs
  refine postH_r ⟨?_,?_,?_,?_,?_,?_⟩<;>simp -implicitDefEqProofs [hi,hiA,r1,b1,hd,hdA]
 ·rw [if_neg c1,if_neg c1]
  have c1':(x.c==1)=false:=by rw [beq_eq_false_iff_ne];exact c1
  by_cases c2:x.c=2
  ·rw [if_pos c2,if_pos c2]
   have c2':(x.c==2)=true:=by rw [c2];rfl
   simp -implicitDefEqProofs [c88,c1',c2']
   refine onC_mk _ S2 ?_
   simp -implicitDefEqProofs
   refine postH_r ⟨?_,?_,?_,?_,?_,?_⟩<;>simp -implicitDefEqProofs [hi,hiA,r1,b1,hd,hdA]
  ·rw [if_neg c2,if_neg c2]
   have c2':(x.c==2)=false:=by rw [beq_eq_false_iff_ne];exact c2
   simp -implicitDefEqProofs [c88,c1',c2']
   refine postH_r ⟨?_,?_,?_,?_,?_,?_⟩<;>simp -implicitDefEqProofs [hi,hiA,r1,b1,hd,hdA]
section
variable (M A:Id) (h:Pr2 M A) (x:Gl) (n:Nat) (W:List (List AV)) (fr to cg ct t:Nat) (sd:Bool) (d:Nat) (hd:M.isNw d=false)
include h hd
theorem mcal_spec:SpH Tryz.prog gl 63 d ⟨[.ptr M 0],[(M,mtC x A n W fr to cg ct t sd)],[]⟩ ⟨.bool (x.c !=0),[(M,mtC x A n W fr to cg ct t sd)],[]⟩:=by
 refine h63 rfl ?_
 have hi:=inn_notNw hd
 have hdA:A.isNw d=false:=by rw [←h.nw];exact hd
 have hiA:=inn_notNw hdA
 have r1:=h.ri
 have b1:=h.bi
 simp only [mtC]
 simp only [inSt,mpL,mpB,mpP,AV.mp]
 simp -implicitDefEqProofs [c63]
 refine postH_r ⟨?_,?_,?_,?_,?_,?_⟩<;>simp -implicitDefEqProofs [hi,hiA,r1,b1,hd,hdA]
theorem mnow_spec:SpH Tryz.prog gl 25 d ⟨[.ptr M 0],[(M,mtC x A n W fr to cg ct t sd)],[]⟩ ⟨i6 t,[(M,mtC x A n W fr to cg ct t sd)],[]⟩:=by
 refine h25 rfl ?_
 have hi:=inn_notNw hd
 have hdA:A.isNw d=false:=by rw [←h.nw];exact hd
 have hiA:=inn_notNw hdA
 have r1:=h.ri
 have b1:=h.bi
 simp only [mtC]
 simp only [inSt,mpL,mpB,mpP,AV.mp]
 simp -implicitDefEqProofs [c25]
 refine postH_r ⟨?_,?_,?_,?_,?_,?_⟩<;>simp -implicitDefEqProofs [hi,hiA,r1,b1,hd,hdA]
end
open Go.Proofs
def kix (n:Nat):Nat:=12*yearN n+(monthN n - 1)
theorem kix_ok (n:Nat) (h:719468≤n) (h2:n≤3652364):23640≤kix n∧startK (kix n)≤n∧n<startK (kix n+1):=by
 obtain ⟨a1,a2,a3,a4,a5,a6⟩:=at_ok n h h2
 obtain ⟨s1,s2⟩:=startK_at (y:=yearN n) a3 a4
 have nx:=startK_next (kix n) (by unfold kix;omega)
 unfold kix at nx ⊢
 rw [s1] at nx ⊢
 rw [s2] at nx
 omega
theorem startK_mono {j k:Nat} (hj:12≤j) (h:j≤k):startK j≤startK k:=by
 have:=startK_le j hj (k - j)
 rw [show j+(k - j)=k by omega] at this
 omega
theorem stN_startK {y m:Nat} (h1:1≤m) (h2:m≤13):stN y m=startK (12*y+(m - 1)):=by
 unfold stN
 by_cases h:12<m
 ·obtain rfl:m=13:=by omega
  rw [if_pos (by omega)]
  have:=(startK_at (y:=y+1) (m:=1) (by omega) (by omega)).1
  rw [show 12*y+(13 - 1)=12*(y+1)+(1 - 1) by omega,this]
 ·rw [if_neg h]
  exact ((startK_at (y:=y) h1 (by omega)).1).symm
def k0 (s n:Nat):Nat:=kix n - kix n%s
theorem k0_eq {s n:Nat} (hs:s=1∨s=3) (h1:1≤monthN n) (h2:monthN n≤12):k0 s n=12*yearN n+(fstM s n - 1):=by
 unfold k0 kix fstM
 rcases hs with rfl|rfl<;>omega
theorem per_k0 {s t:Nat} (hs:s=1∨s=3) (ht:t≤253402300799):perF s t=86400*(startK (k0 s (dayOf t)) - 719468)∧perT s t=86400*(startK (k0 s (dayOf t)+s) - 719468):=by
 obtain ⟨y1,y2,m1,m2,-,-⟩:=at_ok (dayOf t) (by unfold dayOf;omega) (by unfold dayOf;omega)
 obtain ⟨f1,f2,f3,f4⟩:=fstM_ok (n:=dayOf t) hs m1 m2
 have e1:=k0_eq (n:=dayOf t) hs m1 m2
 have e2:k0 s (dayOf t)+s=12*yearN (dayOf t)+(fstM s (dayOf t)+s - 1):=by omega
 unfold perF perT
 rw [e2,e1,stN_startK f1 (by omega),stN_startK (by omega) f4]
 exact ⟨rfl,rfl⟩
theorem per_cases {s t t':Nat} (hs:s=1∨s=3) (h:t≤t') (ht:t'≤253402300799):
  (perF s t'=perF s t∧perT s t'=perT s t)∨(t<perF s t'∧perF s t'≠perF s t):=by
 obtain ⟨e1,e2⟩:=per_k0 (t:=t) hs (by omega)
 obtain ⟨e3,e4⟩:=per_k0 (t:=t') hs ht
 have n1:719468≤dayOf t:=by unfold dayOf;omega
 have n2:dayOf t≤dayOf t':=by unfold dayOf;omega
 have n3:dayOf t'≤3652364:=by unfold dayOf;omega
 have lt:t<86400*(dayOf t+1 - 719468):=by unfold dayOf;omega
 have le:86400*(dayOf t - 719468)≤t:=by unfold dayOf;omega
 obtain ⟨a1,a2,a3⟩:=kix_ok (dayOf t) n1 (by omega)
 obtain ⟨b1,b2,b3⟩:=kix_ok (dayOf t') (by omega) n3
 have km:kix (dayOf t)≤kix (dayOf t'):=by
  rcases Nat.lt_or_ge (kix (dayOf t')) (kix (dayOf t)) with g|g
  ·have:=startK_mono (j:=kix (dayOf t')+1) (k:=kix (dayOf t)) (by omega) (by omega)
   omega
  ·exact g
 have hk:k0 s (dayOf t)=k0 s (dayOf t')∨kix (dayOf t)+1≤k0 s (dayOf t'):=by
  unfold k0
  generalize kix (dayOf t)=a at *
  generalize kix (dayOf t')=b at *
  rcases hs with rfl|rfl<;>omega
 rcases hk with hk|hk
 ·left;rw [e1,e2,e3,e4,hk];exact ⟨rfl,rfl⟩
 ·right
  have m1:=startK_mono (j:=kix (dayOf t)+1) (k:=k0 s (dayOf t')) (by omega) hk
  have kl:k0 s (dayOf t)≤kix (dayOf t):=Nat.sub_le _ _
  have kg:12≤k0 s (dayOf t):=by
   unfold k0
   rcases hs with rfl|rfl<;>omega
  have m2:=startK_mono kg kl
  rw [e1,e3]
  generalize startK (k0 s (dayOf t'))=p at *
  generalize startK (k0 s (dayOf t))=q at *
  generalize startK (kix (dayOf t)+1)=r at *
  generalize startK (kix (dayOf t))=z at *
  omega
open Go.Proofs
def pcG (c:Int) (t:Nat) (L:List Ev):Nat:=if c=0 then 0 else sm eG 1 (fun q=>decide (pF c t≤q)) L
def pcT (c:Int) (t:Nat) (L:List Ev):Nat:=if c=0 then 0 else sm eT 1 (fun q=>decide (pF c t≤q)) L
theorem pF_cases (c:Int) {t t':Nat} (h:t≤t') (ht:t'≤253402300799):(pF c t'=pF c t∧pT c t'=pT c t)∨(t<pF c t'∧pF c t'≠pF c t):=by
 unfold pF pT
 by_cases h1:c=1
 ·simp only [if_pos h1];exact per_cases (.inl rfl) h ht
 ·simp only [if_neg h1]
  by_cases h2:c=2
  ·simp only [if_pos h2];exact per_cases (.inr rfl) h ht
  ·simp only [if_neg h2];exact .inl ⟨trivial,trivial⟩
theorem pc_move {c:Int} {t t':Nat} {L:List Ev} (h:t≤t') (ht:t'≤253402300799) (hL:EvLe L t) (hp:pF c t'≠pF c t):pcG c t' L=0∧pcT c t' L=0:=by
 have hlt:t<pF c t':=by
  rcases pF_cases c h ht with ⟨e,_⟩|⟨e,_⟩
  ·exact absurd e hp
  ·exact e
 have z: ∀v,sm v 1 (fun q=>decide (pF c t'≤q)) L=0:=fun v=>sm_zero fun e he=>by
  have:=hL e he
  rw [Nat.div_one,decide_eq_false_iff_not];omega
 unfold pcG pcT
 rw [z,z]
 split<;>exact ⟨rfl,rfl⟩
theorem pc_same {c:Int} {t t':Nat} {L:List Ev} (hp:pF c t'=pF c t):pcG c t' L=pcG c t L∧pcT c t' L=pcT c t L:=by
 unfold pcG pcT;rw [hp];exact ⟨rfl,rfl⟩
def rgC (K w:Nat→Nat) (t:Nat) (L:List Ev) (i:Nat) (b:Id):List AV:=ringC b (K i) (w i) t L
def rgD (K w:Nat→Nat) (t:Nat) (L:List Ev) (i:Nat):List AV:=bkC (K i) (w i) (t / w i) L
theorem rgC_mp (f:Id→Id) (K w:Nat→Nat) (t:Nat) (L:List Ev) (i:Nat) (b:Id):mpL f (rgC K w t L i b)=rgC K w t L i (f b):=rfl
theorem rgC_ids (K w:Nat→Nat) (t:Nat) (L:List Ev) (i:Nat) (b:Id):idsL (rgC K w t L i b)=[b]:=rfl
theorem rgD_ids (K w:Nat→Nat) (t:Nat) (L:List Ev) (i:Nat):idsL (rgD K w t L i)=[]:=cellsF_ids _ _ _
theorem rgD_mp (f:Id→Id) (K w:Nat→Nat) (t:Nat) (L:List Ev) (i:Nat):mpL f (rgD K w t L i)=rgD K w t L i:=mpL_noids (rgD_ids _ _ _ _ _)
def mtB (M A:Id) (R B:Nat→Id) (x:Gl) (n:Nat) (W:List (List AV)) (K w:Nat→Nat) (t:Nat) (L:List Ev) (sd:Bool):List (Id×List AV):=
 (M,mtC x A n W (pF x.c t) (pT x.c t) (pcG x.c t L) (pcT x.c t L) t sd)::(A,ptrC R n)::rgsB R B (rgC K w t L) (rgD K w t L) n
theorem rgs_free {R B:Nat→Id} {C:Nat→Id→List AV} {D:Nat→List AV} {n s:Nat}: ∀(a:Id) (b:List AV),(a,b)∈rgsB (fun i=>Id.up (R i)) (fun i=>Id.up (B i)) C D n→a.isNw s=false:=by
 intro a b h
 obtain ⟨i,_,e|e⟩:=mem_rgsB.1 h<;>cases e<;>rfl
theorem upto_ids {k:Nat} {C C':Nat→Id→List AV} (h1: ∀i b,idsL (C i b)=[b]) (h2: ∀i b,idsL (C' i b)=[b]) (i:Nat) (b:Id):idsL (upto k C' C i b)=[b]:=by
 unfold upto;split
 ·exact h2 i b
 ·exact h1 i b
theorem upto_ids0 {k:Nat} {D D':Nat→List AV} (h1: ∀i,idsL (D i)=[]) (h2: ∀i,idsL (D' i)=[]) (i:Nat):idsL (upto k D' D i)=[]:=by
 unfold upto;split
 ·exact h2 i
 ·exact h1 i
theorem rgs_up {R B:Nat→Id} {C:Nat→Id→List AV} {D:Nat→List AV} {n:Nat} (h1: ∀i b,idsL (C i b)=[b]) (h2: ∀i,idsL (D i)=[]):
  ∀(a:Id) (b:List AV),(a,b)∈rgsB (fun i=>Id.up (R i)) (fun i=>Id.up (B i)) C D n→ ∀d∈idsL b,d.isUp=true:=by
 intro a b h d hd
 obtain ⟨i,_,e|e⟩:=mem_rgsB.1 h<;>cases e
 ·rw [h1] at hd;simp at hd;subst hd;rfl
 ·rw [h2] at hd;simp at hd
theorem rgs_out {M A:Id} {R B:Nat→Id} (h:Nms M A R B) {C:Nat→Id→List AV} {D:Nat→List AV} {n d:Nat} {σ:St} (hd:M.isNw d=false) (hC: ∀f i b,mpL f (C i b)=C i (f b)) (hD: ∀f i,mpL f (D i)=D i)
  (hl: ∀i,i<n→lkB σ.bx (.up (R i))=some (C i (.up (B i)))∧lkB σ.bx (.up (B i))=some (D i)):
  ∀p∈rgsB R B C D n,(p.1.inn d).isIt=false∧obx d σ p.1 p.2:=by
 intro p hp
 obtain ⟨i,hi,e|e⟩:=mem_rgsB.1 hp
 ·subst e
  have e1:(R i).inn d= .up (R i):=inn_notNw (by rw [←h.nr];exact hd)
  have e2:(B i).inn d= .up (B i):=inn_notNw (by rw [←h.nb];exact hd)
  refine ⟨by rw [e1];exact h.ri i,?_⟩
  simp only [obx,e1,(hl i hi).1,hC,e2]
  exact .inl rfl
 ·subst e
  have e2:(B i).inn d= .up (B i):=inn_notNw (by rw [←h.nb];exact hd)
  refine ⟨by rw [e2];exact h.bi i,?_⟩
  simp only [obx,e2,(hl i hi).2,hD]
  exact .inl rfl
theorem rgs_outi {M A:Id} {R B:Nat→Id} (h:Nms M A R B) {C:Nat→Id→List AV} {D:Nat→List AV} {n d:Nat} {ob:List (Id×List AV)} (hd:M.isNw d=false) (h1: ∀i b,idsL (C i b)=[b]) (h2: ∀i,idsL (D i)=[]):
  ∀p∈rgsB R B C D n,∀i∈idsL p.2,idOk d ob i:=by
 intro p hp j hj
 obtain ⟨i,hi,e|e⟩:=mem_rgsB.1 hp
 ·subst e
  simp only [h1,List.mem_singleton] at hj
  subst hj
  exact ⟨h.bi i,fun e=>by rw [←h.nb,hd] at e;cases e⟩
 ·subst e
  simp only [h2] at hj
  simp at hj
theorem ptrC_outi {M A:Id} {R B:Nat→Id} (h:Nms M A R B) {n d:Nat} {ob:List (Id×List AV)} (hd:M.isNw d=false): ∀i∈idsL (ptrC R n),idOk d ob i:=by
 intro j hj
 obtain ⟨i,hi,rfl⟩:=ptrC_ids hj
 exact ⟨h.ri i,fun e=>by rw [←h.nr,hd] at e;cases e⟩
theorem ptrC_inn {M A:Id} {R B:Nat→Id} (h:Nms M A R B) {n d:Nat} (hd:M.isNw d=false):mpL (Id.inn d) (ptrC R n)=ptrC (fun i=> .up (R i)) n:=by
 rw [ptrC_mp]
 congr 1
 funext i
 exact inn_notNw (by rw [←h.nr];exact hd)
theorem ptrC_up {R:Nat→Id} {n:Nat}: ∀d∈idsL (ptrC (fun i=>Id.up (R i)) n),d.isUp=true:=by
 intro j hj
 obtain ⟨i,hi,rfl⟩:=ptrC_ids hj
 rfl
open Go.Proofs
structure KwOk (n:Nat) (K w:Nat→Nat):Prop where
 k1: ∀i,i<n→1≤K i
 k2: ∀i,i<n→K i≤60
 w1: ∀i,i<n→1≤w i
structure LOk (n:Nat) (K w:Nat→Nat) (t:Nat) (L:List Ev):Prop where
 ok:EvOk L
 le:EvLe L t
 sm: ∀i,i<n→sumT (K i) (w i) (t / w i) L≤9223372036854775807
theorem mmove_spec (M A:Id) (R B:Nat→Id) (h:Nms M A R B) (x:Gl) (n:Nat) (hn:n≤1000000) (W:List (List AV)) (K w:Nat→Nat) (hk:KwOk n K w) (t t':Nat) (L:List Ev) (hL:LOk n K w t L) (sd:Bool)
  (htt:t≤t') (ht:t'≤253402300799) (d:Nat) (hd:M.isNw d=false):
  SpH Tryz.prog gl 42 d ⟨[.ptr M 0,i6 t'],mtB M A R B x n W K w t L sd,[]⟩ ⟨i6 0,mtB M A R B x n W K w t' L sd,[]⟩:=by
 refine h42 rfl ?_
 have hu:=h.up
 have hi:=inn_notNw hd
 have hdA:A.isNw d=false:=by rw [←h.na];exact hd
 have hiA:=inn_notNw hdA
 have mi:=h.mi
 have ai:=h.ai
 have ma:=h.ma
 have ma':A≠M:=fun e=>h.ma e.symm
 have mr:=h.mr
 have mb:=h.mb
 have ar:=h.ar
 have ab:=h.ab
 have mr': ∀i,¬R i=M:=fun i e=>h.mr i e.symm
 have mb': ∀i,¬B i=M:=fun i e=>h.mb i e.symm
 have ar': ∀i,¬R i=A:=fun i e=>h.ar i e.symm
 have ab': ∀i,¬B i=A:=fun i e=>h.ab i e.symm
 have TK:=mtick_spec t'
 have tk:(decide ((0:Int)≤t')&&decide ((t':Int)≤253402300799))=true:=by simp;omega
 rw [tk] at TK
 have a1: ¬((t':Int)<t):=by omega
 have a1': ¬(t'<t):=by omega
 have PS:=fun (fr to cg ct:Nat) e he=>mperiod_spec (.up M) (.up A) h.pa.up x n W fr to cg ct t' sd t' ht e he
 have hc:=pF_cases x.c htt ht
 have hz:=fun e=>pc_move (c:=x.c) htt ht hL.le e
 have hs:=fun e=>pc_same (c:=x.c) (t:=t) (t':=t') (L:=L) e
 have RM:=fun i (hi:i<n) e he=>rmove_spec (.up (R i)) (.up (B i)) (h.pr i).up (K i) (w i) t t' L (hk.k1 i hi) (hk.k2 i hi) (hk.w1 i hi) htt ht hL.ok hL.le (hL.sm i hi) e he
 have hpa:=fun i (hi:i<n)=>ptrC_at (R:=fun i=>Id.up (R i)) hi
 have hpl:=ptrC_len (fun i=>Id.up (R i)) n
 have hpu:=ptrC_up (R:=R) (n:=n)
 have hpo: ∀ob,∀i∈idsL (ptrC R n),idOk d ob i:=fun ob=>ptrC_outi h hd
 have hpi:=ptrC_inn h (n:=n) hd
 have hout:=fun σ=>rgs_out h (C:=rgC K w t' L) (D:=rgD K w t' L) (n:=n) (d:=d) (σ:=σ) hd (fun f i b=>rgC_mp f K w t' L i b) (fun f i=>rgD_mp f K w t' L i)
 have houi:=fun ob=>rgs_outi h (C:=rgC K w t' L) (D:=rgD K w t' L) (n:=n) (d:=d) (ob:=ob) hd (rgC_ids K w t' L) (rgD_ids K w t' L)
 have hin:mpB Id.up (mtB M A R B x n W K w t L sd)=(.up M,mtC x (.up A) n W (pF x.c t) (pT x.c t) (pcG x.c t L) (pcT x.c t L) t sd)::(.up A,ptrC (fun i=> .up (R i)) n)::rgsB (fun i=> .up (R i)) (fun i=> .up (B i)) (rgC K w t L) (rgD K w t L) n:=by
  simp only [mtB,mpB,mtC_mp,ptrC_mp]
  rw [mpB_rgs (fun i b=>rgC_mp Id.up K w t L i b) (fun i=>rgD_mp Id.up K w t L i)]
 have hfree:=fun C D s=>rgs_free (R:=R) (B:=B) (C:=C) (D:=D) (n:=n) (s:=s)
 have hups:=fun k=>rgs_up (R:=R) (B:=B) (n:=n) (C:=upto k (rgC K w t' L) (rgC K w t L)) (D:=upto k (rgD K w t' L) (rgD K w t L)) (upto_ids (rgC_ids K w t L) (rgC_ids K w t' L)) (upto_ids0 (rgD_ids K w t L) (rgD_ids K w t' L))
 simp only [inSt,mpL,mpP,AV.mp,hin]
 clear hin
 generalize ptrC (fun i=>Id.up (R i)) n=PC at *
 simp only [mtC] at PS ⊢
 simp only [mtB,mtC]
 simp -implicitDefEqProofs [c42]
 refine onC_mk _ TK ?_
 simp -implicitDefEqProofs [a1,a1',ma,ma']
 refine wp_lpk (α:=Nat) (fun k=>⟨[(0,.ptr (.up M) 0),(1,i6 t'),(30,.ms (.up A) 0 n 1),(31,i6 n),(32,i6 k)],(.up M,[.str x.n,.int .u32 x.t,i6 x.g,i6 x.a,i6 x.o,i6 x.c,.sl (x.lb.map Lb.row),.sl (x.ru.map Ru.row),.sl W,.ms (.up A) 0 n 1,i6 (pF x.c t),i6 (pT x.c t),u (pcG x.c t L),u (pcT x.c t L),i6 t',.bool sd])::(.up A,PC)::rgsB (fun i=> .up (R i)) (fun i=> .up (B i)) (upto k (rgC K w t' L) (rgC K w t L)) (upto k (rgD K w t' L) (rgD K w t L)) n,[]⟩) (fun k=>k≤n) (fun k=>n - k) ?_ 0 ?_ ?_
 ·intro K' k hK' k1
  by_cases g:k<n
  ·have g':(k:Int)<n:=by omega
   have w1:IntKind.i64.wrap ((k:Int)+1)=(k+1:Nat):=by rw [wr]<;>omega
   have lR:lkB (rgsB (fun i=> .up (R i)) (fun i=> .up (B i)) (upto k (rgC K w t' L) (rgC K w t L)) (upto k (rgD K w t' L) (rgD K w t L)) n) (.up (R k))=some (ringC (.up (B k)) (K k) (w k) t L):=by
    rw [rgsB_R hu n g,upto_ge (Nat.le_refl k)];rfl
   have lB:lkB (rgsB (fun i=> .up (R i)) (fun i=> .up (B i)) (upto k (rgC K w t' L) (rgC K w t L)) (upto k (rgD K w t' L) (rgD K w t L)) n) (.up (B k))=some (bkC (K k) (w k) (t / w k) L):=by
    rw [rgsB_B hu n g,upto_ge (Nat.le_refl k)];rfl
   have fr:=hfree (upto k (rgC K w t' L) (rgC K w t L)) (upto k (rgD K w t' L) (rgD K w t L)) 38
   have RMk:=RM k g
   have pk:=hpa k g
   have hup:=hups (k+1)
   have st:=fun mc=>rgs_step hu (C:=rgC K w t L) (C':=rgC K w t' L) (D:=rgD K w t L) (D':=rgD K w t' L) g (bx:=(.up (R k),ringC (.up (B k)) (K k) (w k) t' L)::(.up (B k),bkC (K k) (w k) (t' / w k) L)::(.up M,mc)::(.up A,PC)::rmB (rmB (rgsB (fun i=> .up (R i)) (fun i=> .up (B i)) (upto k (rgC K w t' L) (rgC K w t L)) (upto k (rgD K w t' L) (rgD K w t L)) n) (.up (R k))) (.up (B k)))
    (rgs_call hu g).1 (rgs_call hu g).2.1 (rgs_call hu g).2.2
   have fin:=fun σ' hσ=>hK' (k+1) σ' (by omega) (by omega) hσ
   have rb: ¬R k=B k:=h.rb k k
   have rb': ¬B k=R k:=fun e=>h.rb k k e.symm
   have e0:PC[k]?=some (.ptr (.up (R k)) 0):=pk
   have kl:k<PC.length:=by omega
   have e1:PC[k]'kl= .ptr (.up (R k)) 0:=by rw [List.getElem?_eq_getElem kl] at e0;exact Option.some.inj e0
   clear hK' RM hpa hfree hups hout houi hpo hpi PS hz hs hc TK
   simp -implicitDefEqProofs [g,g',e0,e1,kl,hpl,ma,ma',w1]
   refine onH_mk _ _ (RMk _ rfl) ⟨?_,?_,?_,?_,?_,?_,?_⟩ ?_
   iterate 6 (· simp [lR,lB,mr,mb,ar,ab,mr',mb',ar',ab',rb,rb'])
   ·simp;exact fr
   simp -implicitDefEqProofs [mr,mb,ar,ab,mr',mb',ar',ab',rb,rb',w1]
   refine fin _ (weak_mk ?_ ?_ ?_ ?_ ?_ ?_)
   ·simp [w1]
   ·intro p hp
    rcases List.mem_cons.1 hp with rfl|hp
    ·simp [mr',mb']
    ·rcases List.mem_cons.1 hp with rfl|hp
     ·simp [mr',mb',ar',ab',ma,ma']
     ·exact st _ p hp
   ·simp
   ·simp
   ·simp [hpu]
    exact ⟨fun d hd=> .inr (hpu d hd),fun a b hm d hd=> .inr (hup a b hm d hd)⟩
   ·simp
  ·obtain rfl:k=n:=by omega
   have g': ¬((k:Int)<k):=by omega
   have g2: ¬k<k:=Nat.lt_irrefl _
   have hrm:=rgsB_rm (R:=fun i=>Id.up (R i)) (B:=fun i=>Id.up (B i)) (C:=rgC K w t' L) (D:=rgD K w t' L) (x:= .up M) hu.mr hu.mb k
   have fr:=hfree (rgC K w t' L) (rgD K w t' L) 43
   have hlk: ∀i,i<k→lkB (rgsB (fun i=> .up (R i)) (fun i=> .up (B i)) (rgC K w t' L) (rgD K w t' L) k) (.up (R i))=some (rgC K w t' L i (.up (B i)))∧lkB (rgsB (fun i=> .up (R i)) (fun i=> .up (B i)) (rgC K w t' L) (rgD K w t' L) k) (.up (B i))=some (rgD K w t' L i):=
    fun i hi=>⟨rgsB_R hu k hi,rgsB_B hu k hi⟩
   simp only [rgsB_upto]
   have P1:=PS (pF x.c t) (pT x.c t) (pcG x.c t L) (pcT x.c t L)
   clear hK' PS RM hpa hfree hups TK
   rcases hc with ⟨e1,e2⟩|⟨e1,e2⟩
   ·obtain ⟨s1,s2⟩:=hs e1
    rw [e1,e2] at P1
    rw [e1,e2,s1,s2]
    simp -implicitDefEqProofs [g',g2]
    refine onH_mk _ _ (P1 _ rfl) ⟨?_,?_,?_,?_,?_,?_,?_⟩ ?_
    iterate 6 (· simp)
    ·simp;exact fr
    simp -implicitDefEqProofs [ma,ma',hrm]
    refine postH_r ⟨?_,?_,?_,?_,?_,?_⟩
    ·simp
    ·simp
    ·intro p hp
     rcases List.mem_cons.1 hp with rfl|hp
     ·simp [hi,hiA,mi]
     ·rcases List.mem_cons.1 hp with rfl|hp
      ·simp [hi,hiA,ai,ma,ma',hpi]
      ·refine hout _ (fun i hi=>?_) p hp
       simp -implicitDefEqProofs [mr,mb,ar,ab,hlk i hi]
    ·intro p hp
     rcases List.mem_cons.1 hp with rfl|hp
     ·simp [ai,hdA]
     ·rcases List.mem_cons.1 hp with rfl|hp
      ·exact hpo _
      ·exact houi _ p hp
    ·simp
    ·simp
   ·obtain ⟨s1,s2⟩:=hz e2
    rw [s1,s2]
    have ne:((pF x.c t':Int)!=(pF x.c t:Nat))=true:=by rw [bne_iff_ne];omega
    generalize pF x.c t'=ft at *
    generalize pT x.c t'=gt at *
    generalize pF x.c t=f at *
    simp -implicitDefEqProofs [g',g2]
    refine onH_mk _ _ (P1 _ rfl) ⟨?_,?_,?_,?_,?_,?_,?_⟩ ?_
    iterate 6 (· simp)
    ·simp;exact fr
    simp -implicitDefEqProofs [ma,ma',hrm,ne]
    refine postH_r ⟨?_,?_,?_,?_,?_,?_⟩
    ·simp
    ·simp
    ·intro p hp
     rcases List.mem_cons.1 hp with rfl|hp
     ·simp [hi,hiA,mi]
     ·rcases List.mem_cons.1 hp with rfl|hp
      ·simp [hi,hiA,ai,ma,ma',hpi]
      ·refine hout _ (fun i hi=>?_) p hp
       simp -implicitDefEqProofs [mr,mb,ar,ab,hlk i hi]
    ·intro p hp
     rcases List.mem_cons.1 hp with rfl|hp
     ·simp [ai,hdA]
     ·rcases List.mem_cons.1 hp with rfl|hp
      ·exact hpo _
      ·exact houi _ p hp
    ·simp
    ·simp
 ·exact Nat.zero_le _
 ·have hup:=hups 0
  refine weak_mk ?_ ?_ ?_ ?_ ?_ ?_
  ·simp
  ·intro p hp
   rcases List.mem_cons.1 hp with rfl|hp
   ·simp [mr',mb',ma,ma']
   ·rcases List.mem_cons.1 hp with rfl|hp
    ·simp [mr',mb',ar',ab',ma,ma']
    ·rw [upto_zero,upto_zero] at hp
     obtain ⟨i,hi,e|e⟩:=mem_rgsB.1 hp
     ·subst e;simp -implicitDefEqProofs [mr,mb,ar,ab,rgsB_R hu n hi]
     ·subst e;simp -implicitDefEqProofs [mr,mb,ar,ab,rgsB_B hu n hi]
  ·simp
  ·simp
  ·simp
   exact ⟨fun d hd=> .inr (hpu d hd),fun a b hm d hd=> .inr (hup a b hm d hd)⟩
  ·simp
open Go.Proofs
theorem mmove_bad (M A:Id) (h:Pr2 M A) (x:Gl) (n:Nat) (W:List (List AV)) (fr to cg ct t:Nat) (sd:Bool) (now:Int) (hb: ¬(0≤now∧now≤253402300799)∨now<t) (d:Nat) (hd:M.isNw d=false):
  SpH Tryz.prog gl 42 d ⟨[.ptr M 0,i6 now],[(M,mtC x A n W fr to cg ct t sd)],[]⟩ ⟨i6 (if 0≤now∧now≤253402300799 then 13 else 8),[(M,mtC x A n W fr to cg ct t sd)],[]⟩:=by
 refine h42 rfl ?_
 have hi:=inn_notNw hd
 have hdA:A.isNw d=false:=by rw [←h.nw];exact hd
 have hiA:=inn_notNw hdA
 have r1:=h.ri
 have b1:=h.bi
 have TK:=mtick_spec now
 simp only [mtC]
 simp only [inSt,mpL,mpB,mpP,AV.mp]
 by_cases g:0≤now∧now≤253402300799
 ·rw [if_pos g]
  have g1:now<t:=by rcases hb with h|h;exact absurd g h;exact h
  have tk:(decide (0≤now)&&decide (now≤253402300799))=true:=by simp [g]
  rw [tk] at TK
  simp -implicitDefEqProofs [c42]
  refine onC_mk _ TK ?_
  simp -implicitDefEqProofs [g1]
  refine postH_r ⟨?_,?_,?_,?_,?_,?_⟩<;>simp -implicitDefEqProofs [hi,hiA,r1,b1,hd,hdA]
 ·rw [if_neg g]
  have tk:(decide (0≤now)&&decide (now≤253402300799))=false:=by
   rw [Bool.and_eq_false_iff,decide_eq_false_iff_not,decide_eq_false_iff_not]
   by_cases h:0≤now
   ·exact .inr fun e=>g ⟨h,e⟩
   ·exact .inl h
  rw [tk] at TK
  simp -implicitDefEqProofs [c42]
  refine onC_mk _ TK ?_
  simp -implicitDefEqProofs
  refine postH_r ⟨?_,?_,?_,?_,?_,?_⟩<;>simp -implicitDefEqProofs [hi,hiA,r1,b1,hd,hdA]
def fitB (s c:Nat):Bool:=decide (c≤9223372036854775807∧s+c≤9223372036854775807)
theorem mfits_spec (sg st cg ct:Nat) (hc:ct<18446744073709551616):Sp Tryz.prog gl 106 [.agg [u sg,u st],.agg [u cg,u ct]] (.bool (fitB st ct)):=by
 refine s106 rfl rfl ?_
 unfold fitB
 by_cases h1:ct≤9223372036854775807
 ·have h1':(ct:Int)≤9223372036854775807:=by omega
  have t1:IntKind.u64.wrap (9223372036854775807 - (ct:Int))=9223372036854775807 - (ct:Int):=by rw [wrap_u64]<;>omega
  have e:decide ((st:Int)≤9223372036854775807 - (ct:Int))=decide (ct≤9223372036854775807∧st+ct≤9223372036854775807):=by
   apply decide_eq_decide.2
   omega
  rw [←e]
  simp -implicitDefEqProofs [c106,h1,h1']
  simp only [t1]
  try trivial
 ·have h1': ¬(ct:Int)≤9223372036854775807:=by omega
  have e:decide (ct≤9223372036854775807∧st+ct≤9223372036854775807)=false:=decide_eq_false (fun h=>h1 h.1)
  rw [e]
  simp -implicitDefEqProofs [c106,h1,h1']
theorem add0_same {B:Id} {K w t:Nat} {L:List Ev} {a:Nat}:ringC B K w t (addL K w t L a 0 0)=ringC B K w t L∧bkC K w (t / w) (addL K w t L a 0 0)=bkC K w (t / w) L:=by
 unfold addL
 split
 ·constructor
  ·unfold ringC sumG sumT
   rw [sm_one,sm_one]
   simp [eG,eT]
  ·unfold bkC bkv
   refine cellsF_congr fun j _=>⟨?_,?_⟩<;>(rw [sm_one];simp [eG,eT])
 ·exact ⟨rfl,rfl⟩
theorem add0_bk {K w t:Nat} {L:List Ev} {a:Nat}:bkC K w (t / w) (addL K w t L a 0 0)=bkC K w (t / w) L:=(add0_same (B:= .n 0)).2
theorem mhas_spec (R B:Id) (h:Pr2 R B) (K w t:Nat) (L:List Ev) (hK:1≤K) (hK2:K≤60) (hw:1≤w) (ht:t≤253402300799) (hL:EvOk L) (hs:sumT K w (t / w) L≤9223372036854775807) (a:Nat) (ha:a≤t) (d:Nat) (hd:R.isNw d=false):
  SpH Tryz.prog gl 105 d ⟨[.ptr R 0,i6 a],[(R,ringC B K w t L),(B,bkC K w (t / w) L)],[]⟩ ⟨.bool (inW K (t / w) (a / w)),[(R,ringC B K w t L),(B,bkC K w (t / w) L)],[]⟩:=by
 refine h105 rfl ?_
 have hi:=inn_notNw hd
 have hdB:B.isNw d=false:=by rw [←h.nw];exact hd
 have hiB:=inn_notNw hdB
 have r1:=h.ri
 have r2:=h.bi
 have ne:=h.ne
 have ne':B≠R:=fun e=>h.ne e.symm
 have AD:=fun e he=>radd_spec (.up R) (.up B) h.up K w t L hK hK2 hw ht hL hs a 0 0 ha (Nat.le_refl 0) (by omega) e he
 simp only [add0_same.1,add0_bk] at AD
 have e:(addC K w t L a 0==0)=inW K (t / w) (a / w):=by
  unfold addC inW
  by_cases g:a / w+K≤t / w
  ·rw [if_pos g]
   have:decide (t / w<a / w+K)=false:=decide_eq_false (by omega)
   rw [this];rfl
  ·rw [if_neg g,if_pos ⟨by omega,by omega⟩]
   have:decide (t / w<a / w+K)=true:=decide_eq_true (by omega)
   rw [this];rfl
 have hids:idsL (bkC K w (t / w) L)=[]:=cellsF_ids _ _ _
 have iz:=fun f'=>mpL_noids (f:=f') hids
 simp only [ringC_eq] at AD ⊢
 simp only [rgL] at AD ⊢
 simp only [inSt,mpL,mpB,mpP,AV.mp,iz]
 generalize bkC K w (t / w) L=X at *
 generalize addC K w t L a 0=z at *
 simp -implicitDefEqProofs [c105]
 refine onH_mk _ _ (AD _ rfl) ⟨?_,?_,?_,?_,?_,?_,?_⟩ ?_
 iterate 7 (· simp [ne,ne',r1,r2,hids])
 simp -implicitDefEqProofs [e]
 refine postH_r ⟨?_,?_,?_,?_,?_,?_⟩<;>simp -implicitDefEqProofs [hi,hiB,r1,r2,hd,hdB,ne,ne',hids,iz]
theorem mtB_up (M A:Id) (R B:Nat→Id) (x:Gl) (n:Nat) (W:List (List AV)) (K w:Nat→Nat) (t:Nat) (L:List Ev) (sd:Bool):
  mpB Id.up (mtB M A R B x n W K w t L sd)=(.up M,mtC x (.up A) n W (pF x.c t) (pT x.c t) (pcG x.c t L) (pcT x.c t L) t sd)::(.up A,ptrC (fun i=> .up (R i)) n)::rgsB (fun i=> .up (R i)) (fun i=> .up (B i)) (rgC K w t L) (rgD K w t L) n:=by
 simp only [mtB,mpB,mtC_mp,ptrC_mp]
 rw [mpB_rgs (fun i b=>rgC_mp Id.up K w t L i b) (fun i=>rgD_mp Id.up K w t L i)]
theorem rgs_keep {M A:Id} {R B:Nat→Id} (h:Nms M A R B) {C:Nat→Id→List AV} {D:Nat→List AV} {k n:Nat} (hk:k<n) {bx:List (Id×List AV)}
  (hR:lkB bx (R k)=some (C k (B k))) (hB:lkB bx (B k)=some (D k)) (ho: ∀i,i<n→ ¬R k=R i→ ¬B k=B i→lkB bx (R i)=lkB (rgsB R B C D n) (R i)∧lkB bx (B i)=lkB (rgsB R B C D n) (B i)):
  ∀p∈rgsB R B C D n,wkB bx p.1 p.2:=by
 intro p hp
 obtain ⟨i,hi,e⟩:=mem_rgsB.1 hp
 by_cases hik:i=k
 ·subst hik
  rcases e with rfl|rfl
  ·simp only [wkB,hR];exact wkL_rfl' _
  ·simp only [wkB,hB];exact wkL_rfl' _
 ·obtain ⟨q1,q2⟩:=ho i hi (fun e=>hik (h.rr _ _ e).symm) (fun e=>hik (h.bb _ _ e).symm)
  rcases e with rfl|rfl
  ·simp only [wkB,q1,rgsB_R h n hi];exact wkL_rfl' _
  ·simp only [wkB,q2,rgsB_B h n hi];exact wkL_rfl' _
end Go.Ai
