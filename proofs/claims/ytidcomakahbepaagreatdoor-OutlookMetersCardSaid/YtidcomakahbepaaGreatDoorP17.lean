/- P17: a part of the proof: the rules, or what functions compute. Conditions: as each theorem says. -/
import Derived.Test.YtidcomakahbepaaGreatDoorP16
import Derived.Test.YtidcomakahbepaaGreatDoorP15
set_option linter.unusedSimpArgs false
set_option linter.unusedVariables false
set_option maxRecDepth 20000
namespace Go.Ai
open Go.Proofs
theorem wndV_form3 {x:Gl} {K w:Nat→Nat} {s:Mt} {k:Nat} (h:MtOk x (winP x).length K w s k) (z:Int): ∃(g c:Nat) (e:Int),wndV (winP x) K w s.t s.L s.sd z= .tup [.agg [u g,u c],i6 e]∧g≤c∧c<18446744073709551616∧(z∈winP x→e=if s.sd=true then 17 else 0):=by
 unfold wndV
 split
 ·rename_i hz
  split
  ·exact ⟨0,0,17,rfl,by omega,by omega,fun _=>rfl⟩
  ·obtain ⟨hl,-⟩:=List.getElem?_eq_some_iff.1 ((bsI_mem (winP_rising x)).1 hz)
   have:=h.L.sm _ hl
   exact ⟨_,_,0,rfl,sm_GT h.L.ok,by omega,fun _=>rfl⟩
 ·rename_i hz
  exact ⟨0,0,7,rfl,by omega,by omega,fun q=>absurd q hz⟩
open Go.Proofs
def leftR (o:Int) (t g c:Nat) (e:Int) (g' c':Nat) (e':Int):AV:=if o=0 then rollR t g' c' e' else rollR t g c e
theorem leftR_form (o:Int) (t g c:Nat) (e:Int) (g' c':Nat) (e':Int): ∃(b:Bool) (m l:Nat) (q:Int),leftR o t g c e g' c' e'= .tup [.agg [.bool b,u m,u l],i6 q]:=by
 unfold leftR
 split
 ·exact rollR_form _ _ _ _
 ·exact rollR_form _ _ _ _
theorem mleft_spec (M A X:Id) (R B:Nat→Id) (h:NmX M A R B X) (x:Gl) (hx:goalP x=true) (hl:x.ru.length≤10) (s:Mt) (k:Nat) (hk0:k≤1000000) (hs:MtOk x (winP x).length (kN x) (wN x) s k) (y:Gl) (hyt:y.t<4294967296)
  (g c:Nat) (e:Int) (hV:wndV (winP x) (kN x) (wN x) s.t s.L s.sd y.o= .tup [.agg [u g,u c],i6 e]) (hc:c<18446744073709551616)
  (g' c':Nat) (e':Int) (hC:(if x.c=0 then AV.tup [.agg [u 0,u 0],i6 7] else if s.sd=true then .tup [.agg [u 0,u 0],i6 17] else .tup [.agg [u (pcG x.c s.t s.L),u (pcT x.c s.t s.L)],i6 0])= .tup [.agg [u g',u c'],i6 e']) (hc':c'<18446744073709551616) (d:Nat) (hd:M.isNw d=false):
  SpH Tryz.prog gl 98 d ⟨[.ptr M 0,.agg y.row],mxB M A R B X x (winP x).length (winP x) (kN x) (wN x) s,[(.b X 10,3)]⟩ ⟨leftR y.o y.t g c e g' c' e',mxB M A R B X x (winP x).length (winP x) (kN x) (wN x) s,[(.b X 10,3)]⟩:=by
 refine h98 rfl ?_
 have hu:=h.up
 have hk:=goal_k hx hl
 have hn:=goal_n hl
 have hdX:X.isNw d=false:=h.nx d hd
 have hiX:=inn_notNw hdX
 have xi:=h.xi
 have ma:=h.h.ma
 have ma': ¬A=M:=fun e=>h.h.ma e.symm
 have xm:=h.xm
 have xm': ¬M=X:=fun e=>h.xm e.symm
 have xa:=h.xa
 have xa': ¬A=X:=fun e=>h.xa e.symm
 obtain ⟨s2,hs2⟩: ∃y,y=s:=⟨_,rfl⟩
 rw [←hs2]
 have hout:=fun σ q1 q2=>mx_out h hd (x:=x) (n:=(winP x).length) (Wl:=winP x) (K:=kN x) (w:=wN x) (s:=s2) (σ:=σ) q1 q2
 have houi:=fun ob=>mx_outi h hd x (winP x).length (winP x) (kN x) (wN x) s2 ob
 have hkey:(lkB (mxB M A R B X x (winP x).length (winP x) (kN x) (wN x) s2) X).isSome=true:=mx_x ..
 have hnox:=fun t L sd=>mt_nox hu x (winP x).length (intRows (winP x)) (kN x) (wN x) t L sd
 have hnorm:=fun t L sd=>mt_norm hu x (winP x).length (intRows (winP x)) (kN x) (wN x) t L sd
 have hnon:=fun t L sd s=>mtU_non M A R B x (winP x).length (intRows (winP x)) (kN x) (wN x) t L sd s
 have hfr:=fun t L sd s=>mtU_fr M A R B x (winP x).length (intRows (winP x)) (kN x) (wN x) t L sd s
 have hinF:=fun t L sd fr=>mtU_inF M A R B x (winP x).length (intRows (winP x)) (kN x) (wN x) t L sd fr
 have huq:=fun t L sd=>mt_uq hu.h x (winP x).length (intRows (winP x)) (kN x) (wN x) t L sd
 have hks:=fun t t' L L' sd sd' j=>mt_ks (M:= .up M) (A:= .up A) (R:=fun i=> .up (R i)) (B:=fun i=> .up (B i)) x x (winP x).length (intRows (winP x)) (kN x) (wN x) t t' L L' sd sd' j
 have hrm:rmB (rgsB (fun i=> .up (R i)) (fun i=> .up (B i)) (rgC (kN x) (wN x) s.t s.L) (rgD (kN x) (wN x) s.t s.L) (winP x).length) (.up M)=rgsB (fun i=> .up (R i)) (fun i=> .up (B i)) (rgC (kN x) (wN x) s.t s.L) (rgD (kN x) (wN x) s.t s.L) (winP x).length:=rgsB_rm hu.h.mr hu.h.mb _
 have hrx:rmB (rgsB (fun i=> .up (R i)) (fun i=> .up (B i)) (rgC (kN x) (wN x) s.t s.L) (rgD (kN x) (wN x) s.t s.L) (winP x).length) (.up X)=rgsB (fun i=> .up (R i)) (fun i=> .up (B i)) (rgC (kN x) (wN x) s.t s.L) (rgD (kN x) (wN x) s.t s.L) (winP x).length:=rgsB_rm hu.xr hu.xb _
 have hrX:=rgsB_none (R:=fun i=> .up (R i)) (B:=fun i=> .up (B i)) (C:=rgC (kN x) (wN x) s.t s.L) (D:=rgD (kN x) (wN x) s.t s.L) (x:= .up X) hu.xr hu.xb (winP x).length
 have hrM:=rgsB_none (R:=fun i=> .up (R i)) (B:=fun i=> .up (B i)) (C:=rgC (kN x) (wN x) s.t s.L) (D:=rgD (kN x) (wN x) s.t s.L) (x:= .up M) hu.h.mr hu.h.mb (winP x).length
 have hrn:=fun j=>rgsB_none (R:=fun i=> .up (R i)) (B:=fun i=> .up (B i)) (C:=rgC (kN x) (wN x) s.t s.L) (D:=rgD (kN x) (wN x) s.t s.L) (x:= .n j) (fun i e=>by cases e) (fun i e=>by cases e) (winP x).length
 have hrf:=fun i=>rgs_free (R:=R) (B:=B) (C:=rgC (kN x) (wN x) s.t s.L) (D:=rgD (kN x) (wN x) s.t s.L) (n:=(winP x).length) (s:=i)
 simp only [inSt,mxB_up,mpL,mpP,AV.mp,Pl.mp]
 have hs3:=hs2.symm
 clear hs2
 subst hs3
 have a1:=hnox s.t s.L s.sd
 have a2:=hnon s.t s.L s.sd
 have a4:=huq s.t s.L s.sd
 have MR:=fun q hq=>mroll_spec _ _ _ _ _ hu x hx hl s k hs y hyt g c e hV hc q hq
 have MC:=fun q hq=>mcalL_spec _ _ _ _ _ hu x hx hl s k hk0 hs y hyt g' c' e' hC hc' q hq
 obtain ⟨b,m,l,q,hL⟩:=leftR_form y.o y.t g c e g' c' e'
 have U1:=mx_uniq hu x (winP x).length (winP x) (kN x) (wN x) s
 have UX:(lkB (mxB (.up M) (.up A) (fun i=> .up (R i)) (fun i=> .up (B i)) (.up X) x (winP x).length (winP x) (kN x) (wN x) s) (.up X)).isSome=true:=mx_x ..
 have hG:mxB (.up M) (.up A) (fun i=> .up (R i)) (fun i=> .up (B i)) (.up X) x (winP x).length (winP x) (kN x) (wN x) s=(.up X,xC x s.t s.sd s.L)::mtB (.up M) (.up A) (fun i=> .up (R i)) (fun i=> .up (B i)) x (winP x).length (intRows (winP x)) (kN x) (wN x) s.t s.L s.sd:=rfl
 rw [hL]
 unfold leftR at hL
 have a3:=hfr s.t s.L s.sd
 clear hnox hnorm hnon hfr hinF huq hks hrm hrx hrX hrM hrn hrf hV hC
 rw [←hG]
 generalize hMU:mtB (.up M) (.up A) (fun i=> .up (R i)) (fun i=> .up (B i)) x (winP x).length (intRows (winP x)) (kN x) (wN x) s.t s.L s.sd=m1 at *
 have gn: ∀j,lkB (mxB (.up M) (.up A) (fun i=> .up (R i)) (fun i=> .up (B i)) (.up X) x (winP x).length (winP x) (kN x) (wN x) s) (.n j)=none:=fun j=>by rw [hG];simp only [lkB];rw [if_neg (fun e=>by cases e)];exact a2 j
 have gX:lkB (mxB (.up M) (.up A) (fun i=> .up (R i)) (fun i=> .up (B i)) (.up X) x (winP x).length (winP x) (kN x) (wN x) s) (.up X)=some (xC x s.t s.sd s.L):=by rw [hG];simp [lkB]
 have gm: ∀p∈m1,lkB (mxB (.up M) (.up A) (fun i=> .up (R i)) (fun i=> .up (B i)) (.up X) x (winP x).length (winP x) (kN x) (wN x) s) p.1=some p.2:=fun p hp=>by
  rw [hG];simp only [lkB];rw [if_neg (ne_none hp a1)];exact a4 p hp
 have gf: ∀j,∀p∈mxB (.up M) (.up A) (fun i=> .up (R i)) (fun i=> .up (B i)) (.up X) x (winP x).length (winP x) (kN x) (wN x) s,p.1.isNw j=false:=fun j p hp=>by
  rw [hG] at hp
  rcases List.mem_cons.1 hp with rfl|hp
  ·rfl
  ·exact a3 j p.1 p.2 hp
 clear hG
 generalize mxB (.up M) (.up A) (fun i=> .up (R i)) (fun i=> .up (B i)) (.up X) x (winP x).length (winP x) (kN x) (wN x) s=GU at *
 generalize mxB M A R B X x (winP x).length (winP x) (kN x) (wN x) s=OB at *
 simp only [Gl.row] at MR MC ⊢
 simp only [xC] at hout gX
 by_cases o0:y.o=0
 ·rw [if_pos o0] at hL
  rw [hL] at MC
  have o0':(y.o !=0)=false:=by rw [o0];rfl
  simp -implicitDefEqProofs [c98,gn,o0']
  refine onH_xs (pre:=[(.n 4,_),(.n 3,_)]) (suf:=[]) (q:=[]) (MC _ rfl) (by simp;exact ⟨rfl,rfl⟩) rfl UX ?_ ?_ U1 (fun _=>rfl) ?_ ?_ ?_ ?_
  ·simp [gn]
  ·simp
  ·simp only [List.mem_cons]
   rintro p (rfl|rfl|hp)
   ·rfl
   ·rfl
   ·exact gf _ p hp
  ·simp
  ·simp
  simp -implicitDefEqProofs [gn,lkB_app,stB_app]
  refine postH_r ⟨?_,?_,hout _ ?_ ?_,houi _,?_,?_⟩
  ·simp [gn,lkB_app]
  ·simp
  ·simp [obx,hiX,lkB_app,gX]
  ·intro p hp
   simp only [lkB_app,gm p hp]
  ·simp [hiX,hkey]
  ·simp
 ·rw [if_neg o0] at hL
  rw [if_neg o0,hL] at MR
  have o0':(y.o !=0)=true:=by rw [bne_iff_ne];exact o0
  simp -implicitDefEqProofs [c98,gn,o0']
  refine onH_xs (pre:=[(.n 4,_),(.n 3,_)]) (suf:=[]) (q:=[]) (MR _ rfl) (by simp;exact ⟨rfl,rfl⟩) rfl UX ?_ ?_ U1 (fun _=>rfl) ?_ ?_ ?_ ?_
  ·simp [gn]
  ·simp
  ·simp only [List.mem_cons]
   rintro p (rfl|rfl|hp)
   ·rfl
   ·rfl
   ·exact gf _ p hp
  ·simp
  ·simp
  simp -implicitDefEqProofs [gn,lkB_app,stB_app]
  refine postH_r ⟨?_,?_,hout _ ?_ ?_,houi _,?_,?_⟩
  ·simp [gn,lkB_app]
  ·simp
  ·simp [obx,hiX,lkB_app,gX]
  ·intro p hp
   simp only [lkB_app,gm p hp]
  ·simp [hiX,hkey]
  ·simp
open Go.Proofs
theorem mtU_up (M A:Id) (R B:Nat→Id) (x:Gl) (n:Nat) (W:List (List AV)) (K w:Nat→Nat) (t:Nat) (L:List Ev) (sd:Bool):
  ∀p∈mtB (.up M) (.up A) (fun i=> .up (R i)) (fun i=> .up (B i)) x n W K w t L sd,∀d∈idsL p.2,d.isUp=true:=by
 intro p hp d hd
 unfold mtB at hp
 rcases List.mem_cons.1 hp with rfl|hp
 ·have e:idsL (mtC x (.up A) n W (pF x.c t) (pT x.c t) (pcG x.c t L) (pcT x.c t L) t sd)=[.up A]:=rfl
  rw [e,List.mem_singleton] at hd
  subst hd;rfl
 ·rcases List.mem_cons.1 hp with rfl|hp
  ·exact ptrC_up d hd
  ·exact rgs_up (rgC_ids K w t L) (rgD_ids K w t L) p.1 p.2 hp d hd
open Go.Proofs
def leastS (w:Int):List Ru→Int
 |[]=>w
 |r::l=>leastS (if r.s<w then r.s else w) l
theorem leastS_at (w:Int) (l:List Ru) (i:Nat) (h:i<l.length):leastS w (l.drop i)=leastS (if l[i].s<w then l[i].s else w) (l.drop (i+1)):=by
 rw [List.drop_eq_getElem_cons h];rfl
theorem leastS_bd {P:Int→Prop}: ∀(l:List Ru) (w:Int),P w→(∀r∈l,P r.s)→P (leastS w l)
 |[],w,h,_=>h
 |r::l,w,h,hl=>by
  refine leastS_bd l _ ?_ (fun z hz=>hl z (List.mem_cons_of_mem _ hz))
  split
  ·exact hl r (List.mem_cons_self ..)
  ·exact h
def wO:List Ru→Int
 |[]=>0
 |r::l=>leastS r.s l
def ofR (z:Int) (q:Int) (ru:List Ru) (g c:Nat) (e:Int):AV:=
 if q≠0 then .tup [.agg [i6 0,.int .u64 0,.int .u64 0],i6 q] else if ru=[] then .tup [.agg [i6 0,.int .u64 0,.int .u64 0],i6 7] else if e≠0 then .tup [.agg [i6 0,.int .u64 0,.int .u64 0],i6 e] else
  .tup [outw (outN (decide (z<0)) z.natAbs (c - g) (wO ru)).1.1 (outN (decide (z<0)) z.natAbs (c - g) (wO ru)).1.2,i6 (outN (decide (z<0)) z.natAbs (c - g) (wO ru)).2]
theorem abs_sub (a b B:Nat) (h1:a≤B) (h2:b≤B):((a:Int) - b).natAbs≤B:=by omega
theorem leftZ_lt (t g n:Nat) (hn:n<18446744073709551616):(leftZ t g n).natAbs<340282366920938463463374607431768211456:=by
 have h1:n*(1000000 - t)≤18446744073709551616*1000000:=Nat.mul_le_mul (Nat.le_of_lt hn) (Nat.sub_le _ _)
 have h2:(n - g)*1000000≤18446744073709551616*1000000:=Nat.mul_le_mul (Nat.le_trans (Nat.sub_le _ _) (Nat.le_of_lt hn)) (Nat.le_refl _)
 have h3:18446744073709551616*1000000<340282366920938463463374607431768211456:=by decide
 unfold leftZ
 by_cases c:mayN t g n=0
 ·rw [if_pos c]
  exact Nat.lt_of_le_of_lt (abs_sub _ _ _ h1 h2) h3
 ·rw [if_neg c];decide
theorem leftR_form2 (o:Int) (t g c:Nat) (e:Int) (g' c':Nat) (e':Int) (hc:c<18446744073709551616) (hc':c'<18446744073709551616): ∃(z q:Int),leftR o t g c e g' c' e'= .tup [sgi z,i6 q]∧z.natAbs<340282366920938463463374607431768211456:=by
 have z0:sgi 0= .agg [.bool false,.int .u64 0,.int .u64 0]:=rfl
 have one: ∀t g c e,c<18446744073709551616→ ∃(z q:Int),rollR t g c e= .tup [sgi z,i6 q]∧z.natAbs<340282366920938463463374607431768211456:=fun t g c e hc=>by
  unfold rollR
  split
  ·exact ⟨_,_,rfl,leftZ_lt t g c hc⟩
  ·exact ⟨0,e,by rw [z0],by decide⟩
 unfold leftR
 split
 ·exact one _ _ _ _ hc'
 ·exact one _ _ _ _ hc
theorem mof_spec (M A X:Id) (R B:Nat→Id) (h:NmX M A R B X) (x:Gl) (hx:goalP x=true) (hl:x.ru.length≤10) (s:Mt) (k:Nat) (hk0:k≤1000000) (hs:MtOk x (winP x).length (kN x) (wN x) s k) (y:Gl) (hyt:y.t<4294967296) (hyl:y.ru.length≤10) (hys: ∀r∈y.ru,-9223372036854775808≤r.s∧r.s<9223372036854775808)
  (g c:Nat) (e:Int) (hV:wndV (winP x) (kN x) (wN x) s.t s.L s.sd y.o= .tup [.agg [u g,u c],i6 e]) (hc:c<18446744073709551616)
  (g' c':Nat) (e':Int) (hC:(if x.c=0 then AV.tup [.agg [u 0,u 0],i6 7] else if s.sd=true then .tup [.agg [u 0,u 0],i6 17] else .tup [.agg [u (pcG x.c s.t s.L),u (pcT x.c s.t s.L)],i6 0])= .tup [.agg [u g',u c'],i6 e']) (hc':c'<18446744073709551616)
  (z q:Int) (hL:leftR y.o y.t g c e g' c' e'= .tup [sgi z,i6 q]) (hz:z.natAbs<340282366920938463463374607431768211456)
  (g2 c2:Nat) (e2:Int) (hV2:wndV (winP x) (kN x) (wN x) s.t s.L s.sd (wO y.ru)= .tup [.agg [u g2,u c2],i6 e2]) (hg2:g2≤c2) (hc2:c2<18446744073709551616) (d:Nat) (hd:M.isNw d=false):
  SpH Tryz.prog gl 50 d ⟨[.ptr M 0,.agg y.row],mxB M A R B X x (winP x).length (winP x) (kN x) (wN x) s,[(.b X 10,3)]⟩ ⟨ofR z q y.ru g2 c2 e2,mxB M A R B X x (winP x).length (winP x) (kN x) (wN x) s,[(.b X 10,3)]⟩:=by
 refine h50 rfl ?_
 have hu:=h.up
 have hk:=goal_k hx hl
 have hn:=goal_n hl
 have hdX:X.isNw d=false:=h.nx d hd
 have hiX:=inn_notNw hdX
 have xi:=h.xi
 have ma:=h.h.ma
 have ma': ¬A=M:=fun e=>h.h.ma e.symm
 have xm:=h.xm
 have xm': ¬M=X:=fun e=>h.xm e.symm
 have xa:=h.xa
 have xa': ¬A=X:=fun e=>h.xa e.symm
 obtain ⟨s2,hs2⟩: ∃y,y=s:=⟨_,rfl⟩
 rw [←hs2]
 have hout:=fun σ q1 q2=>mx_out h hd (x:=x) (n:=(winP x).length) (Wl:=winP x) (K:=kN x) (w:=wN x) (s:=s2) (σ:=σ) q1 q2
 have houi:=fun ob=>mx_outi h hd x (winP x).length (winP x) (kN x) (wN x) s2 ob
 have hkey:(lkB (mxB M A R B X x (winP x).length (winP x) (kN x) (wN x) s2) X).isSome=true:=mx_x ..
 have hnox:=fun t L sd=>mt_nox hu x (winP x).length (intRows (winP x)) (kN x) (wN x) t L sd
 have hnorm:=fun t L sd=>mt_norm hu x (winP x).length (intRows (winP x)) (kN x) (wN x) t L sd
 have hnon:=fun t L sd s=>mtU_non M A R B x (winP x).length (intRows (winP x)) (kN x) (wN x) t L sd s
 have hfr:=fun t L sd s=>mtU_fr M A R B x (winP x).length (intRows (winP x)) (kN x) (wN x) t L sd s
 have hinF:=fun t L sd fr=>mtU_inF M A R B x (winP x).length (intRows (winP x)) (kN x) (wN x) t L sd fr
 have huq:=fun t L sd=>mt_uq hu.h x (winP x).length (intRows (winP x)) (kN x) (wN x) t L sd
 have hks:=fun t t' L L' sd sd' j=>mt_ks (M:= .up M) (A:= .up A) (R:=fun i=> .up (R i)) (B:=fun i=> .up (B i)) x x (winP x).length (intRows (winP x)) (kN x) (wN x) t t' L L' sd sd' j
 have hrm:rmB (rgsB (fun i=> .up (R i)) (fun i=> .up (B i)) (rgC (kN x) (wN x) s.t s.L) (rgD (kN x) (wN x) s.t s.L) (winP x).length) (.up M)=rgsB (fun i=> .up (R i)) (fun i=> .up (B i)) (rgC (kN x) (wN x) s.t s.L) (rgD (kN x) (wN x) s.t s.L) (winP x).length:=rgsB_rm hu.h.mr hu.h.mb _
 have hrx:rmB (rgsB (fun i=> .up (R i)) (fun i=> .up (B i)) (rgC (kN x) (wN x) s.t s.L) (rgD (kN x) (wN x) s.t s.L) (winP x).length) (.up X)=rgsB (fun i=> .up (R i)) (fun i=> .up (B i)) (rgC (kN x) (wN x) s.t s.L) (rgD (kN x) (wN x) s.t s.L) (winP x).length:=rgsB_rm hu.xr hu.xb _
 have hrX:=rgsB_none (R:=fun i=> .up (R i)) (B:=fun i=> .up (B i)) (C:=rgC (kN x) (wN x) s.t s.L) (D:=rgD (kN x) (wN x) s.t s.L) (x:= .up X) hu.xr hu.xb (winP x).length
 have hrM:=rgsB_none (R:=fun i=> .up (R i)) (B:=fun i=> .up (B i)) (C:=rgC (kN x) (wN x) s.t s.L) (D:=rgD (kN x) (wN x) s.t s.L) (x:= .up M) hu.h.mr hu.h.mb (winP x).length
 have hrn:=fun j=>rgsB_none (R:=fun i=> .up (R i)) (B:=fun i=> .up (B i)) (C:=rgC (kN x) (wN x) s.t s.L) (D:=rgD (kN x) (wN x) s.t s.L) (x:= .n j) (fun i e=>by cases e) (fun i e=>by cases e) (winP x).length
 have hrf:=fun i=>rgs_free (R:=R) (B:=B) (C:=rgC (kN x) (wN x) s.t s.L) (D:=rgD (kN x) (wN x) s.t s.L) (n:=(winP x).length) (s:=i)
 simp only [inSt,mxB_up,mpL,mpP,AV.mp,Pl.mp]
 have hs3:=hs2.symm
 clear hs2
 subst hs3
 have a1:=hnox s.t s.L s.sd
 have a2:=hnon s.t s.L s.sd
 have a3:=hfr s.t s.L s.sd
 have a4:=huq s.t s.L s.sd
 have a7:=mtU_up M A R B x (winP x).length (intRows (winP x)) (kN x) (wN x) s.t s.L s.sd
 have ML:=fun i hi=>mleft_spec _ _ _ _ _ hu x hx hl s k hk0 hs y hyt g c e hV hc g' c' e' hC hc' i hi
 rw [hL] at ML
 have V1:=fun e he=>mwindow_spec (.up M) (.up A) _ _ hu.h x (winP x).length hn (winP x) rfl (winP_rising x) (kN x) (wN x) s.t s.L s.sd (wO y.ru) e he
 rw [hV2] at V1
 have U1:=mx_uniq hu x (winP x).length (winP x) (kN x) (wN x) s
 have UX:(lkB (mxB (.up M) (.up A) (fun i=> .up (R i)) (fun i=> .up (B i)) (.up X) x (winP x).length (winP x) (kN x) (wN x) s) (.up X)).isSome=true:=mx_x ..
 have hG:mxB (.up M) (.up A) (fun i=> .up (R i)) (fun i=> .up (B i)) (.up X) x (winP x).length (winP x) (kN x) (wN x) s=(.up X,xC x s.t s.sd s.L)::mtB (.up M) (.up A) (fun i=> .up (R i)) (fun i=> .up (B i)) x (winP x).length (intRows (winP x)) (kN x) (wN x) s.t s.L s.sd:=rfl
 rw [hG] at ML U1 UX
 clear hnox hnorm hnon hfr hinF huq hks hrm hrx hrX hrM hrn hrf hV hC hG hL hV2
 generalize mtB (.up M) (.up A) (fun i=> .up (R i)) (fun i=> .up (B i)) x (winP x).length (intRows (winP x)) (kN x) (wN x) s.t s.L s.sd=m1 at *
 generalize mxB M A R B X x (winP x).length (winP x) (kN x) (wN x) s=OB at *
 have FO:=forecast_spec (decide (z<0)) z.natAbs (c2 - g2) (wO y.ru) hz (by omega)
 have wb: ∀e,(Id.up X).isNw e=false:=fun _=>rfl
 unfold ofR
 obtain ⟨zb,zm,zl,hzz⟩: ∃b m l,sgi z= .agg [.bool b,u m,u l]:=⟨_,_,_,rfl⟩
 have hz2:sgn (decide (z<0)) z.natAbs= .agg [.bool zb,u zm,u zl]:=hzz
 rw [hzz] at ML
 rw [hz2] at FO
 simp only [Gl.row] at ML ⊢
 simp only [xC] at hout ML U1 UX ⊢
 by_cases q0:q=0
 ·rw [if_neg (fun h=>h q0)]
  have q0':(q !=0)=false:=by rw [q0];rfl
  cases hru:y.ru with
  |nil=>
   rw [hru] at ML
   rw [if_pos rfl]
   simp -implicitDefEqProofs [c50,a2]
   refine onH_xs (pre:=[(.n 4,_),(.n 3,_)]) (suf:=[]) (q:=[]) (ML _ rfl) (by simp;exact ⟨rfl,rfl⟩) rfl UX ?_ ?_ U1 (fun _=>rfl) ?_ ?_ ?_ ?_
   ·simp [a2]
   ·simp
   ·simp;exact a3 _
   ·simp
   ·simp
   simp -implicitDefEqProofs [a1,a2,lkB_app,stB_app,q0']
   refine postH_r ⟨?_,?_,hout _ ?_ ?_,houi _,?_,?_⟩
   ·simp [a2,lkB_app]
   ·simp
   ·simp [obx,hiX,lkB_app,a1,a2]
   ·refine lk_mid (pre:=[(.n 6,_),(.up X,_)]) a4 ?_
    simp -implicitDefEqProofs [a1,a2]
   ·simp [hiX,hkey]
   ·simp
  |cons r0 rs=>
   rw [if_neg (by simp)]
   rw [hru] at ML V1 FO hys hyl
   have hW:wO (r0::rs)=leastS r0.s rs:=rfl
   have wbd: -9223372036854775808≤wO (r0::rs)∧wO (r0::rs)<9223372036854775808:=leastS_bd (P:=fun w=> -9223372036854775808≤w∧w<9223372036854775808) rs r0.s (hys r0 (List.mem_cons_self ..)) (fun r hr=>hys r (List.mem_cons_of_mem _ hr))
   have FO:=FO wbd.1 wbd.2
   generalize wO (r0::rs)=W at *
   have Dl:(rs.map Ru.row).length=rs.length:=by simp
   have D7: ∀v∈rs.map Ru.row,v.length=7:=by
    intro v hv
    rw [List.mem_map] at hv
    obtain ⟨r,-,rfl⟩:=hv;rfl
   have Dat: ∀i (h:i<rs.length),(rs.map Ru.row)[i]?=some [.str rs[i].n,.bool rs[i].p,i6 rs[i].l,i6 rs[i].s,u rs[i].f,i6 rs[i].w,i6 rs[i].k]:=fun i h=>by simp [h,Ru.row]
   have tD:(rs.map Ru.row).take rs.length=rs.map Ru.row:=List.take_of_length_le (by simp)
   have hrl:rs.length≤10:=by simp at hyl;omega
   have hc0:(r0::rs).map Ru.row=[.str r0.n,.bool r0.p,i6 r0.l,i6 r0.s,u r0.f,i6 r0.w,i6 r0.k]::rs.map Ru.row:=rfl
   rw [hc0] at ML ⊢
   generalize rs.map Ru.row=D at *
   clear hc0
   have l0:(((rs.length:Int)+1)==0)=false:=by rw [beq_eq_false_iff_ne];omega
   have l0': ¬((rs.length:Int)+1=0):=by omega
   simp -implicitDefEqProofs [c50,a2]
   refine onH_xs (pre:=[(.n 4,_),(.n 3,_)]) (suf:=[]) (q:=[]) (ML _ rfl) (by simp;exact ⟨rfl,rfl⟩) rfl UX ?_ ?_ U1 (fun _=>rfl) ?_ ?_ ?_ ?_
   ·simp [a2]
   ·simp
   ·simp;exact a3 _
   ·simp
   ·simp
   simp -implicitDefEqProofs [a1,a2,lkB_app,stB_app,q0',Dl,l0,l0']
   refine ⟨by omega,D7,?_⟩
   refine wp_lpk (α:=Nat×Int) (fun p=>⟨[(0,.ptr (.up M) 0),(3,.ptr (.n 3) 0),(4,.ptr (.n 4) 0),(6,.ptr (.n 6) 0),(8,i6 p.2),(36,.sl D),(37,i6 rs.length),(38,i6 p.1)],(.n 6,[.bool zb,u zm,u zl])::(.n 4,[i6 0,.int .u64 0,.int .u64 0])::(.n 3,[.str y.n,.int .u32 y.t,i6 y.g,i6 y.a,i6 y.o,i6 y.c,.sl (y.lb.map Lb.row),.sl ([.str r0.n,.bool r0.p,i6 r0.l,i6 r0.s,u r0.f,i6 r0.w,i6 r0.k]::D)])::(.up X,[.str x.n,.int .u32 x.t,i6 x.g,i6 x.a,i6 x.o,i6 x.c,.sl (x.lb.map Lb.row),.sl (x.ru.map Ru.row),i6 s.t,.bool s.sd,.sl (evRows s.L)])::m1,[(.b (.up X) 10,3)]⟩)
    (fun p=>p.1≤rs.length∧leastS p.2 (rs.drop p.1)=W) (fun p=>rs.length - p.1) ?_ (0,r0.s) ?_ ?_
   ·rintro K ⟨i,w⟩ hK ⟨i1,i2⟩
    simp only at i1 i2
    by_cases ci:i<rs.length
    ·have ci':(i:Int)<rs.length:=by omega
     have w1:IntKind.i64.wrap ((i:Int)+1)=(i+1:Nat):=by rw [wr]<;>omega
     have il:i<D.length:=by omega
     have ez0:=Dat i ci
     have ez:D[i]'il=[.str rs[i].n,.bool rs[i].p,i6 rs[i].l,i6 rs[i].s,u rs[i].f,i6 rs[i].w,i6 rs[i].k]:=by rw [List.getElem?_eq_getElem il] at ez0;exact Option.some.inj ez0
     rw [leastS_at w rs i ci] at i2
     have fin:=fun σ' (hσ:Weak σ' _)=>hK (i+1,if rs[i].s<w then rs[i].s else w) σ' ⟨by simp only;omega,i2⟩ (by simp only;omega) hσ
     clear hK Dat ML V1 FO i2
     simp only at fin
     generalize rs[i].n=v1 at *
     generalize rs[i].p=v2 at *
     generalize rs[i].l=v3 at *
     generalize rs[i].s=v4 at *
     generalize rs[i].f=v5 at *
     generalize rs[i].w=v6 at *
     generalize rs[i].k=v7 at *
     simp -implicitDefEqProofs [ci,ci',il,ez,ez0,Dl,D7,a2,w1]
     refine fin _ (weak_mk ?_ ?_ ?_ ?_ ?_ ?_)
     ·simp [w1]
     ·intro p hp
      rcases List.mem_cons.1 hp with rfl|hp
      ·simp [a1,a2,lkB_app,stB_app]
      rcases List.mem_cons.1 hp with rfl|hp
      ·simp [a1,a2,lkB_app,stB_app]
      rcases List.mem_cons.1 hp with rfl|hp
      ·simp [a1,a2,lkB_app,stB_app]
      rcases List.mem_cons.1 hp with rfl|hp
      ·simp [a1,a2,lkB_app,stB_app]
      have n3:=ne_none hp (a2 3)
      have n4:=ne_none hp (a2 4)
      have n6:=ne_none hp (a2 6)
      have n10:=ne_none hp (a2 10)
      have nX:=ne_none hp a1
      simp only [wkB,lkB,if_neg n3,if_neg n4,if_neg n6,if_neg n10,if_neg nX,lkB_app,a4 p hp]
      exact wkL_rfl' _
     ·simp
     ·simp [a2,lkB_app]
     ·intro p hp
      rcases List.mem_cons.1 hp with rfl|hp
      ·simp
      rcases List.mem_cons.1 hp with rfl|hp
      ·simp
      rcases List.mem_cons.1 hp with rfl|hp
      ·simp
      rcases List.mem_cons.1 hp with rfl|hp
      ·simp
      exact fun d hd=> .inr (a7 p hp d hd)
     ·simp
    ·obtain rfl:i=rs.length:=by omega
     have ci': ¬((rs.length:Int)<rs.length):=by omega
     rw [List.drop_eq_nil_of_le (Nat.le_refl _)] at i2
     have i2:w=W:=i2
     subst i2
     clear hK Dat ML
     simp -implicitDefEqProofs [ci',a2]
     refine onH_pre (pre:=[(.n 6,_),(.n 4,_),(.n 3,_),(.up X,_)]) (l:=m1) (V1 _ rfl) rfl ?_ a4 (fun _=>rfl) ?_ ?_ ?_ ?_
     ·simp [a1,a2]
     ·simp;exact a3 _
     ·simp [a1]
     ·simp
     by_cases z0:e2=0
     ·rw [if_pos z0]
      have z0':(e2 !=0)=false:=by rw [z0];rfl
      have ws:IntKind.u64.wrap ((c2:Int) - g2)=((c2 - g2:Nat):Int):=by rw [wrap_u64]<;>omega
      generalize (c2 - g2)=bad at *
      generalize outN (decide (z<0)) z.natAbs bad w=O at *
      obtain ⟨⟨ok,on⟩,oc⟩:=O
      obtain ⟨o2,o3,how⟩: ∃m l,outw ok on= .agg [i6 ok,u m,u l]:=⟨_,_,rfl⟩
      simp only at FO ⊢
      rw [how] at FO ⊢
      simp -implicitDefEqProofs [a1,a2,lkB_app,stB_app,z0']
      simp only [ws]
      refine onC_mk _ FO ?_
      simp -implicitDefEqProofs [a1,a2,lkB_app,stB_app]
      refine postH_r ⟨?_,?_,hout _ ?_ ?_,houi _,?_,?_⟩
      ·simp [a2,lkB_app]
      ·simp
      ·simp [obx,hiX,lkB_app,a1,a2]
      ·refine lk_mid (pre:=[(.n 11,_)]) a4 ?_
       simp -implicitDefEqProofs [a1,a2]
      ·simp [hiX,hkey]
      ·simp
     ·rw [if_neg z0]
      have z0':(e2 !=0)=true:=by rw [bne_iff_ne];exact z0
      simp -implicitDefEqProofs [a1,a2,lkB_app,stB_app,z0']
      refine postH_r ⟨?_,?_,hout _ ?_ ?_,houi _,?_,?_⟩
      ·simp [a2,lkB_app]
      ·simp
      ·simp [obx,hiX,lkB_app,a1,a2]
      ·refine lk_mid (pre:=[(.n 11,_)]) a4 ?_
       simp -implicitDefEqProofs [a1,a2]
      ·simp [hiX,hkey]
      ·simp
   ·exact ⟨Nat.zero_le _,by simp only [List.drop_zero];exact hW.symm⟩
   ·refine (weak_mk ?_ ?_ ?_ ?_ ?_ ?_)
    ·simp [tD]
    ·intro p hp
     rcases List.mem_cons.1 hp with rfl|hp
     ·simp [a1,a2,lkB_app,stB_app]
     rcases List.mem_cons.1 hp with rfl|hp
     ·simp [a1,a2,lkB_app,stB_app]
     rcases List.mem_cons.1 hp with rfl|hp
     ·simp [a1,a2,lkB_app,stB_app]
     rcases List.mem_cons.1 hp with rfl|hp
     ·simp [a1,a2,lkB_app,stB_app]
     have n3:=ne_none hp (a2 3)
     have n4:=ne_none hp (a2 4)
     have n6:=ne_none hp (a2 6)
     have n10:=ne_none hp (a2 10)
     have nX:=ne_none hp a1
     simp only [wkB,lkB,if_neg n3,if_neg n4,if_neg n6,if_neg n10,if_neg nX,lkB_app,a4 p hp]
     exact wkL_rfl' _
    ·simp
    ·simp [a2,lkB_app]
    ·intro p hp
     rcases List.mem_cons.1 hp with rfl|hp
     ·simp
     rcases List.mem_cons.1 hp with rfl|hp
     ·simp
     rcases List.mem_cons.1 hp with rfl|hp
     ·simp
     rcases List.mem_cons.1 hp with rfl|hp
     ·simp
     exact fun d hd=> .inr (a7 p hp d hd)
    ·simp
 ·rw [if_pos q0]
  have q0':(q !=0)=true:=by rw [bne_iff_ne];exact q0
  simp -implicitDefEqProofs [c50,a2]
  refine onH_xs (pre:=[(.n 4,_),(.n 3,_)]) (suf:=[]) (q:=[]) (ML _ rfl) (by simp;exact ⟨rfl,rfl⟩) rfl UX ?_ ?_ U1 (fun _=>rfl) ?_ ?_ ?_ ?_
  ·simp [a2]
  ·simp
  ·simp;exact a3 _
  ·simp
  ·simp
  simp -implicitDefEqProofs [a1,a2,lkB_app,stB_app,q0']
  refine postH_r ⟨?_,?_,hout _ ?_ ?_,houi _,?_,?_⟩
  ·simp [a2,lkB_app]
  ·simp
  ·simp [obx,hiX,lkB_app,a1,a2]
  ·refine lk_mid (pre:=[(.n 6,_),(.up X,_)]) a4 ?_
   simp -implicitDefEqProofs [a1,a2]
  ·simp [hiX,hkey]
  ·simp
open Go.Proofs
theorem xof_tail (M A X:Id) (R B:Nat→Id) (h:NmX M A R B X) (x:Gl) (hx:goalP x=true) (hl:x.ru.length≤10) (s:Mt) (k:Nat) (hk0:k≤1000000) (hs:MtOk x (winP x).length (kN x) (wN x) s k) (y:Gl) (r0:Ru) (rs:List Ru) (hyr:y.ru=r0::rs) (hyl:y.ru.length≤10) (hys: ∀r∈y.ru,-9223372036854775808≤r.s∧r.s<9223372036854775808)
  (z:Int) (hz:z.natAbs<340282366920938463463374607431768211456) (zb:Bool) (zm zl:Nat) (hzz:sgi z= .agg [.bool zb,u zm,u zl])
  (g2 c2:Nat) (e2:Int) (hV2:wndV (winP x) (kN x) (wN x) s.t s.L s.sd (wO y.ru)= .tup [.agg [u g2,u c2],i6 e2]) (hg2:g2≤c2) (hc2:c2<18446744073709551616) (d:Nat) (hd:M.isNw d=false)
  (e:List (Nat×AV)) (BX:List (Id×List AV)) (q:List (Pl×Nat)) (l0:lk e 0= .ptr (.up X) 0) (l3:lk e 3= .ptr (.n 3) 0) (l4:lk e 4= .ptr (.n 4) 0) (l6:lk e 6= .ptr (.n 6) 0) (l8:lk e 8=i6 r0.s)
  (b6:lkB BX (.n 6)=some [.bool zb,u zm,u zl]) (b4:lkB BX (.n 4)=some [i6 0,.int .u64 0,.int .u64 0]) (b3:lkB BX (.n 3)=some y.row) (bX:lkB BX (.up X)=some (xC x s.t s.sd s.L))
  (bm: ∀p∈mtB (.up M) (.up A) (fun i=> .up (R i)) (fun i=> .up (B i)) x (winP x).length (intRows (winP x)) (kN x) (wN x) s.t s.L s.sd,lkB BX p.1=some p.2):
  wpA (SpH Tryz.prog gl) (AC.tl 6 c51) (postH d [.ca 4 3,.t 5] ⟨ofR z 0 y.ru g2 c2 e2,mxB M A R B X x (winP x).length (winP x) (kN x) (wN x) s,[(.b X 10,3)]⟩) ⟨e,BX,(.b (.up X) 10,3)::q⟩:=by
 have hu:=h.up
 have hk:=goal_k hx hl
 have hn:=goal_n hl
 have hdX:X.isNw d=false:=h.nx d hd
 have hiX:=inn_notNw hdX
 have xi:=h.xi
 have ma:=h.h.ma
 have ma': ¬A=M:=fun e=>h.h.ma e.symm
 have xm:=h.xm
 have xm': ¬M=X:=fun e=>h.xm e.symm
 have xa:=h.xa
 have xa': ¬A=X:=fun e=>h.xa e.symm
 obtain ⟨s2,hs2⟩: ∃y,y=s:=⟨_,rfl⟩
 rw [←hs2]
 have hout:=fun σ q1 q2=>mx_out h hd (x:=x) (n:=(winP x).length) (Wl:=winP x) (K:=kN x) (w:=wN x) (s:=s2) (σ:=σ) q1 q2
 have houi:=fun ob=>mx_outi h hd x (winP x).length (winP x) (kN x) (wN x) s2 ob
 have hkey:(lkB (mxB M A R B X x (winP x).length (winP x) (kN x) (wN x) s2) X).isSome=true:=mx_x ..
 have hnox:=fun t L sd=>mt_nox hu x (winP x).length (intRows (winP x)) (kN x) (wN x) t L sd
 have hnorm:=fun t L sd=>mt_norm hu x (winP x).length (intRows (winP x)) (kN x) (wN x) t L sd
 have hnon:=fun t L sd s=>mtU_non M A R B x (winP x).length (intRows (winP x)) (kN x) (wN x) t L sd s
 have hfr:=fun t L sd s=>mtU_fr M A R B x (winP x).length (intRows (winP x)) (kN x) (wN x) t L sd s
 have hinF:=fun t L sd fr=>mtU_inF M A R B x (winP x).length (intRows (winP x)) (kN x) (wN x) t L sd fr
 have huq:=fun t L sd=>mt_uq hu.h x (winP x).length (intRows (winP x)) (kN x) (wN x) t L sd
 have hks:=fun t t' L L' sd sd' j=>mt_ks (M:= .up M) (A:= .up A) (R:=fun i=> .up (R i)) (B:=fun i=> .up (B i)) x x (winP x).length (intRows (winP x)) (kN x) (wN x) t t' L L' sd sd' j
 have hrm:rmB (rgsB (fun i=> .up (R i)) (fun i=> .up (B i)) (rgC (kN x) (wN x) s.t s.L) (rgD (kN x) (wN x) s.t s.L) (winP x).length) (.up M)=rgsB (fun i=> .up (R i)) (fun i=> .up (B i)) (rgC (kN x) (wN x) s.t s.L) (rgD (kN x) (wN x) s.t s.L) (winP x).length:=rgsB_rm hu.h.mr hu.h.mb _
 have hrx:rmB (rgsB (fun i=> .up (R i)) (fun i=> .up (B i)) (rgC (kN x) (wN x) s.t s.L) (rgD (kN x) (wN x) s.t s.L) (winP x).length) (.up X)=rgsB (fun i=> .up (R i)) (fun i=> .up (B i)) (rgC (kN x) (wN x) s.t s.L) (rgD (kN x) (wN x) s.t s.L) (winP x).length:=rgsB_rm hu.xr hu.xb _
 have hrX:=rgsB_none (R:=fun i=> .up (R i)) (B:=fun i=> .up (B i)) (C:=rgC (kN x) (wN x) s.t s.L) (D:=rgD (kN x) (wN x) s.t s.L) (x:= .up X) hu.xr hu.xb (winP x).length
 have hrM:=rgsB_none (R:=fun i=> .up (R i)) (B:=fun i=> .up (B i)) (C:=rgC (kN x) (wN x) s.t s.L) (D:=rgD (kN x) (wN x) s.t s.L) (x:= .up M) hu.h.mr hu.h.mb (winP x).length
 have hrn:=fun j=>rgsB_none (R:=fun i=> .up (R i)) (B:=fun i=> .up (B i)) (C:=rgC (kN x) (wN x) s.t s.L) (D:=rgD (kN x) (wN x) s.t s.L) (x:= .n j) (fun i e=>by cases e) (fun i e=>by cases e) (winP x).length
 have hrf:=fun i=>rgs_free (R:=R) (B:=B) (C:=rgC (kN x) (wN x) s.t s.L) (D:=rgD (kN x) (wN x) s.t s.L) (n:=(winP x).length) (s:=i)
 have hs3:=hs2.symm
 clear hs2
 subst hs3
 have hw:=goal_wd hx hl
 have hll:=Nat.le_trans hs.l hk0
 have a1:=hnox s.t s.L s.sd
 have a2:=hnon s.t s.L s.sd
 have a3:=hfr s.t s.L s.sd
 have a4:=huq s.t s.L s.sd
 have a6:=hnorm s.t s.L s.sd
 have a7:=mtU_up M A R B x (winP x).length (intRows (winP x)) (kN x) (wN x) s.t s.L s.sd
 have W1:=fun e he=>xwindow_spec (.up X) xi x hl (winP x).length (gN x) (wdN x) hw s.t hs.t s.sd s.L hs.L hll (wO y.ru) e he
 have V1: ∀q,(Id.up X).isNw q=false→SpH Tryz.prog gl 19 q ⟨[.ptr (.up X) 0,i6 (wO y.ru)],[(.up X,xC x s.t s.sd s.L)],[(.b (.up X) 10,3)]⟩ ⟨.tup [.agg [u g2,u c2],i6 e2],[(.up X,xC x s.t s.sd s.L)],[(.b (.up X) 10,3)]⟩:=by
  intro q hq;rw [←hV2];exact W1 q hq
 clear hnox hnorm hnon hfr hinF huq hks hrm hrx hrX hrM hrn hrf hV2 W1
 generalize mtB (.up M) (.up A) (fun i=> .up (R i)) (fun i=> .up (B i)) x (winP x).length (intRows (winP x)) (kN x) (wN x) s.t s.L s.sd=m1 at *
 generalize mxB M A R B X x (winP x).length (winP x) (kN x) (wN x) s=OB at *
 have FO:=rforecast_spec (decide (z<0)) z.natAbs (c2 - g2) (wO y.ru) hz (by omega)
 unfold ofR
 have hz2:sgn (decide (z<0)) z.natAbs= .agg [.bool zb,u zm,u zl]:=hzz
 rw [hz2] at FO
 simp only [Gl.row] at b3
 simp only [xC] at hout V1 bX
 rw [if_neg (fun h=>h rfl)]
 rw [hyr] at V1 FO hys hyl b3 ⊢
 rw [if_neg (by simp)]
 have hW:wO (r0::rs)=leastS r0.s (r0::rs):=by unfold wO;rw [show leastS r0.s (r0::rs)=leastS (if r0.s<r0.s then r0.s else r0.s) rs from rfl,if_neg (by omega)]
 have wbd: -9223372036854775808≤wO (r0::rs)∧wO (r0::rs)<9223372036854775808:=leastS_bd (P:=fun w=> -9223372036854775808≤w∧w<9223372036854775808) rs r0.s (hys r0 (List.mem_cons_self ..)) (fun r hr=>hys r (List.mem_cons_of_mem _ hr))
 have FO:=FO wbd.1 wbd.2
 generalize wO (r0::rs)=W at *
 generalize r0::rs=ru at *
 have Dl:(ru.map Ru.row).length=ru.length:=by simp
 have D7: ∀v∈ru.map Ru.row,v.length=7:=by
  intro v hv
  rw [List.mem_map] at hv
  obtain ⟨r,-,rfl⟩:=hv;rfl
 have Dat: ∀i (h:i<ru.length),(ru.map Ru.row)[i]?=some [.str ru[i].n,.bool ru[i].p,i6 ru[i].l,i6 ru[i].s,u ru[i].f,i6 ru[i].w,i6 ru[i].k]:=fun i h=>by simp [h,Ru.row]
 generalize ru.map Ru.row=RU at *
 simp only [c51,AC.tl]
 simp -implicitDefEqProofs [l0,l3,l4,l6,l8]
 refine wp_lpk (α:=Nat×Int) (fun p=>⟨[(0,.ptr (.up X) 0),(3,.ptr (.n 3) 0),(4,.ptr (.n 4) 0),(6,.ptr (.n 6) 0),(8,i6 p.2),(9,i6 p.1)],(.n 6,[.bool zb,u zm,u zl])::(.n 4,[i6 0,.int .u64 0,.int .u64 0])::(.n 3,[.str y.n,.int .u32 y.t,i6 y.g,i6 y.a,i6 y.o,i6 y.c,.sl (y.lb.map Lb.row),.sl RU])::(.up X,[.str x.n,.int .u32 x.t,i6 x.g,i6 x.a,i6 x.o,i6 x.c,.sl (x.lb.map Lb.row),.sl (x.ru.map Ru.row),i6 s.t,.bool s.sd,.sl (evRows s.L)])::m1,[(.b (.up X) 10,3)]⟩)
  (fun p=>p.1≤ru.length∧leastS p.2 (ru.drop p.1)=W) (fun p=>ru.length - p.1) ?_ (0,r0.s) ?_ ?_
 ·rintro K ⟨i,w⟩ hK ⟨i1,i2⟩
  simp only at i1 i2
  by_cases ci:i<ru.length
  ·have ci':(i:Int)<ru.length:=by omega
   have w1:IntKind.i64.wrap ((i:Int)+1)=(i+1:Nat):=by rw [wr]<;>omega
   have il:i<RU.length:=by omega
   have ez0:=Dat i ci
   have ez:RU[i]'il=[.str ru[i].n,.bool ru[i].p,i6 ru[i].l,i6 ru[i].s,u ru[i].f,i6 ru[i].w,i6 ru[i].k]:=by rw [List.getElem?_eq_getElem il] at ez0;exact Option.some.inj ez0
   rw [leastS_at w ru i ci] at i2
   have fin:=fun σ' (hσ:Weak σ' _)=>hK (i+1,if ru[i].s<w then ru[i].s else w) σ' ⟨by simp only;omega,i2⟩ (by simp only;omega) hσ
   clear hK Dat V1 FO i2
   simp only at fin
   generalize ru[i].n=v1 at *
   generalize ru[i].p=v2 at *
   generalize ru[i].l=v3 at *
   generalize ru[i].s=v4 at *
   generalize ru[i].f=v5 at *
   generalize ru[i].w=v6 at *
   generalize ru[i].k=v7 at *
   by_cases hlt:v4<w
   ·rw [if_pos hlt] at fin
    simp -implicitDefEqProofs [ci,ci',il,ez,ez0,Dl,D7,a2,w1,hlt]
    refine fin _ (weak_mk ?_ ?_ ?_ ?_ ?_ ?_)
    ·simp [w1]
    ·intro p hp
     rcases List.mem_cons.1 hp with rfl|hp
     ·simp [a1,a2,lkB_app,stB_app]
     rcases List.mem_cons.1 hp with rfl|hp
     ·simp [a1,a2,lkB_app,stB_app]
     rcases List.mem_cons.1 hp with rfl|hp
     ·simp [a1,a2,lkB_app,stB_app]
     rcases List.mem_cons.1 hp with rfl|hp
     ·simp [a1,a2,lkB_app,stB_app]
     have n3:=ne_none hp (a2 3)
     have n4:=ne_none hp (a2 4)
     have n6:=ne_none hp (a2 6)
     have n10:=ne_none hp (a2 10)
     have nX:=ne_none hp a1
     simp only [wkB,lkB,if_neg n3,if_neg n4,if_neg n6,if_neg n10,if_neg nX,lkB_app,a4 p hp]
     exact wkL_rfl' _
    ·simp
    ·simp [a2,lkB_app]
    ·intro p hp
     rcases List.mem_cons.1 hp with rfl|hp
     ·simp
     rcases List.mem_cons.1 hp with rfl|hp
     ·simp
     rcases List.mem_cons.1 hp with rfl|hp
     ·simp
     rcases List.mem_cons.1 hp with rfl|hp
     ·simp
     exact fun d hd=> .inr (a7 p hp d hd)
    ·simp
   ·rw [if_neg hlt] at fin
    simp -implicitDefEqProofs [ci,ci',il,ez,ez0,Dl,D7,a2,w1,hlt]
    refine fin _ (weak_mk ?_ ?_ ?_ ?_ ?_ ?_)
    ·simp [w1]
    ·intro p hp
     rcases List.mem_cons.1 hp with rfl|hp
     ·simp [a1,a2,lkB_app,stB_app]
     rcases List.mem_cons.1 hp with rfl|hp
     ·simp [a1,a2,lkB_app,stB_app]
     rcases List.mem_cons.1 hp with rfl|hp
     ·simp [a1,a2,lkB_app,stB_app]
     rcases List.mem_cons.1 hp with rfl|hp
     ·simp [a1,a2,lkB_app,stB_app]
     have n3:=ne_none hp (a2 3)
     have n4:=ne_none hp (a2 4)
     have n6:=ne_none hp (a2 6)
     have n10:=ne_none hp (a2 10)
     have nX:=ne_none hp a1
     simp only [wkB,lkB,if_neg n3,if_neg n4,if_neg n6,if_neg n10,if_neg nX,lkB_app,a4 p hp]
     exact wkL_rfl' _
    ·simp
    ·simp [a2,lkB_app]
    ·intro p hp
     rcases List.mem_cons.1 hp with rfl|hp
     ·simp
     rcases List.mem_cons.1 hp with rfl|hp
     ·simp
     rcases List.mem_cons.1 hp with rfl|hp
     ·simp
     rcases List.mem_cons.1 hp with rfl|hp
     ·simp
     exact fun d hd=> .inr (a7 p hp d hd)
    ·simp
  ·obtain rfl:i=ru.length:=by omega
   have ci': ¬((ru.length:Int)<ru.length):=by omega
   rw [List.drop_eq_nil_of_le (Nat.le_refl _)] at i2
   have i2:w=W:=i2
   subst i2
   clear hK Dat
   simp -implicitDefEqProofs [ci',a2,Dl]
   refine onH_mk _ _ (V1 _ rfl) ⟨?_,?_,?_,?_,?_,?_,?_⟩ ?_
   iterate 6 (· simp [a2,lkB_app])
   ·simp;exact a3 _
   by_cases z0:e2=0
   ·rw [if_pos z0]
    have z0':(e2 !=0)=false:=by rw [z0];rfl
    have ws:IntKind.u64.wrap ((c2:Int) - g2)=((c2 - g2:Nat):Int):=by rw [wrap_u64]<;>omega
    generalize (c2 - g2)=bad at *
    generalize outN (decide (z<0)) z.natAbs bad w=O at *
    obtain ⟨⟨ok,on⟩,oc⟩:=O
    obtain ⟨o2,o3,how⟩: ∃m l,outw ok on= .agg [i6 ok,u m,u l]:=⟨_,_,rfl⟩
    simp only at FO ⊢
    rw [how] at FO ⊢
    simp -implicitDefEqProofs [a1,a2,a6,lkB_app,stB_app,z0']
    simp only [ws]
    refine onC_mk _ FO ?_
    simp -implicitDefEqProofs [a1,a2,a6,lkB_app,stB_app]
    refine postH_r ⟨?_,?_,hout _ ?_ ?_,houi _,?_,?_⟩
    ·simp [a2,lkB_app]
    ·simp
    ·simp [obx,hiX,lkB_app,a1,a2]
    ·refine lk_pre (pre:=[(.n 10,_),(.up X,_),(.n 6,_),(.n 4,_),(.n 3,_)]) a4 ?_
     simp -implicitDefEqProofs [a1,a2]
    ·simp [hiX,hkey]
    ·simp
   ·rw [if_neg z0]
    have z0':(e2 !=0)=true:=by rw [bne_iff_ne];exact z0
    simp -implicitDefEqProofs [a1,a2,a6,lkB_app,stB_app,z0']
    refine postH_r ⟨?_,?_,hout _ ?_ ?_,houi _,?_,?_⟩
    ·simp [a2,lkB_app]
    ·simp
    ·simp [obx,hiX,lkB_app,a1,a2]
    ·refine lk_pre (pre:=[(.n 10,_),(.up X,_),(.n 6,_),(.n 4,_),(.n 3,_)]) a4 ?_
     simp -implicitDefEqProofs [a1,a2]
    ·simp [hiX,hkey]
    ·simp
 ·exact ⟨Nat.zero_le _,by simp only [List.drop_zero];exact hW.symm⟩
 ·refine weak_mk ?_ ?_ ?_ ?_ ?_ ?_
  ·simp [l0,l3,l4,l6,l8]
  ·intro p hp
   rcases List.mem_cons.1 hp with rfl|hp
   ·simp [b6]
   rcases List.mem_cons.1 hp with rfl|hp
   ·simp [b4]
   rcases List.mem_cons.1 hp with rfl|hp
   ·simp [b3]
   rcases List.mem_cons.1 hp with rfl|hp
   ·simp [bX]
   simp only [wkB,bm p hp]
   exact wkL_rfl' _
  ·simp
  ·simp [a2,lkB_app]
  ·intro p hp
   rcases List.mem_cons.1 hp with rfl|hp
   ·simp
   rcases List.mem_cons.1 hp with rfl|hp
   ·simp
   rcases List.mem_cons.1 hp with rfl|hp
   ·simp
   rcases List.mem_cons.1 hp with rfl|hp
   ·simp
   exact fun d hd=> .inr (a7 p hp d hd)
  ·simp
open Go.Proofs
theorem xof_spec (M A X:Id) (R B:Nat→Id) (h:NmX M A R B X) (x:Gl) (hx:goalP x=true) (hl:x.ru.length≤10) (s:Mt) (k:Nat) (hk0:k≤1000000) (hs:MtOk x (winP x).length (kN x) (wN x) s k) (y:Gl) (hyt:y.t<4294967296) (hyl:y.ru.length≤10) (hys: ∀r∈y.ru,-9223372036854775808≤r.s∧r.s<9223372036854775808)
  (g c:Nat) (e:Int) (hV:wndV (winP x) (kN x) (wN x) s.t s.L s.sd y.o= .tup [.agg [u g,u c],i6 e]) (hc:c<18446744073709551616)
  (g' c':Nat) (e':Int) (hC:(if x.c=0 then AV.tup [.agg [u 0,u 0],i6 7] else if s.sd=true then .tup [.agg [u 0,u 0],i6 17] else .tup [.agg [u (pcG x.c s.t s.L),u (pcT x.c s.t s.L)],i6 0])= .tup [.agg [u g',u c'],i6 e']) (hc':c'<18446744073709551616)
  (z q:Int) (hL:leftR y.o y.t g c e g' c' e'= .tup [sgi z,i6 q]) (hz:z.natAbs<340282366920938463463374607431768211456)
  (g2 c2:Nat) (e2:Int) (hV2:wndV (winP x) (kN x) (wN x) s.t s.L s.sd (wO y.ru)= .tup [.agg [u g2,u c2],i6 e2]) (hg2:g2≤c2) (hc2:c2<18446744073709551616) (d:Nat) (hd:M.isNw d=false):
  SpH Tryz.prog gl 51 d ⟨[.ptr X 0,.agg y.row],mxB M A R B X x (winP x).length (winP x) (kN x) (wN x) s,[(.b X 10,3)]⟩ ⟨ofR z q y.ru g2 c2 e2,mxB M A R B X x (winP x).length (winP x) (kN x) (wN x) s,[(.b X 10,3)]⟩:=by
 refine h51 rfl ?_
 have hu:=h.up
 have hk:=goal_k hx hl
 have hn:=goal_n hl
 have hdX:X.isNw d=false:=h.nx d hd
 have hiX:=inn_notNw hdX
 have xi:=h.xi
 have ma:=h.h.ma
 have ma': ¬A=M:=fun e=>h.h.ma e.symm
 have xm:=h.xm
 have xm': ¬M=X:=fun e=>h.xm e.symm
 have xa:=h.xa
 have xa': ¬A=X:=fun e=>h.xa e.symm
 obtain ⟨s2,hs2⟩: ∃y,y=s:=⟨_,rfl⟩
 rw [←hs2]
 have hout:=fun σ q1 q2=>mx_out h hd (x:=x) (n:=(winP x).length) (Wl:=winP x) (K:=kN x) (w:=wN x) (s:=s2) (σ:=σ) q1 q2
 have houi:=fun ob=>mx_outi h hd x (winP x).length (winP x) (kN x) (wN x) s2 ob
 have hkey:(lkB (mxB M A R B X x (winP x).length (winP x) (kN x) (wN x) s2) X).isSome=true:=mx_x ..
 have hnox:=fun t L sd=>mt_nox hu x (winP x).length (intRows (winP x)) (kN x) (wN x) t L sd
 have hnorm:=fun t L sd=>mt_norm hu x (winP x).length (intRows (winP x)) (kN x) (wN x) t L sd
 have hnon:=fun t L sd s=>mtU_non M A R B x (winP x).length (intRows (winP x)) (kN x) (wN x) t L sd s
 have hfr:=fun t L sd s=>mtU_fr M A R B x (winP x).length (intRows (winP x)) (kN x) (wN x) t L sd s
 have hinF:=fun t L sd fr=>mtU_inF M A R B x (winP x).length (intRows (winP x)) (kN x) (wN x) t L sd fr
 have huq:=fun t L sd=>mt_uq hu.h x (winP x).length (intRows (winP x)) (kN x) (wN x) t L sd
 have hks:=fun t t' L L' sd sd' j=>mt_ks (M:= .up M) (A:= .up A) (R:=fun i=> .up (R i)) (B:=fun i=> .up (B i)) x x (winP x).length (intRows (winP x)) (kN x) (wN x) t t' L L' sd sd' j
 have hrm:rmB (rgsB (fun i=> .up (R i)) (fun i=> .up (B i)) (rgC (kN x) (wN x) s.t s.L) (rgD (kN x) (wN x) s.t s.L) (winP x).length) (.up M)=rgsB (fun i=> .up (R i)) (fun i=> .up (B i)) (rgC (kN x) (wN x) s.t s.L) (rgD (kN x) (wN x) s.t s.L) (winP x).length:=rgsB_rm hu.h.mr hu.h.mb _
 have hrx:rmB (rgsB (fun i=> .up (R i)) (fun i=> .up (B i)) (rgC (kN x) (wN x) s.t s.L) (rgD (kN x) (wN x) s.t s.L) (winP x).length) (.up X)=rgsB (fun i=> .up (R i)) (fun i=> .up (B i)) (rgC (kN x) (wN x) s.t s.L) (rgD (kN x) (wN x) s.t s.L) (winP x).length:=rgsB_rm hu.xr hu.xb _
 have hrX:=rgsB_none (R:=fun i=> .up (R i)) (B:=fun i=> .up (B i)) (C:=rgC (kN x) (wN x) s.t s.L) (D:=rgD (kN x) (wN x) s.t s.L) (x:= .up X) hu.xr hu.xb (winP x).length
 have hrM:=rgsB_none (R:=fun i=> .up (R i)) (B:=fun i=> .up (B i)) (C:=rgC (kN x) (wN x) s.t s.L) (D:=rgD (kN x) (wN x) s.t s.L) (x:= .up M) hu.h.mr hu.h.mb (winP x).length
 have hrn:=fun j=>rgsB_none (R:=fun i=> .up (R i)) (B:=fun i=> .up (B i)) (C:=rgC (kN x) (wN x) s.t s.L) (D:=rgD (kN x) (wN x) s.t s.L) (x:= .n j) (fun i e=>by cases e) (fun i e=>by cases e) (winP x).length
 have hrf:=fun i=>rgs_free (R:=R) (B:=B) (C:=rgC (kN x) (wN x) s.t s.L) (D:=rgD (kN x) (wN x) s.t s.L) (n:=(winP x).length) (s:=i)
 simp only [inSt,mxB_up,mpL,mpP,AV.mp,Pl.mp]
 have hs3:=hs2.symm
 clear hs2
 subst hs3
 have a1:=hnox s.t s.L s.sd
 have a2:=hnon s.t s.L s.sd
 have a3:=hfr s.t s.L s.sd
 have a4:=huq s.t s.L s.sd
 have a6:=hnorm s.t s.L s.sd
 have CA:=fun i hi=>xcalL_spec _ _ _ _ _ hu x hx hl s k hk0 hs y hyt g' c' e' hC hc' i hi
 have RO:=fun i hi=>xroll_spec _ _ _ _ _ hu x hx hl s k hk0 hs y hyt g c e hV hc i hi
 obtain ⟨zb,zm,zl,hzz⟩: ∃b m l,sgi z= .agg [.bool b,u m,u l]:=⟨_,_,_,rfl⟩
 have TL:=fun (q0:q=0) r0 rs hyr e BX q l0 l3 l4 l6 l8 b6 b4 b3 bX bm=>xof_tail _ _ _ _ _ h x hx hl s k hk0 hs y r0 rs hyr hyl hys z hz zb zm zl hzz g2 c2 e2 hV2 hg2 hc2 d hd e BX q l0 l3 l4 l6 l8 b6 b4 b3 bX bm
 have U1:=mx_uniq hu x (winP x).length (winP x) (kN x) (wN x) s
 have UX:(lkB (mxB (.up M) (.up A) (fun i=> .up (R i)) (fun i=> .up (B i)) (.up X) x (winP x).length (winP x) (kN x) (wN x) s) (.up X)).isSome=true:=mx_x ..
 have hG:mxB (.up M) (.up A) (fun i=> .up (R i)) (fun i=> .up (B i)) (.up X) x (winP x).length (winP x) (kN x) (wN x) s=(.up X,xC x s.t s.sd s.L)::mtB (.up M) (.up A) (fun i=> .up (R i)) (fun i=> .up (B i)) x (winP x).length (intRows (winP x)) (kN x) (wN x) s.t s.L s.sd:=rfl
 rw [hG] at CA RO U1 UX
 clear hnox hnorm hnon hfr hinF huq hks hrm hrx hrX hrM hrn hrf hV hC hG hV2
 have ec:c51=AC.cutAt 6 (AC.tl 6 c51) c51:=rfl
 rw [ec]
 generalize AC.tl 6 c51=TT at TL ⊢
 generalize mtB (.up M) (.up A) (fun i=> .up (R i)) (fun i=> .up (B i)) x (winP x).length (intRows (winP x)) (kN x) (wN x) s.t s.L s.sd=m1 at *
 generalize mxB M A R B X x (winP x).length (winP x) (kN x) (wN x) s=OB at *
 have tl0:q=0→ofR z 0 y.ru g2 c2 e2=ofR z q y.ru g2 c2 e2:=fun h=>by rw [h]
 have TL:=fun (q0:q=0) r0 rs hyr e BX q' l0 l3 l4 l6 l8 b6 b4 b3 bX bm=>(tl0 q0)▸TL q0 r0 rs hyr e BX q' l0 l3 l4 l6 l8 b6 b4 b3 bX bm
 obtain ⟨b0,m0,n0,q9,h9⟩:=rollR_form y.t g' c' e'
 rw [h9] at CA
 unfold leftR at hL
 simp only [Gl.row] at CA RO TL ⊢
 simp only [xC] at hout CA RO U1 UX TL ⊢
 simp only [c51,AC.cutAt]
 by_cases o0:y.o=0
 ·rw [if_pos o0,h9] at hL
  rw [if_pos o0] at RO
  have o0':(y.o !=0)=false:=by rw [o0];rfl
  obtain ⟨hq1,hq2⟩:AV.agg [.bool b0,u m0,u n0]=sgi z∧q9=q:=by
   have h:=hL;injection h with h;injection h with h1 h2;injection h2 with h2 _;injection h2 with h2;exact ⟨h1,by injection h2⟩
  rw [hzz] at hq1
  have hq3:=hq2.symm
  subst hq3
  obtain ⟨rfl,rfl,rfl⟩:b0=zb∧m0=zm∧n0=zl:=by
   injection hq1 with h;injection h with h1 h;injection h with h2 h;injection h with h3 _
   injection h1 with h1;injection h2 with _ h2;injection h3 with _ h3
   exact ⟨h1,by exact_mod_cast h2,by exact_mod_cast h3⟩
  simp -implicitDefEqProofs [a2]
  refine onH_xs (pre:=[(.n 4,_),(.n 3,_)]) (suf:=[]) (q:=[]) (CA _ rfl) (by simp;exact ⟨rfl,rfl⟩) rfl UX ?_ ?_ U1 (fun _=>rfl) ?_ ?_ ?_ ?_
  ·simp [a2]
  ·simp
  ·simp;exact a3 _
  ·simp
  ·simp
  simp -implicitDefEqProofs [a1,a2,lkB_app,stB_app,o0']
  by_cases q0:q=0
  ·have q0':(q !=0)=false:=by rw [q0];rfl
   cases hru:y.ru with
   |nil=>
    have hr:ofR z q [] g2 c2 e2= .tup [.agg [i6 0,.int .u64 0,.int .u64 0],i6 7]:=by unfold ofR;rw [if_neg (fun h=>h q0),if_pos rfl]
    rw [hr]
    simp -implicitDefEqProofs [a1,a2,a6,lkB_app,stB_app,q0',hru]
    refine postH_r ⟨?_,?_,hout _ ?_ ?_,houi _,?_,?_⟩
    ·simp [a2,lkB_app]
    ·simp
    ·simp [obx,hiX,lkB_app,a1,a2]
    ·refine lk_mid (pre:=[(.n 6,_),(.up X,_)]) a4 ?_
     simp -implicitDefEqProofs [a1,a2]
    ·simp [hiX,hkey]
    ·simp
   |cons r0 rs=>
    have T:=TL q0 r0 rs hru
    rw [hru] at T
    generalize ofR z q (r0::rs) g2 c2 e2=RR at *
    simp only [List.map_cons,Ru.row] at T ⊢
    have l0:(((rs.length:Int)+1)==0)=false:=by rw [beq_eq_false_iff_ne];omega
    have l0': ¬((rs.length:Int)+1=0):=by omega
    simp -implicitDefEqProofs [a1,a2,a6,lkB_app,stB_app,q0',l0,l0']
    refine T _ _ _ ?_ ?_ ?_ ?_ ?_ ?_ ?_ ?_ ?_ ?_
    iterate 5 (· simp)
    iterate 4 (· simp [a1,a2,lkB_app])
    ·refine lk_mid (pre:=[(.n 6,_),(.up X,_)]) a4 ?_
     simp -implicitDefEqProofs [a1,a2]
  ·have q0':(q !=0)=true:=by rw [bne_iff_ne];exact q0
   have hr:ofR z q y.ru g2 c2 e2= .tup [.agg [i6 0,.int .u64 0,.int .u64 0],i6 q]:=by unfold ofR;rw [if_pos q0]
   rw [hr]
   simp -implicitDefEqProofs [a1,a2,a6,lkB_app,stB_app,q0']
   refine postH_r ⟨?_,?_,hout _ ?_ ?_,houi _,?_,?_⟩
   ·simp [a2,lkB_app]
   ·simp
   ·simp [obx,hiX,lkB_app,a1,a2]
   ·refine lk_mid (pre:=[(.n 6,_),(.up X,_)]) a4 ?_
    simp -implicitDefEqProofs [a1,a2]
   ·simp [hiX,hkey]
   ·simp

 ·rw [if_neg o0] at hL RO
  rw [hL,hzz] at RO
  have o0':(y.o !=0)=true:=by rw [bne_iff_ne];exact o0
  simp -implicitDefEqProofs [a2]
  refine onH_xs (pre:=[(.n 4,_),(.n 3,_)]) (suf:=[]) (q:=[]) (CA _ rfl) (by simp;exact ⟨rfl,rfl⟩) rfl UX ?_ ?_ U1 (fun _=>rfl) ?_ ?_ ?_ ?_
  ·simp [a2]
  ·simp
  ·simp;exact a3 _
  ·simp
  ·simp
  simp -implicitDefEqProofs [a1,a2,lkB_app,stB_app,o0']
  refine onH_xs (pre:=[(.n 6,_)]) (suf:=[(.n 4,_),(.n 3,_)]) (q:=[]) (RO _ rfl) (by simp;exact ⟨rfl,rfl,rfl⟩) rfl UX ?_ ?_ U1 (fun _=>rfl) ?_ ?_ ?_ ?_
  ·simp [a2]
  ·simp [a2]
  ·simp only [List.mem_append,List.mem_cons,List.not_mem_nil,or_false]
   rintro p (rfl|rfl|hm|rfl|rfl)
   iterate 2 (· rfl)
   ·exact a3 _ p.1 p.2 hm
   iterate 2 (· rfl)
  ·simp
  ·simp
  simp -implicitDefEqProofs [a1,a2,lkB_app,stB_app,o0']
  by_cases q0:q=0
  ·have q0':(q !=0)=false:=by rw [q0];rfl
   cases hru:y.ru with
   |nil=>
    have hr:ofR z q [] g2 c2 e2= .tup [.agg [i6 0,.int .u64 0,.int .u64 0],i6 7]:=by unfold ofR;rw [if_neg (fun h=>h q0),if_pos rfl]
    rw [hr]
    simp -implicitDefEqProofs [a1,a2,a6,lkB_app,stB_app,q0',hru]
    refine postH_r ⟨?_,?_,hout _ ?_ ?_,houi _,?_,?_⟩
    ·simp [a2,lkB_app]
    ·simp
    ·simp [obx,hiX,lkB_app,a1,a2]
    ·refine lk_mid (pre:=[(.up X,_)]) a4 ?_
     simp -implicitDefEqProofs [a1,a2]
    ·simp [hiX,hkey]
    ·simp
   |cons r0 rs=>
    have T:=TL q0 r0 rs hru
    rw [hru] at T
    generalize ofR z q (r0::rs) g2 c2 e2=RR at *
    simp only [List.map_cons,Ru.row] at T ⊢
    have l0:(((rs.length:Int)+1)==0)=false:=by rw [beq_eq_false_iff_ne];omega
    have l0': ¬((rs.length:Int)+1=0):=by omega
    simp -implicitDefEqProofs [a1,a2,a6,lkB_app,stB_app,q0',l0,l0']
    refine T _ _ _ ?_ ?_ ?_ ?_ ?_ ?_ ?_ ?_ ?_ ?_
    iterate 5 (· simp)
    iterate 4 (· simp [a1,a2,lkB_app])
    ·refine lk_mid (pre:=[(.up X,_)]) a4 ?_
     simp -implicitDefEqProofs [a1,a2]
  ·have q0':(q !=0)=true:=by rw [bne_iff_ne];exact q0
   have hr:ofR z q y.ru g2 c2 e2= .tup [.agg [i6 0,.int .u64 0,.int .u64 0],i6 q]:=by unfold ofR;rw [if_pos q0]
   rw [hr]
   simp -implicitDefEqProofs [a1,a2,a6,lkB_app,stB_app,q0']
   refine postH_r ⟨?_,?_,hout _ ?_ ?_,houi _,?_,?_⟩
   ·simp [a2,lkB_app]
   ·simp
   ·simp [obx,hiX,lkB_app,a1,a2]
   ·refine lk_mid (pre:=[(.up X,_)]) a4 ?_
    simp -implicitDefEqProofs [a1,a2]
   ·simp [hiX,hkey]
   ·simp

end Go.Ai
