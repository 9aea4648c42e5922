/- P16: a part of the proof: the rules, or what functions compute. Conditions: as each theorem says. -/
import Derived.Test.YtidcomakahbepaaGreatDoorP15
import Derived.Test.YtidcomakahbepaaGreatDoorP14
set_option linter.unusedSimpArgs false
set_option linter.unusedVariables false
set_option maxRecDepth 20000
namespace Go.Ai
open Go.Proofs
theorem rbits23_spec (x:Nat) (hx:x<18446744073709551616):Sp Tryz.prog gl 157 [u x] (bl (bitsOf x 128)):=by
 refine s157 rfl rfl ?_
 have B:=bits_spec x (by omega)
 unfold wide at B
 rw [Nat.div_eq_of_lt hx,Nat.mod_eq_of_lt hx] at B
 simp -implicitDefEqProofs [c157]
 refine onC_mk _ B ?_
 simp -implicitDefEqProofs [bl]
theorem rmay23_spec (t g n:Nat):Sp Tryz.prog gl 149 [u32 t,cnt g n] (i6 (mayN t g n)):=by
 refine s149 rfl rfl ?_
 by_cases h:1000000<t
 ·simp [c149,mayN,h,show (1000000:Int)<t by omega]
 ·by_cases h2:n<g
  ·simp [c149,mayN,h,show ¬(1000000:Int)<t by omega,h2]
  ·simp [c149,mayN,h,show ¬(1000000:Int)<t by omega,h2]
def prL (x y:Nat):List Bool:=timesL [] (bitsOf x 128) (bitsOf y 128)
theorem prL_len (x y:Nat):(prL x y).length≤256:=by
 have:=timesL_len [] (bitsOf x 128) (bitsOf y 128) (by simp)
 simp only [bitsOf_len] at this
 exact this
theorem prL_val (x y:Nat) (hx:x<18446744073709551616) (hy:y<18446744073709551616):val (prL x y)=x*y:=by
 unfold prL
 rw [timesL_val,bitsOf_val128 _ (by omega),bitsOf_val128 _ (by omega)]
 simp [val]
theorem pair_spec (t g n:Nat) (ht:t≤1000000) (hg:g≤n) (hn:n<18446744073709551616):Sp Tryz.prog gl 151 [u32 t,cnt g n] (.agg [bl (prL n (1000000 - t)),bl (prL (n - g) 1000000)]):=by
 refine s151 rfl rfl ?_
 have B1:=rbits23_spec n hn
 have B2:=rbits23_spec (1000000 - t) (by omega)
 have B3:=rbits23_spec (n - g) (by omega)
 have B4:=rbits23_spec 1000000 (by omega)
 have T1:=times_spec_l (bitsOf n 128) (bitsOf (1000000 - t) 128) (by rw [bitsOf_len];omega) (by rw [bitsOf_len];omega)
 have T2:=times_spec_l (bitsOf (n - g) 128) (bitsOf 1000000 128) (by rw [bitsOf_len];omega) (by rw [bitsOf_len];omega)
 have w1:IntKind.u64.wrap (IntKind.u32.wrap (1000000 - (t:Int)))=(1000000 - t:Nat):=by
  rw [wrap_u32 (by omega) (by omega),wrap_u64 (by omega) (by omega)];omega
 have w2:IntKind.u64.wrap ((n:Int) - g)=(n - g:Nat):=by rw [wrap_u64]<;>omega
 unfold prL
 generalize timesL [] (bitsOf n 128) (bitsOf (1000000 - t) 128)=l1 at *
 generalize timesL [] (bitsOf (n - g) 128) (bitsOf 1000000 128)=l2 at *
 generalize bitsOf n 128=l3 at *
 generalize bitsOf (n - g) 128=l4 at *
 generalize bitsOf (1000000 - t) 128=l5 at *
 generalize bitsOf 1000000 128=l6 at *
 simp -implicitDefEqProofs [c151]
 refine onC_mk _ B1 ?_
 simp -implicitDefEqProofs
 rw [w1]
 refine onC_mk _ B2 ?_
 simp -implicitDefEqProofs [bl]
 refine onC_mk _ T1 ?_
 simp -implicitDefEqProofs
 rw [w2]
 refine onC_mk _ B3 ?_
 simp -implicitDefEqProofs
 refine onC_mk _ B4 ?_
 simp -implicitDefEqProofs [bl]
 refine onC_mk _ T2 ?_
 simp -implicitDefEqProofs [bl]
theorem rleft_spec (t g n:Nat) (ht:t<4294967296) (hn:n<18446744073709551616):Sp Tryz.prog gl 96 [u32 t,cnt g n] (.tup [sgi (leftZ t g n),i6 (mayN t g n)]):=by
 refine s96 rfl rfl ?_
 have M:=rmay23_spec t g n
 by_cases h:mayN t g n=0
 ·have ht2:t≤1000000:=by unfold mayN at h;split at h<;>omega
  have hg:g≤n:=by unfold mayN at h;(repeat' split at h)<;>omega
  have P:=pair_spec t g n ht2 hg hn
  have v1:=prL_val n (1000000 - t) hn (by omega)
  have v2:=prL_val (n - g) 1000000 (by omega) (by omega)
  have k1:n*(1000000 - t)≤18446744073709551616*1000000:=Nat.mul_le_mul (by omega) (by omega)
  have k2:(n - g)*1000000≤18446744073709551616*1000000:=Nat.mul_le_mul (by omega) (by omega)
  have l1:=prL_len n (1000000 - t)
  have l2:=prL_len (n - g) 1000000
  have e:leftZ t g n=((val (prL n (1000000 - t)):Nat):Int) - (val (prL (n - g) 1000000):Nat):=by unfold leftZ;rw [if_pos h,v1,v2]
  have T:=to_spec (prL n (1000000 - t)) (prL (n - g) 1000000) (by omega) (by omega) (by rw [v1,v2];omega)
  rw [←e] at T
  obtain ⟨b',m',l',e2⟩: ∃b' m' l',sgi (leftZ t g n)=sg2 b' m' l':=⟨_,_,_,rfl⟩
  rw [e2] at T ⊢
  rw [h] at M ⊢
  clear e e2 k1 k2 v1 v2 l1 l2
  generalize prL n (1000000 - t)=p1 at *
  generalize prL (n - g) 1000000=p2 at *
  simp -implicitDefEqProofs [c96]
  refine onC_mk _ M ?_
  simp -implicitDefEqProofs
  refine onC_mk _ P ?_
  simp -implicitDefEqProofs [bl]
  refine onC_mk _ T ?_
  simp -implicitDefEqProofs
 ·have e:leftZ t g n=0:=by unfold leftZ;rw [if_neg h]
  have e2:sgi 0=sg2 false 0 0:=rfl
  rw [e,e2]
  have b1:((mayN t g n:Int)!=0)=true:=by simp [h]
  simp -implicitDefEqProofs [c96]
  refine onC_mk _ M ?_
  simp -implicitDefEqProofs [b1]
theorem val_nil:val []=0:=rfl
open Go.Proofs
theorem wndV_form2 {x:Gl} {K w:Nat→Nat} {s:Mt} {k:Nat} (h:MtOk x (winP x).length K w s k) (z:Int): ∃(g c:Nat) (e:Int),wndV (winP x) K w s.t s.L s.sd z= .tup [.agg [u g,u c],i6 e]∧c<18446744073709551616:=by
 unfold wndV
 split
 ·rename_i hz
  split
  ·exact ⟨_,_,_,rfl,by omega⟩
  ·obtain ⟨hl,-⟩:=List.getElem?_eq_some_iff.1 ((bsI_mem (winP_rising x)).1 hz)
   have:=h.L.sm _ hl
   exact ⟨_,_,_,rfl,by omega⟩
 ·exact ⟨_,_,_,rfl,by omega⟩
theorem calV_form2 {x:Gl} {n:Nat} {K w:Nat→Nat} {s:Mt} {k:Nat} (h:MtOk x n K w s k): ∃(g t:Nat) (e:Int),(if x.c=0 then AV.tup [.agg [u 0,u 0],i6 7] else if s.sd=true then .tup [.agg [u 0,u 0],i6 17] else .tup [.agg [u (pcG x.c s.t s.L),u (pcT x.c s.t s.L)],i6 0])= .tup [.agg [u g,u t],i6 e]∧t<18446744073709551616:=by
 have:=h.P
 split
 ·exact ⟨_,_,_,rfl,by omega⟩
 ·split
  ·exact ⟨_,_,_,rfl,by omega⟩
  ·exact ⟨_,_,_,rfl,by omega⟩
theorem lk_pre {pre l:List (Id×List AV)} (hu: ∀p∈l,lkB l p.1=some p.2) (hp: ∀p∈pre,lkB l p.1=none): ∀p∈l,lkB (pre++l) p.1=some p.2:=fun p h=>by
 have:=lk_mid (suf:=[]) hu hp p h
 rwa [List.append_nil] at this
def rollR (t g c:Nat) (e:Int):AV:=if e=0 then .tup [sgi (leftZ t g c),i6 (mayN t g c)] else .tup [.agg [.bool false,.int .u64 0,.int .u64 0],i6 e]
theorem rollR_form (t g c:Nat) (e:Int): ∃(b:Bool) (m l:Nat) (e':Int),rollR t g c e= .tup [.agg [.bool b,u m,u l],i6 e']:=by
 unfold rollR
 split
 ·exact ⟨_,_,_,_,rfl⟩
 ·exact ⟨false,0,0,_,rfl⟩
def zSg:AV:= .tup [.agg [.bool false,.int .u64 0,.int .u64 0],i6 7]
theorem mroll_spec (M A X:Id) (R B:Nat→Id) (h:NmX M A R B X) (x:Gl) (hx:goalP x=true) (hl:x.ru.length≤10) (s:Mt) (k:Nat) (hs:MtOk x (winP x).length (kN x) (wN x) s k) (y:Gl) (hyt:y.t<4294967296)
  (g c:Nat) (e:Int) (hV:wndV (winP x) (kN x) (wN x) s.t s.L s.sd y.o= .tup [.agg [u g,u c],i6 e]) (hc:c<18446744073709551616) (d:Nat) (hd:M.isNw d=false):
  SpH Tryz.prog gl 45 d ⟨[.ptr M 0,.agg y.row],mxB M A R B X x (winP x).length (winP x) (kN x) (wN x) s,[(.b X 10,3)]⟩ ⟨if y.o=0 then zSg else rollR y.t g c e,mxB M A R B X x (winP x).length (winP x) (kN x) (wN x) s,[(.b X 10,3)]⟩:=by
 refine h45 rfl ?_
 have hu:=h.up
 have hk:=goal_k hx hl
 have hn:=goal_n hl
 have hdX:X.isNw d=false:=h.nx d hd
 have hiX:=inn_notNw hdX
 have xi:=h.xi
 have ma:=h.h.ma
 have ma': ¬A=M:=fun e=>h.h.ma e.symm
 have xm:=h.xm
 have xm': ¬M=X:=fun e=>h.xm e.symm
 have xa:=h.xa
 have xa': ¬A=X:=fun e=>h.xa e.symm
 obtain ⟨s2,hs2⟩: ∃y,y=s:=⟨_,rfl⟩
 rw [←hs2]
 have hout:=fun σ q1 q2=>mx_out h hd (x:=x) (n:=(winP x).length) (Wl:=winP x) (K:=kN x) (w:=wN x) (s:=s2) (σ:=σ) q1 q2
 have houi:=fun ob=>mx_outi h hd x (winP x).length (winP x) (kN x) (wN x) s2 ob
 have hkey:(lkB (mxB M A R B X x (winP x).length (winP x) (kN x) (wN x) s2) X).isSome=true:=mx_x ..
 have hnox:=fun t L sd=>mt_nox hu x (winP x).length (intRows (winP x)) (kN x) (wN x) t L sd
 have hnorm:=fun t L sd=>mt_norm hu x (winP x).length (intRows (winP x)) (kN x) (wN x) t L sd
 have hnon:=fun t L sd s=>mtU_non M A R B x (winP x).length (intRows (winP x)) (kN x) (wN x) t L sd s
 have hfr:=fun t L sd s=>mtU_fr M A R B x (winP x).length (intRows (winP x)) (kN x) (wN x) t L sd s
 have hinF:=fun t L sd fr=>mtU_inF M A R B x (winP x).length (intRows (winP x)) (kN x) (wN x) t L sd fr
 have huq:=fun t L sd=>mt_uq hu.h x (winP x).length (intRows (winP x)) (kN x) (wN x) t L sd
 have hks:=fun t t' L L' sd sd' j=>mt_ks (M:= .up M) (A:= .up A) (R:=fun i=> .up (R i)) (B:=fun i=> .up (B i)) x x (winP x).length (intRows (winP x)) (kN x) (wN x) t t' L L' sd sd' j
 have hrm:rmB (rgsB (fun i=> .up (R i)) (fun i=> .up (B i)) (rgC (kN x) (wN x) s.t s.L) (rgD (kN x) (wN x) s.t s.L) (winP x).length) (.up M)=rgsB (fun i=> .up (R i)) (fun i=> .up (B i)) (rgC (kN x) (wN x) s.t s.L) (rgD (kN x) (wN x) s.t s.L) (winP x).length:=rgsB_rm hu.h.mr hu.h.mb _
 have hrx:rmB (rgsB (fun i=> .up (R i)) (fun i=> .up (B i)) (rgC (kN x) (wN x) s.t s.L) (rgD (kN x) (wN x) s.t s.L) (winP x).length) (.up X)=rgsB (fun i=> .up (R i)) (fun i=> .up (B i)) (rgC (kN x) (wN x) s.t s.L) (rgD (kN x) (wN x) s.t s.L) (winP x).length:=rgsB_rm hu.xr hu.xb _
 have hrX:=rgsB_none (R:=fun i=> .up (R i)) (B:=fun i=> .up (B i)) (C:=rgC (kN x) (wN x) s.t s.L) (D:=rgD (kN x) (wN x) s.t s.L) (x:= .up X) hu.xr hu.xb (winP x).length
 have hrM:=rgsB_none (R:=fun i=> .up (R i)) (B:=fun i=> .up (B i)) (C:=rgC (kN x) (wN x) s.t s.L) (D:=rgD (kN x) (wN x) s.t s.L) (x:= .up M) hu.h.mr hu.h.mb (winP x).length
 have hrn:=fun j=>rgsB_none (R:=fun i=> .up (R i)) (B:=fun i=> .up (B i)) (C:=rgC (kN x) (wN x) s.t s.L) (D:=rgD (kN x) (wN x) s.t s.L) (x:= .n j) (fun i e=>by cases e) (fun i e=>by cases e) (winP x).length
 have hrf:=fun i=>rgs_free (R:=R) (B:=B) (C:=rgC (kN x) (wN x) s.t s.L) (D:=rgD (kN x) (wN x) s.t s.L) (n:=(winP x).length) (s:=i)
 simp only [inSt,mxB_up,mpL,mpP,AV.mp,Pl.mp]
 have hs3:=hs2.symm
 clear hs2
 subst hs3
 have V1:=fun e he=>mwindow_spec (.up M) (.up A) _ _ hu.h x (winP x).length hn (winP x) rfl (winP_rising x) (kN x) (wN x) s.t s.L s.sd y.o e he
 rw [hV] at V1
 have LF:=left_spec y.t g c hyt hc
 have a1:=hnox s.t s.L s.sd
 have a2:=hnon s.t s.L s.sd
 have a3:=hfr s.t s.L s.sd
 have a4:=huq s.t s.L s.sd
 have a5:=hks s.t s.t s.L s.L s.sd s.sd
 clear hnox hnorm hnon hfr hinF huq hks hrm hrx hrX hrM hrn hrf hV
 generalize mtB (.up M) (.up A) (fun i=> .up (R i)) (fun i=> .up (B i)) x (winP x).length (intRows (winP x)) (kN x) (wN x) s.t s.L s.sd=m1 at *
 generalize mxB M A R B X x (winP x).length (winP x) (kN x) (wN x) s=OB at *
 generalize hz:leftZ y.t g c=z at *
 obtain ⟨b,m,l,hzz⟩: ∃b m l,sgi z= .agg [.bool b,u m,u l]:=⟨_,_,_,rfl⟩
 unfold rollR zSg
 rw [hz,hzz]
 rw [hzz] at LF
 simp only [Gl.row] at LF ⊢
 simp only [xC] at hout ⊢
 by_cases o0:y.o=0
 ·rw [if_pos o0]
  have o0':(y.o==0)=true:=by rw [o0];rfl
  simp -implicitDefEqProofs [c45,a2,o0']
  refine postH_r ⟨?_,?_,hout _ ?_ ?_,houi _,?_,?_⟩
  ·simp
  ·simp
  ·simp [obx,hiX]
  ·refine lk_pre (pre:=[(.n 4,_),(.n 3,_),(.up X,_)]) a4 ?_
   simp -implicitDefEqProofs [a1,a2]
  ·simp [hiX,hkey]
  ·simp
 ·rw [if_neg o0]
  have o0':(y.o==0)=false:=by rw [beq_eq_false_iff_ne];exact o0
  simp -implicitDefEqProofs [c45,a2,o0']
  refine onH_pre (pre:=[(.n 4,_),(.n 3,_),(.up X,_)]) (l:=m1) (V1 _ rfl) rfl ?_ a4 (fun _=>rfl) ?_ ?_ ?_ ?_
  ·simp [a1,a2]
  ·simp;exact a3 _
  ·simp [a1]
  ·simp
  by_cases e0:e=0
  ·rw [if_pos e0]
   have e0':(e !=0)=false:=by rw [e0];rfl
   simp -implicitDefEqProofs [a2,lkB_app,e0',stB_app]
   refine onC_mk _ LF ?_
   simp -implicitDefEqProofs [a2,lkB_app,stB_app]
   refine postH_r ⟨?_,?_,hout _ ?_ ?_,houi _,?_,?_⟩
   ·simp [a2,lkB_app,stB_app]
   ·simp
   ·simp [obx,hiX,lkB_app,stB_app,a1,a2]
   ·refine lk_mid (pre:=[(.n 6,_)]) a4 ?_
    simp -implicitDefEqProofs [a1,a2]
   ·simp [hiX,hkey]
   ·simp
  ·rw [if_neg e0]
   have e0':(e !=0)=true:=by rw [bne_iff_ne];exact e0
   simp -implicitDefEqProofs [a2,lkB_app,e0',stB_app]
   refine postH_r ⟨?_,?_,hout _ ?_ ?_,houi _,?_,?_⟩
   ·simp [a2,lkB_app,stB_app]
   ·simp
   ·simp [obx,hiX,lkB_app,stB_app,a1,a2]
   ·refine lk_mid (pre:=[(.n 6,_)]) a4 ?_
    simp -implicitDefEqProofs [a1,a2]
   ·simp [hiX,hkey]
   ·simp
theorem xroll_spec (M A X:Id) (R B:Nat→Id) (h:NmX M A R B X) (x:Gl) (hx:goalP x=true) (hl:x.ru.length≤10) (s:Mt) (k:Nat) (hk0:k≤1000000) (hs:MtOk x (winP x).length (kN x) (wN x) s k) (y:Gl) (hyt:y.t<4294967296)
  (g c:Nat) (e:Int) (hV:wndV (winP x) (kN x) (wN x) s.t s.L s.sd y.o= .tup [.agg [u g,u c],i6 e]) (hc:c<18446744073709551616) (d:Nat) (hd:M.isNw d=false):
  SpH Tryz.prog gl 46 d ⟨[.ptr X 0,.agg y.row],mxB M A R B X x (winP x).length (winP x) (kN x) (wN x) s,[(.b X 10,3)]⟩ ⟨if y.o=0 then zSg else rollR y.t g c e,mxB M A R B X x (winP x).length (winP x) (kN x) (wN x) s,[(.b X 10,3)]⟩:=by
 refine h46 rfl ?_
 have hu:=h.up
 have hk:=goal_k hx hl
 have hn:=goal_n hl
 have hdX:X.isNw d=false:=h.nx d hd
 have hiX:=inn_notNw hdX
 have xi:=h.xi
 have ma:=h.h.ma
 have ma': ¬A=M:=fun e=>h.h.ma e.symm
 have xm:=h.xm
 have xm': ¬M=X:=fun e=>h.xm e.symm
 have xa:=h.xa
 have xa': ¬A=X:=fun e=>h.xa e.symm
 obtain ⟨s2,hs2⟩: ∃y,y=s:=⟨_,rfl⟩
 rw [←hs2]
 have hout:=fun σ q1 q2=>mx_out h hd (x:=x) (n:=(winP x).length) (Wl:=winP x) (K:=kN x) (w:=wN x) (s:=s2) (σ:=σ) q1 q2
 have houi:=fun ob=>mx_outi h hd x (winP x).length (winP x) (kN x) (wN x) s2 ob
 have hkey:(lkB (mxB M A R B X x (winP x).length (winP x) (kN x) (wN x) s2) X).isSome=true:=mx_x ..
 have hnox:=fun t L sd=>mt_nox hu x (winP x).length (intRows (winP x)) (kN x) (wN x) t L sd
 have hnorm:=fun t L sd=>mt_norm hu x (winP x).length (intRows (winP x)) (kN x) (wN x) t L sd
 have hnon:=fun t L sd s=>mtU_non M A R B x (winP x).length (intRows (winP x)) (kN x) (wN x) t L sd s
 have hfr:=fun t L sd s=>mtU_fr M A R B x (winP x).length (intRows (winP x)) (kN x) (wN x) t L sd s
 have hinF:=fun t L sd fr=>mtU_inF M A R B x (winP x).length (intRows (winP x)) (kN x) (wN x) t L sd fr
 have huq:=fun t L sd=>mt_uq hu.h x (winP x).length (intRows (winP x)) (kN x) (wN x) t L sd
 have hks:=fun t t' L L' sd sd' j=>mt_ks (M:= .up M) (A:= .up A) (R:=fun i=> .up (R i)) (B:=fun i=> .up (B i)) x x (winP x).length (intRows (winP x)) (kN x) (wN x) t t' L L' sd sd' j
 have hrm:rmB (rgsB (fun i=> .up (R i)) (fun i=> .up (B i)) (rgC (kN x) (wN x) s.t s.L) (rgD (kN x) (wN x) s.t s.L) (winP x).length) (.up M)=rgsB (fun i=> .up (R i)) (fun i=> .up (B i)) (rgC (kN x) (wN x) s.t s.L) (rgD (kN x) (wN x) s.t s.L) (winP x).length:=rgsB_rm hu.h.mr hu.h.mb _
 have hrx:rmB (rgsB (fun i=> .up (R i)) (fun i=> .up (B i)) (rgC (kN x) (wN x) s.t s.L) (rgD (kN x) (wN x) s.t s.L) (winP x).length) (.up X)=rgsB (fun i=> .up (R i)) (fun i=> .up (B i)) (rgC (kN x) (wN x) s.t s.L) (rgD (kN x) (wN x) s.t s.L) (winP x).length:=rgsB_rm hu.xr hu.xb _
 have hrX:=rgsB_none (R:=fun i=> .up (R i)) (B:=fun i=> .up (B i)) (C:=rgC (kN x) (wN x) s.t s.L) (D:=rgD (kN x) (wN x) s.t s.L) (x:= .up X) hu.xr hu.xb (winP x).length
 have hrM:=rgsB_none (R:=fun i=> .up (R i)) (B:=fun i=> .up (B i)) (C:=rgC (kN x) (wN x) s.t s.L) (D:=rgD (kN x) (wN x) s.t s.L) (x:= .up M) hu.h.mr hu.h.mb (winP x).length
 have hrn:=fun j=>rgsB_none (R:=fun i=> .up (R i)) (B:=fun i=> .up (B i)) (C:=rgC (kN x) (wN x) s.t s.L) (D:=rgD (kN x) (wN x) s.t s.L) (x:= .n j) (fun i e=>by cases e) (fun i e=>by cases e) (winP x).length
 have hrf:=fun i=>rgs_free (R:=R) (B:=B) (C:=rgC (kN x) (wN x) s.t s.L) (D:=rgD (kN x) (wN x) s.t s.L) (n:=(winP x).length) (s:=i)
 simp only [inSt,mxB_up,mpL,mpP,AV.mp,Pl.mp]
 have hs3:=hs2.symm
 clear hs2
 subst hs3
 obtain ⟨-,-,-,-,gc,-⟩:=goal_parts hx
 have hw:=goal_wd hx hl
 have hll:=Nat.le_trans hs.l hk0
 have W1:=fun e he=>xwindow_spec (.up X) xi x hl (winP x).length (gN x) (wdN x) hw s.t hs.t s.sd s.L hs.L hll y.o e he
 have W1: ∀q,(Id.up X).isNw q=false→SpH Tryz.prog gl 19 q ⟨[.ptr (.up X) 0,i6 y.o],[(.up X,xC x s.t s.sd s.L)],[(.b (.up X) 10,3)]⟩ ⟨.tup [.agg [u g,u c],i6 e],[(.up X,xC x s.t s.sd s.L)],[(.b (.up X) 10,3)]⟩:=by
  intro q hq
  rw [←hV]
  exact W1 q hq
 have LF:=rleft_spec y.t g c hyt hc
 have a1:=hnox s.t s.L s.sd
 have a2:=hnon s.t s.L s.sd
 have a3:=hfr s.t s.L s.sd
 have a4:=huq s.t s.L s.sd
 have a6:=hnorm s.t s.L s.sd
 clear hnox hnorm hnon hfr hinF huq hks hrm hrx hrX hrM hrn hrf hV
 generalize mtB (.up M) (.up A) (fun i=> .up (R i)) (fun i=> .up (B i)) x (winP x).length (intRows (winP x)) (kN x) (wN x) s.t s.L s.sd=m1 at *
 generalize mxB M A R B X x (winP x).length (winP x) (kN x) (wN x) s=OB at *
 generalize hz:leftZ y.t g c=z at *
 obtain ⟨b,m,l,hzz⟩: ∃b m l,sgi z= .agg [.bool b,u m,u l]:=⟨_,_,_,rfl⟩
 unfold rollR
 try unfold zSg
 rw [hz,hzz]
 rw [hzz] at LF
 simp only [Gl.row] at LF ⊢
 simp only [xC] at hout W1 ⊢
 by_cases o0:y.o=0
 ·rw [if_pos o0]
  have o0':(y.o==0)=true:=by rw [o0];rfl
  simp -implicitDefEqProofs [c46,a2,o0']
  refine postH_r ⟨?_,?_,hout _ ?_ ?_,houi _,?_,?_⟩
  ·simp
  ·simp
  ·simp [obx,hiX]
  ·refine lk_pre (pre:=[(.n 4,_),(.n 3,_),(.up X,_)]) a4 ?_
   simp -implicitDefEqProofs [a1,a2]
  ·simp [hiX,hkey]
  ·simp
 ·rw [if_neg o0]
  have o0':(y.o==0)=false:=by rw [beq_eq_false_iff_ne];exact o0
  simp -implicitDefEqProofs [c46,a2,o0']
  refine onH_mk _ _ (W1 _ rfl) ⟨?_,?_,?_,?_,?_,?_,?_⟩ ?_
  iterate 6 (· simp [a2,lkB_app])
  ·simp;exact a3 _
  by_cases e0:e=0
  ·rw [if_pos e0]
   have e0':(e !=0)=false:=by rw [e0];rfl
   simp -implicitDefEqProofs [a2,a6,lkB_app,rmB_app,e0',stB_app,a1]
   refine onC_mk _ LF ?_
   simp -implicitDefEqProofs [a2,a6,lkB_app,rmB_app,stB_app,a1]
   refine postH_r ⟨?_,?_,hout _ ?_ ?_,houi _,?_,?_⟩
   ·simp [a2,lkB_app,stB_app,a1]
   ·simp
   ·simp [obx,hiX,lkB_app,stB_app,a1,a2,a1]
   ·refine lk_pre (pre:=[(.n 6,_),(.up X,_),(.n 4,_),(.n 3,_)]) a4 ?_
    simp -implicitDefEqProofs [a1,a2]
   ·simp [hiX,hkey]
   ·simp
  ·rw [if_neg e0]
   have e0':(e !=0)=true:=by rw [bne_iff_ne];exact e0
   simp -implicitDefEqProofs [a2,a6,lkB_app,rmB_app,e0',stB_app,a1]
   refine postH_r ⟨?_,?_,hout _ ?_ ?_,houi _,?_,?_⟩
   ·simp [a2,lkB_app,stB_app,a1]
   ·simp
   ·simp [obx,hiX,lkB_app,stB_app,a1,a2,a1]
   ·refine lk_pre (pre:=[(.n 6,_),(.up X,_),(.n 4,_),(.n 3,_)]) a4 ?_
    simp -implicitDefEqProofs [a1,a2]
   ·simp [hiX,hkey]
   ·simp
theorem xcalL_spec (M A X:Id) (R B:Nat→Id) (h:NmX M A R B X) (x:Gl) (hx:goalP x=true) (hl:x.ru.length≤10) (s:Mt) (k:Nat) (hk0:k≤1000000) (hs:MtOk x (winP x).length (kN x) (wN x) s k) (y:Gl) (hyt:y.t<4294967296)
  (g c:Nat) (e:Int) (hV:(if x.c=0 then AV.tup [.agg [u 0,u 0],i6 7] else if s.sd=true then .tup [.agg [u 0,u 0],i6 17] else .tup [.agg [u (pcG x.c s.t s.L),u (pcT x.c s.t s.L)],i6 0])= .tup [.agg [u g,u c],i6 e]) (hc:c<18446744073709551616) (d:Nat) (hd:M.isNw d=false):
  SpH Tryz.prog gl 48 d ⟨[.ptr X 0,.agg y.row],mxB M A R B X x (winP x).length (winP x) (kN x) (wN x) s,[(.b X 10,3)]⟩ ⟨rollR y.t g c e,mxB M A R B X x (winP x).length (winP x) (kN x) (wN x) s,[(.b X 10,3)]⟩:=by
 refine h48 rfl ?_
 have hu:=h.up
 have hk:=goal_k hx hl
 have hn:=goal_n hl
 have hdX:X.isNw d=false:=h.nx d hd
 have hiX:=inn_notNw hdX
 have xi:=h.xi
 have ma:=h.h.ma
 have ma': ¬A=M:=fun e=>h.h.ma e.symm
 have xm:=h.xm
 have xm': ¬M=X:=fun e=>h.xm e.symm
 have xa:=h.xa
 have xa': ¬A=X:=fun e=>h.xa e.symm
 obtain ⟨s2,hs2⟩: ∃y,y=s:=⟨_,rfl⟩
 rw [←hs2]
 have hout:=fun σ q1 q2=>mx_out h hd (x:=x) (n:=(winP x).length) (Wl:=winP x) (K:=kN x) (w:=wN x) (s:=s2) (σ:=σ) q1 q2
 have houi:=fun ob=>mx_outi h hd x (winP x).length (winP x) (kN x) (wN x) s2 ob
 have hkey:(lkB (mxB M A R B X x (winP x).length (winP x) (kN x) (wN x) s2) X).isSome=true:=mx_x ..
 have hnox:=fun t L sd=>mt_nox hu x (winP x).length (intRows (winP x)) (kN x) (wN x) t L sd
 have hnorm:=fun t L sd=>mt_norm hu x (winP x).length (intRows (winP x)) (kN x) (wN x) t L sd
 have hnon:=fun t L sd s=>mtU_non M A R B x (winP x).length (intRows (winP x)) (kN x) (wN x) t L sd s
 have hfr:=fun t L sd s=>mtU_fr M A R B x (winP x).length (intRows (winP x)) (kN x) (wN x) t L sd s
 have hinF:=fun t L sd fr=>mtU_inF M A R B x (winP x).length (intRows (winP x)) (kN x) (wN x) t L sd fr
 have huq:=fun t L sd=>mt_uq hu.h x (winP x).length (intRows (winP x)) (kN x) (wN x) t L sd
 have hks:=fun t t' L L' sd sd' j=>mt_ks (M:= .up M) (A:= .up A) (R:=fun i=> .up (R i)) (B:=fun i=> .up (B i)) x x (winP x).length (intRows (winP x)) (kN x) (wN x) t t' L L' sd sd' j
 have hrm:rmB (rgsB (fun i=> .up (R i)) (fun i=> .up (B i)) (rgC (kN x) (wN x) s.t s.L) (rgD (kN x) (wN x) s.t s.L) (winP x).length) (.up M)=rgsB (fun i=> .up (R i)) (fun i=> .up (B i)) (rgC (kN x) (wN x) s.t s.L) (rgD (kN x) (wN x) s.t s.L) (winP x).length:=rgsB_rm hu.h.mr hu.h.mb _
 have hrx:rmB (rgsB (fun i=> .up (R i)) (fun i=> .up (B i)) (rgC (kN x) (wN x) s.t s.L) (rgD (kN x) (wN x) s.t s.L) (winP x).length) (.up X)=rgsB (fun i=> .up (R i)) (fun i=> .up (B i)) (rgC (kN x) (wN x) s.t s.L) (rgD (kN x) (wN x) s.t s.L) (winP x).length:=rgsB_rm hu.xr hu.xb _
 have hrX:=rgsB_none (R:=fun i=> .up (R i)) (B:=fun i=> .up (B i)) (C:=rgC (kN x) (wN x) s.t s.L) (D:=rgD (kN x) (wN x) s.t s.L) (x:= .up X) hu.xr hu.xb (winP x).length
 have hrM:=rgsB_none (R:=fun i=> .up (R i)) (B:=fun i=> .up (B i)) (C:=rgC (kN x) (wN x) s.t s.L) (D:=rgD (kN x) (wN x) s.t s.L) (x:= .up M) hu.h.mr hu.h.mb (winP x).length
 have hrn:=fun j=>rgsB_none (R:=fun i=> .up (R i)) (B:=fun i=> .up (B i)) (C:=rgC (kN x) (wN x) s.t s.L) (D:=rgD (kN x) (wN x) s.t s.L) (x:= .n j) (fun i e=>by cases e) (fun i e=>by cases e) (winP x).length
 have hrf:=fun i=>rgs_free (R:=R) (B:=B) (C:=rgC (kN x) (wN x) s.t s.L) (D:=rgD (kN x) (wN x) s.t s.L) (n:=(winP x).length) (s:=i)
 simp only [inSt,mxB_up,mpL,mpP,AV.mp,Pl.mp]
 have hs3:=hs2.symm
 clear hs2
 subst hs3
 obtain ⟨-,-,-,-,gc,-⟩:=goal_parts hx
 have hw:=goal_wd hx hl
 have hll:=Nat.le_trans hs.l hk0
 have W1:=fun e he=>xcal_spec (.up X) xi x gc.1 s.t hs.t s.sd s.L hs.L.ok hll hs.P e he
 rw [hV] at W1
 have LF:=rleft_spec y.t g c hyt hc
 have a1:=hnox s.t s.L s.sd
 have a2:=hnon s.t s.L s.sd
 have a3:=hfr s.t s.L s.sd
 have a4:=huq s.t s.L s.sd
 have a6:=hnorm s.t s.L s.sd
 clear hnox hnorm hnon hfr hinF huq hks hrm hrx hrX hrM hrn hrf hV
 generalize mtB (.up M) (.up A) (fun i=> .up (R i)) (fun i=> .up (B i)) x (winP x).length (intRows (winP x)) (kN x) (wN x) s.t s.L s.sd=m1 at *
 generalize mxB M A R B X x (winP x).length (winP x) (kN x) (wN x) s=OB at *
 generalize hz:leftZ y.t g c=z at *
 obtain ⟨b,m,l,hzz⟩: ∃b m l,sgi z= .agg [.bool b,u m,u l]:=⟨_,_,_,rfl⟩
 unfold rollR
 try unfold zSg
 rw [hz,hzz]
 rw [hzz] at LF
 simp only [Gl.row] at LF ⊢
 simp only [xC] at hout W1 ⊢
 simp -implicitDefEqProofs [c48,a2]
 refine onH_mk _ _ (W1 _ rfl) ⟨?_,?_,?_,?_,?_,?_,?_⟩ ?_
 iterate 6 (· simp [a2,lkB_app])
 ·simp;exact a3 _
 by_cases e0:e=0
 ·rw [if_pos e0]
  have e0':(e !=0)=false:=by rw [e0];rfl
  simp -implicitDefEqProofs [a2,a6,lkB_app,rmB_app,e0',stB_app,a1]
  refine onC_mk _ LF ?_
  simp -implicitDefEqProofs [a2,a6,lkB_app,rmB_app,stB_app,a1]
  refine postH_r ⟨?_,?_,hout _ ?_ ?_,houi _,?_,?_⟩
  ·simp [a2,lkB_app,stB_app,a1]
  ·simp
  ·simp [obx,hiX,lkB_app,stB_app,a1,a2,a1]
  ·refine lk_pre (pre:=[(.n 6,_),(.up X,_),(.n 4,_),(.n 3,_)]) a4 ?_
   simp -implicitDefEqProofs [a1,a2]
  ·simp [hiX,hkey]
  ·simp
 ·rw [if_neg e0]
  have e0':(e !=0)=true:=by rw [bne_iff_ne];exact e0
  simp -implicitDefEqProofs [a2,a6,lkB_app,rmB_app,e0',stB_app,a1]
  refine postH_r ⟨?_,?_,hout _ ?_ ?_,houi _,?_,?_⟩
  ·simp [a2,lkB_app,stB_app,a1]
  ·simp
  ·simp [obx,hiX,lkB_app,stB_app,a1,a2,a1]
  ·refine lk_pre (pre:=[(.n 6,_),(.up X,_),(.n 4,_),(.n 3,_)]) a4 ?_
   simp -implicitDefEqProofs [a1,a2]
  ·simp [hiX,hkey]
  ·simp
theorem mcalL_spec (M A X:Id) (R B:Nat→Id) (h:NmX M A R B X) (x:Gl) (hx:goalP x=true) (hl:x.ru.length≤10) (s:Mt) (k:Nat) (hk0:k≤1000000) (hs:MtOk x (winP x).length (kN x) (wN x) s k) (y:Gl) (hyt:y.t<4294967296)
  (g c:Nat) (e:Int) (hV:(if x.c=0 then AV.tup [.agg [u 0,u 0],i6 7] else if s.sd=true then .tup [.agg [u 0,u 0],i6 17] else .tup [.agg [u (pcG x.c s.t s.L),u (pcT x.c s.t s.L)],i6 0])= .tup [.agg [u g,u c],i6 e]) (hc:c<18446744073709551616) (d:Nat) (hd:M.isNw d=false):
  SpH Tryz.prog gl 47 d ⟨[.ptr M 0,.agg y.row],mxB M A R B X x (winP x).length (winP x) (kN x) (wN x) s,[(.b X 10,3)]⟩ ⟨rollR y.t g c e,mxB M A R B X x (winP x).length (winP x) (kN x) (wN x) s,[(.b X 10,3)]⟩:=by
 refine h47 rfl ?_
 have hu:=h.up
 have hk:=goal_k hx hl
 have hn:=goal_n hl
 have hdX:X.isNw d=false:=h.nx d hd
 have hiX:=inn_notNw hdX
 have xi:=h.xi
 have ma:=h.h.ma
 have ma': ¬A=M:=fun e=>h.h.ma e.symm
 have xm:=h.xm
 have xm': ¬M=X:=fun e=>h.xm e.symm
 have xa:=h.xa
 have xa': ¬A=X:=fun e=>h.xa e.symm
 obtain ⟨s2,hs2⟩: ∃y,y=s:=⟨_,rfl⟩
 rw [←hs2]
 have hout:=fun σ q1 q2=>mx_out h hd (x:=x) (n:=(winP x).length) (Wl:=winP x) (K:=kN x) (w:=wN x) (s:=s2) (σ:=σ) q1 q2
 have houi:=fun ob=>mx_outi h hd x (winP x).length (winP x) (kN x) (wN x) s2 ob
 have hkey:(lkB (mxB M A R B X x (winP x).length (winP x) (kN x) (wN x) s2) X).isSome=true:=mx_x ..
 have hnox:=fun t L sd=>mt_nox hu x (winP x).length (intRows (winP x)) (kN x) (wN x) t L sd
 have hnorm:=fun t L sd=>mt_norm hu x (winP x).length (intRows (winP x)) (kN x) (wN x) t L sd
 have hnon:=fun t L sd s=>mtU_non M A R B x (winP x).length (intRows (winP x)) (kN x) (wN x) t L sd s
 have hfr:=fun t L sd s=>mtU_fr M A R B x (winP x).length (intRows (winP x)) (kN x) (wN x) t L sd s
 have hinF:=fun t L sd fr=>mtU_inF M A R B x (winP x).length (intRows (winP x)) (kN x) (wN x) t L sd fr
 have huq:=fun t L sd=>mt_uq hu.h x (winP x).length (intRows (winP x)) (kN x) (wN x) t L sd
 have hks:=fun t t' L L' sd sd' j=>mt_ks (M:= .up M) (A:= .up A) (R:=fun i=> .up (R i)) (B:=fun i=> .up (B i)) x x (winP x).length (intRows (winP x)) (kN x) (wN x) t t' L L' sd sd' j
 have hrm:rmB (rgsB (fun i=> .up (R i)) (fun i=> .up (B i)) (rgC (kN x) (wN x) s.t s.L) (rgD (kN x) (wN x) s.t s.L) (winP x).length) (.up M)=rgsB (fun i=> .up (R i)) (fun i=> .up (B i)) (rgC (kN x) (wN x) s.t s.L) (rgD (kN x) (wN x) s.t s.L) (winP x).length:=rgsB_rm hu.h.mr hu.h.mb _
 have hrx:rmB (rgsB (fun i=> .up (R i)) (fun i=> .up (B i)) (rgC (kN x) (wN x) s.t s.L) (rgD (kN x) (wN x) s.t s.L) (winP x).length) (.up X)=rgsB (fun i=> .up (R i)) (fun i=> .up (B i)) (rgC (kN x) (wN x) s.t s.L) (rgD (kN x) (wN x) s.t s.L) (winP x).length:=rgsB_rm hu.xr hu.xb _
 have hrX:=rgsB_none (R:=fun i=> .up (R i)) (B:=fun i=> .up (B i)) (C:=rgC (kN x) (wN x) s.t s.L) (D:=rgD (kN x) (wN x) s.t s.L) (x:= .up X) hu.xr hu.xb (winP x).length
 have hrM:=rgsB_none (R:=fun i=> .up (R i)) (B:=fun i=> .up (B i)) (C:=rgC (kN x) (wN x) s.t s.L) (D:=rgD (kN x) (wN x) s.t s.L) (x:= .up M) hu.h.mr hu.h.mb (winP x).length
 have hrn:=fun j=>rgsB_none (R:=fun i=> .up (R i)) (B:=fun i=> .up (B i)) (C:=rgC (kN x) (wN x) s.t s.L) (D:=rgD (kN x) (wN x) s.t s.L) (x:= .n j) (fun i e=>by cases e) (fun i e=>by cases e) (winP x).length
 have hrf:=fun i=>rgs_free (R:=R) (B:=B) (C:=rgC (kN x) (wN x) s.t s.L) (D:=rgD (kN x) (wN x) s.t s.L) (n:=(winP x).length) (s:=i)
 simp only [inSt,mxB_up,mpL,mpP,AV.mp,Pl.mp]
 have hs3:=hs2.symm
 clear hs2
 subst hs3
 obtain ⟨-,-,-,-,gc,-⟩:=goal_parts hx
 have hw:=goal_wd hx hl
 have hll:=Nat.le_trans hs.l hk0
 have W1:=fun e he=>mCalendar_spec (.up M) (.up A) hu.h.pa x (winP x).length (intRows (winP x)) (pF x.c s.t) (pT x.c s.t) (pcG x.c s.t s.L) (pcT x.c s.t s.L) s.t s.sd e he
 rw [hV] at W1
 have LF:=left_spec y.t g c hyt hc
 have a1:=hnox s.t s.L s.sd
 have a2:=hnon s.t s.L s.sd
 have a3:=hfr s.t s.L s.sd
 have a4:=huq s.t s.L s.sd
 have a6:=hnorm s.t s.L s.sd
 obtain ⟨rest,hr⟩: ∃r,r=(Id.up A,ptrC (fun i=> .up (R i)) (winP x).length)::rgsB (fun i=> .up (R i)) (fun i=> .up (B i)) (rgC (kN x) (wN x) s.t s.L) (rgD (kN x) (wN x) s.t s.L) (winP x).length:=⟨_,rfl⟩
 have hm1:mtB (.up M) (.up A) (fun i=> .up (R i)) (fun i=> .up (B i)) x (winP x).length (intRows (winP x)) (kN x) (wN x) s.t s.L s.sd=(.up M,mtC x (.up A) (winP x).length (intRows (winP x)) (pF x.c s.t) (pT x.c s.t) (pcG x.c s.t s.L) (pcT x.c s.t s.L) s.t s.sd)::rest:=by rw [hr];rfl
 have hrM1:lkB rest (.up M)=none:=by
  rw [hr];simp only [lkB]
  rw [if_neg (fun e=>ma' (Id.up.inj e))];exact hrM
 have hrN: ∀j,lkB rest (.n j)=none:=fun j=>by
  rw [hr];simp only [lkB]
  rw [if_neg (fun e=>by cases e)];exact hrn j
 have hrX1:lkB rest (.up X)=none:=by
  rw [hr];simp only [lkB]
  rw [if_neg (fun e=>xa' (Id.up.inj e))];exact hrX
 have hrm1:rmB rest (.up M)=rest:=by
  rw [hr];simp only [rmB]
  rw [if_neg (fun e=>ma' (Id.up.inj e)),hrm]
 have hrF: ∀q (a:Id) (b:List AV),(a,b)∈rest→a.isNw q=false:=fun q a b hm=>a3 q a b (by rw [hm1];exact List.mem_cons_of_mem _ hm)
 clear hnox hnorm hnon hfr hinF huq hks hrm hrx hrX hrM hrn hrf hV hr
 generalize mtB (.up M) (.up A) (fun i=> .up (R i)) (fun i=> .up (B i)) x (winP x).length (intRows (winP x)) (kN x) (wN x) s.t s.L s.sd=m1 at *
 generalize mxB M A R B X x (winP x).length (winP x) (kN x) (wN x) s=OB at *
 generalize hz:leftZ y.t g c=z at *
 obtain ⟨b,m,l,hzz⟩: ∃b m l,sgi z= .agg [.bool b,u m,u l]:=⟨_,_,_,rfl⟩
 unfold rollR
 try unfold zSg
 rw [hz,hzz]
 rw [hzz] at LF
 simp only [Gl.row] at LF ⊢
 simp only [xC,mtC] at hout W1 hm1 ⊢
 rw [hm1]
 simp -implicitDefEqProofs [c47,hrN]
 refine onH_mk _ _ (W1 _ rfl) ⟨?_,?_,?_,?_,?_,?_,?_⟩ ?_
 iterate 6 (· simp [hrN,lkB_app,xm,xm'])
 ·simp;exact hrF _
 by_cases e0:e=0
 ·rw [if_pos e0]
  have e0':(e !=0)=false:=by rw [e0];rfl
  simp -implicitDefEqProofs [a2,a6,lkB_app,rmB_app,e0',stB_app,hrN,hrX1,hrM1,hrm1,xm,xm']
  refine onC_mk _ LF ?_
  simp -implicitDefEqProofs [a2,a6,lkB_app,rmB_app,stB_app,hrN,hrX1,hrM1,hrm1,xm,xm']
  refine postH_r ⟨?_,?_,hout _ ?_ ?_,houi _,?_,?_⟩
  ·simp [a2,lkB_app,stB_app,hrN,hrX1,hrM1,hrm1,xm,xm']
  ·simp
  ·simp [obx,hiX,lkB_app,stB_app,a1,a2,hrN,hrX1,hrM1,hrm1,xm,xm']
  ·intro p hp
   have n1:=ne_none hp a1
   have n2:=fun j=>ne_none hp (a2 j)
   have q:=a4 p hp
   rw [hm1] at q
   simp only [lkB,if_neg n1,if_neg (n2 6),if_neg (n2 4),if_neg (n2 3)] at q ⊢
   exact q
  ·simp [hiX,hkey]
  ·simp
 ·rw [if_neg e0]
  have e0':(e !=0)=true:=by rw [bne_iff_ne];exact e0
  simp -implicitDefEqProofs [a2,a6,lkB_app,rmB_app,e0',stB_app,hrN,hrX1,hrM1,hrm1,xm,xm']
  refine postH_r ⟨?_,?_,hout _ ?_ ?_,houi _,?_,?_⟩
  ·simp [a2,lkB_app,stB_app,hrN,hrX1,hrM1,hrm1,xm,xm']
  ·simp
  ·simp [obx,hiX,lkB_app,stB_app,a1,a2,hrN,hrX1,hrM1,hrm1,xm,xm']
  ·intro p hp
   have n1:=ne_none hp a1
   have n2:=fun j=>ne_none hp (a2 j)
   have q:=a4 p hp
   rw [hm1] at q
   simp only [lkB,if_neg n1,if_neg (n2 6),if_neg (n2 4),if_neg (n2 3)] at q ⊢
   exact q
  ·simp [hiX,hkey]
  ·simp
open Go.Proofs
abbrev outl (k:Nat) (m l:Nat):AV:= .agg [i6 k,u m,u l]
def outw (k:Nat) (n:Nat):AV:=outl k (n / 18446744073709551616) (n%18446744073709551616)
theorem scmp0_spec (b:Bool) (s:Nat): ∃c:Int,Sp Tryz.prog gl 152 [sgn b s,sg2 false 0 0] (i6 c)∧(c≤0↔(b=true∨s=0)):=by
 have R1:=srt1 b s
 have R2:=srt1 false 0
 have C:=xcompare_spec s 0
 have e2:sgi (if false=true then -(0:Nat) else (0:Nat))=sg2 false 0 0:=rfl
 have e3:sgn false 0=sg2 false 0 0:=rfl
 rw [e2,e3] at R2
 by_cases h:b=true∧s≠0
 ·obtain ⟨rfl,h⟩:=h
  have e1:sgi (if true=true then -(s:Int) else s)=sgn true s:=by unfold sgi;rw [if_pos rfl,decide_eq_true (by omega)];simp
  rw [e1] at R1
  refine ⟨-1,?_,by simp⟩
  refine s152 rfl rfl ?_
  unfold sgn wide at *
  generalize s / 18446744073709551616=m at *
  generalize s%18446744073709551616=l at *
  simp -implicitDefEqProofs [c152]
  refine onC_mk _ R1 ?_
  simp -implicitDefEqProofs
  refine onC_mk _ R2 ?_
  simp -implicitDefEqProofs
 ·have e1:sgi (if b=true then -(s:Int) else s)=sgn false s:=by
   unfold sgi
   cases b
   ·rw [if_neg (by decide),decide_eq_false (by omega),Int.natAbs_natCast]
   ·have:s=0:=by simpa using h
    subst this;rfl
  rw [e1] at R1
  refine ⟨cmpN s 0,?_,?_⟩
  ·refine s152 rfl rfl ?_
   have e4:wide 0= .agg [u 0,u 0]:=rfl
   rw [e4] at C
   generalize cmpN s 0=cc at *
   unfold sgn wide at *
   generalize s / 18446744073709551616=m at *
   generalize s%18446744073709551616=l at *
   simp -implicitDefEqProofs [c152]
   refine onC_mk _ R1 ?_
   simp -implicitDefEqProofs
   refine onC_mk _ R2 ?_
   simp -implicitDefEqProofs
   refine onC_mk _ C ?_
   simp -implicitDefEqProofs
  ·have:cmpN s 0≤0↔s≤0:=by
    unfold cmpN;split
    ·omega
    ·split<;>omega
   rw [this]
   cases b<;>simp at h ⊢ <;>omega
def outN (b:Bool) (s bad:Nat) (w:Int):(Nat×Nat)×Nat:=
 if w<1∨34560000<w then ((0,0),8) else if b=true∨s=0 then ((0,0),0) else if bad=0 then ((1,0),0)
 else if s*w.toNat<340282366920938463463374607431768211456 then ((2,(s*w.toNat+bad*1000000 - 1) / (bad*1000000)),0) else ((0,0),3)
theorem ceil_ceil (x a b:Nat) (ha:0<a) (hb:0<b):((x+a - 1) / a+b - 1) / b=(x+b*a - 1) / (b*a):=by
 have hab:0<b*a:=Nat.mul_pos hb ha
 have key: ∀y n:Nat,0<n→ ∀k,(y+n - 1) / n≤k↔y≤k*n:=by
  intro y n hn k
  constructor
  ·intro h
   have:=(Nat.div_lt_iff_lt_mul hn).1 (Nat.lt_succ_of_le h)
   rw [Nat.succ_mul] at this
   omega
  ·intro h
   apply Nat.le_of_lt_succ
   apply (Nat.div_lt_iff_lt_mul hn).2
   rw [Nat.succ_mul]
   omega
 have:=fun k=>(key _ b hb k).trans (key x a ha (k*b))
 have h2:=key x (b*a) hab
 apply Nat.le_antisymm
 ·apply (this _).2;rw [Nat.mul_assoc];exact (h2 _).1 (Nat.le_refl _)
 ·apply (h2 _).2;rw [←Nat.mul_assoc];exact (this _).1 (Nat.le_refl _)
theorem forecast_spec (b:Bool) (s bad:Nat) (w:Int) (hs:s<340282366920938463463374607431768211456) (hb:bad<18446744073709551616) (hw1: -9223372036854775808≤w) (hw2:w<9223372036854775808):
  Sp Tryz.prog gl 97 [sgn b s,u bad,i6 w] (.tup [outw (outN b s bad w).1.1 (outN b s bad w).1.2,i6 (outN b s bad w).2]):=by
 refine s97 rfl rfl ?_
 obtain ⟨cc,C,hcc⟩:=scmp0_spec b s
 by_cases c1:w<1
 ·have e:outN b s bad w=((0,0),8):=by unfold outN;rw [if_pos (.inl c1)]
  rw [e]
  unfold sgn
  simp -implicitDefEqProofs [c97,c1,outw]
 by_cases c2:34560000<w
 ·have e:outN b s bad w=((0,0),8):=by unfold outN;rw [if_pos (.inr c2)]
  rw [e]
  unfold sgn
  simp -implicitDefEqProofs [c97,c1,c2,outw]
 have e0: ¬(w<1∨34560000<w):=by omega
 by_cases c3:b=true∨s=0
 ·have e:outN b s bad w=((0,0),0):=by unfold outN;rw [if_neg e0,if_pos c3]
  have hc:=hcc.2 c3
  rw [e]
  unfold sgn at *
  simp -implicitDefEqProofs [c97,c1,c2,outw]
  refine onC_mk _ C ?_
  simp -implicitDefEqProofs [hc]
 have hc: ¬cc≤0:=fun h=>c3 (hcc.1 h)
 by_cases c4:bad=0
 ·have e:outN b s bad w=((1,0),0):=by unfold outN;rw [if_neg e0,if_neg c3,if_pos c4]
  rw [e]
  subst c4
  unfold sgn at *
  simp -implicitDefEqProofs [c97,c1,c2,outw]
  refine onC_mk _ C ?_
  simp -implicitDefEqProofs [hc]
 have b4:((bad:Int)==0)=false:=by simp [c4]
 have w1:IntKind.u64.wrap w=(w.toNat:Int):=by rw [wrap_u64]<;>omega
 have M:=xmore_spec s w.toNat hs (by omega)
 by_cases c5:s*w.toNat<340282366920938463463374607431768211456
 ·have e:outN b s bad w=((2,(s*w.toNat+bad*1000000 - 1) / (bad*1000000)),0):=by unfold outN;rw [if_neg e0,if_neg c3,if_neg c4,if_pos c5]
  rw [e]
  rw [if_pos c5] at M
  have X1:=xceil_spec (s*w.toNat) 1000000 (by omega) c5 (by omega)
  have q1:(s*w.toNat+1000000 - 1) / 1000000<340282366920938463463374607431768211456:=by omega
  have X2:=xceil_spec ((s*w.toNat+1000000 - 1) / 1000000) bad (by omega) q1 hb
  rw [ceil_ceil _ 1000000 bad (by omega) (by omega)] at X2
  obtain ⟨Y,hY⟩: ∃Y,Y=(s*w.toNat+1000000 - 1) / 1000000:=⟨_,rfl⟩
  rw [←hY] at X1 X2
  obtain ⟨Z,hZ⟩: ∃Z,Z=(s*w.toNat+bad*1000000 - 1) / (bad*1000000):=⟨_,rfl⟩
  rw [←hZ] at X2 ⊢
  obtain ⟨V,hV⟩: ∃V,V=s*w.toNat:=⟨_,rfl⟩
  rw [←hV] at M X1
  clear hY hZ hV e c5 q1 hcc c3 e0 hs
  unfold sgn outw wide at *
  generalize s / 18446744073709551616=s1 at *
  generalize s%18446744073709551616=s2 at *
  generalize V / 18446744073709551616=v1 at *
  generalize V%18446744073709551616=v2 at *
  generalize Y / 18446744073709551616=y1 at *
  generalize Y%18446744073709551616=y2 at *
  generalize Z / 18446744073709551616=z1 at *
  generalize Z%18446744073709551616=z2 at *
  simp -implicitDefEqProofs [c97,c1,c2]
  refine onC_mk _ C ?_
  simp -implicitDefEqProofs [hc,b4]
  rw [w1]
  refine onC_mk _ M ?_
  simp -implicitDefEqProofs
  refine onC_mk _ X1 ?_
  simp -implicitDefEqProofs
  refine onC_mk _ X2 ?_
  simp -implicitDefEqProofs
 ·have e:outN b s bad w=((0,0),3):=by unfold outN;rw [if_neg e0,if_neg c3,if_neg c4,if_neg c5]
  rw [e]
  rw [if_neg c5] at M
  clear e c5 hcc c3 e0 hs
  have e4:wide 0= .agg [u 0,u 0]:=rfl
  rw [e4] at M
  unfold sgn wide at *
  generalize s / 18446744073709551616=s1 at *
  generalize s%18446744073709551616=s2 at *
  simp -implicitDefEqProofs [c97,c1,c2,outw]
  refine onC_mk _ C ?_
  simp -implicitDefEqProofs [hc,b4]
  rw [w1]
  refine onC_mk _ M ?_
  simp -implicitDefEqProofs
open Go.Proofs
def hasL (s w:Nat):List Bool:=timesL [] (bitsOf s 128) (bitsOf w 128)
theorem hasL_len (s w:Nat):(hasL s w).length≤256:=by
 have:=timesL_len [] (bitsOf s 128) (bitsOf w 128) (by simp)
 simp only [bitsOf_len] at this
 exact this
theorem hasL_val (s w:Nat) (hs:s<340282366920938463463374607431768211456) (hw:w<18446744073709551616):val (hasL s w)=s*w:=by
 unfold hasL
 rw [timesL_val,bitsOf_val128 _ hs,bitsOf_val128 _ (by omega)]
 simp [val]
theorem has_spec (s:Nat) (w:Int) (hs:s<340282366920938463463374607431768211456) (h0:0≤w) (hw:w<9223372036854775808):Sp Tryz.prog gl 154 [wide s,i6 w] (bl (hasL s w.toNat)):=by
 refine s154 rfl rfl ?_
 have B:=bits_spec s hs
 have B2:=rbits23_spec w.toNat (by omega)
 have T:=times_spec_l (bitsOf s 128) (bitsOf w.toNat 128) (by rw [bitsOf_len];omega) (by rw [bitsOf_len];omega)
 have w1:IntKind.u64.wrap w=(w.toNat:Int):=by rw [wrap_u64]<;>omega
 unfold hasL
 generalize timesL [] (bitsOf s 128) (bitsOf w.toNat 128)=l1 at *
 generalize bitsOf s 128=l2 at *
 generalize bitsOf w.toNat 128=l3 at *
 unfold wide at *
 simp -implicitDefEqProofs [c154]
 refine onC_mk _ B ?_
 simp -implicitDefEqProofs
 rw [w1]
 refine onC_mk _ B2 ?_
 simp -implicitDefEqProofs [bl]
 refine onC_mk _ T ?_
 simp -implicitDefEqProofs [bl]
theorem ceil_parts (x d:Nat) (hd:0<d):(x+d - 1) / d=if x%d=0 then x / d else x / d+1:=by
 have e:=Nat.div_add_mod x d
 have hr:=Nat.mod_lt x hd
 split
 ·apply Nat.div_eq_of_lt_le
  ·rw [Nat.mul_comm];omega
  ·rw [Nat.add_mul,Nat.mul_comm];omega
 ·apply Nat.div_eq_of_lt_le
  ·rw [Nat.add_mul,Nat.mul_comm];omega
  ·rw [Nat.add_mul,Nat.add_mul,Nat.mul_comm];omega
theorem rforecast_spec (b:Bool) (s bad:Nat) (w:Int) (hs:s<340282366920938463463374607431768211456) (hb:bad<18446744073709551616) (hw1: -9223372036854775808≤w) (hw2:w<9223372036854775808):
  Sp Tryz.prog gl 99 [sgn b s,u bad,i6 w] (.tup [outw (outN b s bad w).1.1 (outN b s bad w).1.2,i6 (outN b s bad w).2]):=by
 refine s99 rfl rfl ?_
 by_cases c1:w<1
 ·have e:outN b s bad w=((0,0),8):=by unfold outN;rw [if_pos (.inl c1)]
  rw [e]
  unfold sgn
  simp -implicitDefEqProofs [c99,c1,outw]
 by_cases c2:34560000<w
 ·have e:outN b s bad w=((0,0),8):=by unfold outN;rw [if_pos (.inr c2)]
  rw [e]
  unfold sgn
  simp -implicitDefEqProofs [c99,c1,c2,outw]
 have e0: ¬(w<1∨34560000<w):=by omega
 by_cases c3:b=true∨s=0
 ·have e:outN b s bad w=((0,0),0):=by unfold outN;rw [if_neg e0,if_pos c3]
  rw [e]
  unfold sgn at *
  rcases c3 with rfl|rfl
  ·simp [c99,c1,c2,outw]
  ·cases b
   ·simp [c99,c1,c2,outw]
   ·simp [c99,c1,c2,outw]
 have hbf:b=false:=by cases b;rfl;exact absurd (.inl rfl) c3
 have hsz:s≠0:=fun h=>c3 (.inr h)
 have bz:(((s / 18446744073709551616:Nat):Int)==0&&((s%18446744073709551616:Nat):Int)==0)=false:=by
  have h:=nz_iff s
  have: ¬(s / 18446744073709551616=0∧s%18446744073709551616=0):=fun q=>hsz (h.1 q)
  rw [Bool.and_eq_false_iff]
  simp only [beq_eq_false_iff_ne,ne_eq,Int.natCast_eq_zero]
  omega
 by_cases c4:bad=0
 ·have e:outN b s bad w=((1,0),0):=by unfold outN;rw [if_neg e0,if_neg c3,if_pos c4]
  rw [e]
  subst c4 hbf
  clear c3 e
  unfold sgn at *
  generalize s / 18446744073709551616=s1 at *
  generalize s%18446744073709551616=s2 at *
  simp -implicitDefEqProofs [c99,c1,c2,outw,bz]
 have b4:((bad:Int)==0)=false:=by simp [c4]
 have H:=has_spec s w hs (by omega) hw2
 have hl:=hasL_len s w.toNat
 have hv:=hasL_val s w.toNat hs (by omega)
 obtain ⟨h,hh⟩: ∃h,h=hasL s w.toNat:=⟨_,rfl⟩
 rw [←hh] at H hl hv
 clear hh
 have O:=of_spec h (by omega)
 rw [hv] at O
 by_cases c5:s*w.toNat<340282366920938463463374607431768211456
 ·have e:outN b s bad w=((2,(s*w.toNat+bad*1000000 - 1) / (bad*1000000)),0):=by unfold outN;rw [if_neg e0,if_neg c3,if_neg c4,if_pos c5]
  rw [e]
  rw [if_pos c5] at O
  have d0:0<bad*1000000:=Nat.mul_pos (by omega) (by omega)
  have B1:=rbits23_spec bad hb
  have B2:=rbits23_spec 1000000 (by omega)
  have T:=times_spec_l (bitsOf bad 128) (bitsOf 1000000 128) (by rw [bitsOf_len];omega) (by rw [bitsOf_len];omega)
  have pl:=prL_len bad 1000000
  have pv:=prL_val bad 1000000 hb (by omega)
  unfold prL at pl pv
  obtain ⟨p,hp⟩: ∃p,p=timesL [] (bitsOf bad 128) (bitsOf 1000000 128):=⟨_,rfl⟩
  rw [←hp] at T pl pv
  clear hp
  have D:=divide_spec h p (by omega) (by omega) (by omega)
  rw [hv,pv] at D
  have cp:=ceil_parts (s*w.toNat) (bad*1000000) d0
  obtain ⟨Z,hZ⟩: ∃Z,Z=(s*w.toNat+bad*1000000 - 1) / (bad*1000000):=⟨_,rfl⟩
  rw [←hZ] at cp ⊢
  have q1:s*w.toNat / (bad*1000000)≤s*w.toNat:=Nat.div_le_self _ _
  have r1:s*w.toNat%(bad*1000000)≤s*w.toNat:=Nat.mod_le _ _
  have hlt:=val_lt h
  rw [hv] at hlt
  obtain ⟨q,hq⟩: ∃q,q=bitsOf (s*w.toNat / (bad*1000000)) h.length:=⟨_,rfl⟩
  obtain ⟨r,hr⟩: ∃r,r=bitsOf (s*w.toNat%(bad*1000000)) h.length:=⟨_,rfl⟩
  have qv:val q=s*w.toNat / (bad*1000000):=by rw [hq,bitsOf_val,Nat.mod_eq_of_lt (by omega)]
  have rv:val r=s*w.toNat%(bad*1000000):=by rw [hr,bitsOf_val,Nat.mod_eq_of_lt (by omega)]
  have ql:q.length≤256:=by rw [hq,bitsOf_len];omega
  have rl:r.length≤256:=by rw [hr,bitsOf_len];omega
  rw [←hq,←hr] at D
  have C:=compare_spec r [] (by omega) (by simp)
  rw [val_nil] at C
  have Oq:=of_spec q (by omega)
  have Pl:=plus_spec q [true] (by omega) (by simp)
  have plv:=plusL_val q [true] false
  have pll:=plusL_len q [true] false
  have Op:=of_spec (plusL q [true] false) (by simp only [List.length_singleton] at pll;omega)
  rw [plv] at Op
  obtain ⟨q2,hq2⟩: ∃q2,q2=plusL q [true] false:=⟨_,rfl⟩
  rw [←hq2] at Pl Op
  have v1:val [true]=1:=rfl
  rw [v1] at Op
  have hvw:wide (s*w.toNat)= .agg [u (s*w.toNat / 18446744073709551616),u (s*w.toNat%18446744073709551616)]:=rfl
  rw [hvw] at O
  by_cases c6:val r=0
  ·rw [c6] at C
   have c0:cmpN 0 0=0:=rfl
   rw [c0] at C
   have:val q=Z:=by rw [cp,if_pos (by omega),qv]
   rw [this,if_pos (by omega)] at Oq
   clear hq hr hq2 hZ cp q1 r1 hlt qv rv plv pll Pl Op hv hvw c5 e this pv c6
   subst hbf
   unfold sgn outw wide at *
   generalize s*w.toNat / 18446744073709551616=x1 at *
   generalize s*w.toNat%18446744073709551616=x2 at *
   generalize s / 18446744073709551616=s1 at *
   generalize s%18446744073709551616=s2 at *
   generalize Z / 18446744073709551616=z1 at *
   generalize Z%18446744073709551616=z2 at *
   generalize bitsOf bad 128=l3 at *
   generalize bitsOf 1000000 128=l4 at *
   simp -implicitDefEqProofs [c99,c1,c2,bz,b4]
   refine onC_mk _ H ?_
   simp -implicitDefEqProofs [bl]
   refine onC_mk _ O ?_
   simp -implicitDefEqProofs
   refine onC_mk _ B1 ?_
   simp -implicitDefEqProofs
   refine onC_mk _ B2 ?_
   simp -implicitDefEqProofs [bl]
   refine onC_mk _ T ?_
   simp -implicitDefEqProofs [bl]
   refine onC_mk _ D ?_
   simp -implicitDefEqProofs [bl]
   refine onC_mk _ C ?_
   simp -implicitDefEqProofs
   refine onC_mk _ Oq ?_
   simp -implicitDefEqProofs
  ·have c0:cmpN (val r) 0=1:=by unfold cmpN;rw [if_neg (by omega),if_neg c6]
   rw [c0] at C
   have:val q+1+false.toNat=Z:=by rw [cp,if_neg (by omega),qv];rfl
   have hZ2:Z<340282366920938463463374607431768211456:=by
    rw [cp,if_neg (by omega)]
    have:=Nat.div_add_mod (s*w.toNat) (bad*1000000)
    have h3:s*w.toNat / (bad*1000000)*1≤bad*1000000*(s*w.toNat / (bad*1000000)):=by rw [Nat.mul_comm (bad*1000000)];exact Nat.mul_le_mul (Nat.le_refl _) d0
    omega
   rw [this,if_pos hZ2] at Op
   clear hq hr hq2 hZ hZ2 cp q1 r1 hlt qv rv plv pll Oq hv hvw c5 e this pv c6 c0
   subst hbf
   unfold sgn outw wide at *
   generalize s*w.toNat / 18446744073709551616=x1 at *
   generalize s*w.toNat%18446744073709551616=x2 at *
   generalize s / 18446744073709551616=s1 at *
   generalize s%18446744073709551616=s2 at *
   generalize Z / 18446744073709551616=z1 at *
   generalize Z%18446744073709551616=z2 at *
   generalize bitsOf bad 128=l3 at *
   generalize bitsOf 1000000 128=l4 at *
   simp -implicitDefEqProofs [c99,c1,c2,bz,b4]
   refine onC_mk _ H ?_
   simp -implicitDefEqProofs [bl]
   refine onC_mk _ O ?_
   simp -implicitDefEqProofs
   refine onC_mk _ B1 ?_
   simp -implicitDefEqProofs
   refine onC_mk _ B2 ?_
   simp -implicitDefEqProofs [bl]
   refine onC_mk _ T ?_
   simp -implicitDefEqProofs [bl]
   refine onC_mk _ D ?_
   simp -implicitDefEqProofs [bl]
   refine onC_mk _ C ?_
   simp -implicitDefEqProofs
   refine onC_mk _ Pl ?_
   simp -implicitDefEqProofs [bl]
   refine onC_mk _ Op ?_
   simp -implicitDefEqProofs
 ·have e:outN b s bad w=((0,0),3):=by unfold outN;rw [if_neg e0,if_neg c3,if_neg c4,if_neg c5]
  rw [e]
  rw [if_neg c5] at O
  clear e c5 e0 hs hv
  have e4:wide 0= .agg [u 0,u 0]:=rfl
  rw [e4] at O
  subst hbf
  clear c3
  unfold sgn wide at *
  generalize s / 18446744073709551616=s1 at *
  generalize s%18446744073709551616=s2 at *
  simp -implicitDefEqProofs [c99,c1,c2,outw,bz,b4]
  refine onC_mk _ H ?_
  simp -implicitDefEqProofs [bl]
  refine onC_mk _ O ?_
  simp -implicitDefEqProofs
open Go.Proofs
theorem lv_out:outN false 600000000 2 100=((2,30000),0):=by kernel_rfl
theorem awake24_spec:Sp Tryz.prog gl 49 [] (.bool true):=by
 refine s49 rfl rfl ?_
 have F:=forecast_spec false 600000000 2 100 (by omega) (by omega) (by omega) (by omega)
 rw [lv_out] at F
 have e1:sgn false 600000000=sg2 false 0 600000000:=rfl
 have e2:outw (2,30000).1 (2,30000).2=outl 2 0 30000:=rfl
 rw [e1] at F
 simp only at F
 have e2:outw 2 30000=outl 2 0 30000:=rfl
 rw [e2] at F
 simp -implicitDefEqProofs [c49]
 refine onC_mk _ F ?_
 simp -implicitDefEqProofs
open Go.Proofs
def lM (d:Nat):Id:= .nw d (.n 16)
def lA (d:Nat):Id:= .nw d (.n 40)
def lR (d:Nat) (i:Nat):Id:= .nw d (R0 i)
def lB (d:Nat) (i:Nat):Id:= .nw d (B0 i)
theorem nmL (d k:Nat):NmX (lM d) (lA d) (lR d) (lB d) (.n k):=by
 refine ⟨nms0 d,rfl,?_,?_,fun i=>?_,fun i=>?_,fun e _=>rfl⟩
 ·intro e;simp [lM] at e
 ·intro e;simp [lA] at e
 ·intro e;simp [lR] at e
 ·intro e;simp [lB] at e
theorem lm_nw (d:Nat) (x:Gl) (n:Nat) (W:List (List AV)) (K w:Nat→Nat) (s:Mt): ∀(a:Id) (b:List AV),(a,b)∈mtB (lM d) (lA d) (lR d) (lB d) x n W K w s.t s.L s.sd→a.isIt=false∧ ∀t,a.isNw t=(d==t):=by
 intro a b hp
 unfold mtB at hp
 rcases List.mem_cons.1 hp with e|hp
 ·cases e;exact ⟨rfl,fun s=>by simp [lM,Id.isNw,Id.isUp]⟩
 ·rcases List.mem_cons.1 hp with e|hp
  ·cases e;exact ⟨rfl,fun s=>by simp [lA,Id.isNw,Id.isUp]⟩
  ·obtain ⟨i,_,e|e⟩:=mem_rgsB.1 hp
   ·cases e;exact ⟨rfl,fun s=>by simp [lR,R0,Id.isNw,Id.isUp]⟩
   ·cases e;exact ⟨rfl,fun s=>by simp [lB,B0,Id.isNw,Id.isUp]⟩
theorem lx_nw (d k:Nat) (x:Gl) (n:Nat) (Wl:List Int) (K w:Nat→Nat) (s:Mt): ∀(a:Id) (b:List AV),(a,b)∈mxB (lM d) (lA d) (lR d) (lB d) (.n k) x n Wl K w s→a.isIt=false∧ ∀t,t≠d→a.isNw t=false:=by
 intro a b hp
 unfold mxB at hp
 rcases List.mem_cons.1 hp with e|hp
 ·cases e;exact ⟨rfl,fun _ _=>rfl⟩
 ·obtain ⟨h1,h2⟩:=lm_nw d x n _ K w s a b hp
  exact ⟨h1,fun t ht=>by rw [h2,beq_eq_false_iff_ne];exact fun e=>ht e.symm⟩
theorem lm_n (d:Nat) (x:Gl) (n:Nat) (W:List (List AV)) (K w:Nat→Nat) (s:Mt) (j:Nat):lkB (mtB (lM d) (lA d) (lR d) (lB d) x n W K w s.t s.L s.sd) (.n j)=none:=
 mt_n x n _ K w _ _ _ _ (by simp [lM]) (by simp [lA]) (fun i=>by simp [lR]) (fun i=>by simp [lB])
theorem lx_n (d k:Nat) (x:Gl) (n:Nat) (Wl:List Int) (K w:Nat→Nat) (s:Mt) (j:Nat) (hj:j≠k):lkB (mxB (lM d) (lA d) (lR d) (lB d) (.n k) x n Wl K w s) (.n j)=none:=by
 unfold mxB
 simp only [lkB]
 rw [if_neg (fun e=>hj (by injection e with e;exact e.symm))]
 exact lm_n d x n _ K w s j
theorem mcal_nil:Sp Tryz.prog gl 20 [.nilp] (.tup [.agg [.int .u64 0,.int .u64 0],i6 1]):=by
 refine s20 rfl rfl ?_
 simp -implicitDefEqProofs [c20]
theorem lroll_nil (y:Gl):Sp Tryz.prog gl 45 [.nilp,.agg y.row] (.tup [.agg [.bool false,.int .u64 0,.int .u64 0],i6 1]):=by
 refine s45 rfl rfl ?_
 simp only [Gl.row]
 simp -implicitDefEqProofs [c45]
theorem lcal_nil (y:Gl):Sp Tryz.prog gl 47 [.nilp,.agg y.row] (.tup [.agg [.bool false,.int .u64 0,.int .u64 0],i6 1]):=by
 refine s47 rfl rfl ?_
 have C:=fun d=>Sp.h (d:=d) mcal_nil
 simp only [Gl.row]
 simp -implicitDefEqProofs [c47]
 refine onH_mk _ _ (C _) ⟨?_,?_,?_,?_,?_,?_,?_⟩ ?_
 iterate 7 (· simp)
 simp -implicitDefEqProofs
end Go.Ai
