/- P19: a part of the proof: the rules, or what functions compute. Conditions: as each theorem says. -/
import Derived.Test.YtidcomakahbepaaGreatDoorP17
import Derived.Test.YtidcomakahbepaaGreatDoorP18
import Derived.Test.YtidcomakahbepaaGreatDoorP7
import Derived.Test.YtidcomakahbepaaGreatDoorP2
import Derived.Test.YtidcomakahbepaaGreatDoorP16
set_option linter.unusedSimpArgs false
set_option linter.unusedVariables false
set_option maxRecDepth 20000
namespace Go.Ai
open Go.Proofs
theorem rmBs_ps {pre l suf:List (Id×List AV)} (h1: ∀p∈pre,lkB l p.1=none) (h2: ∀p∈suf,lkB l p.1=none):rmBs (pre++(l++suf)) l=pre++suf:=by
 rw [rmBs_filter,List.filter_append,List.filter_append]
 have e1:pre.filter (fun p=>!(lkB l p.1).isSome)=pre:=List.filter_eq_self.2 fun p hp=>by rw [h1 p hp];rfl
 have e3:suf.filter (fun p=>!(lkB l p.1).isSome)=suf:=List.filter_eq_self.2 fun p hp=>by rw [h2 p hp];rfl
 have e2:l.filter (fun p=>!(lkB l p.1).isSome)=[]:=List.filter_eq_nil_iff.2 fun p hp=>by
  have:(lkB l p.1).isSome:=lkB_isSome hp
  simp [this]
 rw [e1,e2,e3,List.nil_append]
section
variable {P:Program} {GL:List (Nat×List Value)} {K:St→Prop} {σ:St} {f d:Nat} {xs:List X} {pre l l' suf:List (Id×List AV)} {vs:List AV} {r:AV} {X:Id} {q:List (Pl×Nat)}
theorem lk_ps (hpre: ∀p∈pre,lkB l p.1=none) (hu: ∀p∈l,lkB l p.1=some p.2): ∀p∈l,lkB (pre++(l++suf)) p.1=some p.2:=by
 intro p hp
 rw [←List.append_assoc]
 exact lk_mid hu hpre p hp
theorem callOk_ps (hσ:σ.bx=pre++(l++suf)) (hpre: ∀p∈pre,lkB l p.1=none) (hu: ∀p∈l,lkB l p.1=some p.2) (hkeep: ∀i,(lkB l' i).isSome=(lkB l i).isSome) (hf: ∀p∈σ.bx,p.1.isNw d=false) (hv:wkL (xs.map σ.v) vs):
  CallOk d σ xs ⟨vs,l,[]⟩ ⟨r,l',[]⟩:=by
 refine ⟨hv,fun p hp=>?_,by simp,trivial,fun p hp=>?_,fun p hp=>?_,hf⟩
 ·have h3:=lk_ps (suf:=suf) hpre hu p hp
  rw [←hσ] at h3
  simp only [wkB,h3];exact wkL_rfl' _
 ·simp only [hkeep,hu p hp];rfl
 ·left;simp only [←hkeep];exact lkB_isSome hp
theorem callSt_ps (hσ:σ.bx=pre++(l++suf)) (hpre: ∀p∈pre,lkB l p.1=none) (hsuf: ∀p∈suf,lkB l p.1=none) (hpm: ∀p∈σ.pm,∀e∈p.1.ids,lkB l e=none):callSt d σ xs ⟨vs,l,[]⟩ ⟨r,l',[]⟩=⟨(d,r)::σ.e,l'++(pre++suf),dlS σ.pm d⟩:=by
 simp only [callSt,retP,dlXs,List.nil_append]
 rw [hσ,rmBs_ps hpre hsuf,dlBs_off hpm]
theorem onH_ps (S:SpH P GL f d ⟨vs,l,[]⟩ ⟨r,l',[]⟩) (hσ:σ.bx=pre++(l++suf)) (hpre: ∀p∈pre,lkB l p.1=none) (hsuf: ∀p∈suf,lkB l p.1=none) (hu: ∀p∈l,lkB l p.1=some p.2) (hkeep: ∀i,(lkB l' i).isSome=(lkB l i).isSome)
  (hf: ∀p∈σ.bx,p.1.isNw d=false) (hpm: ∀p∈σ.pm,∀e∈p.1.ids,lkB l e=none) (hv:wkL (xs.map σ.v) vs) (hk:K ⟨(d,r)::σ.e,l'++(pre++suf),dlS σ.pm d⟩):onH (SpH P GL) f d xs K σ:=by
 refine onH_mk _ _ S (callOk_ps hσ hpre hu hkeep hf hv) ?_
 rw [callSt_ps hσ hpre hsuf hpm];exact hk
theorem callOk_xs (hσ:σ.bx=pre++(l++suf)) (hp:σ.pm=(.b X 10,3)::q) (hX:(lkB l X).isSome) (hpre: ∀p∈pre,lkB l p.1=none) (hu: ∀p∈l,lkB l p.1=some p.2) (hkeep: ∀i,(lkB l' i).isSome=(lkB l i).isSome)
  (hf: ∀p∈σ.bx,p.1.isNw d=false) (hv:wkL (xs.map σ.v) vs):CallOk d σ xs ⟨vs,l,[(.b X 10,3)]⟩ ⟨r,l',[(.b X 10,3)]⟩:=by
 refine ⟨hv,fun p hp=>?_,fun p hp'=>?_,trivial,fun p hp=>?_,fun p hp=>?_,hf⟩
 ·have h3:=lk_ps (suf:=suf) hpre hu p hp
  rw [←hσ] at h3
  simp only [wkB,h3];exact wkL_rfl' _
 ·rw [List.mem_singleton] at hp'
  subst hp'
  refine ⟨hX,.inl ?_⟩
  rw [hp];simp [lkP]
 ·simp only [hkeep,hu p hp];rfl
 ·left;simp only [←hkeep];exact lkB_isSome hp
theorem callSt_xs (hσ:σ.bx=pre++(l++suf)) (hp:σ.pm=(.b X 10,3)::q) (hX:(lkB l X).isSome) (hpre: ∀p∈pre,lkB l p.1=none) (hsuf: ∀p∈suf,lkB l p.1=none) (hq: ∀p∈q,p.1.ids=[]):
  callSt d σ xs ⟨vs,l,[(.b X 10,3)]⟩ ⟨r,l',[(.b X 10,3)]⟩=⟨(d,r)::σ.e,l'++(pre++suf),(.b X 10,3)::dlS q d⟩:=by
 simp only [callSt,retP,dlXs,List.nil_append,List.cons_append]
 rw [hσ,rmBs_ps hpre hsuf,hp,dlBs_x hq hX]
theorem onH_xs (S:SpH P GL f d ⟨vs,l,[(.b X 10,3)]⟩ ⟨r,l',[(.b X 10,3)]⟩) (hσ:σ.bx=pre++(l++suf)) (hp:σ.pm=(.b X 10,3)::q) (hX:(lkB l X).isSome) (hpre: ∀p∈pre,lkB l p.1=none) (hsuf: ∀p∈suf,lkB l p.1=none) (hu: ∀p∈l,lkB l p.1=some p.2)
  (hkeep: ∀i,(lkB l' i).isSome=(lkB l i).isSome) (hf: ∀p∈σ.bx,p.1.isNw d=false) (hq: ∀p∈q,p.1.ids=[]) (hv:wkL (xs.map σ.v) vs) (hk:K ⟨(d,r)::σ.e,l'++(pre++suf),(.b X 10,3)::dlS q d⟩):onH (SpH P GL) f d xs K σ:=by
 refine onH_mk _ _ S (callOk_xs hσ hp hX hpre hu hkeep hf hv) ?_
 rw [callSt_xs hσ hp hX hpre hsuf hq];exact hk
theorem onQ_xs {fr:List Nat} (S:SpH P GL f d ⟨vs,l,[(.b X 10,3)]⟩ ⟨r,l',[(.b X 10,3)]⟩) (hσ:σ.bx=pre++(l++suf)) (hp:σ.pm=(.b X 10,3)::q) (hX:(lkB l X).isSome) (hpre: ∀p∈pre,lkB l p.1=none) (hsuf: ∀p∈suf,lkB l p.1=none) (hu: ∀p∈l,lkB l p.1=some p.2)
  (hkeep: ∀i,(lkB l' i).isSome=(lkB l i).isSome) (hf: ∀p∈σ.bx,p.1.isNw d=false) (hq: ∀p∈q,p.1.ids=[]) (hv:wkL (xs.map σ.v) vs) (hfx:inF fr X=false) (hfl: ∀p∈l',inF fr p.1=false)
  (hk:K ⟨(d,r)::σ.e,l'++(pre++suf),(.b X 10,3)::dlS q d⟩) (hn:fr.contains d=false:=by decide):onQ (SpH P GL) f d xs fr K σ:=by
 refine onQ_mk _ _ S (callOk_xs hσ hp hX hpre hu hkeep hf hv) ⟨?_,?_,hfl⟩ ?_ hn
 ·simp [Pl.isB]
 ·intro p hp
  rw [List.mem_singleton] at hp
  subst hp
  simp only [Pl.isF,hfx];rfl
 rw [callSt_xs hσ hp hX hpre hsuf hq];exact hk
end
open Go.Proofs
def cntOk (c:Int) (st:RS):Prop:=mhG c st≤mhT c st∧mhT c st≤9223372036854775807
def ringsOk (x:Gl) (t:Nat) (st:RS) (i:Nat):Prop:=RingOk (kN x i) (t / wN x i) (mrS (kN x) (mhS x.c st) i)
theorem pc_nil (c:Int) (t:Nat):pcG c t []=0∧pcT c t []=0:=by unfold pcG pcT;split<;>exact ⟨rfl,rfl⟩
theorem nwR_free {s:Nat} (hs:s≠13) (i:Nat):(Id.nw 13 (R0 i)).isNw s=false:=by
 have hs': ¬13=s:=fun e=>hs e.symm
 simp [R0,Id.isNw,hs']
theorem nwB_free {s:Nat} (hs:s≠13) (i:Nat):(Id.nw 13 (B0 i)).isNw s=false:=by
 have hs': ¬13=s:=fun e=>hs e.symm
 simp [B0,Id.isNw,hs']
set_option maxHeartbeats 1000000 in
theorem mget_any (x:Gl) (hf:x.Fit) (hl':x.ru.length≤10) (hx:goalP x=true) (t:Nat) (ht:t≤253402300799) (st:RS) (hl:rsLe st 1000000) (d:Nat) (c:Id) (hc:c.isIt=false) (hd:c.isNw d=false) (O:Out)
  (h0: ¬cntOk x.c st→O=rgX c)
  (h1:cntOk x.c st→(∀i,i<(winP x).length→ringsOk x t st i)→O=mgO d c x (winP x).length (intRows (winP x)) (pF x.c t) (pT x.c t) (mhG x.c st) (mhT x.c st) t (flagN st).2 (kN x) (wN x) (mhS x.c st))
  (h2:cntOk x.c st→ ∀i,i<(winP x).length→ ¬ringsOk x t st i→O=rgX c):
  SpH Tryz.prog gl 29 d ⟨[.ptr c 0,.agg x.row,i6 t],[(c,rdv st)],[]⟩ O:=by
 refine h29 rfl ?_
 have hi:=inn_notNw hd
 have hw:=goal_wd hx hl'
 have hn:=goal_n hl'
 have hn1:=goal_n1 hx
 have hk:=goal_k hx hl'
 have NW:SpH Tryz.prog gl 35 13 ⟨[.agg x.row],[],[]⟩ ⟨.tup [.ptr (.nw 13 (.n 16)) 0,i6 0],mtB (.nw 13 (.n 16)) (.nw 13 (.n 40)) (fun i=> .nw 13 (R0 i)) (fun i=> .nw 13 (B0 i)) x (winP x).length (intRows (winP x)) (kN x) (wN x) 0 [] false,[]⟩:=mnew_spec x hf hl' hx (winP x).length hn hn1 rfl (gN x) hw.gg (wdN x) hw.wd 13
 have MV:=mmove_spec (.nw 13 (.n 16)) (.nw 13 (.n 40)) (fun i=> .nw 13 (R0 i)) (fun i=> .nw 13 (B0 i)) (nms0 13) x (winP x).length hn (intRows (winP x)) (kN x) (wN x) hk 0 t [] ⟨fun e he=>(by cases he),fun e he=>(by cases he),fun i hi=>by simp [sumT,sm]⟩ false (Nat.zero_le _) ht 21 rfl
 have LP:=fun fr tt cg ct sd C D q1 q2 q3 q4 st hl h1 h2 e bx=>mget_loop x (winP x).length hn hn1 (gN x) hw.gg (wdN x) (fun i hi=>(hw.wd i hi).2) (intRows (winP x)) (by rw [intRows_len]) (fun i hi=>by
  have:=(hw.wd i hi).1
  simp only [intRows,List.getElem?_map,this,Option.map_some]) t ht st hl fr tt cg ct sd C D q1 q2 q3 q4 d c hc hd O h1 h2 e bx
 have FL:=wFlag_spec st hl 28 (.up c) hc rfl
 have l1:=flagN_le hl
 have N1:=fun e he=>wNum_spec (flagN st).1 l1 e (.up c) hc he
 have l2:=getN_le l1
 have N2:=fun e he=>wNum_spec (getN (flagN st).1).1 l2 e (.up c) hc he
 have hg:=hw.gg
 have hrow:x.row=[.str x.n,.int .u32 x.t,i6 x.g,i6 x.a,i6 x.o,i6 x.c,.sl (x.lb.map Lb.row),.sl (x.ru.map Ru.row)]:=rfl
 have ids:=rdv_ids
 have idm:=rdv_mp
 have cids:=rgC_ids (kN x) (wN x) t []
 have dids:=rgD_ids (kN x) (wN x) t []
 have cmp:=fun f i b=>rgC_mp f (kN x) (wN x) t [] i b
 have dmp:=fun f i=>rgD_mp f (kN x) (wN x) t [] i
 have tail: ∀(e:List (Nat×AV)) (bx:List (Id×List AV)),lk e 0= .ptr (.up c) 0→lk e 2=i6 t→lk e 4= .ptr (.n 4) 0→lk e 7= .ptr (.nw 13 (.n 16)) 0→lkB bx (.up c)=some (rdv (mhS x.c st))→
   lkB bx (.n 4)=some [.str x.n,.int .u32 x.t,i6 (gN x),i6 x.a,i6 x.o,i6 x.c,.sl (x.lb.map Lb.row),.sl (x.ru.map Ru.row)]→
   lkB bx (.nw 13 (.n 16))=some [.str x.n,.int .u32 x.t,i6 (gN x),i6 x.a,i6 x.o,i6 x.c,.sl (x.lb.map Lb.row),.sl (x.ru.map Ru.row),.sl (intRows (winP x)),.ms (.nw 13 (.n 40)) 0 (winP x).length 1,i6 (pF x.c t),i6 (pT x.c t),u (mhG x.c st),u (mhT x.c st),i6 t,.bool (flagN st).2]→
   lkB bx (.nw 13 (.n 40))=some (ptrC (fun i=> .nw 13 (R0 i)) (winP x).length)→(∀p∈rgsB (fun i=> .nw 13 (R0 i)) (fun i=> .nw 13 (B0 i)) (rgC (kN x) (wN x) t []) (rgD (kN x) (wN x) t []) (winP x).length,lkB bx p.1=some p.2)→(∀(a:Id) (b:List AV),(a,b)∈bx→a.isNw 65=false)→
   wpA (SpH Tryz.prog gl) (AC.tl 5 c29) (postH d [.t 6] O) ⟨e,bx,[]⟩:=by
  intro e bx e0 e2 e4 e7 b1 b2 b3 b4 b5 bfr
  have SP:=mspoil_spec (mhS x.c st) (mhS_le hl) 65 (.up c) hc rfl
  have LPx:=fun ok=>LP (pF x.c t) (pT x.c t) (mhG x.c st) (mhT x.c st) (flagN st).2 (rgC (kN x) (wN x) t []) (rgD (kN x) (wN x) t []) cids dids cmp dmp (mhS x.c st) (mhS_le hl) (h1 ok) (h2 ok)
  clear LP N1 N2 NW MV FL
  have ec:AC.tl 5 c29=AC.cutAt 1 (AC.tl 6 c29) (AC.tl 5 c29):=rfl
  rw [ec]
  generalize AC.tl 6 c29=t0 at LPx ⊢
  simp only [c29,AC.tl,AC.cutAt]
  unfold cntOk at h0 LPx
  by_cases ok:mhG x.c st≤mhT x.c st∧mhT x.c st≤9223372036854775807
  ·have L:=LPx ok
   have g1: ¬mhT x.c st<mhG x.c st:=by omega
   have g2: ¬(9223372036854775807:Int)<(mhT x.c st:Nat):=by omega
   have g3: ¬9223372036854775807<mhT x.c st:=by omega
   clear LPx h0 h1 h2
   simp -implicitDefEqProofs [e0,e2,e4,e7,b1,b2,b3,g1,g2,g3]
   refine L _ _ ?_ ?_ ?_ ?_ b1 b2 b3 b4 b5<;>simp -implicitDefEqProofs [e0,e2,e4,e7]
  ·rw [h0 ok]
   clear LPx h0 h1 h2
   unfold rgX
   have m2:=idm none
   have i2:=ids none
   by_cases g1:mhT x.c st<mhG x.c st
   ·simp [e0,e2,e4,e7,b1,b2,b3,g1]
    refine onH_mk _ _ (SP) ⟨?_,?_,?_,?_,?_,?_,?_⟩ ?_
    iterate 6 (· simp [b1])
    ·simp;exact bfr
    simp -implicitDefEqProofs
    refine postH_r ⟨?_,?_,?_,?_,?_,?_⟩<;>simp -implicitDefEqProofs [hi,hc,m2,i2]
   ·have g2:(9223372036854775807:Int)<(mhT x.c st:Nat):=by omega
    have g3:9223372036854775807<mhT x.c st:=by omega
    simp -implicitDefEqProofs [e0,e2,e4,e7,b1,b2,b3,g1,g2,g3]
    refine onH_mk _ _ (SP) ⟨?_,?_,?_,?_,?_,?_,?_⟩ ?_
    iterate 6 (· simp [b1])
    ·simp;exact bfr
    simp -implicitDefEqProofs
    refine postH_r ⟨?_,?_,?_,?_,?_,?_⟩<;>simp -implicitDefEqProofs [hi,hc,m2,i2]
 clear LP h0 h1 h2
 have ec:c29=AC.cutAt 5 (AC.tl 5 c29) c29:=rfl
 rw [ec]
 generalize AC.tl 5 c29=t0 at tail ⊢
 have uq:=mt_uq (nms0 13) x (winP x).length (intRows (winP x)) (kN x) (wN x) 0 [] false
 have ks:=mt_ks (M:= .nw 13 (.n 16)) (A:= .nw 13 (.n 40)) (R:=fun i=> .nw 13 (R0 i)) (B:=fun i=> .nw 13 (B0 i)) x x (winP x).length (intRows (winP x)) (kN x) (wN x) 0 t [] [] false false
 have nn:=fun y q1 q2 q3 q4=>mt_n (M:= .nw 13 (.n 16)) (A:= .nw 13 (.n 40)) (R:=fun i=> .nw 13 (R0 i)) (B:=fun i=> .nw 13 (B0 i)) x (winP x).length (intRows (winP x)) (kN x) (wN x) 0 [] false y q1 q2 q3 q4
 have n4:=nn (.n 4) (by simp) (by simp) (fun i e=>by cases e) (fun i e=>by cases e)
 have nc:=nn (.up c) (by simp) (by simp) (fun i e=>by cases e) (fun i e=>by cases e)
 have fr1: ∀s,s≠13→ ∀(a:Id) (b:List AV),(a,b)∈mtB (.nw 13 (.n 16)) (.nw 13 (.n 40)) (fun i=> .nw 13 (R0 i)) (fun i=> .nw 13 (B0 i)) x (winP x).length (intRows (winP x)) (kN x) (wN x) 0 [] false→a.isNw s=false:=by
  intro s hs a b hp
  have hs': ¬13=s:=fun e=>hs e.symm
  unfold mtB at hp
  rcases List.mem_cons.1 hp with e|hp
  ·cases e;simp [Id.isNw,hs']
  ·rcases List.mem_cons.1 hp with e|hp
   ·cases e;simp [Id.isNw,hs']
   ·obtain ⟨i,_,e|e⟩:=mem_rgsB.1 hp
    ·cases e;simp [R0,Id.isNw,hs']
    ·cases e;simp [B0,Id.isNw,hs']
 have nw1: ∀(a:Id) (b:List AV),(a,b)∈mtB (.nw 13 (.n 16)) (.nw 13 (.n 40)) (fun i=> .nw 13 (R0 i)) (fun i=> .nw 13 (B0 i)) x (winP x).length (intRows (winP x)) (kN x) (wN x) 0 [] false→a.isNw 13=true∧a.isIt=false:=by
  intro a b hp
  unfold mtB at hp
  rcases List.mem_cons.1 hp with e|hp
  ·cases e;exact ⟨rfl,rfl⟩
  ·rcases List.mem_cons.1 hp with e|hp
   ·cases e;exact ⟨rfl,rfl⟩
   ·obtain ⟨i,_,e|e⟩:=mem_rgsB.1 hp
    ·cases e;exact ⟨rfl,rfl⟩
    ·cases e;exact ⟨rfl,rfl⟩
 have m1:=idm st
 simp only [hrow,hg] at NW ⊢
 generalize mtB (.nw 13 (.n 16)) (.nw 13 (.n 40)) (fun i=> .nw 13 (R0 i)) (fun i=> .nw 13 (B0 i)) x (winP x).length (intRows (winP x)) (kN x) (wN x) 0 [] false=MB at *
 simp only [inSt,mpL,mpB,mpP,AV.mp,m1]
 simp only [c29,AC.cutAt]
 simp -implicitDefEqProofs
 refine onH_mk _ _ NW ⟨?_,?_,?_,?_,?_,?_,?_⟩ ?_
 iterate 5 (· simp)
 ·intro p hp
  right
  exact nw1 p.1 p.2 hp
 ·simp
 simp -implicitDefEqProofs
 refine onH_ps (pre:=[]) (suf:=[(.n 4,[.str x.n,.int .u32 x.t,i6 (gN x),i6 x.a,i6 x.o,i6 x.c,.sl (x.lb.map Lb.row),.sl (x.ru.map Ru.row)]),(.up c,rdv st)]) MV rfl (fun p hp=>by cases hp) ?_ uq ks ?_ ?_ ?_ ?_
 ·simp [n4,nc]
 ·simp
  intro a b hp
  rcases hp with h|⟨rfl,-⟩|⟨rfl,-⟩
  ·exact fr1 21 (by decide) _ _ h
  ·rfl
  ·rfl
 ·simp
 ·simp
 simp -implicitDefEqProofs
 have hpc:=pc_nil x.c t
 have MC:=mcal_spec (.nw 13 (.n 16)) (.nw 13 (.n 40)) (nms0 13).pa x (winP x).length (intRows (winP x)) (pF x.c t) (pT x.c t) 0 0 t (flagN st).2 32 rfl
 simp only [mtB,mtC,hg,hpc.1,hpc.2] at MC ⊢
 have gu:lkB (rgsB (fun i=> .nw 13 (R0 i)) (fun i=> .nw 13 (B0 i)) (rgC (kN x) (wN x) t []) (rgD (kN x) (wN x) t []) (winP x).length) (.up c)=none:=rgsB_none (fun i e=>by cases e) (fun i e=>by cases e) _
 have gn:lkB (rgsB (fun i=> .nw 13 (R0 i)) (fun i=> .nw 13 (B0 i)) (rgC (kN x) (wN x) t []) (rgD (kN x) (wN x) t []) (winP x).length) (.n 4)=none:=rgsB_none (fun i e=>by cases e) (fun i e=>by cases e) _
 have gru:rmB (rgsB (fun i=> .nw 13 (R0 i)) (fun i=> .nw 13 (B0 i)) (rgC (kN x) (wN x) t []) (rgD (kN x) (wN x) t []) (winP x).length) (.up c)=rgsB (fun i=> .nw 13 (R0 i)) (fun i=> .nw 13 (B0 i)) (rgC (kN x) (wN x) t []) (rgD (kN x) (wN x) t []) (winP x).length:=rgsB_rm (fun i e=>by cases e) (fun i e=>by cases e) _
 have grm:rmB (rgsB (fun i=> .nw 13 (R0 i)) (fun i=> .nw 13 (B0 i)) (rgC (kN x) (wN x) t []) (rgD (kN x) (wN x) t []) (winP x).length) (.nw 13 (.n 16))=rgsB (fun i=> .nw 13 (R0 i)) (fun i=> .nw 13 (B0 i)) (rgC (kN x) (wN x) t []) (rgD (kN x) (wN x) t []) (winP x).length:=rgsB_rm (nms0 13).mr (nms0 13).mb _
 have gp: ∀p∈rgsB (fun i=> .nw 13 (R0 i)) (fun i=> .nw 13 (B0 i)) (rgC (kN x) (wN x) t []) (rgD (kN x) (wN x) t []) (winP x).length,lkB (rgsB (fun i=> .nw 13 (R0 i)) (fun i=> .nw 13 (B0 i)) (rgC (kN x) (wN x) t []) (rgD (kN x) (wN x) t []) (winP x).length) p.1=some p.2∧(¬Id.nw 13 (.n 16)=p.1∧ ¬Id.nw 13 (.n 40)=p.1∧ ¬Id.up c=p.1)∧ ∀s,s≠13→p.1.isNw s=false:=by
  intro p hp
  obtain ⟨i,hi',e|e⟩:=mem_rgsB.1 hp
  ·subst e
   exact ⟨rgsB_R (nms0 13) _ hi',⟨(nms0 13).mr i,(nms0 13).ar i,fun e=>by cases e⟩,fun s hs=>nwR_free hs i⟩
  ·subst e
   exact ⟨rgsB_B (nms0 13) _ hi',⟨(nms0 13).mb i,(nms0 13).ab i,fun e=>by cases e⟩,fun s hs=>nwB_free hs i⟩
 have gf: ∀s,s≠13→ ∀(a:Id) (b:List AV),(a,b)∈rgsB (fun i=> .nw 13 (R0 i)) (fun i=> .nw 13 (B0 i)) (rgC (kN x) (wN x) t []) (rgD (kN x) (wN x) t []) (winP x).length→a.isNw s=false:=fun s hs a b hm=>(gp _ hm).2.2 s hs
 clear uq ks nn n4 nc fr1 nw1 NW MV cids dids cmp dmp
 generalize rgsB (fun i=> .nw 13 (R0 i)) (fun i=> .nw 13 (B0 i)) (rgC (kN x) (wN x) t []) (rgD (kN x) (wN x) t []) (winP x).length=RG at *
 refine onH_mk _ _ (FL) ⟨?_,?_,?_,?_,?_,?_,?_⟩ ?_
 iterate 6 (· simp [lkB_app,gu,gn])
 ·simp;exact fun a b hm=>by (rcases hm with h|h|h)<;>first|exact gf 28 (by decide) _ _ h|(obtain ⟨rfl,-⟩:=h;rfl)
 simp -implicitDefEqProofs [rmB_app,gru,lkB_app,gu,gn]
 have MC':SpH Tryz.prog gl 63 32 _ _:=MC
 refine onH_mk _ _ (MC') ⟨?_,?_,?_,?_,?_,?_,?_⟩ ?_
 iterate 6 (· simp)
 ·simp;exact fun a b hm=>by (rcases hm with h|h)<;>first|exact gf 32 (by decide) _ _ h|(obtain ⟨rfl,-⟩:=h;rfl)
 by_cases hcz:x.c=0
 ·have hb:(x.c !=0)=false:=by rw [hcz];rfl
  have e1:mhG x.c st=0:=if_pos hcz
  have e2:mhT x.c st=0:=if_pos hcz
  have e3:mhS x.c st=(flagN st).1:=if_pos hcz
  rw [e1,e2,e3] at tail
  rw [hb]
  simp -implicitDefEqProofs [grm,rmB_app]
  refine tail _ _ ?_ ?_ ?_ ?_ ?_ ?_ ?_ ?_ ?_ ?_
  iterate 8 (· simp [lkB_app,gu,gn])
  ·intro p hp
   obtain ⟨g1,⟨g2,g3,g4⟩,g5⟩:=gp p hp
   simp -implicitDefEqProofs [g1,g2,g3,g4,lkB_app]
  ·simp
   exact fun a b hm=>by (rcases hm with h|h|h|h|h)<;>first|exact gf 65 (by decide) _ _ h|(obtain ⟨rfl,-⟩:=h;rfl)
 ·have hb:(x.c !=0)=true:=by rw [bne_iff_ne];exact hcz
  have e1:mhG x.c st=(getN (flagN st).1).2:=if_neg hcz
  have e2:mhT x.c st=(getN (getN (flagN st).1).1).2:=if_neg hcz
  have e3:mhS x.c st=(getN (getN (flagN st).1).1).1:=if_neg hcz
  rw [e1,e2,e3] at tail
  rw [hb]
  have N1:=N1 35 rfl
  have N2:=N2 41 rfl
  simp -implicitDefEqProofs [grm,rmB_app]
  refine onH_mk _ _ (N1) ⟨?_,?_,?_,?_,?_,?_,?_⟩ ?_
  iterate 6 (· simp [lkB_app,gu,gn])
  ·simp;exact fun a b hm=>by (rcases hm with h|h)<;>first|exact gf 35 (by decide) _ _ h|(obtain ⟨rfl,-⟩:=h;rfl)
  simp -implicitDefEqProofs [gru,rmB_app]
  refine onH_mk _ _ (N2) ⟨?_,?_,?_,?_,?_,?_,?_⟩ ?_
  iterate 6 (· simp [lkB_app,gu,gn])
  ·simp;exact fun a b hm=>by (rcases hm with h|h)<;>first|exact gf 41 (by decide) _ _ h|(obtain ⟨rfl,-⟩:=h;rfl)
  simp -implicitDefEqProofs [gru,rmB_app]
  refine tail _ _ ?_ ?_ ?_ ?_ ?_ ?_ ?_ ?_ ?_ ?_
  iterate 8 (· simp [lkB_app,gu,gn])
  ·intro p hp
   obtain ⟨g1,⟨g2,g3,g4⟩,g5⟩:=gp p hp
   simp -implicitDefEqProofs [g1,g2,g3,g4,lkB_app]
  ·simp
   exact fun a b hm=>by (rcases hm with h|h|h|h|h)<;>first|exact gf 65 (by decide) _ _ h|(obtain ⟨rfl,-⟩:=h;rfl)
end Go.Ai
namespace Go.Ai
open Go.Proofs Go.RowKit
end Go.Ai
namespace Go.Ai
open Go.Proofs Go.RowKit
theorem be_snoc (k n:Nat):be (k+1) n=be k (n / 256)++[UInt8.ofNat n]:=by
 induction k with
 |zero=>simp [be]
 |succ k ih=>
  rw [be,ih,be,List.cons_append]
  congr 2
  rw [Nat.div_div_eq_div_mul,Nat.pow_succ,Nat.mul_comm]
theorem be_sz8 {n:Nat} (h:n≠0):be (sz8 n) n=be (sz8 (n / 256)) (n / 256)++[UInt8.ofNat n]:=by
 rw [sz8_pos h,be_snoc]
open Go.Proofs
theorem rNumP_spec (n:Nat) (hn:n<18446744073709551616):Sp Tryz.prog gl 90 [u n] (.sl (byteRows (numB n))):=by
 refine s90 rfl rfl ?_
 have hlim:lim=140737488355328:=rfl
 have h8:=sz8_le8 n hn
 obtain ⟨R,hR⟩: ∃R,R=be (sz8 n) n:=⟨_,rfl⟩
 have hnb:numB n=UInt8.ofNat (sz8 n)::R:=by rw [hR];rfl
 have hlen:R.length=sz8 n:=by rw [hR,be_len]
 rw [hnb]
 simp -implicitDefEqProofs [c90]
 refine wp_lpk (α:=Nat×List UInt8) (fun x=>⟨[(0,u x.1),(3,.sl (byteRows x.2))],[],[]⟩) (fun x=>x.1<18446744073709551616∧x.2.length+sz8 x.1≤8∧be (sz8 x.1) x.1++x.2=R) (fun x=>x.1) ?_ (n,[]) ?_ ?_
 ·rintro K ⟨m,acc⟩ hK ⟨g1,g2,g3⟩
  simp only at g1 g2 g3
  by_cases h0:m=0
  ·subst h0
   rw [sz8_zero] at g3
   simp only [be,List.nil_append] at g3
   subst g3
   have bl:=byteRows_len acc
   have w1:IntKind.u8.wrap (acc.length:Int)=acc.length:=by rw [wrap_u8]<;>omega
   have e:byteRows (UInt8.ofNat (sz8 n)::acc)=[.int .u8 (acc.length:Nat)]::byteRows acc:=by
    rw [byteRows_cons,←hlen]
    congr 4
    simp;omega
   rw [e]
   have one:=byteRows_one acc
   have q1:1+acc.length≤140737488355328:=by omega
   generalize byteRows acc=A at *
   clear hK e
   simp -implicitDefEqProofs [bl,w1,hlim,q1]
   exact one
  ·have m1:(0:Int)<m:=by omega
   have m2:0<m:=by omega
   rw [be_sz8 h0] at g3
   rw [sz8_pos h0] at g2
   have fin: ∀σ',Weak σ' ⟨[(0,u (m / 256:Nat)),(3,.sl (byteRows (UInt8.ofNat m::acc)))],[],[]⟩→K σ':=
    fun σ' hσ=>hK (m / 256,UInt8.ofNat m::acc) σ' ⟨by simp only;omega,by simp only [List.length_cons];omega,by simp only;rw [←g3];simp⟩ (by simp only;omega) hσ
   have bl:=byteRows_len acc
   have one:=byteRows_one acc
   have q1:1+acc.length≤140737488355328:=by omega
   have w1:IntKind.u8.wrap ((m:Int).tmod 256)=((UInt8.ofNat m).toNat:Int):=by
    rw [Int.tmod_eq_emod_of_nonneg (by omega),wrap_u8 (by omega) (by omega)];simp
   have w2:IntKind.u64.wrap ((m:Int).tdiv 256)=((m / 256:Nat):Int):=by
    rw [Int.tdiv_eq_ediv_of_nonneg (by omega),wrap_u64]<;>omega
   have w3:IntKind.u64.wrap ((m:Int) / 256)=((m / 256:Nat):Int):=by rw [wrap_u64]<;>omega
   rw [byteRows_cons] at fin
   generalize (UInt8.ofNat m).toNat=bb at *
   generalize byteRows acc=A at *
   generalize m / 256=m' at *
   clear hK g3
   simp -implicitDefEqProofs [m1,m2,w1,w2,bl,hlim,q1]
   refine ⟨one,fin _ (weak_mk ?_ ?_ ?_ ?_ ?_ ?_)⟩<;>simp -implicitDefEqProofs [w2,w3]
 ·exact ⟨hn,by simp;omega,by simp [hR]⟩
 ·refine weak_mk ?_ ?_ ?_ ?_ ?_ ?_<;>simp -implicitDefEqProofs [byteRows]
theorem ybucket_spec (Y:Id) (hY:Y.isIt=false) (wd g:Nat) (hwd:Wd wd g) (t:Nat) (L:List Ev) (hE:EvOk L) (hll:L.length≤1000000) (hq: ∀e∈L,e.1≤253402300799) (z:Int) (hs:sm eT (wW wd g) (fun q=>decide ((q:Int)=z)) L≤9223372036854775807) (d:Nat) (hd:Y.isNw d=false):
  SpH Tryz.prog gl 184 d ⟨[.ptr Y 0,i6 z],[(Y,yC wd g t L)],[]⟩ ⟨.agg [u (sm eG (wW wd g) (fun q=>decide ((q:Int)=z)) L),u (sm eT (wW wd g) (fun q=>decide ((q:Int)=z)) L)],[(Y,yC wd g t L)],[]⟩:=by
 refine h184 rfl ?_
 have hi:=inn_notNw hd
 have BS:=rbuckets_spec wd g hwd
 obtain ⟨k1,k2,k3,w1',k5⟩:=wK_ok hwd
 have hdv:(wd:Int).tdiv (wK wd g:Nat)=(wW wd g:Nat):=by
  rw [Int.tdiv_eq_ediv_of_nonneg (by omega)];rfl
 have hwb:wW wd g≤wd:=Nat.div_le_self _ _
 have hGT:=sm_GT (w:=wW wd g) (p:=fun q=>decide ((q:Int)=z)) hE
 have pG:=fun k=>sm_part (v:=eG) (w:=wW wd g) (p:=fun q=>decide ((q:Int)=z)) (L:=L) k
 have pT:=fun k=>sm_part (v:=eT) (w:=wW wd g) (p:=fun q=>decide ((q:Int)=z)) (L:=L) k
 have sG:=fun k h=>sm_take (v:=eG) (w:=wW wd g) (p:=fun q=>decide ((q:Int)=z)) (L:=L) (k:=k) h
 have sT:=fun k h=>sm_take (v:=eT) (w:=wW wd g) (p:=fun q=>decide ((q:Int)=z)) (L:=L) (k:=k) h
 have eGe:sm eG (wW wd g) (fun q=>decide ((q:Int)=z)) L=sm eG (wW wd g) (fun q=>decide ((q:Int)=z)) (L.take L.length):=by rw [List.take_length]
 have eTe:sm eT (wW wd g) (fun q=>decide ((q:Int)=z)) L=sm eT (wW wd g) (fun q=>decide ((q:Int)=z)) (L.take L.length):=by rw [List.take_length]
 have g0:sm eG (wW wd g) (fun q=>decide ((q:Int)=z)) (L.take 0)=0:=rfl
 have t0:sm eT (wW wd g) (fun q=>decide ((q:Int)=z)) (L.take 0)=0:=rfl
 have rl:=evRows_len L
 have r3:=evRows_3 L
 have rat:=evRows_at L
 rw [eGe,eTe]
 clear eGe eTe
 have qb: ∀a:Nat,a≤253402300799→((a:Int).tdiv (wW wd g:Nat))=((a / wW wd g:Nat):Int)∧a / wW wd g≤253402300799:=fun a ha=>by
  refine ⟨by rw [Int.tdiv_eq_ediv_of_nonneg (by omega)];rfl,Nat.le_trans (Nat.div_le_self _ _) ha⟩
 generalize wW wd g=w at *
 generalize hp:(fun q:Nat=>decide ((q:Int)=z))=p at *
 have hpq: ∀q:Nat,p q=decide ((q:Int)=z):=fun q=>by rw [←hp]
 obtain ⟨FG,hFG⟩: ∃F:Nat→Nat,F=fun k=>sm eG w p (L.take k):=⟨_,rfl⟩
 obtain ⟨FT,hFT⟩: ∃F:Nat→Nat,F=fun k=>sm eT w p (L.take k):=⟨_,rfl⟩
 have hG: ∀k,sm eG w p (L.take k)=FG k:=fun k=>by rw [hFG]
 have hT: ∀k,sm eT w p (L.take k)=FT k:=fun k=>by rw [hFT]
 simp only [hG,hT] at pG pT sG sT g0 t0 ⊢
 have bG: ∀k,FG k≤9223372036854775807:=fun k=>Nat.le_trans (pG k) (Nat.le_trans hGT hs)
 have bT: ∀k,FT k≤9223372036854775807:=fun k=>Nat.le_trans (pT k) hs
 clear hG hT hFG hFT pG pT hGT hs hp
 simp only [yC]
 generalize hR:evRows L=rows at *
 have t1:IntKind.i64.wrap (w:Int)=w:=by rw [wrap_i64]<;>omega
 have wz: ¬w=0:=by omega
 have wz': ¬(w:Int)=0:=by omega
 have kz': ¬(wK wd g:Int)=0:=by omega
 have kz: ¬wK wd g=0:=by omega
 generalize wK wd g=Kb at *
 simp only [inSt,mpL,mpB,mpP,AV.mp]
 simp -implicitDefEqProofs [c184]
 refine onC_mk _ BS ?_
 simp -implicitDefEqProofs [kz,kz',hdv,t1]
 refine wp_lpk (α:=Nat) (fun k=>⟨[(0,.ptr (.up Y) 0),(1,i6 z),(4,.ptr (.n 4) 0),(5,i6 w),(6,.ptr (.n 6) 0),(7,i6 k)],[(.n 6,[u (FG k),u (FT k)]),(.n 4,[u 0,u 0]),(.up Y,[i6 wd,i6 g,i6 t,.sl rows])],[]⟩) (fun k=>k≤L.length) (fun k=>L.length - k) ?_ 0 ?_ ?_
 ·intro K k hK k1
  by_cases c:k<L.length
  ·have c':(k:Int)<L.length:=by omega
   have w1:IntKind.i64.wrap ((k:Int)+1)=(k+1:Nat):=by rw [wr]<;>omega
   have kl:k<rows.length:=by omega
   have ew0:=rat k c
   have ew:rows[k]'kl=evRow L[k]:=by rw [List.getElem?_eq_getElem kl] at ew0;exact Option.some.inj ew0
   obtain ⟨q1,q2⟩:=qb L[k].1 (hq L[k] (List.getElem_mem c))
   have e1:=sG k c
   have e2:=sT k c
   have b1:=bG (k+1)
   have b2:=bT (k+1)
   have fin:=fun σ' hσ=>hK (k+1) σ' (by omega) (by omega) hσ
   have ed:evRow L[k]=[i6 L[k].1,u L[k].2.1,u L[k].2.2]:=rfl
   have eg:eG L[k]=L[k].2.1:=rfl
   have et:eT L[k]=L[k].2.2:=rfl
   rw [ed] at ew ew0
   rw [eg] at e1
   rw [et] at e2
   clear hK sG sT bG bT ed eg et hE hq hpq qb
   generalize L[k].1=a at *
   generalize L[k].2.1=cg at *
   generalize L[k].2.2=ct at *
   generalize a / w=q at *
   have t2:IntKind.i64.wrap (q:Int)=q:=by rw [wrap_i64]<;>omega
   have wt:IntKind.i64.wrap ((a:Int).tdiv (w:Int))=q:=by rw [q1];exact t2
   have wt2:IntKind.i64.wrap ((a:Int) / (w:Int))=q:=by rw [←Int.tdiv_eq_ediv_of_nonneg (by omega)];exact wt
   by_cases hz:0≤z
   ·by_cases hqz:(q:Int)=z
    ·have hb:((q:Int)==z)=true:=by rw [hqz];simp
     simp only [hqz,decide_true,if_true] at e1 e2
     have v1:IntKind.u64.wrap ((FG k:Int)+cg)=(FG (k+1):Nat):=by rw [wrap_u64]<;>omega
     have v2:IntKind.u64.wrap ((FT k:Int)+ct)=(FT (k+1):Nat):=by rw [wrap_u64]<;>omega
     clear e1 e2 b1 b2 hqz
     generalize FG (k+1)=G1 at *
     generalize FT (k+1)=T1 at *
     simp -implicitDefEqProofs [rl,c,c',kl,ew,ew0,r3,hz,wz,wz',wt,wt2,hb]
     simp -implicitDefEqProofs [rl,c,c',kl,ew,ew0,r3,v1,v2,w1]
     refine fin _ ?_
     refine weak_mk ?_ ?_ ?_ ?_ ?_ ?_<;>simp -implicitDefEqProofs [w1]
    ·have hb:((q:Int)==z)=false:=by rw [beq_eq_false_iff_ne];exact hqz
     simp only [hqz,decide_false,Bool.false_eq_true,if_false,Nat.add_zero] at e1 e2
     rw [e1,e2] at fin
     simp -implicitDefEqProofs [rl,c,c',kl,ew,ew0,r3,hz,wz,wz',wt,wt2,hb,w1]
     refine fin _ ?_
     refine weak_mk ?_ ?_ ?_ ?_ ?_ ?_<;>simp -implicitDefEqProofs [w1]
   ·have hqz: ¬(q:Int)=z:=by omega
    simp only [hqz,decide_false,Bool.false_eq_true,if_false,Nat.add_zero] at e1 e2
    rw [e1,e2] at fin
    simp -implicitDefEqProofs [rl,c,c',kl,ew,ew0,r3,hz,w1]
    refine fin _ ?_
    refine weak_mk ?_ ?_ ?_ ?_ ?_ ?_<;>simp -implicitDefEqProofs [w1]
  ·obtain rfl:k=L.length:=by omega
   clear hK
   have c': ¬((L.length:Int)<L.length):=by omega
   generalize FG L.length=G1 at *
   generalize FT L.length=T1 at *
   simp -implicitDefEqProofs [rl,c']
   refine postH_r ⟨?_,?_,?_,?_,?_,?_⟩<;>simp -implicitDefEqProofs [hi,hY,hd]
 ·exact Nat.zero_le _
 ·refine weak_mk ?_ ?_ ?_ ?_ ?_ ?_<;>simp -implicitDefEqProofs [g0,t0]
open Go.Proofs
def lsR (K w N:Nat) (L:List Ev) (k:Nat):List (List AV):=(List.range k).map fun i=>[u (bN eG K w N L i),u (bN eT K w N L i)]
theorem lsR_succ (K w N:Nat) (L:List Ev) (k:Nat):lsR K w N L (k+1)=lsR K w N L k++[[u (bN eG K w N L k),u (bN eT K w N L k)]]:=by
 unfold lsR;rw [List.range_succ];simp
theorem lsR_len (K w N:Nat) (L:List Ev) (k:Nat):(lsR K w N L k).length=k:=by simp [lsR]
theorem lsR_2 (K w N:Nat) (L:List Ev) (k:Nat): ∀r∈lsR K w N L k,r.length=2:=by
 intro r hr;simp only [lsR,List.mem_map] at hr;obtain ⟨e,_,rfl⟩:=hr;rfl
theorem lsR_at (K w N:Nat) (L:List Ev) (n k:Nat) (h:k<n):(lsR K w N L n)[k]?=some [u (bN eG K w N L k),u (bN eT K w N L k)]:=by simp [lsR,h]
theorem bz_bN {v:Ev→Nat} {K w N:Nat} {L:List Ev} (i:Nat):sm v w (fun q=>decide ((q:Int)=(N:Int) - K+1+i)) L=bN v K w N L i:=by
 unfold bN
 by_cases c:K≤N+1+i
 ·rw [if_pos c]
  refine sm_congr fun e _=>?_
  generalize e.1 / w=q
  rw [Bool.eq_iff_iff]
  simp only [decide_eq_true_eq,beq_iff_eq]
  omega
 ·rw [if_neg c]
  refine sm_zero fun e _=>?_
  generalize e.1 / w=q
  simp only [decide_eq_false_iff_not]
  omega
theorem ylist_spec (Y:Id) (hY:Y.isIt=false) (wd g:Nat) (hwd:Wd wd g) (t:Nat) (ht:t≤253402300799) (L:List Ev) (hL:EvLe L t) (hE:EvOk L) (hll:L.length≤1000000) (hs:sumT (wK wd g) (wW wd g) (t / wW wd g) L≤9223372036854775807) (d:Nat) (hd:Y.isNw d=false):
  SpH Tryz.prog gl 144 d ⟨[.ptr Y 0],[(Y,yC wd g t L)],[]⟩ ⟨.sl (lsR (wK wd g) (wW wd g) (t / wW wd g) L (wK wd g)),[(Y,yC wd g t L)],[]⟩:=by
 refine h144 rfl ?_
 have hi:=inn_notNw hd
 have BS:=rbuckets_spec wd g hwd
 obtain ⟨k1,k2,k3,w1',k5⟩:=wK_ok hwd
 have hdv:(wd:Int).tdiv (wK wd g:Nat)=(wW wd g:Nat):=by
  rw [Int.tdiv_eq_ediv_of_nonneg (by omega)];rfl
 have hdt:(t:Int).tdiv (wW wd g:Nat)=(t / wW wd g:Nat):=by
  rw [Int.tdiv_eq_ediv_of_nonneg (by omega)];rfl
 have hN:t / wW wd g≤253402300799:=Nat.le_trans (Nat.div_le_self _ _) ht
 have bb:=fun i (hi:i<wK wd g)=>bN_le (v:=eT) (K:=wK wd g) (EvLe.div (w:=wW wd g) hL) hi
 have BK:=fun i (hi:i<wK wd g) e he=>ybucket_spec (.up Y) hY wd g hwd t L hE hll (fun e he=>Nat.le_trans (hL e he) ht) ((t / wW wd g:Nat) - (wK wd g:Nat)+1+i) (by rw [bz_bN];exact Nat.le_trans (bb i hi) hs) e he
 simp only [bz_bN] at BK
 have rs:=lsR_succ (wK wd g) (wW wd g) (t / wW wd g) L
 have rl:=lsR_len (wK wd g) (wW wd g) (t / wW wd g) L
 have r2:=lsR_2 (wK wd g) (wW wd g) (t / wW wd g) L
 have r0:lsR (wK wd g) (wW wd g) (t / wW wd g) L 0=[]:=rfl
 have hlim:lim=140737488355328:=rfl
 clear bb hs hE hL
 generalize t / wW wd g=N at *
 have wz: ¬wW wd g=0:=by omega
 have wz': ¬(wW wd g:Int)=0:=by omega
 have t1:IntKind.i64.wrap (wW wd g:Int)=wW wd g:=by rw [wrap_i64]<;>omega
 have t2:IntKind.i64.wrap (N:Int)=N:=by rw [wrap_i64]<;>omega
 have kz': ¬(wK wd g:Int)=0:=by omega
 have kz: ¬wK wd g=0:=by omega
 simp only [yC] at BK ⊢
 generalize evRows L=rows at *
 generalize hGe:(fun i=>bN eG (wK wd g) (wW wd g) N L i)=FG at *
 generalize hTe:(fun i=>bN eT (wK wd g) (wW wd g) N L i)=FT at *
 have hG: ∀i,bN eG (wK wd g) (wW wd g) N L i=FG i:=fun i=>by rw [←hGe]
 have hT: ∀i,bN eT (wK wd g) (wW wd g) N L i=FT i:=fun i=>by rw [←hTe]
 simp only [hG,hT] at BK rs
 clear hG hT hGe hTe
 generalize wW wd g=w at *
 generalize wK wd g=K at *
 generalize hls:lsR K w N L=ls at *
 clear hls
 simp only [inSt,mpL,mpB,mpP,AV.mp]
 simp -implicitDefEqProofs [c144]
 refine onC_mk _ BS ?_
 simp -implicitDefEqProofs [kz,kz',hdv,t1,wz,wz',hdt,t2]
 refine wp_lpk (α:=Nat) (fun k=>⟨[(0,.ptr (.up Y) 0),(3,i6 K),(4,i6 N),(5,.sl (ls k)),(6,i6 k)],[(.up Y,[i6 wd,i6 g,i6 t,.sl rows])],[(.s 5,2)]⟩) (fun k=>k≤K) (fun k=>K - k) ?_ 0 ?_ ?_
 ·intro K' k hK k1'
  by_cases c:k<K
  ·have c':(k:Int)<K:=by omega
   have w1:IntKind.i64.wrap ((k:Int)+1)=(k+1:Nat):=by rw [wrap_i64]<;>omega
   have v1:IntKind.i64.wrap ((N:Int) - K)=(N:Int) - K:=by rw [wrap_i64]<;>omega
   have v2:IntKind.i64.wrap ((N:Int) - K+1)=(N:Int) - K+1:=by rw [wrap_i64]<;>omega
   have v3:IntKind.i64.wrap ((N:Int) - K+1+k)=(N:Int) - K+1+k:=by rw [wrap_i64]<;>omega
   have BKk:=BK k c
   have fin:=fun σ' hσ=>hK (k+1) σ' (by omega) (by omega) hσ
   rw [rs] at fin
   have rl:=rl k
   have r2:=r2 k
   have l1:(k+1)*16≤140737488355328:=by omega
   clear hK BK rs r0
   generalize ls k=out at *
   generalize FG k=f1 at *
   generalize FT k=f2 at *
   simp -implicitDefEqProofs [c,c',v1,v2,v3]
   refine onH_mk _ _ (BKk _ rfl) ⟨?_,?_,?_,?_,?_,?_,?_⟩ ?_
   iterate 7 (· simp)
   simp -implicitDefEqProofs [hlim,rl,l1,r2,w1]
   refine ⟨r2,fin _ ?_⟩
   refine weak_mk ?_ ?_ ?_ ?_ ?_ ?_<;>simp -implicitDefEqProofs [w1]
  ·obtain rfl:k=K:=by omega
   have c': ¬((k:Int)<k):=by omega
   have c2: ¬k<k:=Nat.lt_irrefl _
   clear hK
   simp -implicitDefEqProofs [c',c2]
   refine postH_r ⟨?_,?_,?_,?_,?_,?_⟩<;>simp -implicitDefEqProofs [hi,hY,hd]
 ·exact Nat.zero_le _
 ·refine weak_mk ?_ ?_ ?_ ?_ ?_ ?_<;>simp -implicitDefEqProofs [r0]
theorem yput_spec (Y:Id) (hY:Y.isIt=false) (wd g:Nat) (hwd:Wd wd g) (t:Nat) (ht:t≤253402300799) (L:List Ev) (hL:EvLe L t) (hE:EvOk L) (hll:L.length≤1000000) (hs:sumT (wK wd g) (wW wd g) (t / wW wd g) L≤9223372036854775807) (d:Nat) (hd:Y.isNw d=false):
  SpH Tryz.prog gl 91 d ⟨[.ptr Y 0],[(Y,yC wd g t L)],[]⟩ ⟨.sl (byteRows (ringB (wK wd g) (wW wd g) (t / wW wd g) L)),[(Y,yC wd g t L)],[]⟩:=by
 refine h91 rfl ?_
 have hi:=inn_notNw hd
 have LS:=ylist_spec (.up Y) hY wd g hwd t ht L hL hE hll hs 7 rfl
 obtain ⟨k1,k2,k3,w1',k5⟩:=wK_ok hwd
 have bb:=fun i (hi:i<wK wd g)=>bN_le (v:=eT) (K:=wK wd g) (EvLe.div (w:=wW wd g) hL) hi
 have bg:=fun i (hi:i<wK wd g)=>bN_le (v:=eG) (K:=wK wd g) (EvLe.div (w:=wW wd g) hL) hi
 have hGT:=sm_GT (w:=wW wd g) (p:=inW (wK wd g) (t / wW wd g)) hE
 unfold sumT at hs
 have hb: ∀i,i<wK wd g→bN eG (wK wd g) (wW wd g) (t / wW wd g) L i<18446744073709551616∧bN eT (wK wd g) (wW wd g) (t / wW wd g) L i<18446744073709551616:=fun i hi=>by
  have:=bb i hi
  have:=bg i hi
  omega
 have lr:=fun k h=>lsR_at (wK wd g) (wW wd g) (t / wW wd g) L (wK wd g) k h
 have ll:=lsR_len (wK wd g) (wW wd g) (t / wW wd g) L (wK wd g)
 have l2:=lsR_2 (wK wd g) (wW wd g) (t / wW wd g) L (wK wd g)
 have hlim:lim=140737488355328:=rfl
 unfold ringB
 clear bb bg hGT hs hL hE
 simp only [yC] at LS ⊢
 generalize evRows L=rows at *
 generalize bN eG (wK wd g) (wW wd g) (t / wW wd g) L=FG at *
 generalize bN eT (wK wd g) (wW wd g) (t / wW wd g) L=FT at *
 generalize lsR (wK wd g) (wW wd g) (t / wW wd g) L (wK wd g)=ls at *
 generalize wK wd g=K at *
 have cl:=fun k (hk:k≤K)=>cntB_len (f:=FG) (g:=FT) (n:=k) (fun i hi=>hb i (by omega))
 simp only [inSt,mpL,mpB,mpP,AV.mp]
 simp -implicitDefEqProofs [c91]
 refine onH_mk _ _ (LS) ⟨?_,?_,?_,?_,?_,?_,?_⟩ ?_
 iterate 7 (· simp)
 simp -implicitDefEqProofs
 refine wp_lpk (α:=Nat) (fun k=>⟨[(0,.ptr (.up Y) 0),(3,.sl ls),(4,.sl (byteRows (cntB FG FT k))),(5,i6 k)],[(.up Y,[i6 wd,i6 g,i6 t,.sl rows])],[(.s 4,1)]⟩) (fun k=>k≤K) (fun k=>K - k) ?_ 0 ?_ ?_
 ·intro K' k hK k1'
  by_cases c:k<K
  ·have c':(k:Int)<K:=by omega
   have w1:IntKind.i64.wrap ((k:Int)+1)=(k+1:Nat):=by rw [wrap_i64]<;>omega
   have kl:k<ls.length:=by omega
   have ew0:=lr k c
   have ew:ls[k]'kl=[u (FG k),u (FT k)]:=by rw [List.getElem?_eq_getElem kl] at ew0;exact Option.some.inj ew0
   obtain ⟨h1,h2⟩:=hb k c
   have N1:=rNumP_spec (FG k) h1
   have N2:=rNumP_spec (FT k) h2
   have b0:=cl k (by omega)
   have n1:=numB_len _ h1
   have n2:=numB_len _ h2
   have fin:=fun σ' hσ=>hK (k+1) σ' (by omega) (by omega) hσ
   have e1:byteRows (cntB FG FT (k+1))=byteRows (cntB FG FT k)++byteRows (numB (FG k))++byteRows (numB (FT k)):=by
    rw [cntB,byteRows_app,byteRows_app,List.append_assoc]
   rw [e1] at fin
   have r1:=byteRows_len (cntB FG FT k)
   have r2:=byteRows_len (numB (FG k))
   have r3:=byteRows_len (numB (FT k))
   have o1:=byteRows_one (cntB FG FT k)
   have o2:=byteRows_one (numB (FG k))
   have o3:=byteRows_one (numB (FT k))
   have q1:(cntB FG FT k).length+(numB (FG k)).length≤140737488355328:=by omega
   have q2:(cntB FG FT k).length+(numB (FG k)).length+(numB (FT k)).length≤140737488355328:=by omega
   clear hK e1 lr hb cl
   generalize byteRows (cntB FG FT k)=A at *
   generalize byteRows (numB (FG k))=B1 at *
   generalize byteRows (numB (FT k))=B2 at *
   generalize (cntB FG FT k).length=a at *
   generalize (numB (FG k)).length=a1 at *
   generalize (numB (FT k)).length=a2 at *
   generalize FG k=f1 at *
   generalize FT k=f2 at *
   simp -implicitDefEqProofs [ll,c,c',kl,ew,ew0,l2]
   refine onC_mk _ N1 ?_
   simp -implicitDefEqProofs [hlim,r1,r2,q1]
   refine ⟨o1,o2,?_⟩
   simp -implicitDefEqProofs [ll,c,c',kl,ew,ew0,l2]
   refine onC_mk _ N2 ?_
   simp -implicitDefEqProofs [hlim,r1,r2,r3,q1,q2]
   refine ⟨fun r hr=>hr.elim (o1 r) (o2 r),o3,fin _ ?_⟩
   refine weak_mk ?_ ?_ ?_ ?_ ?_ ?_<;>simp -implicitDefEqProofs [w1]
  ·obtain rfl:k=K:=by omega
   have c': ¬((k:Int)<k):=by omega
   have c2: ¬k<k:=Nat.lt_irrefl _
   clear hK
   simp -implicitDefEqProofs [ll,c',c2]
   refine postH_r ⟨?_,?_,?_,?_,?_,?_⟩<;>simp -implicitDefEqProofs [hi,hY,hd]
 ·exact Nat.zero_le _
 ·refine weak_mk ?_ ?_ ?_ ?_ ?_ ?_<;>simp -implicitDefEqProofs [cntB,byteRows]
end Go.Ai
