/- P20: a part of the proof: the rules, or what functions compute. Conditions: as each theorem says. -/
import Derived.Test.YtidcomakahbepaaGreatDoorP19
import Derived.Test.YtidcomakahbepaaGreatDoorP11
import Derived.Test.YtidcomakahbepaaGreatDoorP18
import Derived.Test.YtidcomakahbepaaGreatDoorP17
import Derived.Test.YtidcomakahbepaaGreatDoorP14
set_option linter.unusedSimpArgs false
set_option linter.unusedVariables false
set_option maxRecDepth 20000
namespace Go.Ai
open Go.Proofs
theorem byc_app (a b:List UInt8):(byteRows a).flatten++(byteRows b).flatten=(byteRows (a++b)).flatten:=by rw [byteRows_app,List.flatten_append]
theorem byc_len (a:List UInt8):(byteRows a).flatten.length=a.length:=by
 induction a with
 |nil=>rfl
 |cons b r ih=>rw [byteRows_cons,List.flatten_cons,List.length_append,ih,List.length_cons];simp;omega
theorem byc_ids (a:List UInt8):idsL (byteRows a).flatten=[]:=by
 induction a with
 |nil=>rfl
 |cons b r ih=>rw [byteRows_cons,List.flatten_cons];simp [idsL,AV.ids,ih]
theorem ringB_len {K w N:Nat} {L:List Ev} (hK:K≤60) (h: ∀i,i<K→bN eG K w N L i<18446744073709551616∧bN eT K w N L i<18446744073709551616):(ringB K w N L).length≤1080:=by
 have:=cntB_len h
 unfold ringB;omega
theorem bN_lt {K w t:Nat} {L:List Ev} (hL:EvLe L t) (hE:EvOk L) (hs:sumT K w (t / w) L≤9223372036854775807) {i:Nat} (hi:i<K):bN eG K w (t / w) L i<18446744073709551616∧bN eT K w (t / w) L i<18446744073709551616:=by
 have b1:=bN_le (v:=eT) (K:=K) (EvLe.div (w:=w) hL) hi
 have b2:=bN_le (v:=eG) (K:=K) (EvLe.div (w:=w) hL) hi
 have b3:=sm_GT (w:=w) (p:=inW K (t / w)) hE
 unfold sumT at hs
 omega
theorem ringsD_len {K w:Nat→Nat} {t:Nat} {L:List Ev} {n:Nat} (hk:KwOk n K w) (hL:LOk n K w t L): ∀ {k:Nat},k≤n→(ringsD K w t L k).length≤1080*k
 |0,_=>Nat.le_refl _
 |k+1,hk'=>by
  have h1:=ringsD_len hk hL (k:=k) (by omega)
  have h2:=ringB_len (hk.k2 k (by omega)) (fun i hi=>bN_lt (K:=K k) (w:=w k) hL.le hL.ok (hL.sm k (by omega)) hi)
  rw [ringsD,List.length_append];omega
theorem xput_loop (X:Id) (hX:X.isIt=false) (x:Gl) (hl:x.ru.length≤10) (n g:Nat) (hn:n≤100) (wd:Nat→Nat) (hw:WdOk x n g wd) (t:Nat) (ht:t≤253402300799) (sd:Bool) (L:List Ev) (hL:LOk n (fun i=>wK (wd i) g) (fun i=>wW (wd i) g) t L) (hll:L.length≤1000000) (pre:List UInt8) (hp:pre.length≤1000) (d:Nat) (hd:X.isNw d=false)
  (b0:Id) (hb0:b0= .n 7∨b0= .n 31) (e:List (Nat×AV)) (bx:List (Id×List AV)) (pm:List (Pl×Nat)) (e0:lk e 0= .ptr (.up X) 0) (e3:lk e 3= .ms b0 0 pre.length 1) (b1:lkB bx b0=some (byteRows pre).flatten) (b2:lkB bx (.up X)=some (xC x t sd L)) (p1:lkP pm (.b (.up X) 10)=some 3) (ps: ∀j,dlS pm j=pm):
  wpA (SpH Tryz.prog gl) (AC.tl 4 c38) (postH d [.t 2] ⟨.sl (byteRows (pre++ringsD (fun i=>wK (wd i) g) (fun i=>wW (wd i) g) t L n)),[(X,xC x t sd L)],[(.b X 10,3)]⟩) ⟨e,bx,pm⟩:=by
 have hi:=inn_notNw hd
 have WS:=rwin_spec x hl
 obtain ⟨hWl,hW1⟩:=hw.rows
 have hWa:=hw.at
 have RS:=fun v e he=>xring_spec (.up X) hX x g hw.gg t sd L v e he
 have PS:=fun k hk e=>yput_spec (.nw 49 (.n 20)) rfl (wd k) g (hw.wd k hk).2 t ht L hL.le hL.ok hll (hL.sm k hk) e
 have rD:=fun k=>show ringsD (fun i=>wK (wd i) g) (fun i=>wW (wd i) g) t L (k+1)=ringsD (fun i=>wK (wd i) g) (fun i=>wW (wd i) g) t L k++ringB (wK (wd k) g) (wW (wd k) g) (t / wW (wd k) g) L from rfl
 have r0:ringsD (fun i=>wK (wd i) g) (fun i=>wW (wd i) g) t L 0=[]:=rfl
 have rl:=fun k hk=>ringsD_len hw.kw hL (k:=k) hk
 have bl:=fun k (hk:k<n)=>ringB_len (hw.kw.k2 k hk) (fun i hi=>bN_lt (K:=wK (wd k) g) (w:=wW (wd k) g) hL.le hL.ok (hL.sm k hk) hi)
 have hlim:lim=140737488355328:=rfl
 generalize ringsD (fun i=>wK (wd i) g) (fun i=>wW (wd i) g) t L=Q at *
 generalize intRows (winP x)=W at *
 simp only [Gl.row] at WS
 simp only [xC,yC] at RS PS b2 ⊢
 generalize evRows L=rows at *
 obtain ⟨nm,hnm⟩: ∃nm:Nat→Id,nm=fun k=>if k=0 then b0 else .n 51:=⟨_,rfl⟩
 have n0:nm 0=b0:=by rw [hnm];rfl
 have n1: ∀k,nm (k+1)= .n 51:=fun k=>by rw [hnm];rfl
 have nf: ∀k,nm k= .n 7∨nm k= .n 31∨nm k= .n 51:=fun k=>by
  rw [hnm]
  by_cases h:k=0
  ·rcases hb0 with e|e
   ·left;simp only [h,e,if_true]
   ·right;left;simp only [h,e,if_true]
  ·right;right;simp only [h,if_false]
 simp only [c38,AC.tl]
 simp -implicitDefEqProofs [e0,e3,b2,ps]
 refine onC_mk _ WS ?_
 simp -implicitDefEqProofs [ps]
 refine wp_lpk (α:=Nat) (fun k=>⟨[(0,.ptr (.up X) 0),(3,.ms (nm k) 0 (pre.length+(Q k).length) 1),(5,.sl W),(6,i6 k)],[(nm k,(byteRows (pre++Q k)).flatten),(.up X,[.str x.n,.int .u32 x.t,i6 x.g,i6 x.a,i6 x.o,i6 x.c,.sl (x.lb.map Lb.row),.sl (x.ru.map Ru.row),i6 t,.bool sd,.sl rows])],[(.b (.up X) 10,3)]⟩) (fun k=>k≤n) (fun k=>n - k) ?_ 0 ?_ ?_
 ·intro K k hK k1
  obtain ⟨f1,f2,f3,f4,f5⟩:(nm k).isUp=false∧(nm k).isIt=false∧(∀j,(nm k).isNw j=false)∧(∀j,¬nm k= .up j)∧(∀i j,¬nm k= .nw i j):=by
   rcases nf k with e|e|e<;>rw [e]<;>exact ⟨rfl,rfl,fun _=>rfl,fun _ q=>(by cases q),fun _ _ q=>(by cases q)⟩
  have f6: ∀j,¬Id.up j=nm k:=fun j q=>f4 j q.symm
  have f7: ∀i j,¬Id.nw i j=nm k:=fun i j q=>f5 i j q.symm
  have ci:=byc_ids (pre++Q k)
  have cl:=byc_len (pre++Q k)
  rw [List.length_append] at cl
  have rlk:=rl k k1
  by_cases c:k<n
  ·have c':(k:Int)<n:=by omega
   have w1:IntKind.i64.wrap ((k:Int)+1)=(k+1:Nat):=by rw [wrap_i64]<;>omega
   have kl:k<W.length:=by omega
   have ew0:=hWa k c
   have ew:W[k]'kl=[i6 ((wd k:Nat):Int)]:=by rw [List.getElem?_eq_getElem kl] at ew0;exact Option.some.inj ew0
   have RSk:=RS (wd k) 49
   have PSk:=PS k c 50
   have fin:=fun σ' hσ=>hK (k+1) σ' (by omega) (by omega) hσ
   have blk:=bl k c
   simp only [n1,rD,←List.append_assoc] at fin
   generalize ringB (wK (wd k) g) (wW (wd k) g) (t / wW (wd k) g) L=rb at *
   have c1:(byteRows (pre++Q k)).flatten++(byteRows rb).flatten=(byteRows (pre++Q k++rb)).flatten:=byc_app _ _
   have o1:=byteRows_one rb
   have r1:=byteRows_len rb
   have sz:pre.length+(Q k).length+rb.length≤140737488355328:=by omega
   have sz2:pre.length+((Q k).length+rb.length)≤140737488355328:=by omega
   have ci2:=byc_ids (pre++Q k++rb)
   simp only [List.length_append,←Nat.add_assoc] at fin
   clear hK RS PS rD rl bl hWa
   generalize nm k=b at *
   generalize (byteRows (pre++Q k)).flatten=CS at *
   generalize (byteRows (pre++Q k++rb)).flatten=CS2 at *
   generalize byteRows rb=RB at *
   generalize (Q k).length=ql at *
   generalize pre.length=pl at *
   generalize rb.length=rbl at *
   simp -implicitDefEqProofs [c,c',kl,ew,ew0,hWl,hW1]
   refine onH_mk _ _ (RSk (by rfl)) ⟨?_,?_,?_,?_,?_,?_,?_⟩ ?_
   iterate 7 (· simp [f3,f4,f5,f6,f7])
   simp -implicitDefEqProofs [f3,f4,f5,f6,f7]
   refine onH_mk _ _ (PSk rfl) ⟨?_,?_,?_,?_,?_,?_,?_⟩ ?_
   iterate 7 (· simp [f3,f4,f5,f6,f7])
   simp -implicitDefEqProofs [f1,f2,f3,f4,f5,f6,f7]
   refine ⟨cl,by rw [ci];simp,by rw [r1,hlim];exact sz,o1,?_⟩
   simp only [r1,c1,w1]
   refine fin _ ?_
   refine weak_mk ?_ ?_ ?_ ?_ ?_ ?_<;>simp -implicitDefEqProofs [w1,ci2]
  ·obtain rfl:k=n:=by omega
   have c': ¬((k:Int)<k):=by omega
   have c2: ¬k<k:=Nat.lt_irrefl _
   have br:=byteRows_len (pre++Q k)
   have bo:=byteRows_one (pre++Q k)
   rw [List.length_append] at br
   clear hK
   generalize nm k=b at *
   simp -implicitDefEqProofs [hWl,c',c2]
   refine postH_fr 2 b (pre.length+(Q k).length) 1 (byteRows (pre++Q k)) ⟨?_,?_,?_,?_,?_,?_,?_⟩ ?_
   ·simp
   ·simp
   ·exact f1
   ·exact br
   ·exact bo
   ·exact ci
   ·simp [f4,f6]
   ·refine ⟨?_,?_,?_,?_,?_,?_⟩<;>simp -implicitDefEqProofs [hi,hX,f4,f6]
 ·exact Nat.zero_le _
 ·refine weak_mk ?_ ?_ ?_ ?_ ?_ ?_
  ·simp [e0,e3,n0,r0]
  ·simp [n0,r0,b1,b2]
  ·simp [p1]
  ·simp [n0]
  ·simp [byc_ids]
  ·rw [n0]
   rcases hb0 with e|e<;>rw [e]<;>simp -implicitDefEqProofs
open Go.Proofs
def docB (c:Int) (sd:Bool) (t:Nat) (L:List Ev) (K w:Nat→Nat) (n:Nat):List UInt8:=flagB sd++(calB c (pcG c t L) (pcT c t L)++ringsD K w t L n)
theorem xput_spec (X:Id) (hX:X.isIt=false) (x:Gl) (hc:0≤x.c) (hl:x.ru.length≤10) (n g:Nat) (hn:n≤100) (wd:Nat→Nat) (hw:WdOk x n g wd) (t:Nat) (ht:t≤253402300799) (sd:Bool) (L:List Ev) (hL:LOk n (fun i=>wK (wd i) g) (fun i=>wW (wd i) g) t L) (hP:pcT x.c t L≤9223372036854775807) (hll:L.length≤1000000) (d:Nat) (hd:X.isNw d=false):
  SpH Tryz.prog gl 38 d ⟨[.ptr X 0],[(X,xC x t sd L)],[(.b X 10,3)]⟩ ⟨.sl (byteRows (docB x.c sd t L (fun i=>wK (wd i) g) (fun i=>wW (wd i) g) n)),[(X,xC x t sd L)],[(.b X 10,3)]⟩:=by
 refine h38 rfl ?_
 have hGT:=pc_GT (c:=x.c) (t:=t) hL.ok
 have CO:=xcount_spec (.up X) hX x hc t ht sd L hL.ok hll hP 21 rfl
 have LP:=fun pre hp b0 hb0 e bx pm=>xput_loop X hX x hl n g hn wd hw t ht sd L hL hll pre hp d hd b0 hb0 e bx pm
 have N1:=rNumP_spec (pcG x.c t L) (by omega)
 have N2:=rNumP_spec (pcT x.c t L) (by omega)
 have n1:=numB_len (pcG x.c t L) (by omega)
 have n2:=numB_len (pcT x.c t L) (by omega)
 have hlim:lim=140737488355328:=rfl
 have hassoc:docB x.c sd t L (fun i=>wK (wd i) g) (fun i=>wW (wd i) g) n=(flagB sd++calB x.c (pcG x.c t L) (pcT x.c t L))++ringsD (fun i=>wK (wd i) g) (fun i=>wW (wd i) g) t L n:=by rw [docB,List.append_assoc]
 rw [hassoc]
 have hfl:(byteRows (flagB sd)).flatten=[.int .u8 (if sd=true then 1 else 0)]:=by cases sd<;>rfl
 have ec:c38=AC.cutAt 4 (AC.tl 4 c38) c38:=rfl
 rw [ec]
 generalize AC.tl 4 c38=t0 at LP ⊢
 simp only [xC] at CO LP ⊢
 generalize evRows L=rows at *
 simp only [inSt,mpL,mpB,mpP,AV.mp,Pl.mp]
 simp only [c38,AC.cutAt]
 by_cases c0:x.c=0
 ·have g1: ¬0<x.c:=by omega
  have e0:calB x.c (pcG x.c t L) (pcT x.c t L)=[]:=if_pos c0
  rw [e0,List.append_nil]
  have LP:=LP (flagB sd) (by simp [flagB]) (.n 7) (.inl rfl)
  cases sd with
  |false=>
   simp -implicitDefEqProofs [g1]
   refine LP _ _ _ ?_ ?_ ?_ ?_ ?_ ?_<;>simp -implicitDefEqProofs [hfl]
   rfl
  |true=>
   simp -implicitDefEqProofs [g1]
   refine LP _ _ _ ?_ ?_ ?_ ?_ ?_ ?_<;>simp -implicitDefEqProofs [hfl]
   rfl
 ·have g1:0<x.c:=by omega
  have e0:calB x.c (pcG x.c t L) (pcT x.c t L)=numB (pcG x.c t L)++numB (pcT x.c t L):=if_neg c0
  rw [e0,←List.append_assoc]
  have LP:=LP ((flagB sd++numB (pcG x.c t L))++numB (pcT x.c t L)) (by simp only [List.length_append];simp [flagB];omega) (.n 31) (.inr rfl)
  rw [←byc_app,←byc_app,hfl] at LP
  have r1:=byteRows_len (numB (pcG x.c t L))
  have r2:=byteRows_len (numB (pcT x.c t L))
  have o1:=byteRows_one (numB (pcG x.c t L))
  have o2:=byteRows_one (numB (pcT x.c t L))
  have i1:=byc_ids (numB (pcG x.c t L))
  have l1:=byc_len (numB (pcG x.c t L))
  have fl:(flagB sd++numB (pcG x.c t L)++numB (pcT x.c t L)).length=1+(numB (pcG x.c t L)).length+(numB (pcT x.c t L)).length:=by simp only [List.length_append];simp [flagB]
  rw [fl] at LP
  generalize (byteRows (flagB sd++numB (pcG x.c t L)++numB (pcT x.c t L)++ringsD (fun i=>wK (wd i) g) (fun i=>wW (wd i) g) t L n))=RES at *
  generalize byteRows (numB (pcG x.c t L))=B1 at *
  generalize byteRows (numB (pcT x.c t L))=B2 at *
  generalize (numB (pcG x.c t L)).length=q1 at *
  generalize (numB (pcT x.c t L)).length=q2 at *
  have q3:1+q1≤140737488355328:=by omega
  have q4:1+q1+q2≤140737488355328:=by omega
  cases sd with
  |false=>
   simp -implicitDefEqProofs [g1]
   refine onH_mk _ _ (CO) ⟨?_,?_,?_,?_,?_,?_,?_⟩ ?_
   iterate 7 (· simp)
   simp -implicitDefEqProofs
   refine onC_mk _ N1 ?_
   simp -implicitDefEqProofs [r1,hlim,q3,o1]
   refine ⟨o1,?_⟩
   refine onC_mk _ N2 ?_
   simp -implicitDefEqProofs [r2,hlim,q4,o2,i1,l1]
   refine ⟨by omega,o2,LP _ _ _ ?_ ?_ ?_ ?_ ?_ ?_⟩<;>simp -implicitDefEqProofs
  |true=>
   simp -implicitDefEqProofs [g1]
   refine onH_mk _ _ (CO) ⟨?_,?_,?_,?_,?_,?_,?_⟩ ?_
   iterate 7 (· simp)
   simp -implicitDefEqProofs
   refine onC_mk _ N1 ?_
   simp -implicitDefEqProofs [r1,hlim,q3,o1]
   refine ⟨o1,?_⟩
   refine onC_mk _ N2 ?_
   simp -implicitDefEqProofs [r2,hlim,q4,o2,i1,l1]
   refine ⟨by omega,o2,LP _ _ _ ?_ ?_ ?_ ?_ ?_ ?_⟩<;>simp -implicitDefEqProofs
open Go.Proofs
theorem mtG_congr {M A:Id} {R B:Nat→Id} {c:List AV} {n:Nat} {C C':Nat→Id→List AV} {D D':Nat→List AV} (h: ∀i,i<n→C i=C' i∧D i=D' i):mtG M A R B c n C D=mtG M A R B c n C' D':=by
 unfold mtG;rw [rgsB_congr h]
theorem docB_metB {c:Int} {sd:Bool} {t:Nat} {L:List Ev} {K w:Nat→Nat} {n:Nat} (hL:EvLe L t):docB c sd t L K w n=metB c sd (pcG c t L) (pcT c t L) K (fun i=>t / w i) (fG K w t L) (fT K w t L) n:=by
 unfold docB metB;rw [ringsD_eq hL]
theorem mget_put (x:Gl) {t:Nat} (ht:t≤253402300799) {L:List Ev} {sd:Bool} (hk:KwOk (winP x).length (kN x) (wN x)) (hL:LOk (winP x).length (kN x) (wN x) t L) (hP:pcT x.c t L≤9223372036854775807) {st:RS} (hst:st=some (docB x.c sd t L (kN x) (wN x) (winP x).length)):
  cntOk x.c st∧(∀i,i<(winP x).length→ringsOk x t st i)∧ ∀d c W fr tt,mgO d c x (winP x).length W fr tt (mhG x.c st) (mhT x.c st) t (flagN st).2 (kN x) (wN x) (mhS x.c st)=⟨.ptr (qM d) 0,(c,rdv (some []))::mtG (qM d) (qA d) (qR d) (qB d) (mtC x (qA d) (winP x).length W fr tt (pcG x.c t L) (pcT x.c t L) t sd) (winP x).length (gC (kN x) (wN x) (fun i=>t / wN x i) t (fun i=>sumG (kN x i) (wN x i) (t / wN x i) L) (fun i=>sumT (kN x i) (wN x i) (t / wN x i) L)) (gD (kN x) (fun i=>bkv eG (kN x i) (wN x i) (inW (kN x i) (t / wN x i)) L) (fun i=>bkv eT (kN x i) (wN x i) (inW (kN x i) (t / wN x i)) L)),[]⟩:=by
 have gk:=gk_of hk ht hL
 have hGT:=pc_GT (c:=x.c) (t:=t) hL.ok
 rw [docB_metB hL.le,metB] at hst
 obtain ⟨e1,e2,e3,e4⟩:=mh_put x.c sd (cg:=pcG x.c t L) (ct:=pcT x.c t L) (by omega) (by omega) (fun h=>by rw [h];exact pc_zero) (ringsB (kN x) (fun i=>t / wN x i) (fG (kN x) (wN x) t L) (fT (kN x) (wN x) t L) (winP x).length)
 rw [←hst] at e1 e2 e3 e4
 have key: ∀i,i<(winP x).length→RingOk (kN x i) (t / wN x i) (mrS (kN x) (mhS x.c st) i)∧suT (rdG (mrS (kN x) (mhS x.c st) i)) (kN x i)=sumG (kN x i) (wN x i) (t / wN x i) L∧suT (rdT (mrS (kN x) (mhS x.c st) i)) (kN x i)=sumT (kN x i) (wN x i) (t / wN x i) L∧cellsF (kN x i) (bkG (kN x i) (t / wN x i) (rdG (mrS (kN x) (mhS x.c st) i)) (kN x i)) (bkG (kN x i) (t / wN x i) (rdT (mrS (kN x) (mhS x.c st) i)) (kN x i))=bkC (kN x i) (wN x i) (t / wN x i) L:=by
  intro i hi
  obtain ⟨r,hr⟩:=mr_put gk hi []
  rw [List.append_nil] at hr
  have q:=ring_got (K:=kN x i) (w:=wN x i) (N:=t / wN x i) (hk.k1 i hi) hL.ok (EvLe.div hL.le) (hL.sm i hi) (r:=r) (st:=mrS (kN x) (mhS x.c st) i) (by rw [e2];exact hr)
  exact ⟨q.1,q.2.1,q.2.2.1,q.2.2.2.1⟩
 refine ⟨⟨by rw [e3,e4];exact hGT,by rw [e4];exact hP⟩,fun i hi=>(key i hi).1,fun d c W fr tt=>?_⟩
 unfold mgO
 have e5:mrS (kN x) (mhS x.c st) (winP x).length=some []:=by
  have:=mrS_put gk (k:=(winP x).length) (Nat.le_refl _) []
  rw [List.append_nil] at this
  rw [e2];exact this
 rw [e1,e3,e4,e5]
 refine congrArg (fun l=>(⟨.ptr (qM d) 0,(c,rdv (some []))::l,[]⟩:Out)) (mtG_congr fun i hi=>?_)
 obtain ⟨-,q1,q2,q3⟩:=key i hi
 refine ⟨?_,?_⟩
 ·funext b
  unfold gC qG qT
  rw [q1,q2]
 ·exact q3
theorem mget_back (x:Gl) (hf:x.Fit) (hl':x.ru.length≤10) (hx:goalP x=true) (s:Mt) (k:Nat) (hs:MtOk x (winP x).length (kN x) (wN x) s k) (d:Nat) (c:Id) (hc:c.isIt=false) (hd:c.isNw d=false)
  (hb:(docB x.c s.sd s.t s.L (kN x) (wN x) (winP x).length).length≤1000000):
  SpH Tryz.prog gl 29 d ⟨[.ptr c 0,.agg x.row,i6 s.t],[(c,rdv (some (docB x.c s.sd s.t s.L (kN x) (wN x) (winP x).length)))],[]⟩ ⟨.ptr (qM d) 0,(c,rdv (some []))::mtB (qM d) (qA d) (qR d) (qB d) x (winP x).length (intRows (winP x)) (kN x) (wN x) s.t s.L s.sd,[]⟩:=by
 obtain ⟨q1,q2,q3⟩:=mget_put x hs.t (goal_k hx hl') hs.L hs.P rfl
 refine mget_any x hf hl' hx s.t hs.t _ (fun b e=>by cases e;exact hb) d c hc hd _ (fun h=>absurd q1 h) (fun _ _=>?_) (fun _ i hi h=>absurd (q2 i hi) h)
 rw [q3,mtB_mtG]
open Go.Proofs
def xa:Gl:=⟨[97],5,10,10,0,0,[],[⟨[114],false,100,10,1,0,0⟩]⟩
theorem xa_goal:goalP xa=true:=by decide+kernel
theorem xa_win:winP xa=[10,100]:=by
 refine rising_ext (winP_rising xa) (by unfold Rising;decide) fun z=>?_
 rw [winP_mem]
 have e:allW xa=[100,10]:=by decide+kernel
 rw [e]
 simp only [List.mem_cons,List.not_mem_nil,or_false]
 exact or_comm
theorem xa_k:kN xa 0=1∧kN xa 1=10∧wN xa 0=10∧wN xa 1=10:=by
 unfold kN wN wdN gN
 rw [xa_win]
 decide+kernel
theorem xa_fit:xa.Fit:=⟨by decide,by decide,by decide,fun y hy=>by simp [xa] at hy,fun y hy=>by
 simp only [xa,List.mem_singleton] at hy
 subst hy;simp [ruFit]⟩
theorem xa_room:roomB 0 2 (kN xa) (wN xa) 100 [] 90 2=true:=by
 obtain ⟨k0,k1,w0,w1⟩:=xa_k
 have e:List.range 2=[0,1]:=rfl
 unfold roomB okW
 rw [e]
 simp only [List.all_cons,List.all_nil,k0,k1,w0,w1]
 decide+kernel
theorem xa_see:wndV (winP xa) (kN xa) (wN xa) 100 [(90,1,2)] false 100= .tup [.agg [u 1,u 2],i6 0]:=by
 obtain ⟨k0,k1,w0,w1⟩:=xa_k
 have b:bsI [10,100] 100=1:=by decide+kernel
 have m:(100:Int)∈([10,100]:List Int):=by decide
 have g:sumG 10 10 (100 / 10) [(90,1,2)]=1:=by decide+kernel
 have t:sumT 10 10 (100 / 10) [(90,1,2)]=2:=by decide+kernel
 unfold wndV
 rw [xa_win,b,k1,w1,if_pos m,if_neg (by simp),g,t]
theorem xa_ok0:MtOk xa 2 (kN xa) (wN xa) ⟨100,[],false⟩ 0:=by
 have:=mvT_ok (mt0_ok xa 2 (kN xa) (wN xa)) 100
 exact this
open Go.Proofs
theorem sph_nz {P:Program} {GL:List (Nat×List Value)} {f d:Nat} {vs us:List AV} {bx:List (Id×List AV)} {pm:List (Pl×Nat)} {O:Out} (h:SpH P GL f d ⟨us,bx,pm⟩ O) (e:nzL vs=us):SpH P GL f d ⟨vs,bx,pm⟩ O:=by
 subst e
 rw [sph_eq] at h ⊢
 intro S gb w ws hp hr hg hn
 have this:=h S gb w ws (PRlist_nz _ _ hp) hr hg hn
 have hm: ∀v w',(∃S' gb',PostR d ⟨nzL vs,bx,pm⟩ O S gb (fun t=>ws.getD t undef) w S' gb' v w')→ ∃S' gb',PostR d ⟨vs,bx,pm⟩ O S gb (fun t=>ws.getD t undef) w S' gb' v w':=by
  rintro v w' ⟨S',gb',q⟩
  exact ⟨S',gb',q.bw,q.ext,q.le,q.same,q.nw,q.r,q.hr,q.newb,q.newo⟩
 unfold Does at this ⊢
 split at this
 ·exact hm _ _ this
 ·exact this.mono (fun e w' ⟨v,h1,h2⟩=>⟨v,h1,hm _ _ h2⟩)
 ·exact this
theorem mawake_spec:Sp Tryz.prog gl 12 [] (.bool true):=by
 refine s12 rfl rfl ?_
 have hk:KwOk 2 (kN xa) (wN xa):=by
  have:=goal_k xa_goal (by decide)
  rw [xa_win] at this;exact this
 have hw:=goal_wd xa_goal (by decide)
 have hn2:(winP xa).length=2:=by rw [xa_win];rfl
 have N1:SpH Tryz.prog gl 35 14 ⟨[.agg xa.row],[],[]⟩ ⟨.tup [.ptr (.nw 14 (.n 16)) 0,i6 0],mtB (.nw 14 (.n 16)) (.nw 14 (.n 40)) (fun i=> .nw 14 (R0 i)) (fun i=> .nw 14 (B0 i)) xa 2 (intRows (winP xa)) (kN xa) (wN xa) 0 [] false,[]⟩:=
  mnew_spec xa xa_fit (by decide) xa_goal 2 (by omega) (by omega) hn2 (gN xa) hw.gg (wdN xa) (by have:=hw.wd;rw [hn2] at this;exact this) 14
 have nm:=nms0 14
 have O0:=(mt0_ok xa 2 (kN xa) (wN xa))
 have M1:=mmove_spec (.nw 14 (.n 16)) (.nw 14 (.n 40)) _ _ nm xa 2 (by omega) (intRows (winP xa)) (kN xa) (wN xa) hk 0 100 [] O0.L false (by omega) (by omega) 18 rfl
 have A1:=madd_spec (.nw 14 (.n 16)) (.nw 14 (.n 40)) _ _ nm xa (by decide) 2 (by omega) (intRows (winP xa)) (kN xa) (wN xa) hk 100 [] xa_ok0.L xa_ok0.P (by omega) 90 1 2 (by omega) (by decide+kernel) xa_room 21 rfl
 have A2:=madd_bad (.nw 14 (.n 16)) (.nw 14 (.n 40)) nm.pa xa (by decide) 2 (intRows (winP xa)) (pF xa.c 100) (pT xa.c 100) (pcG xa.c 100 [(90,1,2)]) (pcT xa.c 100 [(90,1,2)]) 100 (by omega) false 89 0 0 (by decide+kernel) 24 rfl
 have A3:=madd_bad (.nw 14 (.n 16)) (.nw 14 (.n 40)) nm.pa xa (by decide) 2 (intRows (winP xa)) (pF xa.c 100) (pT xa.c 100) (pcG xa.c 100 [(90,1,2)]) (pcT xa.c 100 [(90,1,2)]) 100 (by omega) false 101 0 0 (by decide+kernel) 27 rfl
 have W1:=mwindow_spec (.nw 14 (.n 16)) (.nw 14 (.n 40)) _ _ nm xa 2 (by omega) (winP xa) hn2 (winP_rising xa) (kN xa) (wN xa) 100 [(90,1,2)] false 100 30 rfl
 rw [xa_see] at W1
 have e2:addE xa.a 100 89 0 0=13:=by decide+kernel
 have e3:addE xa.a 100 101 0 0=14:=by decide+kernel
 rw [e2] at A2
 rw [e3] at A3
 have huq:=fun t L sd=>mt_uq nm xa 2 (intRows (winP xa)) (kN xa) (wN xa) t L sd
 have hks:=fun t t' L L' sd sd' j=>mt_ks (M:= .nw 14 (.n 16)) (A:= .nw 14 (.n 40)) (R:=fun i=> .nw 14 (R0 i)) (B:=fun i=> .nw 14 (B0 i)) xa xa 2 (intRows (winP xa)) (kN xa) (wN xa) t t' L L' sd sd' j
 have hnn:=fun t L sd j=>mt_n (M:= .nw 14 (.n 16)) (A:= .nw 14 (.n 40)) (R:=fun i=> .nw 14 (R0 i)) (B:=fun i=> .nw 14 (B0 i)) xa 2 (intRows (winP xa)) (kN xa) (wN xa) t L sd (.n j) (by simp) (by simp) (fun i=>by simp) (fun i=>by simp)
 have hnw: ∀t L sd (a:Id) (b:List AV),(a,b)∈mtB (.nw 14 (.n 16)) (.nw 14 (.n 40)) (fun i=> .nw 14 (R0 i)) (fun i=> .nw 14 (B0 i)) xa 2 (intRows (winP xa)) (kN xa) (wN xa) t L sd→a.isIt=false∧ ∀s,a.isNw s=(14==s):=by
  intro t L sd a b hp
  unfold mtB at hp
  rcases List.mem_cons.1 hp with e|hp
  ·cases e;exact ⟨rfl,fun s=>by simp [Id.isNw,Id.isUp]⟩
  ·rcases List.mem_cons.1 hp with e|hp
   ·cases e;exact ⟨rfl,fun s=>by simp [Id.isNw,Id.isUp]⟩
   ·obtain ⟨i,_,e|e⟩:=mem_rgsB.1 hp
    ·cases e;exact ⟨rfl,fun s=>by simp [Id.isNw,Id.isUp,R0]⟩
    ·cases e;exact ⟨rfl,fun s=>by simp [Id.isNw,Id.isUp,B0]⟩
 have hex:xa.row=[.str [97],.int .u32 5,i6 10,i6 10,i6 0,i6 0,.sl [],.sl [[.str [114],.bool false,i6 100,i6 10,.int .u64 1,i6 0,i6 0]]]:=rfl
 rw [hex] at N1
 have N1:=sph_nz (vs:=[.agg [.str [97],.int .u32 5,i6 10,i6 10,i6 0,i6 0,.nils,.sl [[.str [114],.bool false,i6 100,i6 10,.int .u64 1,i6 0,i6 0]]]]) N1 rfl
 have q1:((100:Nat):Int)=100:=rfl
 have q2:((90:Nat):Int)=90:=rfl
 rw [q1] at M1
 rw [q2,List.nil_append] at A1
 have u0:=huq 0 [] false
 have u1:=huq 100 [] false
 have u2:=huq 100 [(90,1,2)] false
 have k1:=hks 0 100 [] [] false false
 have k2:=hks 100 100 [] [(90,1,2)] false false
 have n0:=hnn 0 [] false
 have n1:=hnn 100 [] false
 have n2:=hnn 100 [(90,1,2)] false
 have f0:=hnw 0 [] false
 have f1:=hnw 100 [] false
 have f2:=hnw 100 [(90,1,2)] false
 obtain ⟨m2,h2⟩: ∃m,m=mtB (.nw 14 (.n 16)) (.nw 14 (.n 40)) (fun i=> .nw 14 (R0 i)) (fun i=> .nw 14 (B0 i)) xa 2 (intRows (winP xa)) (kN xa) (wN xa) 100 [(90,1,2)] false:=⟨_,rfl⟩
 obtain ⟨rest,hr⟩: ∃r,r=(Id.nw 14 (.n 40),ptrC (fun i=> .nw 14 (R0 i)) 2)::rgsB (fun i=> .nw 14 (R0 i)) (fun i=> .nw 14 (B0 i)) (rgC (kN xa) (wN xa) 100 [(90,1,2)]) (rgD (kN xa) (wN xa) 100 [(90,1,2)]) 2:=⟨_,rfl⟩
 have e4:m2=(.nw 14 (.n 16),mtC xa (.nw 14 (.n 40)) 2 (intRows (winP xa)) (pF xa.c 100) (pT xa.c 100) (pcG xa.c 100 [(90,1,2)]) (pcT xa.c 100 [(90,1,2)]) 100 false)::rest:=by rw [h2,hr];rfl
 have hMr: ∀p∈rest,¬Id.nw 14 (.n 16)=p.1:=by
  intro p hp
  rw [hr] at hp
  rcases List.mem_cons.1 hp with rfl|hp
  ·simp
  ·obtain ⟨i,_,e|e⟩:=mem_rgsB.1 hp
   ·subst e;simp [R0]
   ·subst e;simp [B0]
 rw [←h2] at u2 k2 n2 f2 A1 W1
 generalize mtC xa (.nw 14 (.n 40)) 2 (intRows (winP xa)) (pF xa.c 100) (pT xa.c 100) (pcG xa.c 100 [(90,1,2)]) (pcT xa.c 100 [(90,1,2)]) 100 false=mc at *
 generalize mtB (.nw 14 (.n 16)) (.nw 14 (.n 40)) (fun i=> .nw 14 (R0 i)) (fun i=> .nw 14 (B0 i)) xa 2 (intRows (winP xa)) (kN xa) (wN xa) 0 [] false=m0 at *
 generalize mtB (.nw 14 (.n 16)) (.nw 14 (.n 40)) (fun i=> .nw 14 (R0 i)) (fun i=> .nw 14 (B0 i)) xa 2 (intRows (winP xa)) (kN xa) (wN xa) 100 [] false=m1 at *
 clear huq hks hnn hnw h2 hr O0 hk hw hn2 e2 e3
 obtain ⟨gc,hgc⟩: ∃c,c=[AV.str [97],.int .u32 5,i6 10,i6 10,i6 0,i6 0,.nils,.sl [[.str [114],.bool false,i6 100,i6 10,u 1,i6 0,i6 0]]]:=⟨_,rfl⟩
 simp -implicitDefEqProofs [c12]
 refine onH_mk _ _ N1 ⟨?_,?_,?_,?_,?_,?_,?_⟩ ?_
 iterate 5 (· simp [n0])
 ·simp
  intro a b hm
  obtain ⟨h1,h2⟩:=f0 a b hm
  exact ⟨by rw [h2];rfl,h1⟩
 ·simp
 simp -implicitDefEqProofs [n0,lkB_app]
 refine onH_ps (pre:=[]) (suf:=[(.n 1,gc)]) M1 (by rw [hgc];rfl) ?_ ?_ u0 k1 ?_ ?_ ?_ ?_
 ·simp
 ·simp [n0]
 ·simp
  intro a b hm
  rcases hm with hm|hm
  ·rw [(f0 a b hm).2];rfl
  ·rw [hm.1];rfl
 ·simp
 ·simp
 simp -implicitDefEqProofs [n1,lkB_app]
 refine onH_ps (pre:=[]) (suf:=[(.n 1,gc)]) A1 rfl ?_ ?_ u1 k2 ?_ ?_ ?_ ?_
 ·simp
 ·simp [n1]
 ·simp
  intro a b hm
  rcases hm with hm|hm
  ·rw [(f1 a b hm).2];rfl
  ·rw [hm.1];rfl
 ·simp
 ·simp
 simp -implicitDefEqProofs [n2,lkB_app]
 refine onH_ps (pre:=[]) (suf:=rest++[(.n 1,gc)]) A2 (by simp only [e4];rfl) ?_ ?_ ?_ (fun _=>rfl) ?_ ?_ ?_ ?_
 ·simp
 ·simp
  intro a b hm
  rcases hm with hm|hm
  ·intro e;exact hMr _ hm e
  ·rw [hm.1];simp
 ·simp
 ·simp
  intro a b hm
  rcases hm with hm|hm
  ·rw [(f2 a b hm).2];rfl
  ·rw [hm.1];rfl
 ·simp
 ·simp
 simp -implicitDefEqProofs [n2,lkB_app]
 refine onH_ps (pre:=[]) (suf:=rest++[(.n 1,gc)]) A3 rfl ?_ ?_ ?_ (fun _=>rfl) ?_ ?_ ?_ ?_
 ·simp
 ·simp
  intro a b hm
  rcases hm with hm|hm
  ·intro e;exact hMr _ hm e
  ·rw [hm.1];simp
 ·simp
 ·simp
  intro a b hm
  rcases hm with hm|hm
  ·rw [(f2 a b (by rw [e4];exact List.mem_cons_of_mem _ hm)).2];rfl
  ·rw [hm.1];rfl
 ·simp
 ·simp
 simp -implicitDefEqProofs [n2,lkB_app]
 refine onH_ps (pre:=[]) (suf:=[(.n 1,gc)]) W1 (by simp only [e4];rfl) ?_ ?_ u2 (fun _=>rfl) ?_ ?_ ?_ ?_
 ·simp
 ·simp [n2]
 ·simp
  intro a b hm
  rcases hm with hm|hm
  ·rw [(f2 a b (by rw [e4];exact List.mem_cons_of_mem _ hm)).2];rfl
  ·rw [hm.1];rfl
 ·simp
 ·simp
 simp -implicitDefEqProofs [n2,lkB_app]
open Go.Proofs
theorem mx_ids {M A:Id} {R B:Nat→Id} {X:Id} {Zp:Nat→Prop} (h:NmX M A R B X Zp) (x:Gl) (n:Nat) (Wl:List Int) (K w:Nat→Nat) (s:Mt): ∀p∈mxB M A R B X x n Wl K w s,∀i∈idsL p.2,(lkB (mxB M A R B X x n Wl K w s) i).isSome=true:=by
 have key: ∀p∈mtB M A R B x n (intRows Wl) K w s.t s.L s.sd,(lkB (mxB M A R B X x n Wl K w s) p.1).isSome:=fun p hp=>lkB_isSome (List.mem_cons_of_mem _ hp)
 intro p hp
 unfold mxB at hp
 rcases List.mem_cons.1 hp with rfl|hp
 ·intro i hi;rw [xC_ids] at hi;simp at hi
 ·unfold mtB at hp key
  rcases List.mem_cons.1 hp with rfl|hp
  ·intro i hi
   have e:idsL (mtC x A n (intRows Wl) (pF x.c s.t) (pT x.c s.t) (pcG x.c s.t s.L) (pcT x.c s.t s.L) s.t s.sd)=[A]:=rfl
   rw [e,List.mem_singleton] at hi
   subst hi
   exact key (i,_) (List.mem_cons_of_mem _ (List.mem_cons_self ..))
  ·rcases List.mem_cons.1 hp with rfl|hp
   ·intro j hj
    obtain ⟨i,hi,rfl⟩:=ptrC_ids hj
    exact key (R i,_) (List.mem_cons_of_mem _ (List.mem_cons_of_mem _ (mem_rgsB.2 ⟨i,hi,.inl rfl⟩)))
   ·obtain ⟨i,hi,e|e⟩:=mem_rgsB.1 hp
    ·subst e
     intro j hj
     simp only [rgC_ids,List.mem_singleton] at hj
     subst hj
     exact key (B i,_) (List.mem_cons_of_mem _ (List.mem_cons_of_mem _ (mem_rgsB.2 ⟨i,hi,.inr rfl⟩)))
    ·subst e
     intro j hj
     simp only [rgD_ids] at hj
     simp at hj
theorem mx_mem {M A:Id} {R B:Nat→Id} {X:Id} {x:Gl} {n:Nat} {Wl:List Int} {K w:Nat→Nat} {s:Mt} {a:Id} {b:List AV} (hp:(a,b)∈mxB M A R B X x n Wl K w s):a=X∨a=M∨a=A∨ ∃i,a=R i∨a=B i:=by
 unfold mxB mtB at hp
 rcases List.mem_cons.1 hp with e|hp
 ·cases e;exact .inl rfl
 ·rcases List.mem_cons.1 hp with e|hp
  ·cases e;exact .inr (.inl rfl)
  ·rcases List.mem_cons.1 hp with e|hp
   ·cases e;exact .inr (.inr (.inl rfl))
   ·obtain ⟨i,hi,e|e⟩:=mem_rgsB.1 hp
    ·cases e;exact .inr (.inr (.inr ⟨i,.inl rfl⟩))
    ·cases e;exact .inr (.inr (.inr ⟨i,.inr rfl⟩))
theorem fx_nw (d:Nat) (x:Gl) (n:Nat) (Wl:List Int) (K w:Nat→Nat) (s:Mt): ∀(a:Id) (b:List AV),(a,b)∈mxB (fM d) (fA d) (fR d) (fB d) (fX d) x n Wl K w s→a.isIt=false∧ ∀t,a.isNw t=(d==t):=by
 intro a b hp
 rcases mx_mem hp with rfl|rfl|rfl|⟨i,rfl|rfl⟩
 ·exact ⟨rfl,fun t=>by simp [fX,Id.isNw,Id.isUp]⟩
 ·exact ⟨rfl,fun t=>by simp [fM,Id.isNw,Id.isUp]⟩
 ·exact ⟨rfl,fun t=>by simp [fA,Id.isNw,Id.isUp]⟩
 ·exact ⟨rfl,fun t=>by simp [fR,Id.isNw,Id.isUp]⟩
 ·exact ⟨rfl,fun t=>by simp [fB,Id.isNw,Id.isUp]⟩
theorem fx_n (d:Nat) (x:Gl) (n:Nat) (Wl:List Int) (K w:Nat→Nat) (s:Mt) (j:Nat):lkB (mxB (fM d) (fA d) (fR d) (fB d) (fX d) x n Wl K w s) (.n j)=none:=by
 unfold mxB
 simp only [lkB]
 rw [if_neg (by simp [fX])]
 exact mt_n x n _ K w _ _ _ _ (by simp [fM]) (by simp [fA]) (fun i=>by simp [fR]) (fun i=>by simp [fB])
theorem fx_inF (d:Nat) (x:Gl) (n:Nat) (Wl:List Int) (K w:Nat→Nat) (s:Mt) (fr:List Nat) (h:fr.contains d=false): ∀p∈mxB (fM d) (fA d) (fR d) (fB d) (fX d) x n Wl K w s,inF fr p.1=false:=by
 intro p hp
 obtain ⟨a,b⟩:=p
 rcases mx_mem hp with rfl|rfl|rfl|⟨i,rfl|rfl⟩<;>exact h
theorem wkB_self {l:List (Id×List AV)} (h: ∀p∈l,lkB l p.1=some p.2): ∀p∈l,wkB l p.1 p.2:=fun p hp=>by simp only [wkB,h p hp];exact wkL_rfl' _
def acRows (l:List Ac):List (List AV):=l.map Ac.row
theorem acRows_len (l:List Ac):(acRows l).length=l.length:=by simp [acRows]
theorem acRows_4 (l:List Ac): ∀r∈acRows l,r.length=4:=by
 intro r hr;simp only [acRows,List.mem_map] at hr;obtain ⟨e,_,rfl⟩:=hr;rfl
theorem acRows_at (l:List Ac) (k:Nat) (h:k<l.length):(acRows l)[k]?=some (l[k]).row:=by simp [acRows,h]
end Go.Ai
