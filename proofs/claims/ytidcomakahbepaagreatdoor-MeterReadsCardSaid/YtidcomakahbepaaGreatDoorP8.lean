/- P8: a part of the proof: the rules, or what functions compute. Conditions: as each theorem says. -/
import Derived.Test.YtidcomakahbepaaGreatDoorP7
import Derived.Test.YtidcomakahbepaaGreatDoorP1
import Derived.Test.YtidcomakahbepaaGreatDoorP2
import Derived.Test.YtidcomakahbepaaGreatDoorAiUse
set_option linter.unusedSimpArgs false
set_option linter.unusedVariables false
set_option maxRecDepth 20000
namespace Go.Ai
open Go.Proofs
def EvLe (L:List Ev) (t:Nat):Prop:= ∀e∈L,e.1≤t
def mvF (v:Ev→Nat) (K w N n0 n:Nat) (L:List Ev) (j:Nat):Nat:=sm v w (fun q=>leftP K N n0 n q&&q%K==j) L
def mvS (v:Ev→Nat) (K w N n0 n:Nat) (L:List Ev):Nat:=sm v w (leftP K N n0 n) L
theorem mvF_next {v:Ev→Nat} {K w N n0 n:Nat} {L:List Ev} (hK:0<K) (h0:n0≤n) (h1:n<n0+K):mvF v K w N n0 (n+1) L=upd (mvF v K w N n0 n L) (n%K) 0:=by
 funext j
 unfold upd mvF
 by_cases e:j=n%K
 ·rw [if_pos e]
  refine sm_zero fun x _=>?_
  rw [leftP_next hK h0 h1,e]
  cases leftP K N n0 n (x.1 / w)<;>cases (x.1 / w%K==n%K)<;>rfl
 ·rw [if_neg e]
  refine sm_congr fun x _=>?_
  rw [leftP_next hK h0 h1]
  by_cases h2:x.1 / w%K=j
  ·have:(x.1 / w%K==n%K)=false:=by rw [beq_eq_false_iff_ne,h2];exact e
   rw [this];simp
  ·have:(x.1 / w%K==j)=false:=by rw [beq_eq_false_iff_ne];exact h2
   rw [this];simp
theorem mvS_next {v:Ev→Nat} {K w N n0 n:Nat} {L:List Ev} (hK:0<K) (h0:n0≤n) (h1:n<n0+K):mvS v K w N n0 n L=mvF v K w N n0 n L (n%K)+mvS v K w N n0 (n+1) L:=by
 unfold mvS mvF
 rw [sm_split v w (leftP K N n0 n) (fun q=>q%K==n%K) L]
 congr 1
 exact sm_congr fun x _=>(leftP_next hK h0 h1 _).symm
theorem mvF_first (v:Ev→Nat) (K w N n0:Nat) (L:List Ev):mvF v K w N n0 n0 L=bkv v K w (inW K N) L:=by
 funext j;unfold mvF bkv
 exact sm_congr fun x _=>by rw [leftP_first]
theorem mvS_first (v:Ev→Nat) (K w N n0:Nat) (L:List Ev):mvS v K w N n0 n0 L=sm v w (inW K N) L:=sm_congr fun x _=>leftP_first K N n0 _
theorem mv_last {v:Ev→Nat} {K w t M:Nat} {L:List Ev} (hK:0<K) (h:t / w≤M) (hL:EvLe L t):
  mvF v K w (t / w) (first0 K (t / w) M) (M+1) L=bkv v K w (inW K M) L∧mvS v K w (t / w) (first0 K (t / w) M) (M+1) L=sm v w (inW K M) L:=by
 have hq: ∀x∈L,leftP K (t / w) (first0 K (t / w) M) (M+1) (x.1 / w)=inW K M (x.1 / w):=fun x hx=>leftP_last hK h (Nat.div_le_div_right (hL x hx))
 refine ⟨?_,sm_congr hq⟩
 funext j;unfold mvF bkv
 exact sm_congr fun x hx=>by rw [hq x hx]
theorem sumG_le {K w N:Nat} {L:List Ev} (h:EvOk L):sumG K w N L≤sumT K w N L:=sm_GT h
theorem mvS_le (v:Ev→Nat) (K w N n0 n:Nat) (L:List Ev):mvS v K w N n0 n L≤sm v w (inW K N) L:=sm_le fun e _ h=>by
 unfold leftP at h;simp only [Bool.and_eq_true] at h;exact h.1
theorem rmove_spec (R B:Id) (h:Pr2 R B) (K w t t':Nat) (L:List Ev) (hK:1≤K) (hK2:K≤60) (hw:1≤w) (htt:t≤t') (ht:t'≤253402300799) (hL:EvOk L) (hLe:EvLe L t) (hs:sumT K w (t / w) L≤9223372036854775807) (d:Nat) (hd:R.isNw d=false):
  SpH Tryz.prog gl 93 d ⟨[.ptr R 0,i6 t'],[(R,ringC B K w t L),(B,bkC K w (t / w) L)],[]⟩ ⟨i6 0,[(R,ringC B K w t' L),(B,bkC K w (t' / w) L)],[]⟩:=by
 refine h93 rfl ?_
 have hi:=inn_notNw hd
 have hdB:B.isNw d=false:=by rw [←h.nw];exact hd
 have hiB:=inn_notNw hdB
 have r1:=h.ri
 have r2:=h.bi
 have ne:=h.ne
 have ne':B≠R:=fun e=>h.ne e.symm
 have TK:=rtick_spec t'
 have tk:(decide ((0:Int)≤t')&&decide ((t':Int)≤253402300799))=true:=by simp;omega
 rw [tk] at TK
 have hNM:t / w≤t' / w:=Nat.div_le_div_right htt
 have Mlt:t' / w≤t':=Nat.div_le_self _ _
 obtain ⟨hfF,hfS⟩:=mv_last (v:=eG) (K:=K) (w:=w) (t:=t) (M:=t' / w) (L:=L) (by omega) hNM hLe
 obtain ⟨hfF',hfS'⟩:=mv_last (v:=eT) (K:=K) (w:=w) (t:=t) (M:=t' / w) (L:=L) (by omega) hNM hLe
 have i1:=mvF_first eG K w (t / w) (first0 K (t / w) (t' / w)) L
 have i2:=mvF_first eT K w (t / w) (first0 K (t / w) (t' / w)) L
 have i3:=mvS_first eG K w (t / w) (first0 K (t / w) (t' / w)) L
 have i4:=mvS_first eT K w (t / w) (first0 K (t / w) (t' / w)) L
 obtain ⟨f1,f2,f3⟩:=first0_le (K:=K) (N:=t / w) (M:=t' / w) hNM (by omega)
 have hGT:=sumG_le (K:=K) (w:=w) (N:=t / w) hL
 have hsG: ∀n,mvS eG K w (t / w) (first0 K (t / w) (t' / w)) n L≤9223372036854775807:=fun n=>by
  have:=mvS_le eG K w (t / w) (first0 K (t / w) (t' / w)) n L
  unfold sumG at hGT;unfold sumT at hGT hs;omega
 have hsT: ∀n,mvS eT K w (t / w) (first0 K (t / w) (t' / w)) n L≤9223372036854775807:=fun n=>by
  have:=mvS_le eT K w (t / w) (first0 K (t / w) (t' / w)) n L
  unfold sumT at hs;omega
 have hnF:=fun n=>mvF_next (v:=eG) (K:=K) (w:=w) (N:=t / w) (n0:=first0 K (t / w) (t' / w)) (n:=n) (L:=L) (by omega)
 have hnF':=fun n=>mvF_next (v:=eT) (K:=K) (w:=w) (N:=t / w) (n0:=first0 K (t / w) (t' / w)) (n:=n) (L:=L) (by omega)
 have hnS:=fun n=>mvS_next (v:=eG) (K:=K) (w:=w) (N:=t / w) (n0:=first0 K (t / w) (t' / w)) (n:=n) (L:=L) (by omega)
 have hnS':=fun n=>mvS_next (v:=eT) (K:=K) (w:=w) (N:=t / w) (n0:=first0 K (t / w) (t' / w)) (n:=n) (L:=L) (by omega)
 have hf0:((first0 K (t / w) (t' / w):Nat):Int)=if ((t / w:Nat):Int)+1<((t' / w:Nat):Int) - K+1 then ((t' / w:Nat):Int) - K+1 else ((t / w:Nat):Int)+1:=by
  unfold first0
  generalize t / w=N at *
  generalize t' / w=M at *
  split<;>split<;>omega
 have d1:=tdiv_nat t' w
 have w0: ¬((w:Int)=0):=by omega
 have w0': ¬(w=0):=by omega
 have a1: ¬((t':Int)<t):=by omega
 have a1': ¬(t'<t):=by omega
 have t0:IntKind.i64.wrap ((t' / w:Nat):Int)=(t' / w:Nat):=by
  generalize t' / w=q at *
  rw [wrap_i64]<;>omega
 have t1:IntKind.i64.wrap (((t / w:Nat):Int)+1)=((t / w:Nat):Int)+1:=by
  generalize t / w=N at *
  generalize t' / w=M at *
  rw [wrap_i64]<;>omega
 have t2:IntKind.i64.wrap (((t' / w:Nat):Int) - K)=((t' / w:Nat):Int) - K:=by
  generalize t' / w=M at *
  rw [wrap_i64]<;>omega
 have t3:IntKind.i64.wrap (((t' / w:Nat):Int) - K+1)=((t' / w:Nat):Int) - K+1:=by
  generalize t' / w=M at *
  rw [wrap_i64]<;>omega
 have AT:=fun n g s (hn:n<9223372036854775808) e he=>rat_spec (.up R) (.up B) h.up K w (t / w) t' g s n hK hn e he
 have hids:=fun n=>cellsF_ids K (mvF eG K w (t / w) (first0 K (t / w) (t' / w)) n L) (mvF eT K w (t / w) (first0 K (t / w) (t' / w)) n L)
 have hlen:=fun n=>cellsF_len K (mvF eG K w (t / w) (first0 K (t / w) (t' / w)) n L) (mvF eT K w (t / w) (first0 K (t / w) (t' / w)) n L)
 have hget:=fun n j hj=>cellsF_get (K:=K) (f:=mvF eG K w (t / w) (first0 K (t / w) (t' / w)) n L) (g:=mvF eT K w (t / w) (first0 K (t / w) (t' / w)) n L) (j:=j) hj
 have hset:=fun n j hj=>cellsF_upd (K:=K) (f:=mvF eG K w (t / w) (first0 K (t / w) (t' / w)) n L) (g:=mvF eT K w (t / w) (first0 K (t / w) (t' / w)) n L) (j:=j) (a:=0) (b:=0) hj
 have ix:=mpL_noids (f:=Id.up) (hids (first0 K (t / w) (t' / w)))
 have iz:=fun f'=>mpL_noids (f:=f') (hids (t' / w+1))
 simp only [ringC_eq,bkC,sumG,sumT]
 rw [←i1,←i2,←i3,←i4,←hfF,←hfF',←hfS,←hfS']
 simp only [rgL,inSt,mpL,mpB,mpP,AV.mp,ix]
 simp only [rgL] at AT
 clear i1 i2 i3 i4 hfF hfF' hfS hfS'
 generalize first0 K (t / w) (t' / w)=n0 at *
 have hstep: ∀n,n0≤n→n<n0+K→cellsF K (mvF eG K w (t / w) n0 (n+1) L) (mvF eT K w (t / w) n0 (n+1) L)=(cellsF K (mvF eG K w (t / w) n0 n L) (mvF eT K w (t / w) n0 n L)).take (n%K*2)++ .int .u64 0:: .int .u64 0::(cellsF K (mvF eG K w (t / w) n0 n L) (mvF eT K w (t / w) n0 n L)).drop (n%K*2+2):=by
  intro n g1 g2
  rw [hnF n g1 g2,hnF' n g1 g2]
  exact hset n (n%K) (Nat.mod_lt _ (by omega))
 have hget2:=fun n=>hget n (n%K) (Nat.mod_lt _ (by omega))
 clear hset hnF hnF' hget
 obtain ⟨C,hC⟩: ∃C:Nat→List AV,C=fun n=>cellsF K (mvF eG K w (t / w) n0 n L) (mvF eT K w (t / w) n0 n L):=⟨_,rfl⟩
 have hCn: ∀n,cellsF K (mvF eG K w (t / w) n0 n L) (mvF eT K w (t / w) n0 n L)=C n:=fun n=>by rw [hC]
 simp only [hCn] at hstep hget2 hids hlen iz ⊢
 clear hC hCn ix
 generalize t / w=N at *
 generalize t' / w=M at *
 obtain ⟨SG,hSG⟩: ∃SG:Nat→Nat,SG=fun n=>mvS eG K w N n0 n L:=⟨_,rfl⟩
 obtain ⟨ST,hST⟩: ∃ST:Nat→Nat,ST=fun n=>mvS eT K w N n0 n L:=⟨_,rfl⟩
 have hSGn: ∀n,mvS eG K w N n0 n L=SG n:=fun n=>by rw [hSG]
 have hSTn: ∀n,mvS eT K w N n0 n L=ST n:=fun n=>by rw [hST]
 simp only [hSGn,hSTn] at hsG hsT hnS hnS' ⊢
 clear hSG hST hSGn hSTn
 simp -implicitDefEqProofs [c93]
 refine onC_mk _ TK ?_
 simp -implicitDefEqProofs [ne,ne',a1,a1',w0,w0',d1]
 simp only [t0,t1,t2,t3]
 refine wp_lpk (α:=Nat) (fun n=>⟨[(0,.ptr (.up R) 0),(5,i6 M),(6,i6 n)],[(.up R,[i6 w,.ms (.up B) 0 K 2,i6 N,i6 t',u (SG n),u (ST n)]),(.up B,C n)],[]⟩) (fun n=>n0≤n∧n≤M+1) (fun n=>M+1 - n) ?_ n0 ?_ ?_
 ·rintro K' n hK' ⟨g1,g2⟩
  by_cases g:n≤M
  ·have g3:(n:Int)≤M:=by omega
   have t4:IntKind.i64.wrap ((n:Int)+1)=(n+1:Nat):=by rw [wrap_i64]<;>omega
   have A:=fun e he=>AT n (SG n) (ST n) (by omega) e he
   have e1:=hnS n g1 (by omega)
   have e2:=hnS' n g1 (by omega)
   have e3:=hstep n g1 (by omega)
   obtain ⟨x0,x1⟩:=hget2 n
   have l1:=hlen n
   have hid:=hids (n+1)
   have jl:n%K<K:=Nat.mod_lt _ (by omega)
   have b1:=hsG n
   have b2:=hsT n
   have w1:IntKind.u64.wrap ((SG n:Int) - (mvF eG K w N n0 n L (n%K):Nat))=(SG (n+1):Nat):=by rw [wrap_u64]<;>omega
   have w2:IntKind.u64.wrap ((ST n:Int) - (mvF eT K w N n0 n L (n%K):Nat))=(ST (n+1):Nat):=by rw [wrap_u64]<;>omega
   have fin: ∀σ',Weak σ' ⟨[(0,.ptr (.up R) 0),(5,i6 M),(6,i6 (n+1:Nat))],[(.up R,[i6 w,.ms (.up B) 0 K 2,i6 N,i6 t',.int .u64 ((SG (n+1):Nat):Int),.int .u64 ((ST (n+1):Nat):Int)]),(.up B,C (n+1))],[]⟩→K' σ':=
    fun σ' hσ=>hK' (n+1) σ' ⟨by omega,by omega⟩ (by omega) hσ
   clear hK' hnS hnS' hstep hget2 hlen hids hsG hsT e1 e2 b1 b2 AT iz
   have c1:n%K*2+2≤(C n).length:=by omega
   have c2:n%K*2<(C n).length:=by omega
   have c3:n%K*2+1<(C n).length:=by omega
   have x0':(C n)[n%K*2]= .int .u64 (mvF eG K w N n0 n L (n%K):Nat):=by rw [List.getElem?_eq_getElem c2] at x0;exact Option.some.inj x0
   have x1':(C n)[n%K*2+1]= .int .u64 (mvF eT K w N n0 n L (n%K):Nat):=by rw [List.getElem?_eq_getElem c3] at x1;exact Option.some.inj x1
   have e3:=e3.symm
   generalize ((SG (n+1):Nat):Int)=v1 at *
   generalize ((ST (n+1):Nat):Int)=v2 at *
   generalize ((mvF eG K w N n0 n L (n%K):Nat):Int)=v3 at *
   generalize ((mvF eT K w N n0 n L (n%K):Nat):Int)=v4 at *
   generalize C (n+1)=Y at *
   generalize C n=X at *
   generalize n%K*2=off at *
   simp -implicitDefEqProofs [g,g3]
   refine onH_mk _ _ (A _ rfl) ⟨?_,?_,?_,?_,?_,?_,?_⟩ ?_
   iterate 7 (· simp [ne,ne'])
   simp -implicitDefEqProofs [ne,ne',x0,x0',c2]
   simp only [w1]
   simp -implicitDefEqProofs [ne,ne',x1,x1',c3]
   simp only [w2]
   simp -implicitDefEqProofs [ne,ne',c1,e3]
   refine fin _ ?_
   refine weak_mk ?_ ?_ ?_ ?_ ?_ ?_<;>simp -implicitDefEqProofs [ne,ne',t4,hid]
  ·obtain rfl:n=M+1:=by omega
   have hid:=hids (M+1)
   clear hK' hnS hnS' hstep hget2 hlen hsG hsT AT
   have g3: ¬(((M+1:Nat):Int)≤M):=by omega
   have g4: ¬(M+1≤M):=by omega
   have g5: ¬((M:Int)+1≤M):=by omega
   simp -implicitDefEqProofs [ne,ne',g3,g4,g5]
   refine postH_r ⟨?_,?_,?_,?_,?_,?_⟩<;>simp -implicitDefEqProofs [hi,hiB,r1,r2,hd,hdB,ne,ne',hid,iz]
 ·exact ⟨Nat.le_refl _,f2⟩
 ·have hid:=hids n0
  refine weak_mk ?_ ?_ ?_ ?_ ?_ ?_<;>simp -implicitDefEqProofs [ne,ne',hid,hf0]
end Go.Ai
namespace Go.Ai
def bkI (K N:Nat) (f:Nat→Nat) (i:Nat):Nat:=if K≤N+1+i then f ((N+1+i - K)%K) else 0
def cntB (f g:Nat→Nat):Nat→List UInt8
 |0=>[]
 |n+1=>cntB f g n++(numB (f n)++numB (g n))
theorem cntB_congr {f g f' g':Nat→Nat}: ∀ {n:Nat},(∀i,i<n→f i=f' i∧g i=g' i)→cntB f g n=cntB f' g' n
 |0,_=>rfl
 |n+1,h=>by rw [cntB,cntB,cntB_congr (fun i hi=>h i (by omega)),(h n (by omega)).1,(h n (by omega)).2]
theorem cntB_len {f g:Nat→Nat}: ∀ {n:Nat},(∀i,i<n→f i<18446744073709551616∧g i<18446744073709551616)→(cntB f g n).length≤18*n
 |0,_=>by simp [cntB]
 |n+1,h=>by
  have h1:=cntB_len (n:=n) (f:=f) (g:=g) (fun i hi=>h i (by omega))
  obtain ⟨a,b⟩:=h n (by omega)
  have h2:=numB_len _ a
  have h3:=numB_len _ b
  rw [cntB];simp only [List.length_append];omega
open Go.Proofs
structure Lb where
 n:List UInt8
 t:List UInt8
 deriving DecidableEq
structure Ru where
 n:List UInt8
 p:Bool
 l:Int
 s:Int
 f:Nat
 w:Int
 k:Int
 deriving DecidableEq
structure Gl where
 n:List UInt8
 t:Nat
 g:Int
 a:Int
 o:Int
 c:Int
 lb:List Lb
 ru:List Ru
 deriving DecidableEq
structure Cf where
 gs:List Gl
 r:Int
 v:Int
 i:Int
 x:Int
 y:Int
def Lb.row (x:Lb):List AV:=[.str x.n,.str x.t]
def Ru.row (x:Ru):List AV:=[.str x.n,.bool x.p,i6 x.l,i6 x.s,u x.f,i6 x.w,i6 x.k]
def Gl.row (x:Gl):List AV:=[.str x.n,.int .u32 x.t,i6 x.g,i6 x.a,i6 x.o,i6 x.c,.sl (x.lb.map Lb.row),.sl (x.ru.map Ru.row)]
def Cf.row (x:Cf):List AV:=[.sl (x.gs.map Gl.row),i6 x.r,i6 x.v,i6 x.i,i6 x.x,i6 x.y]
def distR {α:Type} [DecidableEq α]:List α→Nat
 |[]=>0
 |x::r=>distR r+if x∈r then 0 else 1
theorem distR_le {α:Type} [DecidableEq α]: ∀l:List α,distR l≤l.length
 |[]=>Nat.le_refl _
 |x::r=>by have:=distR_le r;simp only [distR,List.length_cons];split<;>omega
theorem distR_iff {α:Type} [DecidableEq α]: ∀l:List α,distR l=l.length↔l.Nodup
 |[]=>by simp [distR]
 |x::r=>by
  have h1:=distR_le r
  have h2:=distR_iff r
  simp only [distR,List.length_cons,List.nodup_cons]
  by_cases h:x∈r
  ·rw [if_pos h]
   constructor
   ·intro e;omega
   ·intro e;exact absurd h e.1
  ·rw [if_neg h,←h2]
   constructor
   ·intro e;exact ⟨h,by omega⟩
   ·intro e;omega
def uniq (l:List (List UInt8)):Bool:=decide l.Nodup
theorem uniq_dist (l:List (List UInt8)):(((distR l.reverse:Nat):Int)==((l.length:Nat):Int))=uniq l:=by
 unfold uniq
 rw [Bool.eq_iff_iff]
 simp only [beq_iff_eq,decide_eq_true_eq]
 rw [show ((distR l.reverse:Nat):Int)=((l.length:Nat):Int)↔distR l.reverse=l.reverse.length by rw [List.length_reverse];omega,distR_iff]
 unfold List.Nodup
 rw [List.pairwise_reverse]
 constructor
 ·intro h;exact h.imp (fun h=>Ne.symm h)
 ·intro h;exact h.imp (fun h=>Ne.symm h)
def cntV (l:List (List UInt8×Nat)):List (MK×MK):=l.map fun p=>(.s p.1,.i .i64 p.2)
def bump (l:List (List UInt8×Nat)) (n:List UInt8):List (List UInt8×Nat):=match l with
 |[]=>[(n,1)]
 |(m,c)::r=>if n=m then (m,c+1)::r else (m,c)::bump r n
theorem bump_len (n:List UInt8): ∀l,(bump l n).length=l.length+if n∈l.map Prod.fst then 0 else 1
 |[]=>by simp [bump]
 |(m,c)::r=>by
  simp only [bump]
  split
  ·rename_i h;subst h;simp
  ·rename_i h
   simp only [List.length_cons,List.map_cons,List.mem_cons,bump_len n r]
   by_cases h2:n∈r.map Prod.fst
   ·rw [if_pos h2,if_pos (.inr h2)]
   ·rw [if_neg h2,if_neg (fun e=>e.elim h h2)]
theorem bump_mem (n x:List UInt8): ∀l,x∈(bump l n).map Prod.fst↔x=n∨x∈l.map Prod.fst
 |[]=>by simp [bump]
 |(m,c)::r=>by
  simp only [bump]
  split
  ·rename_i h;subst h;simp
  ·rename_i h
   simp only [List.map_cons,List.mem_cons,bump_mem n x r]
   constructor
   ·rintro (h|h|h)
    ·exact .inr (.inl h)
    ·exact .inl h
    ·exact .inr (.inr h)
   ·rintro (h|h|h)
    ·exact .inr (.inl h)
    ·exact .inl h
    ·exact .inr (.inr h)
theorem bump_le (n:List UInt8) (N:Nat): ∀l,(∀p∈l,p.2≤N)→ ∀p∈bump l n,p.2≤N+1
 |[],_,p,hp=>by simp only [bump,List.mem_singleton] at hp;subst hp;simp
 |(m,c)::r,h,p,hp=>by
  simp only [bump] at hp
  have h1:=h (m,c) (by simp)
  simp only at h1
  split at hp
  ·rcases List.mem_cons.1 hp with rfl|hp
   ·simp only;omega
   ·have:=h p (by simp [hp]);omega
  ·rcases List.mem_cons.1 hp with rfl|hp
   ·simp only;omega
   ·exact bump_le n N r (fun q hq=>h q (by simp [hq])) p hp
theorem cnt_find (n:List UInt8): ∀(l:List (List UInt8×Nat)) (i:Nat),
  (mfind (.s n) (cntV l) i=some none∧cntV (bump l n)=cntV l++[(.s n,.i .i64 1)])∨ ∃j c,(n,c)∈l∧mfind (.s n) (cntV l) i=some (some (i+j,.i .i64 (c:Nat)))∧mset (cntV l) j (.i .i64 ((c+1:Nat):Int))=cntV (bump l n)
 |[],i=> .inl ⟨rfl,rfl⟩
 |(m,c)::r,i=>by
  have e:cntV ((m,c)::r)=(.s m,.i .i64 c)::cntV r:=rfl
  rw [e]
  simp only [mfind,MK.same,bump]
  by_cases h:n=m
  ·subst h
   refine .inr ⟨0,c,by simp,?_,?_⟩
   ·simp
   ·rw [if_pos rfl];rfl
  ·have hb:(n==m)=false:=by simpa using h
   rw [hb,if_neg h]
   rcases cnt_find n r (i+1) with ⟨h1,h2⟩|⟨j,c',h0,h1,h2⟩
   ·refine .inl ⟨by simp [h1],?_⟩
    show (MK.s m,MK.i .i64 (c:Int))::cntV (bump r n)=_
    rw [h2];rfl
   ·refine .inr ⟨j+1,c',by simp [h0],?_,?_⟩
    ·simp only [h1];rw [show i+1+j=i+(j+1) by omega]
    ·show mset _ (j+1) _=(MK.s m,MK.i .i64 (c:Int))::cntV (bump r n)
     rw [←h2];rfl
open Go.Proofs
structure Nms (M A:Id) (R B:Nat→Id):Prop where
 mi:M.isIt=false
 ai:A.isIt=false
 ri: ∀i,(R i).isIt=false
 bi: ∀i,(B i).isIt=false
 rr: ∀i j,R i=R j→i=j
 bb: ∀i j,B i=B j→i=j
 rb: ∀i j,R i≠B j
 mr: ∀i,M≠R i
 mb: ∀i,M≠B i
 ar: ∀i,A≠R i
 ab: ∀i,A≠B i
 ma:M≠A
 na: ∀e,M.isNw e=A.isNw e
 nr: ∀i e,M.isNw e=(R i).isNw e
 nb: ∀i e,M.isNw e=(B i).isNw e
theorem Nms.up {M A:Id} {R B:Nat→Id} (h:Nms M A R B):Nms (.up M) (.up A) (fun i=> .up (R i)) (fun i=> .up (B i)):=
 ⟨h.mi,h.ai,h.ri,h.bi,fun i j e=>h.rr i j (Id.up.inj e),fun i j e=>h.bb i j (Id.up.inj e),fun i j e=>h.rb i j (Id.up.inj e),fun i e=>h.mr i (Id.up.inj e),fun i e=>h.mb i (Id.up.inj e),
  fun i e=>h.ar i (Id.up.inj e),fun i e=>h.ab i (Id.up.inj e),fun e=>h.ma (Id.up.inj e),fun _=>rfl,fun _ _=>rfl,fun _ _=>rfl⟩
theorem Nms.pr {M A:Id} {R B:Nat→Id} (h:Nms M A R B) (i:Nat):Pr2 (R i) (B i):=⟨h.ri i,h.bi i,h.rb i i,fun e=>by rw [←h.nr,←h.nb]⟩
theorem Nms.pa {M A:Id} {R B:Nat→Id} (h:Nms M A R B):Pr2 M A:=⟨h.mi,h.ai,h.ma,h.na⟩
def rgsB (R B:Nat→Id) (C:Nat→Id→List AV) (D:Nat→List AV) (n:Nat):List (Id×List AV):=(List.range n).flatMap fun i=>[(R i,C i (B i)),(B i,D i)]
theorem rgsB_succ (R B:Nat→Id) (C:Nat→Id→List AV) (D:Nat→List AV) (n:Nat):rgsB R B C D (n+1)=rgsB R B C D n++[(R n,C n (B n)),(B n,D n)]:=by
 unfold rgsB;rw [List.range_succ];simp
theorem mem_rgsB {R B:Nat→Id} {C:Nat→Id→List AV} {D:Nat→List AV} {n:Nat} {p:Id×List AV}:p∈rgsB R B C D n↔ ∃i,i<n∧(p=(R i,C i (B i))∨p=(B i,D i)):=by
 unfold rgsB;simp [List.mem_flatMap]
theorem rgsB_none {R B:Nat→Id} {C:Nat→Id→List AV} {D:Nat→List AV} {x:Id} (h1: ∀i,x≠R i) (h2: ∀i,x≠B i): ∀n,lkB (rgsB R B C D n) x=none
 |0=>rfl
 |n+1=>by
  rw [rgsB_succ,lkB_app,rgsB_none h1 h2 n]
  simp only [lkB]
  rw [if_neg (fun e=>h1 n e.symm),if_neg (fun e=>h2 n e.symm)]
theorem rgsB_R {M A:Id} {R B:Nat→Id} (h:Nms M A R B) {C:Nat→Id→List AV} {D:Nat→List AV} {i:Nat}: ∀n,i<n→lkB (rgsB R B C D n) (R i)=some (C i (B i))
 |n+1,hi=>by
  rw [rgsB_succ,lkB_app]
  by_cases e:i=n
  ·subst e
   have: ∀m,m≤i→lkB (rgsB R B C D m) (R i)=none:=by
    intro m
    induction m with
    |zero=>intro _;rfl
    |succ m ih=>
     intro hm
     rw [rgsB_succ,lkB_app,ih (by omega)]
     simp only [lkB]
     rw [if_neg (fun e=>by have:=h.rr _ _ e;omega),if_neg (fun e=>h.rb _ _ e.symm)]
   rw [this i (Nat.le_refl _)]
   simp [lkB]
  ·rw [rgsB_R h n (by omega)]
theorem rgsB_B {M A:Id} {R B:Nat→Id} (h:Nms M A R B) {C:Nat→Id→List AV} {D:Nat→List AV} {i:Nat}: ∀n,i<n→lkB (rgsB R B C D n) (B i)=some (D i)
 |n+1,hi=>by
  rw [rgsB_succ,lkB_app]
  by_cases e:i=n
  ·subst e
   have: ∀m,m≤i→lkB (rgsB R B C D m) (B i)=none:=by
    intro m
    induction m with
    |zero=>intro _;rfl
    |succ m ih=>
     intro hm
     rw [rgsB_succ,lkB_app,ih (by omega)]
     simp only [lkB]
     rw [if_neg (fun e=>h.rb _ _ e),if_neg (fun e=>by have:=h.bb _ _ e;omega)]
   rw [this i (Nat.le_refl _)]
   simp only [lkB]
   rw [if_neg (h.rb _ _)]
   simp
  ·rw [rgsB_B h n (by omega)]
theorem mem_rmB {x:Id} {p:Id×List AV}: ∀ {l:List (Id×List AV)},p∈rmB l x→p∈l
 |(d,c)::r,h=>by
  simp only [rmB] at h
  split at h
  ·exact List.mem_cons_of_mem _ (mem_rmB h)
  ·rcases List.mem_cons.1 h with h|h
   ·rw [h];exact List.mem_cons_self ..
   ·exact List.mem_cons_of_mem _ (mem_rmB h)
theorem rmB_app (x:Id): ∀(a b:List (Id×List AV)),rmB (a++b) x=rmB a x++rmB b x
 |[],b=>rfl
 |(d,c)::r,b=>by
  simp only [List.cons_append,rmB]
  split
  ·exact rmB_app x r b
  ·rw [rmB_app x r b];rfl
theorem rgsB_rm {R B:Nat→Id} {C:Nat→Id→List AV} {D:Nat→List AV} {x:Id} (h1: ∀i,x≠R i) (h2: ∀i,x≠B i): ∀n,rmB (rgsB R B C D n) x=rgsB R B C D n
 |0=>rfl
 |n+1=>by
  rw [rgsB_succ,rmB_app,rgsB_rm h1 h2 n]
  simp only [rmB]
  rw [if_neg (fun e=>h1 n e.symm),if_neg (fun e=>h2 n e.symm)]
theorem mpB_app (f:Id→Id): ∀(a b:List (Id×List AV)),mpB f (a++b)=mpB f a++mpB f b
 |[],b=>rfl
 |(d,c)::r,b=>by simp only [List.cons_append,mpB,mpB_app f r b]
theorem mpB_rgs {f:Id→Id} {R B:Nat→Id} {C:Nat→Id→List AV} {D:Nat→List AV} (hC: ∀i x,mpL f (C i x)=C i (f x)) (hD: ∀i,mpL f (D i)=D i): ∀n,mpB f (rgsB R B C D n)=rgsB (fun i=>f (R i)) (fun i=>f (B i)) C D n
 |0=>rfl
 |n+1=>by rw [rgsB_succ,mpB_app,mpB_rgs hC hD n,rgsB_succ];simp only [mpB,hC,hD]
def upto {α:Type} (k:Nat) (a b:Nat→α) (i:Nat):α:=if i<k then a i else b i
theorem upto_lt {α:Type} {k i:Nat} {a b:Nat→α} (h:i<k):upto k a b i=a i:=if_pos h
theorem upto_ge {α:Type} {k i:Nat} {a b:Nat→α} (h:k≤i):upto k a b i=b i:=if_neg (by omega)
theorem upto_zero {α:Type} {a b:Nat→α}:upto 0 a b=b:=by funext i;exact upto_ge (Nat.zero_le _)
theorem rgsB_congr {R B:Nat→Id} {C C':Nat→Id→List AV} {D D':Nat→List AV} {n:Nat} (h: ∀i,i<n→C i=C' i∧D i=D' i):rgsB R B C D n=rgsB R B C' D' n:=by
 induction n with
 |zero=>rfl
 |succ n ih=>rw [rgsB_succ,rgsB_succ,ih (fun i hi=>h i (by omega)),(h n (by omega)).1,(h n (by omega)).2]
theorem rgsB_upto {R B:Nat→Id} {C C':Nat→Id→List AV} {D D':Nat→List AV} {n:Nat}:rgsB R B (upto n C' C) (upto n D' D) n=rgsB R B C' D' n:=rgsB_congr fun i hi=>⟨upto_lt hi,upto_lt hi⟩
theorem rgs_step {M A:Id} {R B:Nat→Id} (h:Nms M A R B) {C C':Nat→Id→List AV} {D D':Nat→List AV} {k n:Nat} (hk:k<n) {bx:List (Id×List AV)}
  (hR:lkB bx (R k)=some (C' k (B k))) (hB:lkB bx (B k)=some (D' k)) (ho: ∀i,i<n→i≠k→lkB bx (R i)=some (upto k C' C i (B i))∧lkB bx (B i)=some (upto k D' D i)):
  ∀p∈rgsB R B (upto (k+1) C' C) (upto (k+1) D' D) n,wkB bx p.1 p.2:=by
 intro p hp
 obtain ⟨i,hi,e⟩:=mem_rgsB.1 hp
 by_cases hik:i=k
 ·subst hik
  rcases e with rfl|rfl
  ·simp only [wkB,hR,upto_lt (Nat.lt_succ_self i)];exact wkL_rfl' _
  ·simp only [wkB,hB,upto_lt (Nat.lt_succ_self i)];exact wkL_rfl' _
 ·have e1: ∀ {α:Type} (a b:Nat→α),upto (k+1) a b i=upto k a b i:=fun a b=>by unfold upto;by_cases g:i<k<;>simp [g]<;>omega
  obtain ⟨q1,q2⟩:=ho i hi hik
  rcases e with rfl|rfl
  ·simp only [wkB,q1,e1];exact wkL_rfl' _
  ·simp only [wkB,q2,e1];exact wkL_rfl' _
theorem rgs_call {M A:Id} {R B:Nat→Id} (h:Nms M A R B) {C:Nat→Id→List AV} {D:Nat→List AV} {k n:Nat} (hk:k<n) {c d mc ac:List AV}:
  let bx:=(R k,c)::(B k,d)::(M,mc)::(A,ac)::rmB (rmB (rgsB R B C D n) (R k)) (B k)
  lkB bx (R k)=some c∧lkB bx (B k)=some d∧ ∀i,i<n→i≠k→lkB bx (R i)=some (C i (B i))∧lkB bx (B i)=some (D i):=by
 intro bx
 refine ⟨by simp [bx,lkB],?_,fun i hi hne=>?_⟩
 ·simp only [bx,lkB]
  rw [if_neg (h.rb _ _)];simp
 ·constructor
  ·simp only [bx,lkB]
   rw [if_neg (fun e=>hne (h.rr _ _ e).symm),if_neg (fun e=>h.rb _ _ e.symm),if_neg (h.mr _),if_neg (h.ar _),lkB_rmB,if_neg (fun e=>h.rb _ _ e.symm),lkB_rmB,if_neg (fun e=>hne (h.rr _ _ e).symm)]
   exact rgsB_R h n hi
  ·simp only [bx,lkB]
   rw [if_neg (h.rb _ _),if_neg (fun e=>hne (h.bb _ _ e).symm),if_neg (h.mb _),if_neg (h.ab _),lkB_rmB,if_neg (fun e=>hne (h.bb _ _ e).symm),lkB_rmB,if_neg (h.rb _ _)]
   exact rgsB_B h n hi
def ptrC (R:Nat→Id) (n:Nat):List AV:=(List.range n).map fun i=> .ptr (R i) 0
theorem ptrC_len (R:Nat→Id) (n:Nat):(ptrC R n).length=n:=by simp [ptrC]
theorem ptrC_at {R:Nat→Id} {n i:Nat} (h:i<n):(ptrC R n)[i]?=some (.ptr (R i) 0):=by simp [ptrC,h]
theorem ptrC_mp (f:Id→Id) (R:Nat→Id): ∀n,mpL f (ptrC R n)=ptrC (fun i=>f (R i)) n:=by
 intro n
 have app: ∀a b:List AV,mpL f (a++b)=mpL f a++mpL f b:=by
  intro a b
  induction a with
  |nil=>rfl
  |cons x r ih=>simp only [List.cons_append,mpL,ih]
 have succ: ∀(R:Nat→Id) n,ptrC R (n+1)=ptrC R n++[.ptr (R n) 0]:=fun R n=>by unfold ptrC;rw [List.range_succ];simp
 induction n with
 |zero=>rfl
 |succ n ih=>rw [succ,app,ih,succ];rfl
theorem ptrC_ids {R:Nat→Id} {n:Nat} {x:Id} (h:x∈idsL (ptrC R n)): ∃i,i<n∧x=R i:=by
 have app: ∀a b:List AV,idsL (a++b)=idsL a++idsL b:=by
  intro a b
  induction a with
  |nil=>rfl
  |cons y r ih=>simp only [List.cons_append,idsL,ih,List.append_assoc]
 have succ: ∀n,ptrC R (n+1)=ptrC R n++[.ptr (R n) 0]:=fun n=>by unfold ptrC;rw [List.range_succ];simp
 induction n with
 |zero=>simp [ptrC,idsL] at h
 |succ n ih=>
  rw [succ,app] at h
  rcases List.mem_append.1 h with h|h
  ·obtain ⟨i,h1,h2⟩:=ih h;exact ⟨i,by omega,h2⟩
  ·simp [idsL,AV.ids] at h;exact ⟨n,by omega,h⟩
def mtC (x:Gl) (A:Id) (n:Nat) (W:List (List AV)) (fr to cg ct t:Nat) (sd:Bool):List AV:=
 [.str x.n,.int .u32 x.t,i6 x.g,i6 x.a,i6 x.o,i6 x.c,.sl (x.lb.map Lb.row),.sl (x.ru.map Ru.row),.sl W,.ms A 0 n 1,i6 fr,i6 to,u cg,u ct,i6 t,.bool sd]
theorem mtC_mp (f:Id→Id) (x:Gl) (A:Id) (n:Nat) (W:List (List AV)) (fr to cg ct t:Nat) (sd:Bool):mpL f (mtC x A n W fr to cg ct t sd)=mtC x (f A) n W fr to cg ct t sd:=rfl
end Go.Ai
namespace Go.Ai
def leapN (y:Nat):Bool:=decide (y%4=0)&&!decide (y%100=0)||decide (y%400=0)
def dimN (y m:Nat):Nat:=if m<1∨12<m then 0 else if m=2 then (if leapN y=true then 29 else 28) else 30+(m+m / 8)%2
def diyN (y:Nat):Nat:=if leapN y=true then 366 else 365
def aheadN (y m:Nat):Nat:=if m<3 then 365*(y - 1)+(y - 1) / 4 - (y - 1) / 100+(y - 1) / 400+(153*(m+9)+2) / 5 else 365*y+y / 4 - y / 100+y / 400+(153*(m - 3)+2) / 5
theorem leapN_iff (y:Nat):leapN y=true↔(y%4=0∧y%100≠0)∨y%400=0:=by simp [leapN]
theorem year4 (y:Nat): ∃u v t s,y=400*u+100*v+4*t+s∧v<4∧t<25∧s<4∧y / 4=100*u+25*v+t∧y / 100=4*u+v∧y / 400=u:=
 ⟨y / 400,y%400 / 100,y%100 / 4,y%4,by omega,by omega,by omega,by omega,by omega,by omega,rfl⟩
theorem leap4 {y u v t s:Nat} (h:y=400*u+100*v+4*t+s) (hv:v<4) (ht:t<25) (hs:s<4):leapN y=true↔s=0∧(t≠0∨v=0):=by
 rw [leapN_iff]
 have e1:y%4=s:=by omega
 have e2:y%100=4*t+s:=by omega
 have e3:y%400=100*v+4*t+s:=by omega
 rw [e1,e2,e3]
 omega
theorem sub1_4 {y u v t s:Nat} (hy:1≤y) (h:y=400*u+100*v+4*t+s) (hv:v<4) (ht:t<25) (hs:s<4):
  (y - 1) / 4=(if s=0 then 100*u+25*v+t - 1 else 100*u+25*v+t)∧(y - 1) / 100=(if s=0∧t=0 then 4*u+v - 1 else 4*u+v)∧(y - 1) / 400=(if s=0∧t=0∧v=0 then u - 1 else u):=by
 refine ⟨?_,?_,?_⟩<;>split<;>omega
theorem ahead_feb (y:Nat) (hy:1≤y):365*y+y / 4 - y / 100+y / 400=365*(y - 1)+(y - 1) / 4 - (y - 1) / 100+(y - 1) / 400+diyN y:=by
 obtain ⟨u,v,t,s,h,hv,ht,hs,d1,d2,d3⟩:=year4 y
 obtain ⟨e1,e2,e3⟩:=sub1_4 hy h hv ht hs
 have hl:=leap4 h hv ht hs
 rw [d1,d2,d3,e1,e2,e3]
 unfold diyN
 by_cases c1:s=0
 ·subst c1
  by_cases c2:t=0
  ·subst c2
   by_cases c3:v=0
   ·subst c3
    have:leapN y=true:=hl.2 ⟨rfl,.inr rfl⟩
    simp [this];omega
   ·have:leapN y=false:=by
     cases hb:leapN y
     ·rfl
     ·have:=hl.1 hb;omega
    simp [this,c3];omega
  ·have:leapN y=true:=hl.2 ⟨rfl,.inl c2⟩
   simp [this,c2];omega
 ·have:leapN y=false:=by
   cases hb:leapN y
   ·rfl
   ·have:=hl.1 hb;omega
  simp [this,c1];omega
theorem ahead_month (y m:Nat) (hy:1≤y) (h1:1≤m) (h2:m≤11):aheadN y (m+1)=aheadN y m+dimN y m:=by
 have hm:m=1∨m=2∨m=3∨m=4∨m=5∨m=6∨m=7∨m=8∨m=9∨m=10∨m=11:=by omega
 by_cases h3:m=2
 ·subst h3
  have hf:=ahead_feb y hy
  unfold aheadN dimN
  unfold diyN at hf
  simp only [show ¬2+1<3 by omega,show (2:Nat)<3 by omega,if_true,if_false,show ¬((2:Nat)<1∨12<2) by omega,hf]
  cases h:leapN y<;>simp<;>omega
 ·unfold aheadN dimN
  generalize 365*y+y / 4 - y / 100+y / 400=A
  generalize 365*(y - 1)+(y - 1) / 4 - (y - 1) / 100+(y - 1) / 400=B
  rcases hm with rfl|rfl|rfl|rfl|rfl|rfl|rfl|rfl|rfl|rfl|rfl<;>first
   |(exact absurd rfl h3)
   |(simp;done)
   |(simp;omega)
theorem ahead_dec (y:Nat):aheadN (y+1) 1=aheadN y 12+31:=by
 unfold aheadN
 simp
theorem ahead_year (y:Nat) (hy:1≤y):aheadN (y+1) 1=aheadN y 1+diyN y:=by
 have hf:=ahead_feb y hy
 unfold aheadN
 simp only [show (1:Nat)<3 by omega,if_true,Nat.add_sub_cancel]
 rw [hf]
 omega
theorem epochN:aheadN 1970 1=719468:=by decide
def cenN (n:Nat):Nat:=(4*n+3) / 146097
def restN (n:Nat):Nat:=n - 146097*cenN n / 4
def yrN (n:Nat):Nat:=(4*restN n+3) / 1461
def rest2N (n:Nat):Nat:=restN n - 1461*yrN n / 4
def moN (n:Nat):Nat:=(5*rest2N n+2) / 153
def yearN (n:Nat):Nat:=if 9<moN n then 100*cenN n+yrN n+1 else 100*cenN n+yrN n
def monthN (n:Nat):Nat:=if 9<moN n then moN n - 9 else moN n+3
theorem rest_le (n:Nat):146097*cenN n / 4≤n∧restN n≤36524∧(restN n=36524→cenN n%4=3):=by
 unfold restN
 have h:cenN n=(4*n+3) / 146097:=rfl
 generalize cenN n=c at *
 refine ⟨?_,?_,?_⟩<;>omega
theorem yr_le (n:Nat):yrN n≤99∧1461*yrN n / 4≤restN n∧rest2N n≤365∧(rest2N n=365→yrN n%4=3∧(yrN n=99→cenN n%4=3)):=by
 obtain ⟨h1,h2,h3⟩:=rest_le n
 unfold rest2N
 have h:yrN n=(4*restN n+3) / 1461:=rfl
 generalize restN n=r at *
 generalize yrN n=y at *
 generalize cenN n=c at *
 refine ⟨by omega,by omega,by omega,fun h5=>⟨by omega,fun h6=>h3 ?_⟩⟩
 omega
theorem mo_le (n:Nat):moN n≤11:=by
 have:=(yr_le n).2.2.1
 unfold moN;omega
theorem cy4 (c y:Nat) (hy:y≤99): ∃q v p s,c=4*q+v∧v<4∧y=4*p+s∧s<4∧p<25∧146097*c / 4=36524*c+q∧1461*y / 4=365*y+p∧(100*c+y) / 4=25*c+p∧(100*c+y) / 100=c∧(100*c+y) / 400=q:=by
 refine ⟨c / 4,c%4,y / 4,y%4,by omega,by omega,by omega,by omega,by omega,by omega,by omega,by omega,by omega,by omega⟩
theorem ahead_in (n:Nat) (h0:1≤100*cenN n+yrN n):1≤monthN n∧monthN n≤12∧aheadN (yearN n) (monthN n)≤n∧n<aheadN (yearN n) (monthN n)+dimN (yearN n) (monthN n):=by
 obtain ⟨a1,a2,a3⟩:=rest_le n
 obtain ⟨b1,b2,b3,b4⟩:=yr_le n
 have m1:=mo_le n
 have hr:restN n=n - 146097*cenN n / 4:=rfl
 have hr2:rest2N n=restN n - 1461*yrN n / 4:=rfl
 have hm:moN n=(5*rest2N n+2) / 153:=rfl
 obtain ⟨q,v,p,s,k1,k2,k3,k4,k5,e1,e2,e3,e4,e5⟩:=cy4 (cenN n) (yrN n) b1
 rw [e1] at a1 hr
 rw [e2] at b2 hr2
 have hn:n=365*(100*cenN n+yrN n)+(25*cenN n+p) - cenN n+q+rest2N n:=by omega
 have hlp:rest2N n=365→leapN (100*cenN n+yrN n+1)=true:=by
  intro h5
  obtain ⟨q1,q2⟩:=b4 h5
  rw [leapN_iff]
  by_cases h9:yrN n=99
  ·have:=q2 h9
   right;omega
  ·left;omega
 unfold yearN monthN aheadN dimN
 clear hr hr2 e1 e2 a1 a2 a3 b2 b4
 generalize moN n=m at *
 generalize rest2N n=r2 at *
 generalize restN n=r at *
 generalize yrN n=y at *
 generalize cenN n=c at *
 by_cases g:9<m
 ·rw [if_pos g,if_pos g]
  have hmm:m=10∨m=11:=by omega
  rcases hmm with rfl|rfl
  ·simp only [show (10:Nat) - 9=1 by omega,show (1:Nat)<3 by omega,if_true,Nat.add_sub_cancel,e3,e4,e5]
   simp
   omega
  ·simp only [show 11 - 9=2 by omega,show (2:Nat)<3 by omega,if_true,show ¬((2:Nat)<1∨12<2) by omega,if_false,Nat.add_sub_cancel,e3,e4,e5]
   cases hl:leapN (100*c+y+1)
   ·have:r2≠365:=by
     intro h5
     rw [hlp h5] at hl;cases hl
    simp
    omega
   ·simp
    omega
 ·rw [if_neg g,if_neg g]
  have hmm:m=0∨m=1∨m=2∨m=3∨m=4∨m=5∨m=6∨m=7∨m=8∨m=9:=by omega
  rw [e3,e4,e5]
  rcases hmm with rfl|rfl|rfl|rfl|rfl|rfl|rfl|rfl|rfl|rfl<;>simp<;>omega
end Go.Ai
namespace Go.Ai
def startK (k:Nat):Nat:=aheadN (k / 12) (k%12+1)
def dimK (k:Nat):Nat:=dimN (k / 12) (k%12+1)
theorem dimN_ge (y m:Nat) (h1:1≤m) (h2:m≤12):28≤dimN y m∧dimN y m≤31:=by
 unfold dimN
 rw [if_neg (by omega)]
 split
 ·split<;>omega
 ·omega
theorem dim_dec (y:Nat):dimN y 12=31:=by simp [dimN]
theorem startK_next (k:Nat) (h:12≤k):startK (k+1)=startK k+dimK k:=by
 unfold startK dimK
 by_cases h1:k%12=11
 ·rw [show (k+1) / 12=k / 12+1 by omega,show (k+1)%12=0 by omega,h1]
  have:=ahead_dec (k / 12)
  rw [show (11:Nat)+1=12 from rfl,dim_dec]
  exact this
 ·rw [show (k+1) / 12=k / 12 by omega,show (k+1)%12=k%12+1 by omega]
  exact ahead_month _ _ (by omega) (by omega) (by omega)
theorem startK_le (k:Nat) (h:12≤k): ∀d,startK k+28*d≤startK (k+d)
 |0=>by simp
 |d+1=>by
  have i1:=startK_le k h d
  have i2:=startK_next (k+d) (by omega)
  have i3:=dimN_ge ((k+d) / 12) ((k+d)%12+1) (by omega) (by omega)
  have i4:dimK (k+d)=dimN ((k+d) / 12) ((k+d)%12+1):=rfl
  rw [show k+(d+1)=k+d+1 by omega]
  omega
theorem startK_at {y m:Nat} (h1:1≤m) (h2:m≤12):startK (12*y+(m - 1))=aheadN y m∧dimK (12*y+(m - 1))=dimN y m:=by
 unfold startK dimK
 rw [show (12*y+(m - 1)) / 12=y by omega,show (12*y+(m - 1))%12+1=m by omega]
 exact ⟨rfl,rfl⟩
theorem ahead_le_year (y:Nat) (hy:1≤y) (m:Nat) (h1:1≤m) (h2:m≤12):aheadN y 1≤aheadN y m∧aheadN y m+28≤aheadN (y+1) 1:=by
 have e:=startK_at (y:=y) h1 h2
 have e1:=startK_at (y:=y) (m:=1) (by omega) (by omega)
 have e2:=startK_at (y:=y+1) (m:=1) (by omega) (by omega)
 have i1:=startK_le (12*y) (by omega) (m - 1)
 have i2:=startK_le (12*y+(m - 1)) (by omega) (12 - (m - 1))
 rw [show 12*y+(m - 1)+(12 - (m - 1))=12*(y+1)+(1 - 1) by omega] at i2
 simp only [Nat.sub_self,Nat.add_zero] at e1 e2 i2
 rw [e.1] at i1 i2
 rw [e1.1] at i1
 rw [e2.1] at i2
 omega
theorem ahead_years1 (y:Nat) (hy:1≤y):aheadN y 1+336≤aheadN (y+1) 1:=by
 have i3:=ahead_year y hy
 have i4:336≤diyN y:=by unfold diyN;split<;>omega
 rw [i3]
 exact Nat.add_le_add_left i4 _
theorem ahead_years (y:Nat) (hy:1≤y) (d:Nat):aheadN y 1+336*d≤aheadN (y+d) 1:=by
 induction d with
 |zero=>exact Nat.le_refl _
 |succ d ih=>
  have i3:=ahead_years1 (y+d) (Nat.le_trans hy (Nat.le_add_right _ _))
  have e:336*(d+1)=336*d+336:=Nat.mul_succ 336 d
  have e2:y+(d+1)=y+d+1:=(Nat.add_assoc y d 1).symm
  rw [e,e2,←Nat.add_assoc (aheadN y 1)]
  exact Nat.le_trans (Nat.add_le_add_right ih 336) i3
end Go.Ai
