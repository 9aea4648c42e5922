/- P2: a part of the proof: the rules, or what functions compute. Conditions: as each theorem says. -/
import Derived.Test.YtidcomakahbepaaGreatDoorP1
set_option linter.unusedSimpArgs false
set_option linter.unusedVariables false
set_option maxRecDepth 20000
namespace Go.Ai
open Go.Proofs
def EvLe (L:List Ev) (t:Nat):Prop:= ∀e∈L,e.1≤t
def mvF (v:Ev→Nat) (K w N n0 n:Nat) (L:List Ev) (j:Nat):Nat:=sm v w (fun q=>leftP K N n0 n q&&q%K==j) L
def mvS (v:Ev→Nat) (K w N n0 n:Nat) (L:List Ev):Nat:=sm v w (leftP K N n0 n) L
theorem mvF_next {v:Ev→Nat} {K w N n0 n:Nat} {L:List Ev} (hK:0<K) (h0:n0≤n) (h1:n<n0+K):mvF v K w N n0 (n+1) L=upd (mvF v K w N n0 n L) (n%K) 0:=by
 funext j
 unfold upd mvF
 by_cases e:j=n%K
 ·rw [if_pos e]
  refine sm_zero fun x _=>?_
  rw [leftP_next hK h0 h1,e]
  cases leftP K N n0 n (x.1 / w)<;>cases (x.1 / w%K==n%K)<;>rfl
 ·rw [if_neg e]
  refine sm_congr fun x _=>?_
  rw [leftP_next hK h0 h1]
  by_cases h2:x.1 / w%K=j
  ·have:(x.1 / w%K==n%K)=false:=by rw [beq_eq_false_iff_ne,h2];exact e
   rw [this];simp
  ·have:(x.1 / w%K==j)=false:=by rw [beq_eq_false_iff_ne];exact h2
   rw [this];simp
theorem mvS_next {v:Ev→Nat} {K w N n0 n:Nat} {L:List Ev} (hK:0<K) (h0:n0≤n) (h1:n<n0+K):mvS v K w N n0 n L=mvF v K w N n0 n L (n%K)+mvS v K w N n0 (n+1) L:=by
 unfold mvS mvF
 rw [sm_split v w (leftP K N n0 n) (fun q=>q%K==n%K) L]
 congr 1
 exact sm_congr fun x _=>(leftP_next hK h0 h1 _).symm
theorem mvF_first (v:Ev→Nat) (K w N n0:Nat) (L:List Ev):mvF v K w N n0 n0 L=bkv v K w (inW K N) L:=by
 funext j;unfold mvF bkv
 exact sm_congr fun x _=>by rw [leftP_first]
theorem mvS_first (v:Ev→Nat) (K w N n0:Nat) (L:List Ev):mvS v K w N n0 n0 L=sm v w (inW K N) L:=sm_congr fun x _=>leftP_first K N n0 _
theorem mv_last {v:Ev→Nat} {K w t M:Nat} {L:List Ev} (hK:0<K) (h:t / w≤M) (hL:EvLe L t):
  mvF v K w (t / w) (first0 K (t / w) M) (M+1) L=bkv v K w (inW K M) L∧mvS v K w (t / w) (first0 K (t / w) M) (M+1) L=sm v w (inW K M) L:=by
 have hq: ∀x∈L,leftP K (t / w) (first0 K (t / w) M) (M+1) (x.1 / w)=inW K M (x.1 / w):=fun x hx=>leftP_last hK h (Nat.div_le_div_right (hL x hx))
 refine ⟨?_,sm_congr hq⟩
 funext j;unfold mvF bkv
 exact sm_congr fun x hx=>by rw [hq x hx]
theorem sumG_le {K w N:Nat} {L:List Ev} (h:EvOk L):sumG K w N L≤sumT K w N L:=sm_GT h
theorem mvS_le (v:Ev→Nat) (K w N n0 n:Nat) (L:List Ev):mvS v K w N n0 n L≤sm v w (inW K N) L:=sm_le fun e _ h=>by
 unfold leftP at h;simp only [Bool.and_eq_true] at h;exact h.1
theorem rmove_spec (R B:Id) (h:Pr2 R B) (K w t t':Nat) (L:List Ev) (hK:1≤K) (hK2:K≤60) (hw:1≤w) (htt:t≤t') (ht:t'≤253402300799) (hL:EvOk L) (hLe:EvLe L t) (hs:sumT K w (t / w) L≤9223372036854775807) (d:Nat) (hd:R.isNw d=false):
  SpH Tryz.prog gl 93 d ⟨[.ptr R 0,i6 t'],[(R,ringC B K w t L),(B,bkC K w (t / w) L)],[]⟩ ⟨i6 0,[(R,ringC B K w t' L),(B,bkC K w (t' / w) L)],[]⟩:=by
 refine h93 rfl ?_
 have hi:=inn_notNw hd
 have hdB:B.isNw d=false:=by rw [←h.nw];exact hd
 have hiB:=inn_notNw hdB
 have r1:=h.ri
 have r2:=h.bi
 have ne:=h.ne
 have ne':B≠R:=fun e=>h.ne e.symm
 have TK:=rtick_spec t'
 have tk:(decide ((0:Int)≤t')&&decide ((t':Int)≤253402300799))=true:=by simp;omega
 rw [tk] at TK
 have hNM:t / w≤t' / w:=Nat.div_le_div_right htt
 have Mlt:t' / w≤t':=Nat.div_le_self _ _
 obtain ⟨hfF,hfS⟩:=mv_last (v:=eG) (K:=K) (w:=w) (t:=t) (M:=t' / w) (L:=L) (by omega) hNM hLe
 obtain ⟨hfF',hfS'⟩:=mv_last (v:=eT) (K:=K) (w:=w) (t:=t) (M:=t' / w) (L:=L) (by omega) hNM hLe
 have i1:=mvF_first eG K w (t / w) (first0 K (t / w) (t' / w)) L
 have i2:=mvF_first eT K w (t / w) (first0 K (t / w) (t' / w)) L
 have i3:=mvS_first eG K w (t / w) (first0 K (t / w) (t' / w)) L
 have i4:=mvS_first eT K w (t / w) (first0 K (t / w) (t' / w)) L
 obtain ⟨f1,f2,f3⟩:=first0_le (K:=K) (N:=t / w) (M:=t' / w) hNM (by omega)
 have hGT:=sumG_le (K:=K) (w:=w) (N:=t / w) hL
 have hsG: ∀n,mvS eG K w (t / w) (first0 K (t / w) (t' / w)) n L≤9223372036854775807:=fun n=>by
  have:=mvS_le eG K w (t / w) (first0 K (t / w) (t' / w)) n L
  unfold sumG at hGT;unfold sumT at hGT hs;omega
 have hsT: ∀n,mvS eT K w (t / w) (first0 K (t / w) (t' / w)) n L≤9223372036854775807:=fun n=>by
  have:=mvS_le eT K w (t / w) (first0 K (t / w) (t' / w)) n L
  unfold sumT at hs;omega
 have hnF:=fun n=>mvF_next (v:=eG) (K:=K) (w:=w) (N:=t / w) (n0:=first0 K (t / w) (t' / w)) (n:=n) (L:=L) (by omega)
 have hnF':=fun n=>mvF_next (v:=eT) (K:=K) (w:=w) (N:=t / w) (n0:=first0 K (t / w) (t' / w)) (n:=n) (L:=L) (by omega)
 have hnS:=fun n=>mvS_next (v:=eG) (K:=K) (w:=w) (N:=t / w) (n0:=first0 K (t / w) (t' / w)) (n:=n) (L:=L) (by omega)
 have hnS':=fun n=>mvS_next (v:=eT) (K:=K) (w:=w) (N:=t / w) (n0:=first0 K (t / w) (t' / w)) (n:=n) (L:=L) (by omega)
 have hf0:((first0 K (t / w) (t' / w):Nat):Int)=if ((t / w:Nat):Int)+1<((t' / w:Nat):Int) - K+1 then ((t' / w:Nat):Int) - K+1 else ((t / w:Nat):Int)+1:=by
  unfold first0
  generalize t / w=N at *
  generalize t' / w=M at *
  split<;>split<;>omega
 have d1:=tdiv_nat t' w
 have w0: ¬((w:Int)=0):=by omega
 have w0': ¬(w=0):=by omega
 have a1: ¬((t':Int)<t):=by omega
 have a1': ¬(t'<t):=by omega
 have t0:IntKind.i64.wrap ((t' / w:Nat):Int)=(t' / w:Nat):=by
  generalize t' / w=q at *
  rw [wrap_i64]<;>omega
 have t1:IntKind.i64.wrap (((t / w:Nat):Int)+1)=((t / w:Nat):Int)+1:=by
  generalize t / w=N at *
  generalize t' / w=M at *
  rw [wrap_i64]<;>omega
 have t2:IntKind.i64.wrap (((t' / w:Nat):Int) - K)=((t' / w:Nat):Int) - K:=by
  generalize t' / w=M at *
  rw [wrap_i64]<;>omega
 have t3:IntKind.i64.wrap (((t' / w:Nat):Int) - K+1)=((t' / w:Nat):Int) - K+1:=by
  generalize t' / w=M at *
  rw [wrap_i64]<;>omega
 have AT:=fun n g s (hn:n<9223372036854775808) e he=>rat_spec (.up R) (.up B) h.up K w (t / w) t' g s n hK hn e he
 have hids:=fun n=>cellsF_ids K (mvF eG K w (t / w) (first0 K (t / w) (t' / w)) n L) (mvF eT K w (t / w) (first0 K (t / w) (t' / w)) n L)
 have hlen:=fun n=>cellsF_len K (mvF eG K w (t / w) (first0 K (t / w) (t' / w)) n L) (mvF eT K w (t / w) (first0 K (t / w) (t' / w)) n L)
 have hget:=fun n j hj=>cellsF_get (K:=K) (f:=mvF eG K w (t / w) (first0 K (t / w) (t' / w)) n L) (g:=mvF eT K w (t / w) (first0 K (t / w) (t' / w)) n L) (j:=j) hj
 have hset:=fun n j hj=>cellsF_upd (K:=K) (f:=mvF eG K w (t / w) (first0 K (t / w) (t' / w)) n L) (g:=mvF eT K w (t / w) (first0 K (t / w) (t' / w)) n L) (j:=j) (a:=0) (b:=0) hj
 have ix:=mpL_noids (f:=Id.up) (hids (first0 K (t / w) (t' / w)))
 have iz:=fun f'=>mpL_noids (f:=f') (hids (t' / w+1))
 simp only [ringC_eq,bkC,sumG,sumT]
 rw [←i1,←i2,←i3,←i4,←hfF,←hfF',←hfS,←hfS']
 simp only [rgL,inSt,mpL,mpB,mpP,AV.mp,ix]
 simp only [rgL] at AT
 clear i1 i2 i3 i4 hfF hfF' hfS hfS'
 generalize first0 K (t / w) (t' / w)=n0 at *
 have hstep: ∀n,n0≤n→n<n0+K→cellsF K (mvF eG K w (t / w) n0 (n+1) L) (mvF eT K w (t / w) n0 (n+1) L)=(cellsF K (mvF eG K w (t / w) n0 n L) (mvF eT K w (t / w) n0 n L)).take (n%K*2)++ .int .u64 0:: .int .u64 0::(cellsF K (mvF eG K w (t / w) n0 n L) (mvF eT K w (t / w) n0 n L)).drop (n%K*2+2):=by
  intro n g1 g2
  rw [hnF n g1 g2,hnF' n g1 g2]
  exact hset n (n%K) (Nat.mod_lt _ (by omega))
 have hget2:=fun n=>hget n (n%K) (Nat.mod_lt _ (by omega))
 clear hset hnF hnF' hget
 obtain ⟨C,hC⟩: ∃C:Nat→List AV,C=fun n=>cellsF K (mvF eG K w (t / w) n0 n L) (mvF eT K w (t / w) n0 n L):=⟨_,rfl⟩
 have hCn: ∀n,cellsF K (mvF eG K w (t / w) n0 n L) (mvF eT K w (t / w) n0 n L)=C n:=fun n=>by rw [hC]
 simp only [hCn] at hstep hget2 hids hlen iz ⊢
 clear hC hCn ix
 generalize t / w=N at *
 generalize t' / w=M at *
 obtain ⟨SG,hSG⟩: ∃SG:Nat→Nat,SG=fun n=>mvS eG K w N n0 n L:=⟨_,rfl⟩
 obtain ⟨ST,hST⟩: ∃ST:Nat→Nat,ST=fun n=>mvS eT K w N n0 n L:=⟨_,rfl⟩
 have hSGn: ∀n,mvS eG K w N n0 n L=SG n:=fun n=>by rw [hSG]
 have hSTn: ∀n,mvS eT K w N n0 n L=ST n:=fun n=>by rw [hST]
 simp only [hSGn,hSTn] at hsG hsT hnS hnS' ⊢
 clear hSG hST hSGn hSTn
 simp -implicitDefEqProofs [c93]
 refine onC_mk _ TK ?_
 simp -implicitDefEqProofs [ne,ne',a1,a1',w0,w0',d1]
 simp only [t0,t1,t2,t3]
 refine wp_lpk (α:=Nat) (fun n=>⟨[(0,.ptr (.up R) 0),(5,i6 M),(6,i6 n)],[(.up R,[i6 w,.ms (.up B) 0 K 2,i6 N,i6 t',u (SG n),u (ST n)]),(.up B,C n)],[]⟩) (fun n=>n0≤n∧n≤M+1) (fun n=>M+1 - n) ?_ n0 ?_ ?_
 ·rintro K' n hK' ⟨g1,g2⟩
  by_cases g:n≤M
  ·have g3:(n:Int)≤M:=by omega
   have t4:IntKind.i64.wrap ((n:Int)+1)=(n+1:Nat):=by rw [wrap_i64]<;>omega
   have A:=fun e he=>AT n (SG n) (ST n) (by omega) e he
   have e1:=hnS n g1 (by omega)
   have e2:=hnS' n g1 (by omega)
   have e3:=hstep n g1 (by omega)
   obtain ⟨x0,x1⟩:=hget2 n
   have l1:=hlen n
   have hid:=hids (n+1)
   have jl:n%K<K:=Nat.mod_lt _ (by omega)
   have b1:=hsG n
   have b2:=hsT n
   have w1:IntKind.u64.wrap ((SG n:Int) - (mvF eG K w N n0 n L (n%K):Nat))=(SG (n+1):Nat):=by rw [wrap_u64]<;>omega
   have w2:IntKind.u64.wrap ((ST n:Int) - (mvF eT K w N n0 n L (n%K):Nat))=(ST (n+1):Nat):=by rw [wrap_u64]<;>omega
   have fin: ∀σ',Weak σ' ⟨[(0,.ptr (.up R) 0),(5,i6 M),(6,i6 (n+1:Nat))],[(.up R,[i6 w,.ms (.up B) 0 K 2,i6 N,i6 t',.int .u64 ((SG (n+1):Nat):Int),.int .u64 ((ST (n+1):Nat):Int)]),(.up B,C (n+1))],[]⟩→K' σ':=
    fun σ' hσ=>hK' (n+1) σ' ⟨by omega,by omega⟩ (by omega) hσ
   clear hK' hnS hnS' hstep hget2 hlen hids hsG hsT e1 e2 b1 b2 AT iz
   have c1:n%K*2+2≤(C n).length:=by omega
   have c2:n%K*2<(C n).length:=by omega
   have c3:n%K*2+1<(C n).length:=by omega
   have x0':(C n)[n%K*2]= .int .u64 (mvF eG K w N n0 n L (n%K):Nat):=by rw [List.getElem?_eq_getElem c2] at x0;exact Option.some.inj x0
   have x1':(C n)[n%K*2+1]= .int .u64 (mvF eT K w N n0 n L (n%K):Nat):=by rw [List.getElem?_eq_getElem c3] at x1;exact Option.some.inj x1
   have e3:=e3.symm
   generalize ((SG (n+1):Nat):Int)=v1 at *
   generalize ((ST (n+1):Nat):Int)=v2 at *
   generalize ((mvF eG K w N n0 n L (n%K):Nat):Int)=v3 at *
   generalize ((mvF eT K w N n0 n L (n%K):Nat):Int)=v4 at *
   generalize C (n+1)=Y at *
   generalize C n=X at *
   generalize n%K*2=off at *
   simp -implicitDefEqProofs [g,g3]
   refine onH_mk _ _ (A _ rfl) ⟨?_,?_,?_,?_,?_,?_,?_⟩ ?_
   iterate 7 (· simp [ne,ne'])
   simp -implicitDefEqProofs [ne,ne',x0,x0',c2]
   simp only [w1]
   simp -implicitDefEqProofs [ne,ne',x1,x1',c3]
   simp only [w2]
   simp -implicitDefEqProofs [ne,ne',c1,e3]
   refine fin _ ?_
   refine weak_mk ?_ ?_ ?_ ?_ ?_ ?_<;>simp -implicitDefEqProofs [ne,ne',t4,hid]
  ·obtain rfl:n=M+1:=by omega
   have hid:=hids (M+1)
   clear hK' hnS hnS' hstep hget2 hlen hsG hsT AT
   have g3: ¬(((M+1:Nat):Int)≤M):=by omega
   have g4: ¬(M+1≤M):=by omega
   have g5: ¬((M:Int)+1≤M):=by omega
   simp -implicitDefEqProofs [ne,ne',g3,g4,g5]
   refine postH_r ⟨?_,?_,?_,?_,?_,?_⟩<;>simp -implicitDefEqProofs [hi,hiB,r1,r2,hd,hdB,ne,ne',hid,iz]
 ·exact ⟨Nat.le_refl _,f2⟩
 ·have hid:=hids n0
  refine weak_mk ?_ ?_ ?_ ?_ ?_ ?_<;>simp -implicitDefEqProofs [ne,ne',hid,hf0]
open Go.Proofs

open Go.Proofs

def lenN (x:Nat):Nat:=if x=0 then 0 else Nat.log2 x+1
def lenT:List UInt8:=(List.range 256).map fun x=>UInt8.ofNat (lenN x)
theorem lenT_eq:([0,1,2,2,3,3,3,3,4,4,4,4,4,4,4,4,5,5,5,5,5,5,5,5,5,5,5,5,5,5,5,5,6,6,6,6,6,6,6,6,6,6,6,6,6,6,6,6,6,6,6,6,6,6,6,6,6,6,6,6,6,6,6,6,7,7,7,7,7,7,7,7,7,7,7,7,7,7,7,7,7,7,7,7,7,7,7,7,7,7,7,7,7,7,7,7,7,7,7,7,7,7,7,7,7,7,7,7,7,7,7,7,7,7,7,7,7,7,7,7,7,7,7,7,7,7,7,7,8,8,8,8,8,8,8,8,8,8,8,8,8,8,8,8,8,8,8,8,8,8,8,8,8,8,8,8,8,8,8,8,8,8,8,8,8,8,8,8,8,8,8,8,8,8,8,8,8,8,8,8,8,8,8,8,8,8,8,8,8,8,8,8,8,8,8,8,8,8,8,8,8,8,8,8,8,8,8,8,8,8,8,8,8,8,8,8,8,8,8,8,8,8,8,8,8,8,8,8,8,8,8,8,8,8,8,8,8,8,8,8,8,8,8,8,8,8,8,8,8,8,8,8,8,8,8,8]:List UInt8)=lenT:=by kernel_rfl
theorem lenN_shr {x k:Nat} (h:2^k≤x):lenN x=lenN (x / 2^k)+k:=by
 have hx:x≠0:=by have:=Nat.two_pow_pos k;omega
 have hy:1≤x / 2^k:=(Nat.le_div_iff_mul_le (Nat.two_pow_pos k)).2 (by omega)
 have hy0:x / 2^k≠0:=by omega
 unfold lenN
 rw [if_neg hx,if_neg hy0]
 have h1:=Nat.log2_self_le hy0
 have h2:=Nat.lt_log2_self (n:=x / 2^k)
 have e:Nat.log2 x=Nat.log2 (x / 2^k)+k:=by
  apply (Nat.log2_eq_iff hx).2
  rw [Nat.pow_add,show Nat.log2 (x / 2^k)+k+1=(Nat.log2 (x / 2^k)+1)+k by omega,Nat.pow_add]
  exact ⟨(Nat.le_div_iff_mul_le (Nat.two_pow_pos k)).1 h1,(Nat.div_lt_iff_lt_mul (Nat.two_pow_pos k)).1 h2⟩
 omega
theorem lenN_le {x k:Nat} (h:x<2^k):lenN x≤k:=by
 unfold lenN
 split
 ·omega
 ·rename_i h0
  have:=(Nat.log2_lt h0).2 h
  omega
theorem lenT_get (m:Nat) (hm:m<256):lenT[m]?=some (UInt8.ofNat (lenN m)):=by simp [lenT,hm]
theorem len64_end (a:Int) (b m:Nat) (h1:a=b) (hb:b≤56) (hm:m<256):IntKind.i64.wrap (a+((UInt8.ofNat (lenN m)).toNat:Int))=(b+lenN m:Nat):=by
 have:=lenN_le (x:=m) (k:=8) (by omega)
 have e:(UInt8.ofNat (lenN m)).toNat=lenN m:=by simp;omega
 rw [e,h1,wrap_i64]<;>omega
theorem shr_lit (x:Nat) (k n:Nat) (h:(2:Int)^min k IntKind.u64.bits=(n:Int)):(x:Int).fdiv (2^min k IntKind.u64.bits)=((x / n:Nat):Int):=by
 rw [h,Int.fdiv_eq_ediv_of_nonneg _ (by omega)];simp
theorem shr32 (x:Nat):(x:Int).fdiv (2^min 32 IntKind.u64.bits)=((x / 4294967296:Nat):Int):=shr_lit x 32 _ (by decide)
theorem shr16 (x:Nat):(x:Int).fdiv (2^min 16 IntKind.u64.bits)=((x / 65536:Nat):Int):=shr_lit x 16 _ (by decide)
theorem shr8 (x:Nat):(x:Int).fdiv (2^min 8 IntKind.u64.bits)=((x / 256:Nat):Int):=shr_lit x 8 _ (by decide)
section
variable {x:Nat} (hx:x<18446744073709551616)
include hx
set_option linter.unusedSectionVars false
theorem len64_3 (e:List (Nat×AV)) (pm:List (Pl×Nat)) (m b:Nat) (h0:lk e 0=u m) (h2:lk e 2=i6 b) (hm:m<256) (hb:b≤56) (hl:lenN x=b+lenN m):
  wpA (SpH Tryz.prog gl) (AC.tl 4 c205) (postA [.t 2] (i6 (lenN x))) ⟨e,[],pm⟩:=by
 unfold c205
 rw [lenT_eq]
 have e1:IntKind.u8.wrap (m:Int)=m:=wrap_u8 (by omega) (by omega)
 have e2:=len64_end b b m rfl hb hm
 have e3:IntKind.i64.wrap ((lenN m:Int)%256)=(lenN m:Int)%256:=wrap_i64 (by omega) (by omega)
 simp at e2
 simp [AC.tl,h0,h2,e1,lenT_get m hm,hl,e3]
 exact e2
theorem len64_2 (e:List (Nat×AV)) (pm:List (Pl×Nat)) (m b:Nat) (h0:lk e 0=u m) (h2:lk e 2=i6 b) (hm:m<65536) (hb:b≤48) (hl:lenN x=b+lenN m):
  wpA (SpH Tryz.prog gl) (AC.tl 3 c205) (postA [.t 2] (i6 (lenN x))) ⟨e,[],pm⟩:=by
 have ec:AC.tl 3 c205=AC.cutAt 1 (AC.tl 4 c205) (AC.tl 3 c205):=rfl
 rw [ec]
 have T:= @len64_3 x hx
 generalize AC.tl 4 c205=t at T ⊢
 simp [c205,AC.tl,AC.cutAt,h0,h2]
 refine onB_dec (fun h=>?_) (fun h=>?_)
 ·simp [h0,h2]
  refine T _ _ (m / 256) (b+8) ?_ ?_ (by omega) (by omega) ?_
  ·simp;exact shr8 m
  ·simp;exact wrap_i64 (by omega) (by omega)
  ·rw [hl,lenN_shr (x:=m) (k:=8) (by omega),show m / 2^8=m / 256 from rfl];omega
 ·simp
  exact T _ _ m b (by simp [h0]) (by simp [h2]) (by omega) (by omega) hl
theorem len64_1 (e:List (Nat×AV)) (pm:List (Pl×Nat)) (m b:Nat) (h0:lk e 0=u m) (h2:lk e 2=i6 b) (hm:m<4294967296) (hb:b≤32) (hl:lenN x=b+lenN m):
  wpA (SpH Tryz.prog gl) (AC.tl 2 c205) (postA [.t 2] (i6 (lenN x))) ⟨e,[],pm⟩:=by
 have ec:AC.tl 2 c205=AC.cutAt 1 (AC.tl 3 c205) (AC.tl 2 c205):=rfl
 rw [ec]
 have T:= @len64_2 x hx
 generalize AC.tl 3 c205=t at T ⊢
 simp [c205,AC.tl,AC.cutAt,h0,h2]
 refine onB_dec (fun h=>?_) (fun h=>?_)
 ·simp [h0,h2]
  refine T _ _ (m / 65536) (b+16) ?_ ?_ (by omega) (by omega) ?_
  ·simp;exact shr16 m
  ·simp;exact wrap_i64 (by omega) (by omega)
  ·rw [hl,lenN_shr (x:=m) (k:=16) (by omega),show m / 2^16=m / 65536 from rfl];omega
 ·simp
  exact T _ _ m b (by simp [h0]) (by simp [h2]) (by omega) (by omega) hl
theorem len64_spec:Sp Tryz.prog gl 205 [u x] (i6 (lenN x)):=by
 refine s205 rfl rfl ?_
 have ec:c205=AC.cutAt 2 (AC.tl 2 c205) c205:=rfl
 rw [ec]
 have T:= @len64_1 x hx
 generalize AC.tl 2 c205=t at T ⊢
 simp [c205,AC.tl,AC.cutAt]
 refine onB_dec (fun h=>?_) (fun h=>?_)
 ·simp
  refine T _ _ (x / 4294967296) 32 ?_ ?_ (by omega) (by omega) ?_
  ·simp;exact shr32 x
  ·simp
  ·rw [lenN_shr (x:=x) (k:=32) (by omega),show x / 2^32=x / 4294967296 from rfl];omega
 ·simp
  exact T _ _ x 0 (by simp) (by simp) (by omega) (by omega) (by omega)
end
end Go.Ai
namespace Go.Ai
open Go.Proofs Go.RowKit
def sz8 (n:Nat):Nat:=if h:n=0 then 0 else sz8 (n / 256)+1
termination_by n
decreasing_by omega
def be:Nat→Nat→List UInt8
 |0,_=>[]
 |k+1,n=>UInt8.ofNat (n / 256^k)::be k n
def numB (n:Nat):List UInt8:=UInt8.ofNat (sz8 n)::be (sz8 n) n
def flagB (f:Bool):List UInt8:=[if f=true then 1 else 0]
theorem sz8_zero:sz8 0=0:=by rw [sz8,dif_pos rfl]
theorem sz8_pos {n:Nat} (h:n≠0):sz8 n=sz8 (n / 256)+1:=by rw [sz8,dif_neg h]
theorem be_len (k n:Nat):(be k n).length=k:=by
 induction k with
 |zero=>rfl
 |succ k ih=>simp [be,ih]
theorem sz8_le (k n:Nat) (h:n<256^k):sz8 n≤k:=by
 induction k generalizing n with
 |zero=>
  have:n=0:=by simpa using h
  subst this;rw [sz8_zero];exact Nat.le_refl _
 |succ k ih=>
  by_cases h0:n=0
  ·subst h0;rw [sz8_zero];omega
  ·rw [sz8_pos h0]
   have:=ih (n / 256) (by rw [Nat.pow_succ] at h;omega)
   omega
theorem sz8_le8 (n:Nat) (h:n<18446744073709551616):sz8 n≤8:=sz8_le 8 n (by simpa using h)
theorem sz8_len (n:Nat):(lenN n+7) / 8=sz8 n:=by
 induction n using Nat.strongRecOn with
 |_ n ih=>
  by_cases h0:n=0
  ·subst h0;rw [sz8_zero];rfl
  ·rw [sz8_pos h0]
   by_cases h1:n<256
   ·have e:n / 256=0:=by omega
    rw [e,sz8_zero]
    have hl:=lenN_le (x:=n) (k:=8) (by omega)
    have:1≤lenN n:=by unfold lenN;rw [if_neg h0];omega
    omega
   ·have:=ih (n / 256) (by omega)
    rw [lenN_shr (x:=n) (k:=8) (by omega)]
    rw [show n / 2^8=n / 256 from rfl]
    omega
theorem numB_len (n:Nat) (h:n<18446744073709551616):(numB n).length≤9:=by
 have:=sz8_le8 n h
 simp [numB,be_len];omega
theorem byteRows_app (a b:List UInt8):byteRows (a++b)=byteRows a++byteRows b:=by simp [byteRows]
theorem byteRows_len (a:List UInt8):(byteRows a).length=a.length:=by simp [byteRows]
theorem byteRows_one (a:List UInt8): ∀r∈byteRows a,r.length=1:=by
 intro r hr;simp only [byteRows,List.mem_map] at hr;obtain ⟨x,_,rfl⟩:=hr;rfl
theorem byteRows_cons (b:UInt8) (a:List UInt8):byteRows (b::a)=[.int .u8 b.toNat]::byteRows a:=rfl
theorem rowBytes_of (a:List UInt8):rowBytes (byteRows a)=some a:=by
 induction a with
 |nil=>rfl
 |cons b r ih=>
  rw [byteRows_cons]
  simp only [rowBytes,ih]
  congr 2
  simp
theorem byteRows_at (a:List UInt8) (i:Nat) (h:i<a.length):(byteRows a)[i]?=some [.int .u8 a[i].toNat]:=by simp [byteRows,h]
theorem byteRows_take (a:List UInt8) (n:Nat):(byteRows a).take n=byteRows (a.take n):=by simp [byteRows,List.map_take]
theorem byteRows_drop (a:List UInt8) (n:Nat):(byteRows a).drop n=byteRows (a.drop n):=by simp [byteRows,List.map_drop]
theorem shrB (n m:Nat) (hm:m≤7):(n:Int).fdiv (2^(min (8*(m:Int)).toNat IntKind.u64.bits))=((n / 256^m:Nat):Int):=by
 have e:(2:Int)^(min (8*(m:Int)).toNat IntKind.u64.bits)=((256^m:Nat):Int):=by
  match m,hm with
  |0,_=>rfl|1,_=>rfl|2,_=>rfl|3,_=>rfl|4,_=>rfl|5,_=>rfl|6,_=>rfl|7,_=>rfl
 rw [e,Int.fdiv_eq_ediv_of_nonneg _ (Int.natCast_nonneg _)]
 rfl
theorem wrap_u8o (n:Nat):IntKind.u8.wrap (n:Int)=((UInt8.ofNat n).toNat:Int):=by
 have:IntKind.u8.wrap (n:Int)=if (false&&decide ((n:Int)%2^8≥2^(8 - 1)))=true then (n:Int)%2^8 - 2^8 else (n:Int)%2^8:=rfl
 rw [this]
 simp
theorem or0_u8 (n:Nat) (h:n<256):bits BinOp.or IntKind.u8 0 (n:Int)=n:=by
 have: ∀x:Fin 256,bits BinOp.or IntKind.u8 0 ((x.val:Nat):Int)=(x.val:Int):=by decide+kernel
 exact this ⟨n,h⟩
theorem and0_u8 (n:Nat) (h:n<256):bits BinOp.and IntKind.u8 (n:Int) 0=0:=by
 have: ∀x:Fin 256,bits BinOp.and IntKind.u8 ((x.val:Nat):Int) 0=0:=by decide+kernel
 exact this ⟨n,h⟩
theorem andNot0_u8 (n:Nat) (h:n<256):bits BinOp.andNot IntKind.u8 (n:Int) 0=n:=by
 have: ∀x:Fin 256,bits BinOp.andNot IntKind.u8 ((x.val:Nat):Int) 0=(x.val:Int):=by decide+kernel
 exact this ⟨n,h⟩
theorem appS_mk {P:Program} {GL:List (Nat×List Value)} {f k:Nat} {rows out:List (List AV)} {l:List AV} (h: ∀d,SpH P GL f d ⟨.sl rows::l,[],[(.s 0,k)]⟩ ⟨.sl out,[],[(.s 0,k)]⟩):appS (SpH P GL) f (some rows) k l out:=h
theorem size_spec (n:Nat) (hn:n<18446744073709551616):Sp Tryz.prog gl 175 [u n] (i6 (sz8 n)):=by
 refine s175 rfl rfl ?_
 have L:=len64_spec (x:=n) hn
 have e:=sz8_len n
 have hl:lenN n≤64:=lenN_le (x:=n) (k:=64) (by omega)
 have t1:IntKind.i64.wrap ((lenN n:Int)+7)=(lenN n:Int)+7:=by rw [wrap_i64]<;>omega
 have t2:((lenN n:Int)+7).tdiv 8=(sz8 n:Nat):=by
  rw [Int.tdiv_eq_ediv_of_nonneg (by omega)];omega
 have t3:IntKind.i64.wrap ((sz8 n:Nat):Int)=(sz8 n:Nat):=by rw [wrap_i64]<;>omega
 clear e
 generalize lenN n=ln at *
 generalize sz8 n=sn at *
 simp -implicitDefEqProofs [c175]
 refine onC_mk _ L ?_
 simp -implicitDefEqProofs [t1,t2,t3]
theorem put_spec (l:List UInt8) (n:Nat) (hl:l.length≤1000000) (hn:n<18446744073709551616) (d:Nat):
  SpH Tryz.prog gl 130 d ⟨[.sl (byteRows l),.int .u8 0,u n],[],[(.s 0,1)]⟩ ⟨.sl (byteRows (l++numB n)),[],[(.s 0,1)]⟩:=by
 refine h130 rfl ?_
 have S:=size_spec n hn
 have h8:=sz8_le8 n hn
 have hlim:lim=140737488355328:=rfl
 have t0:IntKind.u8.wrap ((sz8 n:Nat):Int)=(sz8 n:Nat):=by rw [wrap_u8]<;>omega
 have t1:=or0_u8 (sz8 n) (by omega)
 have b1:((UInt8.ofNat (sz8 n)).toNat:Int)=(sz8 n:Nat):=by simp;omega
 obtain ⟨R,hR⟩: ∃R,R=l++numB n:=⟨_,rfl⟩
 rw [←hR]
 have one:=byteRows_one l
 have bl:=byteRows_len l
 have q1:l.length+1≤140737488355328:=by omega
 have first:byteRows l++[[AV.int .u8 (sz8 n:Nat)]]=byteRows (l++[UInt8.ofNat (sz8 n)]):=by
  rw [byteRows_app,byteRows_cons,b1];rfl
 unfold numB at hR
 have hst:(l++[UInt8.ofNat (sz8 n)])++be (sz8 n) n=R:=by rw [hR];simp
 generalize sz8 n=k at *
 simp only [inSt,mpL,mpB,mpP,AV.mp]
 simp -implicitDefEqProofs [c130]
 refine onC_mk _ S ?_
 simp -implicitDefEqProofs [t0,t1,hlim,bl,q1,first]
 refine ⟨one,?_⟩
 refine wp_lpk (α:=Nat×List UInt8) (fun x=>⟨[(0,.sl (byteRows x.2)),(2,u n),(7,i6 x.1)],[],[(.s 0,1)]⟩) (fun x=>x.1≤8∧x.2.length+x.1≤1000010∧x.2++be x.1 n=R) (fun x=>x.1) ?_ (k,l++[UInt8.ofNat k]) ?_ ?_
 ·rintro K ⟨j,acc⟩ hK ⟨g1,g2,g3⟩
  simp only at g1 g2 g3
  cases j with
  |zero=>
   simp only [be,List.append_nil] at g3
   subst g3
   clear hK
   generalize byteRows acc=A at *
   simp -implicitDefEqProofs
   refine postH_r ⟨?_,?_,?_,?_,?_,?_⟩<;>simp -implicitDefEqProofs
  |succ j=>
   have fin: ∀σ',Weak σ' ⟨[(0,.sl (byteRows (acc++[UInt8.ofNat (n / 256^j)]))),(2,u n),(7,i6 (j:Nat))],[],[(.s 0,1)]⟩→K σ':=
    fun σ' hσ=>hK (j,acc++[UInt8.ofNat (n / 256^j)]) σ' ⟨by simp only;omega,by simp;omega,by simp only [be] at g3;simp only [List.append_assoc,List.singleton_append];exact g3⟩ (by simp only;omega) hσ
   have w1:IntKind.i64.wrap ((j:Int)+1 - 1)=(j:Nat):=by rw [wrap_i64]<;>omega
   have w2:IntKind.i64.wrap (8*(j:Int))=8*(j:Int):=by rw [wrap_i64]<;>omega
   have w3:=shrB n j (by omega)
   have w4:=wrap_u8o (n / 256^j)
   generalize n / 256^j=x at *
   have w5:(0:Int)≤8*(j:Int):=by omega
   have w6:(0:Int)<(j:Int)+1:=by omega
   have w7:IntKind.i64.wrap (j:Int)=(j:Nat):=by rw [wrap_i64]<;>omega
   have one:=byteRows_one acc
   have bl:=byteRows_len acc
   have q1:acc.length+1≤140737488355328:=by omega
   rw [byteRows_app,byteRows_cons,show byteRows []=[] from rfl] at fin
   generalize byteRows acc=A at *
   generalize (UInt8.ofNat x).toNat=bb at *
   clear hK g3
   simp -implicitDefEqProofs [w6,w7,w2,w5,w3,w4,hlim,bl,q1]
   refine ⟨one,fin _ (weak_mk ?_ ?_ ?_ ?_ ?_ ?_)⟩<;>simp -implicitDefEqProofs
 ·exact ⟨h8,by simp;omega,hst⟩
 ·refine weak_mk ?_ ?_ ?_ ?_ ?_ ?_<;>simp -implicitDefEqProofs
end Go.Ai
namespace Go.Ai
def bkI (K N:Nat) (f:Nat→Nat) (i:Nat):Nat:=if K≤N+1+i then f ((N+1+i - K)%K) else 0
def bN (v:Ev→Nat) (K w N:Nat) (L:List Ev) (i:Nat):Nat:=if K≤N+1+i then sm v w (fun q=>q==N+1+i - K) L else 0
theorem mod_win {K N q n:Nat} (hq:N<q+K) (hq2:q≤N) (hn:N<n+K) (hn2:n≤N) (h:q%K=n%K):q=n:=by
 rcases Nat.lt_or_ge q n with c|c
 ·have:=Nat.sub_mod_eq_zero_of_mod_eq h.symm
  rw [Nat.mod_eq_of_lt (by omega)] at this
  omega
 ·have:=Nat.sub_mod_eq_zero_of_mod_eq h
  rw [Nat.mod_eq_of_lt (by omega)] at this
  omega
theorem bkI_bN {v:Ev→Nat} {K w N:Nat} {L:List Ev} (hL: ∀e∈L,e.1 / w≤N) {i:Nat} (hi:i<K):bkI K N (bkv v K w (inW K N) L) i=bN v K w N L i:=by
 unfold bkI bN
 by_cases c:K≤N+1+i
 ·rw [if_pos c,if_pos c]
  unfold bkv
  refine sm_congr fun e he=>?_
  have h1:=hL e he
  generalize e.1 / w=q at *
  rw [Bool.eq_iff_iff]
  simp only [inW,Bool.and_eq_true,decide_eq_true_eq,beq_iff_eq]
  constructor
  ·rintro ⟨h2,h3⟩
   exact mod_win h2 h1 (by omega) (by omega) h3
  ·intro h2
   subst h2
   exact ⟨by omega,rfl⟩
 ·rw [if_neg c,if_neg c]
def cntB (f g:Nat→Nat):Nat→List UInt8
 |0=>[]
 |n+1=>cntB f g n++(numB (f n)++numB (g n))
theorem cntB_congr {f g f' g':Nat→Nat}: ∀ {n:Nat},(∀i,i<n→f i=f' i∧g i=g' i)→cntB f g n=cntB f' g' n
 |0,_=>rfl
 |n+1,h=>by rw [cntB,cntB,cntB_congr (fun i hi=>h i (by omega)),(h n (by omega)).1,(h n (by omega)).2]
theorem cntB_len {f g:Nat→Nat}: ∀ {n:Nat},(∀i,i<n→f i<18446744073709551616∧g i<18446744073709551616)→(cntB f g n).length≤18*n
 |0,_=>by simp [cntB]
 |n+1,h=>by
  have h1:=cntB_len (n:=n) (f:=f) (g:=g) (fun i hi=>h i (by omega))
  obtain ⟨a,b⟩:=h n (by omega)
  have h2:=numB_len _ a
  have h3:=numB_len _ b
  rw [cntB];simp only [List.length_append];omega
def ringB (K w N:Nat) (L:List Ev):List UInt8:=cntB (bN eG K w N L) (bN eT K w N L) K
theorem bN_le {v:Ev→Nat} {K w N:Nat} {L:List Ev} (hL: ∀e∈L,e.1 / w≤N) {i:Nat} (hi:i<K):bN v K w N L i≤sm v w (inW K N) L:=by
 unfold bN
 by_cases c:K≤N+1+i
 ·rw [if_pos c]
  refine sm_le fun e he h=>?_
  simp only [beq_iff_eq] at h
  simp only [inW,decide_eq_true_eq];omega
 ·rw [if_neg c];exact Nat.zero_le _
theorem EvLe.div {L:List Ev} {t w:Nat} (h:EvLe L t): ∀e∈L,e.1 / w≤t / w:=fun e he=>Nat.div_le_div_right (h e he)
open Go.Proofs
structure Ky where
 g:List UInt8
 r:List UInt8
 p:Bool
 e:Nat
 f:Bool
 deriving DecidableEq
structure Ms where
 g:List UInt8
 p:Bool
 ks:List Ky
 deriving DecidableEq
def Ky.row (k:Ky):List AV:=[.str k.g,.str k.r,.bool k.p,u k.e,.bool k.f]
def Ms.row (m:Ms):List AV:=[.str m.g,.bool m.p,.sl (m.ks.map Ky.row)]
def goes (m:Ms) (k:Ky):Bool:=m.g==k.g&&m.p==k.p&&decide (m.ks.length<8)
end Go.Ai
