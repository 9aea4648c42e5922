/- P7: a part of the proof: the rules, or what functions compute. Conditions: as each theorem says. -/
import Derived.Test.YtidcomakahbepaaGreatDoorP6
import Derived.Test.YtidcomakahbepaaGreatDoorAiUse
import Derived.Test.YtidcomakahbepaaGreatDoorP1
set_option linter.unusedSimpArgs false
set_option linter.unusedVariables false
set_option maxRecDepth 20000
namespace Go.Ai
open Go.Proofs Go.RowKit
theorem gotN_le {B:List UInt8} {a n nx:Nat} (h:gotN B a=some (n,nx)):nx≤B.length:=by
 unfold gotN at h
 split at h
 ·cases h
 ·rename_i k r e
  split at h
  ·rename_i hc
   have hl:=congrArg List.length e
   rw [List.length_drop,List.length_cons] at hl
   simp only [Option.some.injEq,Prod.mk.injEq] at h
   omega
  ·cases h
theorem getN_got (B:List UInt8) (a:Nat):getN (some (B.drop a))=match gotN B a with |some (n,nx)=>(some (B.drop nx),n)|none=>(none,0):=by
 unfold gotN
 cases h:B.drop a with
 |nil=>rfl
 |cons k r=>
  have hr:B.drop (a+1)=r:=by rw [←List.drop_drop,h];rfl
  simp only [getN]
  split
  ·rename_i hc
   rw [←hr,List.drop_drop]
  ·rfl
end Go.Ai
namespace Go.Ai
abbrev Ev:=Nat×Nat×Nat
def sm (v:Ev→Nat) (w:Nat) (p:Nat→Bool):List Ev→Nat
 |[]=>0
 |e::L=>(if p (e.1 / w)=true then v e else 0)+sm v w p L
theorem sm_app (v:Ev→Nat) (w:Nat) (p:Nat→Bool): ∀(L M:List Ev),sm v w p (L++M)=sm v w p L+sm v w p M
 |[],M=>by simp [sm]
 |e::L,M=>by simp only [List.cons_append,sm];rw [sm_app v w p L M];omega
theorem sm_congr {v:Ev→Nat} {w:Nat} {p r:Nat→Bool}: ∀ {L:List Ev},(∀e∈L,p (e.1 / w)=r (e.1 / w))→sm v w p L=sm v w r L
 |[],_=>rfl
 |e::L,h=>by
  simp only [sm]
  rw [h e (by simp),sm_congr (fun x hx=>h x (by simp [hx]))]
theorem sm_split (v:Ev→Nat) (w:Nat) (p r:Nat→Bool): ∀(L:List Ev),sm v w p L=sm v w (fun q=>p q&&r q) L+sm v w (fun q=>p q&&!r q) L
 |[]=>rfl
 |e::L=>by
  simp only [sm]
  rw [sm_split v w p r L]
  have h: ∀(b c:Bool) (x:Nat),(if b=true then x else 0)=(if (b&&c)=true then x else 0)+(if (b&&!c)=true then x else 0):=by
   intro b c x;cases b<;>cases c<;>simp
  rw [h (p (e.1 / w)) (r (e.1 / w)) (v e)]
  omega
theorem sm_zero {v:Ev→Nat} {w:Nat} {p:Nat→Bool}: ∀ {L:List Ev},(∀e∈L,p (e.1 / w)=false)→sm v w p L=0
 |[],_=>rfl
 |e::L,h=>by
  simp only [sm]
  rw [h e (by simp),sm_zero (fun x hx=>h x (by simp [hx]))];rfl
theorem sm_le {v:Ev→Nat} {w:Nat} {p r:Nat→Bool}: ∀ {L:List Ev},(∀e∈L,p (e.1 / w)=true→r (e.1 / w)=true)→sm v w p L≤sm v w r L
 |[],_=>Nat.le_refl _
 |e::L,h=>by
  have ih:=sm_le (v:=v) (fun x hx=>h x (List.mem_cons_of_mem _ hx))
  have h1:=h e (by simp)
  simp only [sm]
  by_cases hp:p (e.1 / w)=true
  ·rw [if_pos hp,if_pos (h1 hp)];omega
  ·rw [if_neg hp];omega
def eG (e:Ev):Nat:=e.2.1
def eT (e:Ev):Nat:=e.2.2
def inW (K N q:Nat):Bool:=decide (N<q+K)
def bkv (v:Ev→Nat) (K w:Nat) (P:Nat→Bool) (L:List Ev) (j:Nat):Nat:=sm v w (fun q=>P q&&q%K==j) L
def cellsF (K:Nat) (f g:Nat→Nat):List AV:=(List.range K).flatMap fun j=>[.int .u64 (f j:Int),.int .u64 (g j:Int)]
theorem cellsF_succ (K:Nat) (f g:Nat→Nat):cellsF (K+1) f g=cellsF K f g++[.int .u64 (f K:Int),.int .u64 (g K:Int)]:=by
 unfold cellsF
 rw [List.range_succ,List.flatMap_append];simp
theorem cellsF_len (K:Nat) (f g:Nat→Nat):(cellsF K f g).length=2*K:=by
 induction K with
 |zero=>rfl
 |succ K ih=>rw [cellsF_succ,List.length_append,ih];simp;omega
theorem cellsF_congr {K:Nat} {f g f' g':Nat→Nat} (h: ∀j,j<K→f j=f' j∧g j=g' j):cellsF K f g=cellsF K f' g':=by
 induction K with
 |zero=>rfl
 |succ K ih=>rw [cellsF_succ,cellsF_succ,ih (fun j hj=>h j (by omega)),(h K (by omega)).1,(h K (by omega)).2]
theorem cellsF_ids (K:Nat) (f g:Nat→Nat):idsL (cellsF K f g)=[]:=by
 have app: ∀a b:List AV,idsL (a++b)=idsL a++idsL b:=by
  intro a
  induction a with
  |nil=>intro b;rfl
  |cons v r ih=>intro b;simp only [List.cons_append,idsL,ih b,List.append_assoc]
 induction K with
 |zero=>rfl
 |succ K ih=>rw [cellsF_succ,app,ih];rfl
theorem cellsF_get {K:Nat} {f g:Nat→Nat} {j:Nat} (h:j<K):(cellsF K f g)[j*2]?=some (.int .u64 (f j:Int))∧(cellsF K f g)[j*2+1]?=some (.int .u64 (g j:Int)):=by
 induction K with
 |zero=>omega
 |succ K ih=>
  have hl:=cellsF_len K f g
  rw [cellsF_succ]
  by_cases e:j=K
  ·subst e
   rw [List.getElem?_append_right (by omega),List.getElem?_append_right (by omega),hl,show j*2 - 2*j=0 by omega,show j*2+1 - 2*j=1 by omega]
   exact ⟨rfl,rfl⟩
  ·rw [List.getElem?_append_left (by omega),List.getElem?_append_left (by omega)]
   exact ih (by omega)
def upd (f:Nat→Nat) (j a:Nat):Nat→Nat:=fun i=>if i=j then a else f i
theorem cellsF_upd {K:Nat} {f g:Nat→Nat} {j a b:Nat} (h:j<K):cellsF K (upd f j a) (upd g j b)=(cellsF K f g).take (j*2)++ .int .u64 (a:Int):: .int .u64 (b:Int)::(cellsF K f g).drop (j*2+2):=by
 induction K with
 |zero=>omega
 |succ K ih=>
  have hl:=cellsF_len K f g
  rw [cellsF_succ,cellsF_succ]
  by_cases e:j=K
  ·subst e
   have e1:cellsF j (upd f j a) (upd g j b)=cellsF j f g:=cellsF_congr fun i hi=>by unfold upd;rw [if_neg (by omega),if_neg (by omega)];exact ⟨rfl,rfl⟩
   rw [e1,List.take_append_of_le_length (by omega),List.take_of_length_le (by omega),List.drop_of_length_le (by simp;omega)]
   simp [upd]
  ·rw [ih (by omega),List.take_append_of_le_length (by omega),List.drop_append_of_le_length (by omega)]
   simp [upd,show ¬K=j by omega]
theorem upd_same (f:Nat→Nat) (j:Nat):upd f j (f j)=f:=by
 funext i;unfold upd;split
 ·rename_i h;rw [h]
 ·rfl
theorem cellsF_set0 {K:Nat} {f g:Nat→Nat} {j a:Nat} (h:j<K):(cellsF K f g).take (j*2)++ .int .u64 (a:Int)::(cellsF K f g).drop (j*2+1)=cellsF K (upd f j a) g:=by
 have e:=cellsF_upd (f:=f) (g:=g) (j:=j) (a:=a) (b:=g j) h
 rw [upd_same] at e
 rw [e]
 congr 2
 have hl:=cellsF_len K f g
 have hg:=(cellsF_get (f:=f) (g:=g) h).2
 have hlt:j*2+1<(cellsF K f g).length:=by omega
 rw [List.drop_eq_getElem_cons hlt]
 rw [List.getElem?_eq_getElem hlt] at hg
 rw [Option.some.inj hg]
theorem cellsF_set1 {K:Nat} {f g:Nat→Nat} {j b:Nat} (h:j<K):(cellsF K f g).take (j*2+1)++ .int .u64 (b:Int)::(cellsF K f g).drop (j*2+2)=cellsF K f (upd g j b):=by
 have e:=cellsF_upd (f:=f) (g:=g) (j:=j) (a:=f j) (b:=b) h
 rw [upd_same] at e
 rw [e]
 have hl:=cellsF_len K f g
 have hg:=(cellsF_get (f:=f) (g:=g) h).1
 have hlt:j*2<(cellsF K f g).length:=by omega
 rw [List.getElem?_eq_getElem hlt] at hg
 rw [List.take_succ_eq_append_getElem hlt,Option.some.inj hg]
 simp
def bkC (K w N:Nat) (L:List Ev):List AV:=cellsF K (bkv eG K w (inW K N) L) (bkv eT K w (inW K N) L)
def sumG (K w N:Nat) (L:List Ev):Nat:=sm eG w (inW K N) L
def sumT (K w N:Nat) (L:List Ev):Nat:=sm eT w (inW K N) L
def ringC (B:Id) (K w t:Nat) (L:List Ev):List AV:=
 [.int .i64 (w:Int),.ms B 0 K 2,.int .i64 ((t / w:Nat):Int),.int .i64 (t:Int),.int .u64 (sumG K w (t / w) L:Int),.int .u64 (sumT K w (t / w) L:Int)]
def first0 (K N M:Nat):Nat:=if N+K≤M then M+1 - K else N+1
def leftP (K N n0 n q:Nat):Bool:=inW K N q&&decide (n - n0≤(q%K+K - n0%K)%K)
theorem mod_off {K n0 n:Nat} (hK:0<K) (h0:n0≤n) (h1:n<n0+K):(n%K+K - n0%K)%K=n - n0:=by
 obtain ⟨d,rfl⟩: ∃d,n=n0+d:=⟨n - n0,by omega⟩
 have hd:d<K:=by omega
 have h2:=Nat.mod_lt n0 hK
 rw [Nat.add_mod,Nat.mod_eq_of_lt hd]
 generalize n0%K=r at *
 by_cases h:r+d<K
 ·rw [Nat.mod_eq_of_lt h,show r+d+K - r=d+K by omega,Nat.add_mod_right,Nat.mod_eq_of_lt hd];omega
 ·have e:(r+d)%K=r+d - K:=by rw [Nat.mod_eq_sub_mod (by omega),Nat.mod_eq_of_lt (by omega)]
  rw [e,show r+d - K+K - r=d by omega,Nat.mod_eq_of_lt hd];omega
theorem mod_off_inj {K n0 a b:Nat} (hK:0<K) (ha:a<K) (hb:b<K) (h:(a+K - n0%K)%K=(b+K - n0%K)%K):a=b:=by
 have h2:=Nat.mod_lt n0 hK
 generalize n0%K=r at *
 have e: ∀x,x<K→(x+K - r)%K=if r≤x then x - r else x+K - r:=by
  intro x hx
  split
  ·rw [show x+K - r=x - r+K by omega,Nat.add_mod_right,Nat.mod_eq_of_lt (by omega)]
  ·exact Nat.mod_eq_of_lt (by omega)
 rw [e a ha,e b hb] at h
 split at h<;>split at h<;>omega
theorem leftP_first (K N n0 q:Nat):leftP K N n0 n0 q=inW K N q:=by simp [leftP]
theorem leftP_next {K N n0 n:Nat} (hK:0<K) (h0:n0≤n) (h1:n<n0+K) (q:Nat):leftP K N n0 (n+1) q=(leftP K N n0 n q&&!(q%K==n%K)):=by
 unfold leftP
 have e:=mod_off hK h0 h1
 rw [show n+1 - n0=n - n0+1 by omega,←e]
 by_cases h:q%K=n%K
 ·rw [h];simp
 ·have hne:(q%K+K - n0%K)%K≠(n%K+K - n0%K)%K:=fun h2=>h (mod_off_inj hK (Nat.mod_lt _ hK) (Nat.mod_lt _ hK) h2)
  have hb:(q%K==n%K)=false:=by simpa using h
  rw [hb]
  generalize (q%K+K - n0%K)%K=a at *
  generalize (n%K+K - n0%K)%K=b at *
  have:decide (b+1≤a)=decide (b≤a):=by rw [Bool.eq_iff_iff];simp;omega
  rw [this];simp
theorem leftP_last {K N M:Nat} (hK:0<K) (hNM:N≤M) {q:Nat} (hq:q≤N):leftP K N (first0 K N M) (M+1) q=inW K M q:=by
 unfold leftP inW first0
 by_cases hj:N+K≤M
 ·rw [if_pos hj]
  have h2:(q%K+K - (M+1 - K)%K)%K<K:=Nat.mod_lt _ hK
  have e1:decide (M+1 - (M+1 - K)≤(q%K+K - (M+1 - K)%K)%K)=false:=by
   rw [decide_eq_false_iff_not];omega
  have e2:decide (M<q+K)=false:=by rw [decide_eq_false_iff_not];omega
  rw [e1,e2,Bool.and_false]
 ·rw [if_neg hj]
  by_cases h1:N<q+K
  ·
   have e:=mod_off (n0:=N+1) (n:=q+K) hK (by omega) (by omega)
   rw [Nat.add_mod_right] at e
   rw [e]
   have e1:decide (N<q+K)=true:=decide_eq_true h1
   rw [e1,Bool.true_and,Bool.eq_iff_iff]
   simp;omega
  ·have e1:decide (N<q+K)=false:=decide_eq_false h1
   have e2:decide (M<q+K)=false:=by rw [decide_eq_false_iff_not];omega
   rw [e1,e2,Bool.false_and]
theorem first0_le {K N M:Nat} (hNM:N≤M) (hK:0<K):N+1≤first0 K N M∧first0 K N M≤M+1∧M+1≤first0 K N M+K:=by
 unfold first0;split<;>omega
open Go.Proofs
def shD (q:Nat):Nat→Nat
 |0=>1
 |k+1=>if q%(k+1)=0 then k+1 else shD q k
def shK (q:Nat):Nat:=shD q 60
theorem shD_ok (q:Nat): ∀k,1≤shD q k∧shD q k≤max 1 k∧q%shD q k=0
 |0=>by simp [shD,Nat.mod_one]
 |k+1=>by
  unfold shD
  split
  ·rename_i h;exact ⟨by omega,by omega,h⟩
  ·obtain ⟨a,b,c⟩:=shD_ok q k
   exact ⟨a,by omega,c⟩
theorem shK_ok (q:Nat):1≤shK q∧shK q≤60∧q%shK q=0:=by
 have:=shD_ok q 60
 unfold shK;omega
structure Wd (wd g:Nat):Prop where
 g1:1≤g
 g2:g≤86400
 w1:1≤wd
 w2:wd≤34560000
 md:wd%g=0
def wK (wd g:Nat):Nat:=shK (wd / g)
def wW (wd g:Nat):Nat:=wd / wK wd g
theorem wK_ok {wd g:Nat} (h:Wd wd g):1≤wK wd g∧wK wd g≤60∧wW wd g*wK wd g=wd∧1≤wW wd g∧wW wd g≤34560000:=by
 obtain ⟨a,b,c⟩:=shK_ok (wd / g)
 have hd:wd / g*g=wd:=Nat.div_mul_cancel (Nat.dvd_of_mod_eq_zero h.md)
 have hk:shK (wd / g) ∣ wd:=by
  have h1:shK (wd / g) ∣ wd / g:=Nat.dvd_of_mod_eq_zero c
  have h2:=Nat.dvd_mul_right_of_dvd h1 g
  rwa [hd] at h2
 have e:=Nat.div_mul_cancel hk
 unfold wW wK
 refine ⟨a,b,e,?_,?_⟩
 ·have:=h.w1
  exact Nat.div_pos (Nat.le_of_dvd this hk) a
 ·exact Nat.le_trans (Nat.div_le_self _ _) h.w2
theorem tdiv_nat (a b:Nat):(a:Int).tdiv (b:Int)=((a / b:Nat):Int):=(Int.ofNat_tdiv a b).symm
theorem tmod_nat (a b:Nat):(a:Int).tmod (b:Int)=((a%b:Nat):Int):=(Int.ofNat_tmod a b).symm
theorem shape_spec (wd g:Nat) (h:Wd wd g):Sp Tryz.prog gl 138 [i6 wd,i6 g] (.tup [i6 (wK wd g),i6 (wW wd g),i6 0]):=by
 refine s138 rfl rfl ?_
 obtain ⟨g1,g2,w1,w2,md⟩:=h
 have hK:=shK_ok (wd / g)
 have d1:=tdiv_nat wd g
 have m1:=tmod_nat wd g
 rw [md] at m1
 have c1: ¬((g:Int)<1):=by omega
 have c2: ¬((86400:Int)<g):=by omega
 have c3: ¬((wd:Int)<1):=by omega
 have c4: ¬((34560000:Int)<wd):=by omega
 have c1': ¬(g<1):=by omega
 have c2': ¬(86400<g):=by omega
 have c3': ¬(wd<1):=by omega
 have c4': ¬(34560000<wd):=by omega
 have c5: ¬((g:Int)=0):=by omega
 have c6: ¬(g=0):=by omega
 unfold wW wK
 obtain ⟨q,hq⟩: ∃q,q=wd / g:=⟨_,rfl⟩
 rw [←hq] at d1 hK ⊢
 have ql:q≤34560000:=by rw [hq];exact Nat.le_trans (Nat.div_le_self _ _) w2
 have t0:IntKind.i64.wrap (q:Int)=q:=by rw [wrap_i64]<;>omega
 clear hq md
 obtain ⟨R,hR⟩: ∃R,R=shK q:=⟨_,rfl⟩
 rw [←hR] at hK ⊢
 have d2:=tdiv_nat wd R
 have t2:IntKind.i64.wrap ((wd / R:Nat):Int)=(wd / R:Nat):=by
  have:wd / R≤wd:=Nat.div_le_self _ _
  generalize wd / R=x at *
  rw [wrap_i64]<;>omega
 have r0: ¬((R:Int)=0):=by omega
 have r0': ¬(R=0):=by omega
 generalize ((wd / R:Nat):Int)=W at *
 simp -implicitDefEqProofs [c138,c1,c2,c3,c4,c1',c2',c3',c4',c5,c6,m1]
 refine wp_lpk (α:=Nat) (fun k=>⟨[(0,i6 wd),(1,i6 g),(7,i6 k)],[],[]⟩) (fun k=>1≤k∧k≤60∧shD q k=R) (fun k=>k) ?_ 60 ?_ ?_
 ·rintro K k hK2 ⟨k1,k2,k3⟩
  have e1:=tmod_nat q k
  have k0: ¬((k:Int)=0):=by omega
  have k0': ¬(k=0):=by omega
  by_cases hm:q%k=0
  ·have:k=R:=by
    rw [←k3]
    obtain ⟨j,rfl⟩: ∃j,k=j+1:=⟨k - 1,by omega⟩
    rw [shD,if_pos hm]
   subst this
   rw [hm] at e1
   clear hK2 hR k3 hm
   simp -implicitDefEqProofs [c5,c6,d1,k0,k0']
   simp only [t0,e1]
   simp -implicitDefEqProofs [k0,k0',d2,t2]
  ·have hne: ¬(((q%k:Nat):Int)=0):=by omega
   have k3':shD q (k - 1)=R:=by
    rw [←k3]
    obtain ⟨j,rfl⟩: ∃j,k=j+1:=⟨k - 1,by omega⟩
    rw [shD,if_neg hm];rfl
   have hk1:k≠1:=by rintro rfl;exact hm (Nat.mod_one _)
   have t1:IntKind.i64.wrap ((k:Int) - 1)=(k - 1:Nat):=by rw [wrap_i64]<;>omega
   have fin: ∀σ',Weak σ' ⟨[(0,i6 wd),(1,i6 g),(7,i6 (k - 1:Nat))],[],[]⟩→K σ':=
    fun σ' hσ=>hK2 (k - 1) σ' ⟨by omega,by omega,k3'⟩ (by omega) hσ
   have hb:(((q%k:Nat):Int)!=0)=true:=by simpa using hne
   clear hK2 hR k3 k3' hm hne
   generalize ((q%k:Nat):Int)=m at *
   simp -implicitDefEqProofs [c5,c6,d1,k0,k0']
   simp only [t0,e1]
   simp -implicitDefEqProofs [k0,k0',hb]
   refine fin _ ?_
   refine weak_mk ?_ ?_ ?_ ?_ ?_ ?_<;>simp -implicitDefEqProofs [t1]
 ·exact ⟨by omega,by omega,hR.symm⟩
 ·refine weak_mk ?_ ?_ ?_ ?_ ?_ ?_<;>simp -implicitDefEqProofs
theorem bkC_zero (K w N:Nat):bkC K w N []=(List.replicate K [AV.int .u64 0,AV.int .u64 0]).flatten:=by
 unfold bkC
 have: ∀j,bkv eG K w (inW K N) [] j=0∧bkv eT K w (inW K N) [] j=0:=fun j=>⟨rfl,rfl⟩
 rw [cellsF_congr (f':=fun _=>0) (g':=fun _=>0) (fun j _=>this j)]
 clear this
 induction K with
 |zero=>rfl
 |succ K ih=>
  rw [cellsF_succ,ih,List.replicate_succ',List.flatten_append]
  rfl
theorem rnew_spec (wd g:Nat) (h:Wd wd g) (d:Nat):
  SpH Tryz.prog gl 87 d ⟨[i6 wd,i6 g],[],[]⟩ ⟨.tup [.ptr (.nw d (.n 23)) 0,i6 0],[(.nw d (.n 23),ringC (.nw d (.n 21)) (wK wd g) (wW wd g) 0 []),(.nw d (.n 21),bkC (wK wd g) (wW wd g) 0 [])],[]⟩:=by
 refine h87 rfl ?_
 have S:=shape_spec wd g h
 obtain ⟨k1,k2,_,w1,_⟩:=wK_ok h
 rw [bkC_zero]
 have hrc: ∀B,ringC B (wK wd g) (wW wd g) 0 []=[i6 (wW wd g),.ms B 0 (wK wd g) 2,i6 0,i6 0,u 0,u 0]:=by
  intro B
  unfold ringC sumG sumT
  simp [sm]
 rw [hrc]
 clear hrc
 have hz2:idsL (List.replicate (wK wd g) [AV.int .u64 0,AV.int .u64 0]).flatten=[]:=by rw [←bkC_zero _ 1 0];exact cellsF_ids _ _ _
 generalize wK wd g=K at *
 generalize wW wd g=W at *
 have hlim:lim=140737488355328:=rfl
 have q1:(0:Int)≤K:=by omega
 have q2:(K:Int)*16≤140737488355328:=by omega
 have q3:K*16≤140737488355328:=by omega
 simp only [inSt,mpL,mpB,mpP,AV.mp]
 simp -implicitDefEqProofs [c87]
 refine onC_mk _ S ?_
 simp -implicitDefEqProofs [hlim,q1,q2,q3]
 have hz1:=fun f=>mpL_noids (f:=f) hz2
 generalize (List.replicate K [AV.int .u64 0,AV.int .u64 0]).flatten=Z at *
 refine postH_r ⟨?_,?_,?_,?_,?_,?_⟩<;>simp -implicitDefEqProofs [hz1,hz2]
open Go.Proofs
structure Pr2 (R B:Id):Prop where
 ri:R.isIt=false
 bi:B.isIt=false
 ne:R≠B
 nw: ∀e,R.isNw e=B.isNw e
theorem Pr2.up {R B:Id} (h:Pr2 R B):Pr2 (.up R) (.up B):=⟨h.ri,h.bi,fun e=>h.ne (by cases e;rfl),fun _=>rfl⟩
def rgL (B:Id) (K w N t g s:Nat):List AV:=[i6 w,.ms B 0 K 2,i6 N,i6 t,u g,u s]
theorem ringC_eq (B:Id) (K w t:Nat) (L:List Ev):ringC B K w t L=rgL B K w (t / w) t (sumG K w (t / w) L) (sumT K w (t / w) L):=rfl
theorem rat_spec (R B:Id) (h:Pr2 R B) (K w N t g s n:Nat) (hK:1≤K) (hn:n<9223372036854775808) (d:Nat) (hd:R.isNw d=false):
  SpH Tryz.prog gl 111 d ⟨[.ptr R 0,i6 n],[(R,rgL B K w N t g s)],[]⟩ ⟨.ptr B (n%K*2),[(R,rgL B K w N t g s)],[]⟩:=by
 refine h111 rfl ?_
 have hi:=inn_notNw hd
 have hdB:B.isNw d=false:=by rw [←h.nw];exact hd
 have hiB:=inn_notNw hdB
 have r1:=h.ri
 have b1:=h.bi
 have m1:=tmod_nat n K
 have k0: ¬((K:Int)=0):=by omega
 have k0': ¬(K=0):=by omega
 have hlt:=Nat.mod_lt n (show 0<K by omega)
 have q1:(0:Int)≤(n%K:Nat):=by omega
 have q2:((n%K:Nat):Int)<K:=by omega
 have q3:((n%K:Nat):Int).toNat=n%K:=by omega
 simp only [rgL]
 simp only [inSt,mpL,mpB,mpP,AV.mp]
 generalize n%K=j at *
 generalize ((j:Nat):Int)=jj at *
 simp -implicitDefEqProofs [c111,k0,k0']
 simp only [m1]
 simp -implicitDefEqProofs [q1,q2,q3]
 refine postH_r ⟨?_,?_,?_,?_,?_,?_⟩<;>simp -implicitDefEqProofs [hi,hiB,r1,b1,hd,hdB]
theorem rtick_spec (n:Int):Sp Tryz.prog gl 108 [i6 n] (.bool (decide (0≤n)&&decide (n≤253402300799))):=by
 refine s108 rfl rfl ?_
 by_cases h:0≤n
 ·simp [c108,h]
 ·simp [c108,h]
theorem rright_spec (g s:Nat):Sp Tryz.prog gl 107 [.agg [u g,u s]] (.bool (decide (g≤s))):=by
 refine s107 rfl rfl ?_
 simp -implicitDefEqProofs [c107]
theorem rroom_spec (R B:Id) (h:Pr2 R B) (K w N t g s cg ct:Nat) (hs:s<18446744073709551616) (hc:ct<18446744073709551616) (d:Nat) (hd:R.isNw d=false):
  SpH Tryz.prog gl 109 d ⟨[.ptr R 0,.agg [u cg,u ct]],[(R,rgL B K w N t g s)],[]⟩ ⟨.bool (decide (ct≤9223372036854775807∧s+ct≤9223372036854775807)),[(R,rgL B K w N t g s)],[]⟩:=by
 refine h109 rfl ?_
 have hi:=inn_notNw hd
 have hdB:B.isNw d=false:=by rw [←h.nw];exact hd
 have hiB:=inn_notNw hdB
 have r1:=h.ri
 have b1:=h.bi
 simp only [rgL]
 simp only [inSt,mpL,mpB,mpP,AV.mp]
 by_cases h1:ct≤9223372036854775807
 ·have h1':(ct:Int)≤9223372036854775807:=by omega
  have t1:IntKind.u64.wrap (9223372036854775807 - (ct:Int))=(9223372036854775807 - ct:Nat):=by rw [wrap_u64]<;>omega
  have e:decide (ct≤9223372036854775807∧s+ct≤9223372036854775807)=decide ((s:Int)≤(9223372036854775807 - ct:Nat)):=by rw [Bool.eq_iff_iff];simp only [decide_eq_true_eq];omega
  rw [e]
  generalize ((9223372036854775807 - ct:Nat):Int)=m at *
  simp -implicitDefEqProofs [c109,h1,h1']
  simp only [t1]
  refine postH_r ⟨?_,?_,?_,?_,?_,?_⟩<;>simp -implicitDefEqProofs [hi,hiB,r1,b1,hd,hdB]
 ·have h1': ¬(ct:Int)≤9223372036854775807:=by omega
  have e:decide (ct≤9223372036854775807∧s+ct≤9223372036854775807)=false:=decide_eq_false (fun h=>h1 h.1)
  rw [e]
  simp -implicitDefEqProofs [c109,h1,h1']
  refine postH_r ⟨?_,?_,?_,?_,?_,?_⟩<;>simp -implicitDefEqProofs [hi,hiB,r1,b1,hd,hdB]
theorem rsum_spec (R B:Id) (h:Pr2 R B) (K w N t g s:Nat) (d:Nat) (hd:R.isNw d=false):
  SpH Tryz.prog gl 60 d ⟨[.ptr R 0],[(R,rgL B K w N t g s)],[]⟩ ⟨.agg [u g,u s],[(R,rgL B K w N t g s)],[]⟩:=by
 refine h60 rfl ?_
 have hi:=inn_notNw hd
 have hdB:B.isNw d=false:=by rw [←h.nw];exact hd
 have hiB:=inn_notNw hdB
 have r1:=h.ri
 have b1:=h.bi
 simp only [rgL]
 simp only [inSt,mpL,mpB,mpP,AV.mp]
 simp -implicitDefEqProofs [c60]
 refine postH_r ⟨?_,?_,?_,?_,?_,?_⟩<;>simp -implicitDefEqProofs [hi,hiB,r1,b1,hd,hdB]
open Go.Proofs
theorem rgrow_spec (R B:Id) (h:Pr2 R B) (K w N t g s j cg ct:Nat) (f q:Nat→Nat) (hj:j<K) (b1:f j+cg<18446744073709551616) (b2:q j+ct<18446744073709551616) (b3:g+cg<18446744073709551616) (b4:s+ct<18446744073709551616) (d:Nat) (hd:R.isNw d=false):
  SpH Tryz.prog gl 110 d ⟨[.ptr R 0,.ptr B (j*2),.agg [u cg,u ct]],[(R,rgL B K w N t g s),(B,cellsF K f q)],[]⟩ ⟨.tup [],[(R,rgL B K w N t (g+cg) (s+ct)),(B,cellsF K (upd f j (f j+cg)) (upd q j (q j+ct)))],[]⟩:=by
 refine h110 rfl ?_
 have hi:=inn_notNw hd
 have hdB:B.isNw d=false:=by rw [←h.nw];exact hd
 have hiB:=inn_notNw hdB
 have r1:=h.ri
 have r2:=h.bi
 have ne:=h.ne
 have ne':B≠R:=fun e=>h.ne e.symm
 have x0:=cellsF_get (f:=f) (g:=q) hj
 have e0:=cellsF_set0 (f:=f) (g:=q) (a:=f j+cg) hj
 have y0:=cellsF_get (f:=upd f j (f j+cg)) (g:=q) hj
 have e1:=cellsF_set1 (f:=upd f j (f j+cg)) (g:=q) (b:=q j+ct) hj
 have lx:=cellsF_len K f q
 have ly:=cellsF_len K (upd f j (f j+cg)) q
 have lz:=cellsF_len K (upd f j (f j+cg)) (upd q j (q j+ct))
 have ix:=mpL_noids (f:=Id.up) (cellsF_ids K f q)
 have hx:=cellsF_ids K f q
 have hy:=cellsF_ids K (upd f j (f j+cg)) q
 have hz:=cellsF_ids K (upd f j (f j+cg)) (upd q j (q j+ct))
 have iz:=fun f'=>mpL_noids (f:=f') hz
 have w1:IntKind.u64.wrap ((f j:Int)+cg)=(f j+cg:Nat):=by rw [wrap_u64]<;>omega
 have w2:IntKind.u64.wrap ((q j:Int)+ct)=(q j+ct:Nat):=by rw [wrap_u64]<;>omega
 have w3:IntKind.u64.wrap ((g:Int)+cg)=(g+cg:Nat):=by rw [wrap_u64]<;>omega
 have w4:IntKind.u64.wrap ((s:Int)+ct)=(s+ct:Nat):=by rw [wrap_u64]<;>omega
 simp only [rgL]
 simp only [inSt,mpL,mpB,mpP,AV.mp,ix]
 generalize cellsF K f q=X at *
 generalize cellsF K (upd f j (f j+cg)) q=Y at *
 generalize cellsF K (upd f j (f j+cg)) (upd q j (q j+ct))=Z at *
 obtain ⟨x0,x1⟩:=x0
 obtain ⟨_,y1⟩:=y0
 generalize ((f j+cg:Nat):Int)=v1 at *
 generalize ((q j+ct:Nat):Int)=v2 at *
 generalize hv3:((g+cg:Nat):Int)=v3 at *
 generalize hv4:((s+ct:Nat):Int)=v4 at *
 have f3:v3=(g:Int)+cg:=by omega
 have f4:v4=(s:Int)+ct:=by omega
 clear hv3 hv4
 generalize ((f j:Nat):Int)=v5 at *
 generalize ((q j:Nat):Int)=v6 at *
 have c1:j*2+1≤X.length:=by omega
 have c2:j*2+1+1≤Y.length:=by omega
 have c3:j*2<X.length:=by omega
 have c4:j*2+1<Y.length:=by omega
 have x0':X[j*2]=AV.int .u64 v5:=by rw [List.getElem?_eq_getElem c3] at x0;exact Option.some.inj x0
 have y1':Y[j*2+1]=AV.int .u64 v6:=by rw [List.getElem?_eq_getElem c4] at y1;exact Option.some.inj y1
 simp -implicitDefEqProofs [c110]
 refine wp_lpk (α:=Nat) (fun i=>⟨[(5,.ptr (.n 5) 0),(12,.ms (.n 12) 0 2 1),(13,i6 2),(14,i6 i)],
   [(.n 12,[.ptr (.up B) (j*2),.ptr (.up R) 4]),(.n 5,[u cg,u ct]),(.up R,[i6 w,.ms (.up B) 0 K 2,i6 N,i6 t,if i<2 then u g else .int .u64 v3,if i<2 then u s else .int .u64 v4]),(.up B,if i<1 then X else Z)],[]⟩) (fun i=>i≤2) (fun i=>2 - i) ?_ 0 ?_ ?_
 ·rintro K' i hK h1
  have hi3:i=0∨i=1∨i=2:=by omega
  rcases hi3 with rfl|rfl|rfl
  ·have fin: ∀σ',Weak σ' ⟨[(5,.ptr (.n 5) 0),(12,.ms (.n 12) 0 2 1),(13,i6 2),(14,i6 1)],
     [(.n 12,[.ptr (.up B) (j*2),.ptr (.up R) 4]),(.n 5,[u cg,u ct]),(.up R,[i6 w,.ms (.up B) 0 K 2,i6 N,i6 t,u g,u s]),(.up B,Z)],[]⟩→K' σ':=fun σ' hσ=>hK 1 σ' (by omega) (by omega) hσ
   clear hK
   have t1:IntKind.i64.wrap 1=1:=by decide
   simp -implicitDefEqProofs [ne,ne',c1,c2,x0,x0',c3]
   simp only [w1]
   simp -implicitDefEqProofs [ne,ne',c1,c2,e0,y1,y1',c4]
   simp only [w2]
   simp -implicitDefEqProofs [ne,ne',e1]
   refine fin _ ?_
   refine weak_mk ?_ ?_ ?_ ?_ ?_ ?_<;>simp -implicitDefEqProofs [t1,ne,ne',hz]
  ·have fin: ∀σ',Weak σ' ⟨[(5,.ptr (.n 5) 0),(12,.ms (.n 12) 0 2 1),(13,i6 2),(14,i6 2)],
     [(.n 12,[.ptr (.up B) (j*2),.ptr (.up R) 4]),(.n 5,[u cg,u ct]),(.up R,[i6 w,.ms (.up B) 0 K 2,i6 N,i6 t,.int .u64 v3,.int .u64 v4]),(.up B,Z)],[]⟩→K' σ':=fun σ' hσ=>hK 2 σ' (by omega) (by omega) hσ
   clear hK
   have t1:IntKind.i64.wrap 2=2:=by decide
   simp -implicitDefEqProofs [ne,ne']
   try simp only [w3,w4]
   try simp -implicitDefEqProofs [ne,ne']
   refine fin _ ?_
   refine weak_mk ?_ ?_ ?_ ?_ ?_ ?_<;>simp -implicitDefEqProofs [t1,ne,ne',hz]
  ·clear hK
   simp -implicitDefEqProofs
   refine postH_n ⟨?_,?_,?_,?_,?_,?_⟩<;>simp -implicitDefEqProofs [hi,hiB,r1,r2,hd,hdB,ne,ne',hz,iz,f3,f4]
 ·exact Nat.zero_le _
 ·refine weak_mk ?_ ?_ ?_ ?_ ?_ ?_<;>simp -implicitDefEqProofs [ne,ne',hx]
open Go.Proofs
def EvOk (L:List Ev):Prop:= ∀e∈L,e.2.1≤e.2.2
theorem sm_GT {w:Nat} {p:Nat→Bool}: ∀ {L:List Ev},EvOk L→sm eG w p L≤sm eT w p L
 |[],_=>Nat.le_refl _
 |e::L,h=>by
  have ih:=sm_GT (w:=w) (p:=p) (L:=L) (fun x hx=>h x (List.mem_cons_of_mem _ hx))
  have h1:=h e (by simp)
  simp only [sm,eG,eT] at ih ⊢
  split<;>omega
theorem bkv_le {v:Ev→Nat} {K w N:Nat} {L:List Ev} (j:Nat):bkv v K w (inW K N) L j≤sm v w (inW K N) L:=by
 unfold bkv
 exact sm_le (fun e _ h=>by simp only [Bool.and_eq_true] at h;exact h.1)
def addC (K w t:Nat) (L:List Ev) (a ct:Nat):Int:=if a / w+K≤t / w then 13 else if ct≤9223372036854775807∧sumT K w (t / w) L+ct≤9223372036854775807 then 0 else 17
def addL (K w t:Nat) (L:List Ev) (a cg ct:Nat):List Ev:=if addC K w t L a ct=0 then L++[(a,cg,ct)] else L
theorem sm_one (v:Ev→Nat) (w:Nat) (p:Nat→Bool) (L:List Ev) (e:Ev):sm v w p (L++[e])=sm v w p L+(if p (e.1 / w)=true then v e else 0):=by
 rw [sm_app];simp [sm]
theorem ringC_out {B:Id} {K w t:Nat} {L:List Ev} {e:Ev} (h:e.1 / w+K≤t / w):ringC B K w t (L++[e])=ringC B K w t L∧bkC K w (t / w) (L++[e])=bkC K w (t / w) L:=by
 have hw:inW K (t / w) (e.1 / w)=false:=by unfold inW;rw [decide_eq_false_iff_not];omega
 constructor
 ·unfold ringC sumG sumT
  rw [sm_one,sm_one,hw];rfl
 ·unfold bkC bkv
  refine cellsF_congr fun j _=>⟨?_,?_⟩<;>(rw [sm_one];simp [hw])
theorem radd_spec (R B:Id) (h:Pr2 R B) (K w t:Nat) (L:List Ev) (hK:1≤K) (hK2:K≤60) (hw:1≤w) (ht:t≤253402300799) (hL:EvOk L) (hs:sumT K w (t / w) L≤9223372036854775807) (a cg ct:Nat) (ha:a≤t) (hc:cg≤ct) (hct:ct<18446744073709551616) (d:Nat) (hd:R.isNw d=false):
  SpH Tryz.prog gl 67 d ⟨[.ptr R 0,i6 a,.agg [u cg,u ct]],[(R,ringC B K w t L),(B,bkC K w (t / w) L)],[]⟩
   ⟨i6 (addC K w t L a ct),[(R,ringC B K w t (addL K w t L a cg ct)),(B,bkC K w (t / w) (addL K w t L a cg ct))],[]⟩:=by
 refine h67 rfl ?_
 have hi:=inn_notNw hd
 have hdB:B.isNw d=false:=by rw [←h.nw];exact hd
 have hiB:=inn_notNw hdB
 have r1:=h.ri
 have r2:=h.bi
 have ne:=h.ne
 have ne':B≠R:=fun e=>h.ne e.symm
 have RI:=rright_spec cg ct
 rw [decide_eq_true hc] at RI
 have TK:=rtick_spec a
 have tk:(decide ((0:Int)≤a)&&decide ((a:Int)≤253402300799))=true:=by simp;omega
 rw [tk] at TK
 have d1:=tdiv_nat a w
 have qlt:a / w≤a:=Nat.div_le_self _ _
 have Nlt:t / w≤t:=Nat.div_le_self _ _
 have w0: ¬((w:Int)=0):=by omega
 have w0': ¬(w=0):=by omega
 have a1: ¬((t:Int)<a):=by omega
 have a1': ¬(t<a):=by omega
 have hgt:=sm_GT (w:=w) (p:=inW K (t / w)) hL
 have hids:=cellsF_ids K (bkv eG K w (inW K (t / w)) L) (bkv eT K w (inW K (t / w)) L)
 have hids2:=cellsF_ids K (bkv eG K w (inW K (t / w)) (addL K w t L a cg ct)) (bkv eT K w (inW K (t / w)) (addL K w t L a cg ct))
 have ix:=mpL_noids (f:=Id.up) hids
 have iz:=fun f'=>mpL_noids (f:=f') hids2
 have AT:=fun e he=>rat_spec (.up R) (.up B) h.up K w (t / w) t (sumG K w (t / w) L) (sumT K w (t / w) L) (a / w) hK (by omega) e he
 have RM:=fun e he=>rroom_spec (.up R) (.up B) h.up K w (t / w) t (sumG K w (t / w) L) (sumT K w (t / w) L) cg ct (by omega) hct e he
 have t0:IntKind.i64.wrap ((a / w:Nat):Int)=(a / w:Nat):=by
  generalize a / w=q at *
  rw [wrap_i64]<;>omega
 have t1:IntKind.i64.wrap (((t / w:Nat):Int) - K)=((t / w:Nat):Int) - K:=by
  generalize t / w=N at *
  rw [wrap_i64]<;>omega
 simp only [ringC_eq,bkC]
 simp only [rgL,inSt,mpL,mpB,mpP,AV.mp,ix]
 simp only [rgL] at AT RM
 by_cases g1:a / w+K≤t / w
 ·have eC:addC K w t L a ct=13:=by unfold addC;rw [if_pos g1]
  have eL:addL K w t L a cg ct=L:=by unfold addL;rw [eC];rfl
  rw [eL] at iz hids2 ⊢
  rw [eC]
  have g1':((a / w:Nat):Int)≤((t / w:Nat):Int) - K:=by omega
  generalize cellsF K (bkv eG K w (inW K (t / w)) L) (bkv eT K w (inW K (t / w)) L)=X at *
  generalize sumG K w (t / w) L=sg at *
  generalize sumT K w (t / w) L=st at *
  generalize ((a / w:Nat):Int)=q at *
  generalize ((t / w:Nat):Int)=N at *
  clear AT RM
  simp -implicitDefEqProofs [c67]
  refine onC_mk _ RI ?_
  simp -implicitDefEqProofs
  refine onC_mk _ TK ?_
  simp -implicitDefEqProofs [ne,ne',a1,a1',w0,w0',d1]
  simp only [t0,t1]
  simp -implicitDefEqProofs [g1']
  refine postH_r ⟨?_,?_,?_,?_,?_,?_⟩<;>simp -implicitDefEqProofs [hi,hiB,r1,r2,hd,hdB,ne,ne',hids,iz]
 ·have g1': ¬(((a / w:Nat):Int)≤((t / w:Nat):Int) - K):=by omega
  by_cases g2:ct≤9223372036854775807∧sumT K w (t / w) L+ct≤9223372036854775807
  ·have eC:addC K w t L a ct=0:=by unfold addC;rw [if_neg g1,if_pos g2]
   have eL:addL K w t L a cg ct=L++[(a,cg,ct)]:=by unfold addL;rw [if_pos eC]
   have hin:inW K (t / w) (a / w)=true:=by unfold inW;rw [decide_eq_true_eq];omega
   have hj:a / w%K<K:=Nat.mod_lt _ (by omega)
   have sg':sumG K w (t / w) (L++[(a,cg,ct)])=sumG K w (t / w) L+cg:=by unfold sumG;rw [sm_one];simp only [hin,if_true,eG]
   have st':sumT K w (t / w) (L++[(a,cg,ct)])=sumT K w (t / w) L+ct:=by unfold sumT;rw [sm_one];simp only [hin,if_true,eT]
   have hbk:cellsF K (bkv eG K w (inW K (t / w)) (L++[(a,cg,ct)])) (bkv eT K w (inW K (t / w)) (L++[(a,cg,ct)]))=
     cellsF K (upd (bkv eG K w (inW K (t / w)) L) (a / w%K) (bkv eG K w (inW K (t / w)) L (a / w%K)+cg)) (upd (bkv eT K w (inW K (t / w)) L) (a / w%K) (bkv eT K w (inW K (t / w)) L (a / w%K)+ct)):=by
    refine cellsF_congr fun j _=>?_
    unfold upd
    by_cases e:j=a / w%K
    ·subst e
     rw [if_pos rfl,if_pos rfl]
     unfold bkv
     rw [sm_one,sm_one]
     simp [hin,eG,eT]
    ·rw [if_neg e,if_neg e]
     unfold bkv
     rw [sm_one,sm_one]
     have:(a / w%K==j)=false:=by rw [beq_eq_false_iff_ne];exact fun h=>e h.symm
     simp [hin,this]
   have bG:=bkv_le (v:=eG) (K:=K) (w:=w) (N:=t / w) (L:=L) (a / w%K)
   have bT:=bkv_le (v:=eT) (K:=K) (w:=w) (N:=t / w) (L:=L) (a / w%K)
   have sGd:sm eG w (inW K (t / w)) L=sumG K w (t / w) L:=rfl
   have sTd:sm eT w (inW K (t / w)) L=sumT K w (t / w) L:=rfl
   rw [sGd] at bG hgt
   rw [sTd] at bT hgt
   have GR:=fun e he=>rgrow_spec (.up R) (.up B) h.up K w (t / w) t (sumG K w (t / w) L) (sumT K w (t / w) L) (a / w%K) cg ct (bkv eG K w (inW K (t / w)) L) (bkv eT K w (inW K (t / w)) L) hj (by omega) (by omega) (by omega) (by omega) e he
   rw [eL] at iz hids2 ⊢
   rw [eC]
   rw [hbk] at iz hids2 ⊢
   rw [sg',st']
   rw [decide_eq_true g2] at RM
   simp only [rgL] at GR
   clear hbk sg' st' bG bT
   generalize hX:cellsF K (bkv eG K w (inW K (t / w)) L) (bkv eT K w (inW K (t / w)) L)=X at *
   generalize hZ:cellsF K (upd (bkv eG K w (inW K (t / w)) L) (a / w%K) (bkv eG K w (inW K (t / w)) L (a / w%K)+cg)) (upd (bkv eT K w (inW K (t / w)) L) (a / w%K) (bkv eT K w (inW K (t / w)) L (a / w%K)+ct))=Z at *
   clear hX hZ
   generalize sumG K w (t / w) L=sg at *
   generalize sumT K w (t / w) L=st at *
   generalize a / w%K*2=off at *
   generalize ((a / w:Nat):Int)=q at *
   generalize ((t / w:Nat):Int)=N at *
   simp -implicitDefEqProofs [c67]
   refine onC_mk _ RI ?_
   simp -implicitDefEqProofs
   refine onC_mk _ TK ?_
   simp -implicitDefEqProofs [ne,ne',a1,a1',w0,w0',d1]
   simp only [t0,t1]
   simp -implicitDefEqProofs [g1']
   refine onH_mk _ _ (RM _ rfl) ⟨?_,?_,?_,?_,?_,?_,?_⟩ ?_
   iterate 7 (· simp [ne,ne'])
   simp -implicitDefEqProofs [ne,ne',w0,w0',d1]
   simp only [t0]
   refine onR_mk _ (by simp -implicitDefEqProofs) (fun e he=>AT e he) ?_
   simp -implicitDefEqProofs [ne,ne']
   refine onH_mk _ _ (GR _ rfl) ⟨?_,?_,?_,?_,?_,?_,?_⟩ ?_
   iterate 7 (· simp [ne,ne',hids])
   simp -implicitDefEqProofs [ne,ne']
   refine postH_r ⟨?_,?_,?_,?_,?_,?_⟩<;>simp -implicitDefEqProofs [hi,hiB,r1,r2,hd,hdB,ne,ne',hids2,iz]
  ·have eC:addC K w t L a ct=17:=by unfold addC;rw [if_neg g1,if_neg g2]
   have eL:addL K w t L a cg ct=L:=by unfold addL;rw [eC];rfl
   rw [eL] at iz hids2 ⊢
   rw [eC]
   rw [decide_eq_false g2] at RM
   generalize cellsF K (bkv eG K w (inW K (t / w)) L) (bkv eT K w (inW K (t / w)) L)=X at *
   generalize sumG K w (t / w) L=sg at *
   generalize sumT K w (t / w) L=st at *
   generalize ((a / w:Nat):Int)=q at *
   generalize ((t / w:Nat):Int)=N at *
   clear AT
   simp -implicitDefEqProofs [c67]
   refine onC_mk _ RI ?_
   simp -implicitDefEqProofs
   refine onC_mk _ TK ?_
   simp -implicitDefEqProofs [ne,ne',a1,a1',w0,w0',d1]
   simp only [t0,t1]
   simp -implicitDefEqProofs [g1']
   refine onH_mk _ _ (RM _ rfl) ⟨?_,?_,?_,?_,?_,?_,?_⟩ ?_
   iterate 7 (· simp [ne,ne'])
   simp -implicitDefEqProofs [ne,ne']
   refine postH_r ⟨?_,?_,?_,?_,?_,?_⟩<;>simp -implicitDefEqProofs [hi,hiB,r1,r2,hd,hdB,ne,ne',hids,iz]
end Go.Ai
