/- Lib5: a part of the proof. Conditions: as each theorem says. -/
import Derived.Test.YtggemlhclppciaaGreatDoorLib4
set_option linter.unusedSimpArgs false
set_option linter.unusedVariables false
namespace Go.Ai
open Go.RowKit
variable {P:Program} {F:Fr} {S:aI} {gb:Gb} {σ:St} {a:Act} {w:World}

inductive AR where
 |t (s:Nat)
 |cs (s:Nat)
 |ca (s n:Nat)

structure AF where
 c:AC
 rs:List AR
 np:Nat
 N:Nat

def fQ (σ:St):List AR→Option (List AV)
 |[]=>some []
 | .t s::r=>match fQ σ r with
  |some vs=>some (lk σ.e s::vs)
  |none=>none
 | .cs s::r=>match dU σ.bx (lk σ.e s),fQ σ r with
  |some v,some vs=>some (v::vs)
  |_,_=>none
 | .ca s n::r=>match su σ.bx n (lk σ.e s),fQ σ r with
  |some v,some vs=>some (v::vs)
  |_,_=>none

def vS:List AV→AV
 |[v]=>v
 |vs=> .tup vs

def p0 (rs:List AR) (r:AV):AE→St→Prop
 | .x _,_=>False
 |_,σ=>match fQ σ rs with
  |some vs=>dB (vS vs)=some r
  |none=>False

def dP:Nat→List AV→List (Nat×AV)
 |_,[]=>[]
 |i,v::r=>(i,v)::dP (i+1) r

def xS (P:Program):List AR→List ResultVar→Bool
 |[],[]=>true
 | .t s::r,.tmp t::q=>s==t&&xS P r q
 | .cs s::r,.cell t T::q=>s==t&&kO P T&&xS P r q
 | .ca s n::r,.cell t T::q=>s==t&&ir P T&&kN P T==some n&&xS P r q
 |_,_=>false

def mF (P:Program) (GL:List (Nat×List Value)) (dr:Array Oper→List (List Nat)→List be→Bool) (fn:Func) (f:AF):Bool:=
 fn.name != "runtime.NumGoroutine"&&fn.params.size+fn.nfree==f.np&&fn.ntmps==f.N&&Nat.ble f.np f.N&&xS P f.rs fn.results.toList&&(match fn.body with |some c=>mC P GL f.N dr c f.c|none=>false)

def DX (tmps:Array Value):ResultVar→Sem Value
 | .tmp t=>pure (tmps.getD t undef)
 | .cell a t=>do loadVar t (←asAddr (tmps.getD a undef))
theorem p4 (fn:Func) (tmps:Array Value):results fn tmps=(do let vs ←fn.results.mapM (DX tmps);pure (if h:vs.size=1 then vs[0] else .tuple vs)):=rfl

theorem ky (h:aE F S gb σ a w): ∀ {rs:List AR} {qs:List ResultVar} {vs:List AV},xS P rs qs=true→fQ σ rs=some vs→ ∀(acc:Array Value),
  ∃us,(qs.foldlM (fun (bs:Array Value) (q:ResultVar)=>(Functor.map bs.push (DX a.tmps q):Sem (Array Value))) acc).run P w= .ok (acc++us.toArray) w∧aa S gb vs us∧ ∀(i s:Nat),rs[i]?=some (AR.t s)→us[i]?=some (tv a s)
 |[],qs,vs,hm,hr,acc=>by
  cases qs<;>simp [xS] at hm;simp [fQ] at hr;subst hr;exact ⟨[],by simp,by simp [aa],by simp⟩
 | .t s::r,qs,vs,hm,hr,acc=>by
  match qs,hm with
  | .tmp t::q,hm=>
   simp only [xS,aC,bP] at hm;obtain ⟨rfl,hm⟩:=hm;simp only [fQ] at hr;split at hr
   ·rename_i vs' hvs;simp only [bV] at hr;subst hr;obtain ⟨us,g1,g2,g3⟩:=ky h hm hvs (acc.push (a.tmps.getD s undef));refine ⟨a.tmps.getD s undef::us,?_,⟨_,_,rfl,h.env s,g2⟩,by
     intro i s' hi;cases i with
     |zero=>simp at hi;subst hi;rfl
     |succ i=>simpa using g3 i s' (by simpa using hi)⟩
    have:(DX a.tmps (.tmp s)).run P w= .ok (a.tmps.getD s undef) w:=rfl
    simp only [List.foldlM_cons,Sem.run_bind,Sem.run_map,this,Result.andThen_ok];rw [g1];simp
   ·cases hr
 | .cs s::r,qs,vs,hm,hr,acc=>by
  match qs,hm with
  | .cell t T::q,hm=>
   simp only [xS,aC,bP] at hm;obtain ⟨⟨rfl,ht⟩,hm⟩:=hm;simp only [fQ] at hr;split at hr
   ·rename_i v vs' hl hvs;simp only [bV] at hr;subst hr;obtain ⟨u,hu,hp⟩:=jS h ht hl (h.env s);obtain ⟨us,g1,g2,g3⟩:=ky h hm hvs (acc.push u);refine ⟨u::us,?_,⟨_,_,rfl,hp,g2⟩,by
     intro i s' hi;cases i with
     |zero=>simp at hi
     |succ i=>simpa using g3 i s' (by simpa using hi)⟩
    have:(DX a.tmps (.cell s T)).run P w= .ok u w:=by
     show (do loadVar T (←asAddr (a.tmps.getD s undef)):Sem Value).run P w= .ok u w;have hu:(Instr.loadAt T (a.tmps.getD s undef)).run P w= .ok u w:=hu;generalize a.tmps.getD s undef=pv at hu ⊢;cases pv<;>simp [Instr.loadAt,Instr.sureAddr] at hu;rename_i ad;cases ad<;>simp at hu;simpa [asAddr] using hu
    simp only [List.foldlM_cons,Sem.run_bind,Sem.run_map,this,Result.andThen_ok];rw [g1];simp
   ·cases hr
 | .ca s n::r,qs,vs,hm,hr,acc=>by
  match qs,hm with
  | .cell t T::q,hm=>
   simp only [xS,aC,bP] at hm;obtain ⟨⟨⟨rfl,ht⟩,hn⟩,hm⟩:=hm;simp only [fQ] at hr;split at hr
   ·rename_i v vs' hl hvs;simp only [bV] at hr;subst hr;obtain ⟨u,hu,hp⟩:=oi h ht hn hl (h.env s);obtain ⟨us,g1,g2,g3⟩:=ky h hm hvs (acc.push u);refine ⟨u::us,?_,⟨_,_,rfl,hp,g2⟩,by
     intro i s' hi;cases i with
     |zero=>simp at hi
     |succ i=>simpa using g3 i s' (by simpa using hi)⟩
    have:(DX a.tmps (.cell s T)).run P w= .ok u w:=by
     show (do loadVar T (←asAddr (a.tmps.getD s undef)):Sem Value).run P w= .ok u w;have hu:(Instr.loadAt T (a.tmps.getD s undef)).run P w= .ok u w:=hu;generalize a.tmps.getD s undef=pv at hu ⊢;cases pv<;>simp [Instr.loadAt,Instr.sureAddr] at hu;rename_i ad;cases ad<;>simp at hu;simpa [asAddr] using hu
    simp only [List.foldlM_cons,Sem.run_bind,Sem.run_map,this,Result.andThen_ok];rw [g1];simp
   ·cases hr

theorem fG {as:List AV} {us:List Value} (h:aa S gb as us): ∀(i t:Nat),(t<i→lk (dP i as) t= .undef)∧(∀j,t=i+j→PR S gb (lk (dP i as) t) (us.getD j undef)):=by
 induction as generalizing us with
 |nil=>intro i t;simp [dP,lk,PR]
 |cons c r ih=>
  simp only [aa] at h;obtain ⟨u,us',rfl,h1,h2⟩:=h;intro i t;simp only [dP,lk];constructor
  ·intro hlt;rw [if_neg (by omega)];exact (ih h2 (i+1) t).1 (by omega)
  ·intro j hj;split
   ·rename_i e
    have:j=0:=by omega
    subst this;simpa using h1
   ·rename_i e
    have:j≠0:=by omega
    obtain ⟨j',rfl⟩: ∃j',j=j'+1:=⟨j - 1,by omega⟩
    have:=(ih h2 (i+1) t).2 j' (by omega)
    simpa using this

theorem dw {vs:List Value} {n t:Nat}:tv {tmps:=vs.toArray++Array.replicate n undef,defers:=[]} t=vs.getD t undef:=by
 simp only [tv,lc,Array.getElem?_append,Ar];split
 ·simp
 ·rename_i hge;simp only [List.size_toArray,Nat.not_lt] at hge;rw [Di hge,Array.getElem?_replicate];split<;>simp

theorem kz {fn:Func} {rs:List AR} (h:aE F S gb σ a w) (h5:xS P rs fn.results.toList=true) {vs':List AV} (hv:fQ σ rs=some vs'):
  ∃us:List Value,(results fn a.tmps).run P w= .ok (if h:us.toArray.size=1 then us.toArray[0] else .tuple us.toArray) w∧aa S gb vs' us∧ ∀(i s:Nat),rs[i]?=some (AR.t s)→us[i]?=some (tv a s):=by
 obtain ⟨us,g1,g2⟩:=ky (P:=P) h h5 hv #[];refine ⟨us,?_,g2⟩;rw [p4,Sem.run_bind,Array.mapM_eq_foldlM,←Array.foldlM_toList];simp only [Array.empty_append] at g1;rw [g1];simp
theorem DY {vs':List AV} {us:List Value} (g2:aa S gb vs' us):PR S gb (vS vs') (if h:us.toArray.size=1 then us.toArray[0] else .tuple us.toArray):=by
 match vs',us,g2 with
 |[],us,g2=>
  simp only [aa] at g2;subst g2;simp only [vS,PR];exact ⟨#[],by simp,by simp [aa]⟩
 |[v],us,g2=>
  simp only [aa] at g2;obtain ⟨u,_,rfl,hp,rfl⟩:=g2;exact hp
 |v1::v2::r',us,g2=>
  have hl2:=g2.length;simp only [vS,PR];refine ⟨us.toArray,?_,by simpa using g2⟩;rw [dif_neg];simp only [dT] at hl2;simp;omega

theorem PR.noids {S:aI} {gb gb':Gb} (v:AV) (u:Value) (h:v.ids=[]) (hp:PR S gb v u):PR S gb' v u:=PR.restr v u (fun d hd=>by rw [h] at hd;cases hd) hp
theorem aa.noids {S:aI} {gb gb':Gb} (v:List AV) (u:List Value) (h:bc v=[]) (hp:aa S gb v u):aa S gb' v u:=aa.restr v u (fun d hd=>by rw [h] at hd;cases hd) hp

def dV (gb:Gb):Gb:=fun i=>match i with
 | .up j=>gb j
 |_=>none

theorem BW {GL:List (Nat×List Value)} {dr:Array Oper→List (List Nat)→List be→Bool} {f:Nat} {fn:Func} {af:AF} (hf:P.funcs[f]?=some fn) (hm:mF P GL dr fn af=true) (hd:bI P GL af.N dr) {l:List AV} {r:AV} (hl:l.length=af.np) (hi:bc l=[])
  (hw:dz (aX P GL) af.c (p0 af.rs r) ⟨dP 0 l,[],[]⟩):sy (aX P GL) f l r:=by
 intro d;simp only [mF,aC,bne_iff_ne,bP] at hm;obtain ⟨⟨⟨⟨⟨h1,h2⟩,h3⟩,h4⟩,h5⟩,h6⟩:=hm;split at h6<;>(try cases h6);rename_i c hb;have h4:=Nat.le_of_ble_eq_true h4;intro S gb w vs hvs hhr hglo hnw;have hlen:vs.length=l.length:=hvs.length.symm;unfold kP;have hcall:(callFunc f vs.toArray).run P w= .ok (.enter f vs.toArray) w:=by
  simp [callFunc,hf,hb,h1]
 rw [hcall];refine calls_of_wp hf hb ?_
 let F:Fr:=⟨S,w,MS ⟨l,[],[]⟩ gb (fun t=>vs.getD t undef) w,gb,af.N,GL,[]⟩
 have hrel:aE F S (dV gb) ⟨dP 0 l,[],[]⟩ {tmps:=vs.toArray++Array.replicate (fn.ntmps - vs.toArray.size) undef,defers:=[]} w:=by
  refine ⟨rfl,?_,Bw.refl _ _,fun _ _ _ _=>rfl,aI.le.refl _,?_,⟨hhr.agree,?_,?_,?_,?_,?_,?_,?_⟩,?_,?_,?_,fun d=>rfl,hglo⟩
  ·show (vs.toArray++Array.replicate (fn.ntmps - vs.toArray.size) undef).size=af.N;simp;omega
  ·intro t
   have:=(fG (aa.noids (gb':=dV gb) _ _ hi hvs) 0 t).2 t (by omega)
   rw [dw];exact this
  ·intro d cs hcs;simp [ar] at hcs
  ·intro d cs hcs;simp [ar] at hcs
  ·intro d d' g z z' hg;simp [ar] at hg
  ·intro p k hk;simp [aA] at hk
  ·intro p q k l b hk;simp [aA] at hk
  ·intro p k b d z hk;simp [aA] at hk
  ·intro d off k hk;simp [aA] at hk
  ·intro d g z hg;simp [ar] at hg
  ·intro p k g hk;simp [aA] at hk
  ·intro d hd;cases d<;>simp [dV,Id.isUp] at hd ⊢
 refine ek (F:=F) hd h6 (Q:=p0 af.rs r) ?_ hrel hw;intro e S' gb' σ' a' w' hr hq;have fin: ∀vs',fQ σ' af.rs=some vs'→dB (vS vs')=some r→a'.defers=[]∧ ∃v,(results fn a'.tmps).run P w'= .ok v w'∧(∃u,Ending.returned v= .returned u∧ ∃S'' gb'',dD d ⟨l,[],[]⟩ ⟨r,[],[]⟩ S gb (fun t=>vs.getD t undef) w S'' gb'' u w'):=by
  intro vs' hv hs;refine ⟨hr.defers,?_⟩;obtain ⟨us,hrun,g2,_⟩:=kz (P:=P) hr h5 hv;refine ⟨_,hrun,_,rfl,S',gb,hr.bw,hr.ext,hr.le,fun _ _=>rfl,fun i hi hne=>absurd (hnw i hi) hne,vL (bH _ _ _ hs (DY g2)),⟨hr.hr.agree,?_,?_,?_,?_,?_,?_,?_⟩,?_,?_⟩
  ·intro d cs hcs;simp [ar] at hcs
  ·intro d cs hcs;simp [ar] at hcs
  ·intro d d' g z z' hg;simp [ar] at hg
  ·intro p k hk;simp [aA] at hk
  ·intro p q k l b hk;simp [aA] at hk
  ·intro p k b d z hk;simp [aA] at hk
  ·intro d off k hk;simp [aA] at hk
  ·intro d g z hg;simp [ar] at hg
  ·intro p k g hk;simp [aA] at hk
 cases e
 ·simp only [p0] at hq;split at hq
  ·rename_i vs' hv;exact fin vs' hv hq
  ·cases hq
 ·exact hq.elim
 ·simp only [p0] at hq;split at hq
  ·rename_i vs' hv;exact fin vs' hv hq
  ·cases hq
end Go.Ai
namespace Go.Ai
open Go.RowKit

structure LS where
 E:Nat→AV
 B:Id→Option (List AV)
 M:Pl→Option Nat
def bS (σ:St):LS:=⟨lk σ.e,ar σ.bx,aA σ.pm⟩

theorem LS.ext' {u v:LS} (h1: ∀t,u.E t=v.E t) (h2: ∀t,u.B t=v.B t) (h3: ∀t,u.M t=v.M t):u=v:=by
 cases u;cases v;simp only [LS.mk.injEq];exact ⟨funext h1,funext h2,funext h3⟩

inductive Dl where
 |put (d:Nat) (v:AV)
 |puto (d:Nat) (v:AV) (k:Nat)
 |mo (d s:Nat) (v:AV) (k:Nat)
 |box (d:Nat) (cs:List AV)
 |st (d:Id) (off n:Nat) (cs:List AV)
 |lo (d:Nat) (b:Id) (off:Nat) (v:AV) (k:Nat)
 |so (d:Id) (off s:Nat) (cs:List AV) (k:Nat)
 |rdc (d:Nat) (b:Id) (v:AV)
 |call (d:Nat) (xs:List X) (I:In) (O:bW)

def Dl.ap:Dl→St→St
 | .put d v,σ=>σ.put d v
 | .puto d v k,σ=>σ.puto d v k
 | .mo d s v k,σ=>⟨(d,v)::σ.e,σ.bx,(.s d,k)::fU (dl σ.pm (.s s)) d⟩
 | .box d cs,σ=>⟨(d,.ptr (.n d) 0)::σ.e,(.n d,cs)::σ.bx,fU σ.pm d⟩
 | .st d off n cs,σ=>⟨σ.e,Dj σ.bx d cs,vo σ.pm d off n⟩
 | .lo d b off v k,σ=>⟨(d,v)::σ.e,σ.bx,(.s d,k)::fU (dl σ.pm (.b b off)) d⟩
 | .so d off s cs k,σ=>⟨σ.e,Dj σ.bx d cs,(.b d off,k)::dl (dl σ.pm (.s s)) (.b d off)⟩
 | .rdc d b v,σ=>⟨(d,v)::σ.e,σ.bx,fU (rF σ.pm b) d⟩
 | .call d xs I O,σ=>a6 d σ xs I O

def Dl.e?:Dl→Option (Nat×AV)
 | .put d v=>some (d,v)
 | .puto d v _=>some (d,v)
 | .mo d _ v _=>some (d,v)
 | .box d _=>some (d,.ptr (.n d) 0)
 | .lo d _ _ v _=>some (d,v)
 | .rdc d _ v=>some (d,v)
 | .call d _ _ O=>some (d,O.r)
 |_=>none
def Dl.b?:Dl→Id→Option (List AV)
 | .box d cs,i=>if .n d=i then some cs else none
 | .st d _ _ cs,i=>if d=i then some cs else none
 | .so d _ _ cs _,i=>if d=i then some cs else none
 | .call _ _ _ O,i=>ar O.bx i
 |_,_=>none
def dJ (d:Id) (off n:Nat):Pl→Bool
 | .b e o=>e==d&&Nat.ble off o&&Nat.blt o (off+n)
 |_=>false
def Az (b:Id):Pl→Bool
 | .b e _=>e==b
 |_=>false
theorem yT (l:List (Pl×Nat)) (b:Id) (q:Pl):aA (rF l b) q=if Az b q=true then none else aA l q:=by
 rw [ku];cases q<;>simp [Az]
def Dl.m?:Dl→Pl→Option (Option Nat)
 | .put d _,p=>if p.at d=true then some none else none
 | .puto d _ k,p=>if p= .s d then some (some k) else if p.at d=true then some none else none
 | .mo d s _ k,p=>if p= .s d then some (some k) else if p.at d=true then some none else if p= .s s then some none else none
 | .box d _,p=>if p.at d=true then some none else none
 | .st d off n _,p=>if dJ d off n p=true then some none else none
 | .lo d b off _ k,p=>if p= .s d then some (some k) else if p.at d=true then some none else if p= .b b off then some none else none
 | .so d off s _ k,p=>if p= .b d off then some (some k) else if p= .s s then some none else none
 | .rdc d b _,p=>if p.at d=true then some none else if Az b p=true then some none else none
 | .call d _ I O,p=>if p.at d=true then some none else match aA O.pm p with
  |some k=>some (some k)
  |none=>match p with
   | .b e _=>if (ar I.bx e).isSome then some none else none
   |_=>none
def Dl.app (δ:Dl) (v:LS):LS:=
 ⟨fun t=>match δ.e? with |some (d,x)=>if d=t then x else v.E t|none=>v.E t,
  fun b=>match δ.b? b with |some cs=>some cs|none=>v.B b,
  fun p=>match δ.m? p with |some x=>x|none=>v.M p⟩

theorem yU (l:List (Pl×Nat)) (d:Id) (off n:Nat) (q:Pl):aA (vo l d off n) q=if dJ d off n q=true then none else aA l q:=by
 induction l with
 |nil=>simp [vo,aA]
 |cons x r ih=>
  obtain ⟨y,k'⟩:=x;cases y with
  |s t=>
   simp only [vo,aA];split
   ·rename_i h2;subst h2;simp [dJ]
   ·exact ih
  |t t i=>
   simp only [vo,aA];split
   ·rename_i h2;subst h2;simp [dJ]
   ·exact ih
  |b e o=>
   simp only [vo];split
   ·rename_i h2;rw [ih];simp only [aA];split
    ·rfl
    ·rename_i h3;rw [if_neg];intro e';subst e';obtain ⟨rfl,h4,h5⟩:=h2;exact h3 (by simp [dJ,Nat.ble_eq,Nat.blt_eq,h4,h5])
   ·rename_i h2;simp only [aA,ih];split
    ·rename_i h3;subst h3;rw [if_neg];intro h4;simp only [dJ,aC,bP,Nat.ble_eq,Nat.blt_eq] at h4;exact h2 ⟨h4.1.1,h4.1.2,h4.2⟩
    ·rfl

def Lv (d:Nat) (s:Option X) (v:AV) (k:Nat):Dl:=match s with
 |some (.s t)=> .mo d t v k
 |_=> .puto d v k
theorem DZ (d:Nat) (s:Option X) (v:AV) (k:Nat) (σ:St):(Lv d s v k).ap σ=yH d s v k σ:=by
 cases s with
 |none=>rfl
 |some x=>cases x<;>rfl
def Dl.fits (δ:Dl) (σ:St):Prop:=
 match δ with
 | .st d _ _ _=>(ar σ.bx d).isSome
 | .so d _ _ _ _=>(ar σ.bx d).isSome
 | .call _ _ I O=>(∀p∈I.bx,(ar O.bx p.1).isSome)∧(∀p∈I.pm,p.1.isB=true)∧(∀p∈O.pm,p.1.isB=true)
 |_=>True
theorem kA: ∀ {l:List (Id×List AV)} {i:Id},(ar l i).isSome→ ∃cs,(i,cs)∈l:=by
 intro l i h;obtain ⟨cs,hcs⟩:=gU.1 h;exact ⟨cs,bY _ _ _ hcs⟩
theorem ow: ∀(r:List (Id×List AV)) (l:List (Pl×Nat)) (p:Pl),aA (jF l r) p=match p with | .b e _=>if (ar r e).isSome then none else aA l p|_=>aA l p
 |[],l,p=>by cases p<;>simp [jF,ar]
 |(d,c)::r,l,p=>by
  simp only [jF];rw [ow r];cases p with
  |s t=>simp only [ku]
  |t t i=>simp only [ku]
  |b e o=>
   simp only [ku,ar];by_cases h:d=e
   ·subst h;simp
   ·have h': ¬e=d:=fun q=>h q.symm
    simp [h,h']
theorem vT (xs:List X): ∀(r l:List (Pl×Nat)),(∀p∈r,p.1.isB=true)→im xs l r=l
 |[],l,_=>rfl
 |(.b e o,k)::r,l,h=>by
  simp only [im];exact vT xs r l fun p hp=>h p (List.mem_cons_of_mem _ hp)
 |(.s t,k)::r,l,h=>by have:=h _ (List.mem_cons_self ..);cases this
 |(.t t i,k)::r,l,h=>by have:=h _ (List.mem_cons_self ..);cases this
theorem vU (d:Nat): ∀(l:List (Pl×Nat)),(∀p∈l,p.1.isB=true)→jG d l=l
 |[],_=>rfl
 |(.b e o,k)::r,h=>by
  simp only [jG];rw [vU d r fun p hp=>h p (List.mem_cons_of_mem _ hp)]
 |(.s t,k)::r,h=>by have:=h _ (List.mem_cons_self ..);cases this
 |(.t t i,k)::r,h=>by have:=h _ (List.mem_cons_self ..);cases this
theorem AA: ∀ {l:List (Pl×Nat)} {p:Pl} {k:Nat},(∀p∈l,p.1.isB=true)→aA l p=some k→p.isB=true
 |[],p,k,_,h=>by simp [aA] at h
 |(q,k0)::r,p,k,hb,h=>by
  simp only [aA] at h;split at h
  ·rename_i e;subst e;exact hb _ (List.mem_cons_self ..)
  ·exact AA (fun p hp=>hb p (List.mem_cons_of_mem _ hp)) h
theorem p5: ∀ {l:List (Id×List AV)} {p:Id×List AV},p∈l→(ar l p.1).isSome
 |(k,v)::r,p,h=>by
  simp only [ar];split
  ·rfl
  ·rename_i e;rcases i8.1 h with h|h
   ·exact absurd (by rw [h]) e
   ·exact p5 h
theorem Jz {p:Pl} {d:Nat} (h:p.isB=true):p.at d=false:=by cases p<;>simp_all [Pl.isB,Pl.at]
theorem AB {δ:Dl} {σ:St} (h:δ.fits σ):bS (δ.ap σ)=δ.app (bS σ):=by
 apply LS.ext'
 ·intro t;cases δ<;>simp [bS,Dl.ap,Dl.app,Dl.e?,St.put,St.puto,a6,lk]
 ·intro t;cases δ<;>simp only [bS,Dl.ap,Dl.app,Dl.b?,St.put,St.puto,ar]
  case box d cs=>by_cases e:Id.n d=t<;>simp [e]
  case call d xs I O=>
   simp only [Dl.fits] at h;simp only [a6,f7,iI];cases h1:ar O.bx t with
   |some c=>rfl
   |none=>
    simp only [];rw [if_neg];intro h2;obtain ⟨cs,hm⟩:=kA h2
    have:=h.1 _ hm
    rw [h1] at this;cases this
  case st d off n cs=>
   simp only [Dl.fits] at h;rw [lW t h];by_cases e:d=t
   ·subst e;simp
   ·have e': ¬t=d:=fun q=>e q.symm
    simp [e,e']
  case so d off s' cs k=>
   simp only [Dl.fits] at h;rw [lW t h];by_cases e:d=t
   ·subst e;simp
   ·have e': ¬t=d:=fun q=>e q.symm
    simp [e,e']
 ·intro p;have e1: ∀q:Pl,(q=p)=(p=q):=fun q=>propext ⟨fun e=>e.symm,fun e=>e.symm⟩
  cases δ<;>simp only [bS,Dl.ap,Dl.app,Dl.m?,St.put,St.puto,aA,io,jd,yU,yT,e1]
  case put d v=>by_cases h1:p.at d=true<;>simp [h1]
  case puto d v k=>by_cases h0:p= .s d<;>by_cases h1:p.at d=true<;>simp [h0,h1]
  case mo d s' v k=>
   by_cases h0:p= .s d
   ·simp [h0]
   ·by_cases h1:p.at d=true
    ·simp [h0,h1]
    ·by_cases h2:p= .s s'
     ·simp only [if_neg h0,if_neg h1,if_pos h2]
     ·simp only [if_neg h0,if_neg h1,if_neg h2]
  case box d cs=>by_cases h1:p.at d=true<;>simp [h1]
  case st d off n cs=>by_cases h1:dJ d off n p=true<;>simp [h1]
  case lo d b off v k=>by_cases h0:p= .s d<;>by_cases h1:p.at d=true<;>by_cases h2:p= .b b off<;>simp [h0,h1,h2]
  case rdc d b v=>by_cases h1:p.at d=true<;>by_cases h2:Az b p=true<;>simp [h1,h2]
  case call d xs I O=>
   simp only [Dl.fits] at h;obtain ⟨h1,h2,h3⟩:=h;simp only [a6,Ax,vT _ _ _ h2,vU _ _ h3,jd,ow];cases h4:aA O.pm p with
   |some k=>
    have:=Jz (d:=d) (AA h3 h4)
    simp [this]
   |none=>
    by_cases h5:p.at d=true
    ·simp [h5]
    ·simp only [if_neg h5];cases p with
     |s t=>rfl
     |t t i=>rfl
     |b e o=>by_cases h6:(ar I.bx e).isSome<;>simp [h6]
  case so d off s' cs k=>by_cases h0:p= .b d off<;>by_cases h2:p= .s s'<;>simp [h0,h2]

section
variable (S:Nat→Nat→In→bW→Prop)
def fe:be→(Dl→Prop)→St→Prop
 | .mo d s,K,σ=>match aA σ.pm (.s s) with
  |some k=>K (.mo d s (lk σ.e s) k)
  |none=>K (.put d (lk σ.e s))
 | .al d z,K,σ=>match ar σ.bx (.n d) with
  |none=>K (.box d z)
  |some _=>False
 | .alT d T off z,K,σ=>match ar σ.bx (.n d) with
  |none=>K (.box d (z.set off (.nilT (.n d) T z.length)))
  |some _=>False
 | .bx d x,K,σ=>match ar σ.bx (.n d) with
  |none=>match (σ.v x).cs with
   |some cs=>K (.box d cs)
   |none=>False
  |some _=>False
 | .bs d sz ps,K,σ=>match il σ sz ps with
  |some rows=>K (.puto d (.sl rows) sz)
  |none=>False
 | .st n x v,K,σ=>match σ.v x with
  | .ptr d off=>match ar σ.bx d with
   |some cs=>match (σ.v v).cs with
    |some vs=>vs.length=n∧off+n≤cs.length∧K (.st d off n (eX cs off vs))
    |none=>False
   |none=>False
  |_=>False
 | .lo d x,K,σ=>match σ.v x with
  | .ptr b off=>match ar σ.bx b with
   |some cs=>match cs[off]? with
    |some v=>match aA σ.pm (.b b off) with
     |some k=>K (.lo d b off v k)
     |none=>K (.put d v)
    |none=>False
   |none=>False
  | .pin cs=>match cs[0]? with
   |some v=>K (.put d v)
   |none=>False
  |_=>False
 | .so x s,K,σ=>match σ.v x with
  | .ptr d off=>match ar σ.bx d with
   |some cs=>match aA σ.pm (.s s) with
    |some k=>off<cs.length∧K (.so d off s (cs.set off (lk σ.e s)) k)
    |none=>match (lk σ.e s).cs with
     |some vs=>vs.length=1∧off+1≤cs.length∧K (.st d off 1 (eX cs off vs))
     |none=>False
   |none=>False
  |_=>False
 | .ap d sz bytes s y,K,σ=>match dB (σ.v y) with
  |some (.sl news)=>(match σ.v s,s with
   | .sl rows,.s t=>aA σ.pm (.s t)=some sz∧(rows.length+news.length)*bytes≤rM∧(∀r∈rows,r.length=sz)∧(∀r∈news,r.length=sz)∧K (.mo d t (.sl (rows++news)) sz)
   | .nils,_=>news.length*bytes≤rM∧(∀r∈news,r.length=sz)∧K (.puto d (.sl news) sz)
   |_,_=>False)
  |_=>False
 | .mk _ _ _ _ _ _,_,_=>False
 | .sls d x lo hi,K,σ=>match σ.v x with
  | .str s=>match vB σ 0 lo,vB σ s.length hi with
   |some l,some h=>0≤l∧l≤h∧h≤s.length∧K (.put d (.str ((s.take h.toNat).drop l.toNat)))
   |_,_=>False
  |_=>False
 | .slc d sz x lo hi,K,σ=>match σ.v x with
  | .sl rows=>match vB σ 0 lo,vB σ rows.length hi with
   |some l,some h=>0≤l∧l≤h∧h≤rows.length∧(∀r∈rows,r.length=sz)∧K (.put d (.sl ((rows.take h.toNat).drop l.toNat)))
   |_,_=>False
  |_=>False
 | .cl d f xs,K,σ=>match jy (xs.map σ.v) with
  |some l=> ∃r,sy S f l r∧K (.put d r)
  |none=>False
 | .cr _ _ _,_,_=>False
 | .cq d f xs fr,K,σ=> ∃I O,S f d I O∧cD d σ xs I O∧(GA fr I O∧fr.contains d=false)∧K (.call d xs I O)
 | .gd s b d o,K,σ=>match GB (lk σ.e s) b with
  |some true=>fe o K σ
  |some false=>K (.put d (.tup []))
  |none=>False
 | .ca d f s ps,K,σ=> ∃k out,GC S f σ s ps k out∧K (Lv d s (.sl out) k)
 | .ce _ _ _,_,_=>False
 | .cd _ _ _,_,_=>False
 | .apm _ _ _ _ _,_,_=>False
 | .mkm _ _ _ _ _ _,_,_=>False
 | .bsm _ _ _,_,_=>False
 | .bsn _ _ _,_,_=>False
 | .rs _ _,_,_=>False
 | .nx _ _,_,_=>False
 | .s2b _ _,_,_=>False
 | .aps _ _ _,_,_=>False
 | .ex _ _ _,_,_=>False
 | .sla _ _ _ _ _,_,_=>False
 | .b2s _ _,_,_=>False
 | .i2s _ _,_,_=>False
 | .inl _ _ _,_,_=>False
 | .mkp _,_,_=>False
 | .mpl _ _,_,_=>False
 | .mpe _ _ _ _ _,_,_=>False
 | .mes _ _ _,_,_=>False
 | .mup _ _ _ _,_,_=>False
 | .clr _ _ _,_,_=>False
 | .trm _ _ _ _,_,_=>False
 |o,K,σ=>match ev σ o with
  |some (d,v)=>K (.put d v)
  |none=>False
end
variable {Sp:Nat→Nat→In→bW→Prop}
def Ml:be→Bool
 | .ce _ _ _| .cd _ _ _| .apm _ _ _ _ _| .mkm _ _ _ _ _ _| .bsn _ _ _| .bsm _ _ _| .rs _ _| .nx _ _| .s2b _ _| .aps _ _ _| .ex _ _ _| .sla _ _ _ _ _| .b2s _ _| .i2s _ _| .inl _ _ _| .mkp _| .mpl _ _| .mpe _ _ _ _ _| .mes _ _ _| .mup _ _ _ _| .clr _ _ _| .trm _ _ _ _| .bxT _ _ _ _=>false
 | .gd _ _ _ o=>Ml o
 |_=>true

theorem GM: ∀ {o:be} {K:St→Prop} {σ:St},fe Sp o (fun δ=>K (δ.ap σ)) σ→bh Sp o K σ:=by
 intro o;induction o with
 |gd s b d o ih=>
  intro K σ h;simp only [fe] at h;simp only [bh];split at h
  ·rename_i e;rw [e];exact ih h
  ·rename_i e;rw [e];exact h
  ·cases h
 |ce|cd|apm|mkm|bsn|bsm|rs|nx|s2b|aps|ex|sla|b2s|i2s|inl|mkp|mpl|mpe|mes|mup|bxT|clr|trm=>intro K σ h;exact (h:False).elim
 |ca d f s ps=>intro K σ h;simp only [fe,DZ] at h;exact h
 |_=>intro K σ h;exact h
theorem GN: ∀ {o:be} {K:St→Prop} {σ:St},Ml o=true→bh Sp o K σ→fe Sp o (fun δ=>K (δ.ap σ)) σ:=by
 intro o;induction o with
 |gd s b d o ih=>
  intro K σ hok h;simp only [bh] at h;simp only [fe];split at h
  ·rename_i e;rw [e];exact ih hok h
  ·rename_i e;rw [e];exact h
  ·cases h
 |ce|cd|apm|mkm|bsn|bsm|rs|nx|s2b|aps|ex|sla|b2s|i2s|inl|mkp|mpl|mpe|mes|mup|bxT|clr|trm=>intro K σ hok h;cases hok
 |ca d f s ps=>intro K σ hok h;simp only [fe,DZ];exact h
 |_=>intro K σ hok h;exact h

theorem GP: ∀ {o:be} {K:Dl→Prop} {σ:St},fe Sp o K σ→ ∃δ,fe Sp o (· =δ) σ∧K δ:=by
 intro o;induction o with
 |ce|cd|apm|mkm|bsn|bsm|rs|nx|s2b|aps|ex|sla|b2s|i2s|inl|mkp|mpl|mpe|mes|mup|bxT|clr|trm=>intro K σ h;exact (h:False).elim
 |gd s b d o ih=>
  intro K σ h;simp only [fe] at h ⊢;split at h
  ·obtain ⟨δ,h1,h2⟩:=ih h;exact ⟨δ,h1,h2⟩
  ·exact ⟨_,rfl,h⟩
  ·cases h
 |ca d f s ps=>intro K σ h;obtain ⟨k,out,h1,h2⟩:=h;exact ⟨_,⟨k,out,h1,rfl⟩,h2⟩
 |cq d f ps fr=>intro K σ h;obtain ⟨I,O,h1,h2,h3,h4⟩:=h;exact ⟨_,⟨I,O,h1,h2,h3,rfl⟩,h4⟩
 |_=>
  intro K σ h;simp only [fe] at h ⊢;repeat' (first|(split at h)|contradiction)
  all_goals first
   |exact ⟨_,rfl,h⟩
   |(obtain ⟨h1,h2⟩:=h;exact ⟨_,⟨h1,rfl⟩,h2⟩)
   |(obtain ⟨h1,h2,h3⟩:=h;exact ⟨_,⟨h1,h2,rfl⟩,h3⟩)
   |(obtain ⟨h1,h2,h3,h4⟩:=h;exact ⟨_,⟨h1,h2,h3,rfl⟩,h4⟩)
   |(obtain ⟨h1,h2,h3,h4,h5⟩:=h;exact ⟨_,⟨h1,h2,h3,h4,rfl⟩,h5⟩)
   |(obtain ⟨r,h1,h2⟩:=h;exact ⟨_,⟨r,h1,rfl⟩,h2⟩)

theorem BX {K':Dl→Prop} {δ:Dl} (hk:K' δ): ∀ {o:be} {σ:St},fe Sp o (· =δ) σ→fe Sp o K' σ:=by
 intro o;induction o with
 |ce|cd|apm|mkm|bsn|bsm|rs|nx|s2b|aps|ex|sla|b2s|i2s|inl|mkp|mpl|mpe|mes|mup|bxT|clr|trm=>intro σ h;exact (h:False).elim
 |gd s b d o ih=>
  intro σ h;simp only [fe] at h ⊢;split at h
  ·exact ih h
  ·rw [h];exact hk
  ·cases h
 |ca d f s ps=>intro σ h;obtain ⟨k,out,h1,h2⟩:=h;exact ⟨k,out,h1,by rw [h2];exact hk⟩
 |cq d f ps fr=>intro σ h;obtain ⟨I,O,h1,h2,h3,h4⟩:=h;exact ⟨I,O,h1,h2,h3,by rw [h4];exact hk⟩
 |_=>
  intro σ h;simp only [fe] at h ⊢;repeat' (first|(split at h)|contradiction)
  all_goals first
   |(rw [h];exact hk)
   |(obtain ⟨g1,g2⟩:=h;exact ⟨g1,by rw [g2];exact hk⟩)
   |(obtain ⟨g1,g2,g3⟩:=h;exact ⟨g1,g2,by rw [g3];exact hk⟩)
   |(obtain ⟨g1,g2,g3,g4⟩:=h;exact ⟨g1,g2,g3,by rw [g4];exact hk⟩)
   |(obtain ⟨g1,g2,g3,g4,g5⟩:=h;exact ⟨g1,g2,g3,g4,by rw [g5];exact hk⟩)

def tY (σ:St):be→List Pl
 | .mo _ s=>[.s s]
 | .ap _ _ _ (.s t) _=>[.s t]
 | .ca _ _ (some (.s t)) _=>[.s t]
 | .lo _ x=>match σ.v x with | .ptr b off=>[.b b off]|_=>[]
 | .so _ s=>[.s s]
 | .gd s b _ o=>match lk σ.e s with
  | .bool t=>if t=b then tY σ o else []
  |_=>[]
 |_=>[]

def eM:be→Nat
 | .lds _ _| .ldf _ _| .lda _ _ _| .mlk _ _ _ _ _ _=>1
 | .st _ _ _| .lo _ _| .so _ _| .al _ _| .alT _ _ _ _| .bx _ _| .cr _ _ _| .cq _ _ _ _=>2
 | .gd _ _ _ o=>eM o
 |_=>0

structure Mm (o:be) (σ τ:St):Prop where
 e: ∀t∈cM o,lk σ.e t=lk τ.e t
 t: ∀b,fE (eb σ o) b→ar σ.bx b=ar τ.bx b
 p: ∀p∈tY σ o,aA σ.pm p=aA τ.pm p
 q: ∀b off,fE (eb σ o) b→eM o=2→aA σ.pm (.b b off)=aA τ.pm (.b b off)
 c: ∀x,eb σ o=some x→x.kept τ
theorem Mm.b {o:be} {σ τ:St} (h:Mm o σ τ): ∀b,eb σ o=some (.one b)→ar σ.bx b=ar τ.bx b:=fun b hb=>h.t b (by rw [hb];rfl)

theorem dx {σ τ:St} {x:X} (h: ∀t∈xs x,lk σ.e t=lk τ.e t):σ.v x=τ.v x:=by
 cases x with
 |s t=>exact h t (by simp [xs])
 |c v=>rfl
theorem pg {σ τ:St} {n:Nat} {x:Option X} (h: ∀t∈ox x,lk σ.e t=lk τ.e t):vB σ n x=vB τ n x:=by
 cases x with
 |none=>rfl
 |some x=>simp only [vB];rw [dx h]
theorem sK {σ τ:St}: ∀ {ps:List (Nat×Nat×X)} {z:List AV},(∀t∈ps.flatMap (fun p=>xs p.2.2),lk σ.e t=lk τ.e t)→jb σ ps z=jb τ ps z
 |[],_,_=>rfl
 |(off,n,x)::r,z,h=>by
  simp only [List.flatMap_cons,gg] at h;simp only [jb];rw [dx (σ:=σ) (τ:=τ) (x:=x) (fun t ht=>h t (.inl ht))];split
  ·split
   ·exact sK (fun t ht=>h t (.inr ht))
   ·rfl
  ·rfl
theorem vV {σ τ:St} {sz:Nat}: ∀ {ps:List X},(∀t∈ps.flatMap xs,lk σ.e t=lk τ.e t)→il σ sz ps=il τ sz ps
 |[],_=>rfl
 |x::r,h=>by
  simp only [List.flatMap_cons,gg] at h;simp only [il];rw [dx (σ:=σ) (τ:=τ) (x:=x) (fun t ht=>h t (.inl ht)),vV (fun t ht=>h t (.inr ht))]
theorem l8 {σ τ:St}: ∀ {ps:List X},(∀t∈ps.flatMap xs,lk σ.e t=lk τ.e t)→ps.map σ.v=ps.map τ.v
 |[],_=>rfl
 |x::r,h=>by
  simp only [List.flatMap_cons,gg] at h;simp only [ik];rw [dx (σ:=σ) (τ:=τ) (x:=x) (fun t ht=>h t (.inl ht)),l8 (fun t ht=>h t (.inr ht))]

theorem GQ {K:Dl→Prop}: ∀ {o:be} {σ τ:St},Mm o σ τ→fe Sp o K σ→fe Sp o K τ:=by
 intro o;induction o with
 |ce|cd|apm|mkm|bsn|bsm|rs|nx|s2b|aps|ex|sla|b2s|i2s|inl|mkp|mpl|mpe|mes|mup|bxT|clr|trm=>intro σ τ ha h;exact (h:False).elim
 |mf d f ps=>
  intro σ τ ha h;simp only [fe,ev] at h ⊢;rw [←l8 ha.e];exact h
 |gd s b d o ih=>
  intro σ τ ha h;have h1:=ha.e;simp only [cM,i8,forall_eq_or_imp] at h1;simp only [fe] at h ⊢;rw [←h1.1];split at h
  ·rename_i e;have ht:=lR e;have hbi:eb σ (.gd s b d o)=eb σ o:=by simp only [eb,ht,if_true]
   exact ih ⟨h1.2,fun b' hb=>ha.t b' (by rw [hbi];exact hb),fun p hp=>ha.p p (by simp only [tY,ht,if_true];exact hp),fun b' off hb h2=>ha.q b' off (by rw [hbi];exact hb) h2,fun x hx=>ha.c x (by rw [hbi];exact hx)⟩ h
  ·exact h
  ·cases h
 |mo d s=>
  intro σ τ ha h;have h1:=ha.e s (by simp [cM]);have h2:=ha.p (.s s) (by simp [tY]);simp only [fe] at h ⊢;rw [←h2,←h1];exact h
 |al d z=>
  intro σ τ ha h;have h2:=ha.b (.n d) rfl;simp only [fe] at h ⊢;rw [←h2];exact h
 |alT d T off z=>
  intro σ τ ha h;have h2:=ha.b (.n d) rfl;simp only [fe] at h ⊢;rw [←h2];exact h
 |bx d x=>
  intro σ τ ha h;have h2:=ha.b (.n d) rfl;have h1:=dx (σ:=σ) (τ:=τ) (x:=x) ha.e;simp only [fe] at h ⊢;rw [←h2,←h1];exact h
 |bs d sz ps=>
  intro σ τ ha h;simp only [fe] at h ⊢;rw [←vV ha.e];exact h
 |st n x v=>
  intro σ τ ha h;have h0:=ha.e;simp only [cM,gg] at h0;have h1:=dx (σ:=σ) (τ:=τ) (x:=x) (fun t ht=>h0 t (.inl ht));have h2:=dx (σ:=σ) (τ:=τ) (x:=v) (fun t ht=>h0 t (.inr ht));simp only [fe] at h ⊢;rw [←h1,←h2];split at h
  ·rename_i d off hx;have h3:=ha.b d (by simp only [eb,hx]);rw [←h3];exact h
  ·cases h
 |lo d x=>
  intro σ τ ha h;have h1:=dx (σ:=σ) (τ:=τ) (x:=x) ha.e;simp only [fe] at h ⊢;rw [←h1];split at h
  ·rename_i b off hx;have h3:=ha.b b (by simp only [eb,hx]);have h4:=ha.p (.b b off) (by simp [tY,hx]);rw [←h3,←h4];exact h
  ·exact h
  ·cases h
 |so x s=>
  intro σ τ ha h;have h0:=ha.e;simp only [cM,gg] at h0;have h1:=dx (σ:=σ) (τ:=τ) (x:=x) (fun t ht=>h0 t (.inl ht));have h2:=h0 s (by simp);simp only [fe] at h ⊢;rw [←h1,←h2];split at h
  ·rename_i b off hx;have h3:=ha.b b (by simp only [eb,hx]);have h4:=ha.p (.s s) (by simp [tY]);rw [←h3,←h4];exact h
  ·cases h
 |ap d sz by_ s y=>
  intro σ τ ha h;have h0:=ha.e;simp only [cM,gg] at h0;have h1:=dx (σ:=σ) (τ:=τ) (x:=s) (fun t ht=>h0 t (.inl ht));have h2:=dx (σ:=σ) (τ:=τ) (x:=y) (fun t ht=>h0 t (.inr ht));simp only [fe] at h ⊢;rw [←h1,←h2];cases s with
  |s t=>
   have h4:=ha.p (.s t) (by simp [tY]);split at h
   ·split at h
    ·rename_i rows t' hrows he;cases he;exact ⟨h4▸h.1,h.2⟩
    ·exact h
    ·cases h
   ·cases h
  |c v=>
   split at h
   ·split at h
    ·rename_i he;cases he
    ·exact h
    ·cases h
   ·cases h
 |ca d f s ps=>
  intro σ τ ha h;obtain ⟨k,out,h1,h2⟩:=h;refine ⟨k,out,?_,h2⟩;have h0:=ha.e;simp only [cM,gg] at h0;have hm:ps.map σ.v=ps.map τ.v:=l8 (fun t ht=>h0 t (.inr ht));cases s with
  |none=>simp only [GC] at h1 ⊢;rw [←hm];exact h1
  |some x=>
   cases x with
   |c v=>simp only [GC] at h1 ⊢;rw [←hm];exact h1
   |s t=>
    have e1:=h0 t (.inl (by simp [xs]));have e2:=ha.p (.s t) (by simp [tY]);simp only [GC] at h1 ⊢;rw [←hm,←e1,←e2];exact h1
 |mk d sz by_ z l c=>intro _ _ _ h;exact (show False from h).elim
 |sls d x l hh=>
  intro σ τ ha h;have h0:=ha.e;simp only [cM,gg] at h0;simp only [fe] at h ⊢;rw [←dx (σ:=σ) (τ:=τ) (x:=x) (fun t ht=>h0 t (.inl ht))];split at h
  ·rename_i s hs;rw [←pg (σ:=σ) (τ:=τ) (x:=l) (fun t ht=>h0 t (.inr (.inl ht))),←pg (σ:=σ) (τ:=τ) (x:=hh) (fun t ht=>h0 t (.inr (.inr ht)))];exact h
  ·cases h
 |slc d sz x l hh=>
  intro σ τ ha h;have h0:=ha.e;simp only [cM,gg] at h0;simp only [fe] at h ⊢;rw [←dx (σ:=σ) (τ:=τ) (x:=x) (fun t ht=>h0 t (.inl ht))];split at h
  ·rename_i s hs;rw [←pg (σ:=σ) (τ:=τ) (x:=l) (fun t ht=>h0 t (.inr (.inl ht))),←pg (σ:=σ) (τ:=τ) (x:=hh) (fun t ht=>h0 t (.inr (.inr ht)))];exact h
  ·cases h
 |cl d f ps=>
  intro σ τ ha h;simp only [fe] at h ⊢;rw [←l8 ha.e];exact h
 |cr d f ps=>intro _ _ _ h;exact (show False from h).elim
 |cq d f ps fr=>
  intro σ τ ha h;have hm:ps.map σ.v=ps.map τ.v:=l8 ha.e;obtain ⟨I,O,c1,c2,⟨c3,c5⟩,c4⟩:=h;have hb: ∀i,Dn fr i=false→ar σ.bx i=ar τ.bx i:=fun i hi=>ha.t i hi
  have hp: ∀i off,Dn fr i=false→aA σ.pm (.b i off)=aA τ.pm (.b i off):=fun i off hi=>ha.q i off hi rfl
  have hI: ∀p∈I.bx,Dn fr p.1=false:=fun p hp=>by
   obtain ⟨cs,hcs⟩:=kA (c2.kept p hp);exact c3.fo (p.1,cs) hcs
  refine ⟨I,O,c1,⟨by rw [←hm];exact c2.vs,fun p hp=>?_,fun p hpm=>?_,c2.one,c2.kept,c2.new,fun p hpm=>?_⟩,⟨c3,c5⟩,c4⟩
  ·have:=c2.bx p hp
   unfold Dm at this ⊢;rw [←hb _ (hI p hp)];exact this
  ·have h1:=c2.pm p hpm;have h2:=c3.ip p hpm;obtain ⟨q,k⟩:=p;cases q with
   |s t=>cases h2
   |t t i=>cases h2
   |b e off=>
    simp only [rN,jL] at h1 ⊢;obtain ⟨cs,hcs⟩:=kA h1.1;have hf:=hI _ hcs;rw [←hb _ hf,←hp _ _ hf];exact h1
  ·cases hn:p.1.isNw d with
   |false=>rfl
   |true=>
    exfalso;have hf:Dn fr p.1=false:=by
     cases h0:p.1<;>rw [h0] at hn<;>first|(simp [Id.isNw] at hn;done)|skip
     simp only [Id.isNw,aC,bP] at hn;simp only [Dn,hn.1,c5]
    have hs:(ar τ.bx p.1).isSome:=p5 hpm;rw [←hb _ hf] at hs;obtain ⟨cs,hcs⟩:=kA hs
    have:=c2.free _ hcs
    simp only at this;rw [hn] at this;cases this
 |lds d x=>
  intro σ τ ha h;have h1:=dx (σ:=σ) (τ:=τ) (x:=x) ha.e;simp only [fe,ev] at h ⊢;rw [←h1];cases hx:σ.v x<;>rw [hx] at h<;>simp only [dU] at h ⊢ <;>try exact h
  rename_i b off;have h3:=ha.b b (by simp only [eb,hx]);rw [←h3];exact h
 |ldf d x=>
  intro σ τ ha h;have h1:=dx (σ:=σ) (τ:=τ) (x:=x) ha.e;simp only [fe,ev] at h ⊢;rw [←h1];cases hx:σ.v x<;>rw [hx] at h<;>try exact h
  rename_i b off;cases hl:dU σ.bx (.ptr b off) with
  |none=>rw [hl] at h;cases h
  |some v=>
   have h3:=ha.c (.cel b off v) (by simp only [eb,hx,hl]);simp only [Bx.kept] at h3;rw [hl] at h;rw [h3];exact h
 |lda d n x=>
  intro σ τ ha h;have h1:=dx (σ:=σ) (τ:=τ) (x:=x) ha.e;simp only [fe,ev] at h ⊢;rw [←h1];cases hx:σ.v x<;>rw [hx] at h<;>simp only [su] at h ⊢ <;>try exact h
  rename_i b off;have h3:=ha.b b (by simp only [eb,hx]);rw [←h3];exact h
 |mlk d q z m k ok=>
  intro σ τ ha h;have h0:=ha.e;simp only [cM,gg] at h0;have h1:=dx (σ:=σ) (τ:=τ) (x:=m) (fun t ht=>h0 t (.inl ht));have h2:=dx (σ:=σ) (τ:=τ) (x:=k) (fun t ht=>h0 t (.inr ht));simp only [fe,ev] at h ⊢;rw [←h1,←h2];cases hx:σ.v m<;>rw [hx] at h<;>simp only [As] at h ⊢ <;>try exact h
  rename_i b;have h3:=ha.b b (by simp only [eb,hx]);rw [←h3];exact h
 |bd d z ps=>
  intro σ τ ha h;simp only [fe,ev] at h ⊢;rw [←sK ha.e];exact h
 |pk d c x y=>
  intro σ τ ha h;have h0:=ha.e;simp only [cM,gg] at h0;simp only [fe,ev] at h ⊢;rw [←dx (σ:=σ) (τ:=τ) (x:=c) (fun t ht=>h0 t (.inl ht)),←dx (σ:=σ) (τ:=τ) (x:=x) (fun t ht=>h0 t (.inr (.inl ht))),←dx (σ:=σ) (τ:=τ) (x:=y) (fun t ht=>h0 t (.inr (.inr ht)))];exact h
 |no=>intro σ τ ha h;exact h
 |mv|un|pn|bq|cv|ln|lns|fa|fls|fla|exq|nc|mi|ta=>
  intro σ τ ha h;have h1:=dx (σ:=σ) (τ:=τ) ha.e;simp only [fe,ev] at h ⊢;rw [←h1];exact h
 |bi|bb|ea|ia|iaa|ixs|ixa|mn|mx=>
  intro σ τ ha h;have h0:=ha.e;simp only [cM,gg] at h0;have h1:=dx (σ:=σ) (τ:=τ) (fun t ht=>h0 t (.inl ht));have h2:=dx (σ:=σ) (τ:=τ) (fun t ht=>h0 t (.inr ht));simp only [fe,ev] at h ⊢;rw [←h1,←h2];exact h

def fR:be→Option Nat
 | .mo _ s=>some s
 | .so _ s=>some s
 | .ap _ _ _ (.s t) _=>some t
 | .ca _ _ (some (.s t)) _=>some t
 | .gd _ _ _ o=>fR o
 |_=>none
theorem JA {σ:St} {o:be} {d:Nat} {v:AV} (h:ev σ o=some (d,v)):cW o=some d:=by
 cases o<;>simp only [ev] at h<;>(try cases h)<;>(repeat' (first|(split at h)|contradiction))<;>simp_all [cW]

structure Lw (o:be) (σ:St) (δ:Dl):Prop where
 e: ∀d v,δ.e?=some (d,v)→cW o=some d
 b: ∀d cs,δ.b? d=some cs→fE (eb σ o) d∧eM o=2
 m: ∀p x,δ.m? p=some x→(∃d,p.at d=true∧cW o=some d)∨(∃s,p= .s s∧fR o=some s)∨(∃b off,p= .b b off∧fE (eb σ o) b∧eM o=2)
 f:δ.fits σ

def Gm:be→Bool
 | .gd _ _ d o=>cW o==some d&&Gm o
 |o=>Ml o

theorem gY {o:be} {σ:St} {d:Nat} {v:AV} (h:cW o=some d):Lw o σ (.put d v):=
 ⟨fun _ _ e=>by simp only [Dl.e?,bV,gQ] at e;rw [h,e.1],fun _ _ e=>by simp [Dl.b?] at e,
  fun p x e=>by
   simp only [Dl.m?] at e;split at e
   ·rename_i h0;exact .inl ⟨d,h0,h⟩
   ·exact absurd e (by simp),trivial⟩
theorem p6 {o:be} {σ:St} {d k:Nat} {v:AV} (h:cW o=some d):Lw o σ (.puto d v k):=
 ⟨fun _ _ e=>by simp only [Dl.e?,bV,gQ] at e;rw [h,e.1],fun _ _ e=>by simp [Dl.b?] at e,
  fun p x e=>by
   simp only [Dl.m?] at e;split at e
   ·rename_i h0;exact .inl ⟨d,by rw [h0];simp [Pl.at],h⟩
   ·split at e
    ·rename_i h0;exact .inl ⟨d,h0,h⟩
    ·exact absurd e (by simp),trivial⟩

theorem tZ: ∀ {o:be} {σ:St} {δ:Dl},Gm o=true→fe Sp o (· =δ) σ→Lw o σ δ:=by
 intro o;induction o with
 |gd s b d o ih=>
  intro σ δ hok h;simp only [Gm,aC,bP] at hok;simp only [fe] at h;split at h
  ·rename_i e;have ht:=lR e;obtain ⟨f1,f2,f3,f4⟩:=ih hok.2 h;refine ⟨fun d' v hd=>?_,fun d' cs hd=>?_,fun p x hp=>?_,f4⟩
   ·have:=f1 d' v hd;simp only [cW];rw [if_pos hok.1,←hok.1];exact this
   ·simpa [eb,ht,eM] using f2 d' cs hd
   ·rcases f3 p x hp with ⟨d',ha,h1⟩|⟨s',rfl,h1⟩|⟨b',off,rfl,h1,h2⟩
    ·left;refine ⟨d',ha,?_⟩;simp only [cW];rw [if_pos hok.1,←hok.1];exact h1
    ·right;left;exact ⟨s',rfl,by simpa [fR] using h1⟩
    ·right;right;exact ⟨b',off,rfl,by simpa [eb,ht] using h1,by simpa [eM] using h2⟩
  ·subst h;exact gY (by simp only [cW];rw [if_pos hok.1])
  ·cases h
 |mo d s=>
  intro σ δ _ h;simp only [fe] at h;split at h
  ·subst h;exact ⟨fun _ _ e=>by simp [Dl.e?] at e;simp [cW,e.1],fun _ _ e=>by simp [Dl.b?] at e,fun p x e=>by
    simp only [Dl.m?] at e;split at e
    ·rename_i h0;left;exact ⟨d,by rw [h0];simp [Pl.at],rfl⟩
    ·split at e
     ·left;exact ⟨d,by assumption,rfl⟩
     ·split at e
      ·right;left;exact ⟨s,by assumption,rfl⟩
      ·exact absurd e (by simp),trivial⟩
  ·subst h;exact gY rfl
 |al d z=>
  intro σ δ _ h;simp only [fe] at h;split at h
  ·subst h;exact ⟨fun _ _ e=>by simp [Dl.e?] at e;simp [cW,e.1],fun _ _ e=>by simp [Dl.b?] at e;simp [eb,fE,Bx.tch,eM,e.1],fun p x e=>by
    simp only [Dl.m?] at e;split at e
    ·left;exact ⟨d,by assumption,rfl⟩
    ·exact absurd e (by simp),trivial⟩
  ·cases h
 |alT d T off z=>
  intro σ δ _ h;simp only [fe] at h;split at h
  ·subst h;exact ⟨fun _ _ e=>by simp [Dl.e?] at e;simp [cW,e.1],fun _ _ e=>by simp [Dl.b?] at e;simp [eb,fE,Bx.tch,eM,e.1],fun p x e=>by
    simp only [Dl.m?] at e;split at e
    ·left;exact ⟨d,by assumption,rfl⟩
    ·exact absurd e (by simp),trivial⟩
  ·cases h
 |bx d z=>
  intro σ δ _ h;simp only [fe] at h;split at h
  ·split at h
   ·subst h;exact ⟨fun _ _ e=>by simp [Dl.e?] at e;simp [cW,e.1],fun _ _ e=>by simp [Dl.b?] at e;simp [eb,fE,Bx.tch,eM,e.1],fun p x e=>by
     simp only [Dl.m?] at e;split at e
     ·left;exact ⟨d,by assumption,rfl⟩
     ·exact absurd e (by simp),trivial⟩
   ·cases h
  ·cases h
 |bs d sz ps=>
  intro σ δ _ h;simp only [fe] at h;split at h
  ·subst h;exact p6 rfl
  ·cases h
 |st n x v=>
  intro σ δ _ h;simp only [fe] at h;split at h
  ·rename_i d off hx;split at h
   ·rename_i cs hcs;split at h
    ·obtain ⟨_,_,h⟩:=h;subst h;refine ⟨fun _ _ e=>by simp [Dl.e?] at e,fun _ _ e=>by simp [Dl.b?] at e;simp [eb,fE,Bx.tch,eM,hx,e.1],fun p x e=>?_,by simp [Dl.fits,hcs]⟩;simp only [Dl.m?] at e;split at e
     ·rename_i hr;cases p with
      |s t=>simp [dJ] at hr
      |t t i=>simp [dJ] at hr
      |b b' o'=>
       simp only [dJ,aC,bP] at hr;right;right;exact ⟨b',o',rfl,by simp [eb,fE,Bx.tch,hx,hr.1.1],rfl⟩
     ·cases e
    ·cases h
   ·cases h
  ·cases h
 |lo d x=>
  intro σ δ _ h;simp only [fe] at h;split at h
  ·rename_i b off hx;split at h
   ·split at h
    ·split at h
     ·subst h;exact ⟨fun _ _ e=>by simp [Dl.e?] at e;simp [cW,e.1],fun _ _ e=>by simp [Dl.b?] at e,fun p x e=>by
       simp only [Dl.m?] at e;split at e
       ·rename_i h0;left;exact ⟨d,by rw [h0];simp [Pl.at],rfl⟩
       ·split at e
        ·left;exact ⟨d,by assumption,rfl⟩
        ·split at e
         ·right;right;exact ⟨b,off,by assumption,by simp [eb,fE,Bx.tch,hx],rfl⟩
         ·exact absurd e (by simp),trivial⟩
     ·subst h;exact gY rfl
    ·cases h
   ·cases h
  ·split at h
   ·subst h;exact gY rfl
   ·cases h
  ·cases h
 |so x s=>
  intro σ δ _ h;simp only [fe] at h;split at h
  ·rename_i d off hx;split at h
   ·rename_i cs hcs;split at h
    ·rename_i k hk;obtain ⟨_,h⟩:=h;subst h;exact ⟨fun _ _ e=>by simp [Dl.e?] at e,fun _ _ e=>by simp [Dl.b?] at e;simp [eb,fE,Bx.tch,eM,hx,e.1],fun p x e=>by
      simp only [Dl.m?] at e;split at e
      ·right;right;exact ⟨d,off,by assumption,by simp [eb,fE,Bx.tch,hx],rfl⟩
      ·split at e
       ·right;left;exact ⟨_,by assumption,rfl⟩
       ·exact absurd e (by simp),by simp [Dl.fits,hcs]⟩
    ·split at h
     ·obtain ⟨_,_,h⟩:=h;subst h;refine ⟨fun _ _ e=>by simp [Dl.e?] at e,fun _ _ e=>by simp [Dl.b?] at e;simp [eb,fE,Bx.tch,eM,hx,e.1],fun p x e=>?_,by simp [Dl.fits,hcs]⟩;simp only [Dl.m?] at e;split at e
      ·rename_i hr;cases p with
       |s t=>simp [dJ] at hr
       |t t i=>simp [dJ] at hr
       |b b' o'=>
        simp only [dJ,aC,bP] at hr;right;right;exact ⟨b',o',rfl,by simp [eb,fE,Bx.tch,hx,hr.1.1],rfl⟩
      ·cases e
     ·cases h
   ·cases h
  ·cases h
 |ap d sz by_ s y=>
  intro σ δ _ h;simp only [fe] at h;split at h
  ·split at h
   ·rename_i rows t hrows;obtain ⟨_,_,_,_,h⟩:=h;subst h;exact ⟨fun _ _ e=>by simp [Dl.e?] at e;simp [cW,e.1],fun _ _ e=>by simp [Dl.b?] at e,fun p x e=>by
     simp only [Dl.m?] at e;split at e
     ·rename_i h0;left;exact ⟨d,by rw [h0];simp [Pl.at],rfl⟩
     ·split at e
      ·left;exact ⟨d,by assumption,rfl⟩
      ·split at e
       ·right;left;exact ⟨_,by assumption,rfl⟩
       ·exact absurd e (by simp),trivial⟩
   ·obtain ⟨_,_,h⟩:=h;subst h;exact p6 rfl
   ·cases h
  ·cases h
 |ca d f s ps=>
  intro σ δ _ h;obtain ⟨k,out,_,h⟩:=h;have hp: ∀v,Lw (.ca d f s ps) σ (.puto d v k):=fun v=>p6 rfl
  cases s with
  |none=>subst h;exact hp _
  |some x=>
   cases x with
   |c v=>subst h;exact hp _
   |s t=>
    subst h;exact ⟨fun _ _ e=>by simp [Lv,Dl.e?] at e;simp [cW,e.1],fun _ _ e=>by simp [Lv,Dl.b?] at e,fun p x e=>by
     simp only [Lv,Dl.m?] at e;split at e
     ·rename_i h0;left;exact ⟨d,by rw [h0];simp [Pl.at],rfl⟩
     ·split at e
      ·left;exact ⟨d,by assumption,rfl⟩
      ·split at e
       ·right;left;exact ⟨_,by assumption,rfl⟩
       ·exact absurd e (by simp),trivial⟩
 |mk d sz by_ z l c=>intro _ _ _ h;exact (show False from h).elim
 |sls d x l hh=>
  intro σ δ _ h;simp only [fe] at h;split at h
  ·split at h
   ·obtain ⟨_,_,_,h⟩:=h;subst h;exact gY rfl
   ·cases h
  ·cases h
 |slc d sz x l hh=>
  intro σ δ _ h;simp only [fe] at h;split at h
  ·split at h
   ·obtain ⟨_,_,_,_,h⟩:=h;subst h;exact gY rfl
   ·cases h
  ·cases h
 |cl d f ps=>
  intro σ δ _ h;simp only [fe] at h;split at h
  ·obtain ⟨r,_,h⟩:=h;subst h;exact gY rfl
  ·cases h
 |cr d f ps=>intro _ _ _ h;exact (show False from h).elim
 |cq d f ps fr=>
  intro σ δ _ h;obtain ⟨I,O,c1,c2,⟨c3,c5⟩,h⟩:=h;subst h;have hI: ∀e,(ar I.bx e).isSome→Dn fr e=false:=fun e he=>by
   obtain ⟨cs,hcs⟩:=kA he;obtain ⟨cs',hcs'⟩:=kA (c2.kept _ hcs);exact c3.fo _ hcs'
  refine ⟨fun _ _ e=>by simp [Dl.e?] at e;simp [cW,e.1],fun i cs e=>?_,fun p x e=>?_,⟨c2.kept,c3.ip,fun p hp=>Pl.isF_isB (c3.op p hp)⟩⟩
  ·simp only [Dl.b?] at e;exact ⟨c3.fo _ (bY _ _ _ e),rfl⟩
  ·simp only [Dl.m?] at e;split at e
   ·left;exact ⟨d,by assumption,rfl⟩
   ·split at e
    ·rename_i k hk;have hb:=c3.op _ (dH _ _ _ hk);cases p with
     |s t=>cases hb
     |t t i=>cases hb
     |b e' off=>
      right;right;exact ⟨e',off,rfl,by simpa [Pl.isF,fE,eb,Bx.tch] using hb,rfl⟩
    ·cases p with
     |s t=>cases e
     |t t i=>cases e
     |b e' off=>
      simp only at e;split at e
      ·rename_i he;right;right;exact ⟨e',off,rfl,hI _ he,rfl⟩
      ·cases e
 |ce|cd|apm|mkm|bsn|bsm|rs|nx|s2b|aps|ex|sla|b2s|i2s|inl|mkp|mpl|mpe|mes|mup|bxT|clr|trm=>intro σ δ _ h;exact (h:False).elim
 |_=>
  intro σ δ _ h;simp only [fe] at h;split at h
  ·rename_i he;subst h;exact gY (JA he)
  ·cases h

theorem GR: ∀ {o:be} {σ:St},∀p∈tY σ o,(∃s,p= .s s∧fR o=some s)∨(∃b off,p= .b b off∧fE (eb σ o) b∧eM o=2):=by
 intro o;induction o with
 |gd s b d o ih=>
  intro σ p hp;simp only [tY] at hp;split at hp
  ·rename_i t ht;split at hp
   ·rename_i e;rcases ih p hp with ⟨s',rfl,h⟩|⟨b',off,rfl,h1,h2⟩
    ·left;exact ⟨s',rfl,by simpa [fR] using h⟩
    ·right;exact ⟨b',off,rfl,by simpa [eb,ht,e] using h1,by simpa [eM] using h2⟩
   ·simp at hp
  ·simp at hp
 |mo d s=>intro σ p hp;simp [tY] at hp;left;exact ⟨s,hp,rfl⟩
 |so x s=>intro σ p hp;simp [tY] at hp;left;exact ⟨s,hp,rfl⟩
 |ap d sz by_ s y=>
  intro σ p hp;cases s with
  |s t=>simp [tY] at hp;left;exact ⟨t,hp,rfl⟩
  |c v=>simp [tY] at hp
 |ca d f s ps=>
  intro σ p hp;cases s with
  |none=>simp [tY] at hp
  |some x=>
   cases x with
   |s t=>simp [tY] at hp;left;exact ⟨t,hp,rfl⟩
   |c v=>simp [tY] at hp
 |lo d x=>
  intro σ p hp;simp only [tY] at hp;split at hp
  ·rename_i b off hx;simp at hp;right;exact ⟨b,off,hp,by simp [eb,fE,Bx.tch,hx],rfl⟩
  ·simp at hp
 |_=>intro σ p hp;simp [tY] at hp
theorem l9: ∀ {o:be} {s:Nat},fR o=some s→s∈cM o:=by
 intro o;induction o with
 |gd s b d o ih=>intro s' h;simp only [fR] at h;simp [cM,ih h]
 |mo d s=>intro s' h;simp [fR] at h;simp [cM,h]
 |so x s=>intro s' h;simp [fR] at h;simp [cM,h]
 |ap d sz by_ s y=>
  intro s' h;cases s with
  |s t=>simp [fR] at h;simp [cM,xs,h]
  |c v=>simp [fR] at h
 |ca d f s ps=>
  intro s' h;cases s with
  |none=>simp [fR] at h
  |some x=>
   cases x with
   |s t=>simp [fR] at h;simp [cM,xs,h]
   |c v=>simp [fR] at h
 |_=>intro s' h;simp [fR] at h
theorem AD: ∀ {o:be} {σ:St} {b:Bx},eb σ o=some b→eM o≠0:=by
 intro o;induction o with
 |gd s b d o ih=>
  intro σ b' h;simp only [eb] at h;split at h
  ·split at h
   ·simpa [eM] using ih h
   ·cases h
  ·cases h
 |_=>intro σ b h;first|(simp [eM];done)|simp [eb] at h

def fh (δs:Nat→Dl) (l:List Nat) (v:LS):LS:=l.foldl (fun v j=>(δs j).app v) v
theorem iK (δs:Nat→Dl) (l:List Nat) (j:Nat) (v:LS):fh δs (l++[j]) v=(δs j).app (fh δs l v):=by simp [fh]

def tE (t:Nat) (δ:Dl):Bool:=match δ.e? with |some (d,_)=>d==t|none=>false
def tB (b:Id) (δ:Dl):Bool:=(δ.b? b).isSome
def tM (p:Pl) (δ:Dl):Bool:=(δ.m? p).isSome

theorem t6 (δs:Nat→Dl) (t:Nat): ∀(l:List Nat) (u v:LS),u.E t=v.E t→(fh δs l u).E t=(fh δs (l.filter fun j=>tE t (δs j)) v).E t:=by
 intro l;induction l with
 |nil=>intro u v h;exact h
 |cons j r ih=>
  intro u v h;simp only [fh,List.foldl_cons,List.filter_cons] at ih ⊢;by_cases ht:tE t (δs j)=true
  ·rw [if_pos ht,List.foldl_cons];refine ih _ _ ?_;simp only [Dl.app];simp only [tE] at ht;split at ht
   ·rename_i d x he;simp only [bP] at ht;simp [ht]
   ·cases ht
  ·rw [if_neg ht];refine ih _ _ ?_;rw [←h];simp only [Dl.app];split
   ·rename_i d x he;rw [if_neg];intro e;exact ht (by simp [tE,he,e])
   ·rfl
theorem ny (δs:Nat→Dl) (t:Id): ∀(l:List Nat) (u v:LS),u.B t=v.B t→(fh δs l u).B t=(fh δs (l.filter fun j=>tB t (δs j)) v).B t:=by
 intro l;induction l with
 |nil=>intro u v h;exact h
 |cons j r ih=>
  intro u v h;simp only [fh,List.foldl_cons,List.filter_cons] at ih ⊢;by_cases ht:tB t (δs j)=true
  ·rw [if_pos ht,List.foldl_cons];refine ih _ _ ?_;simp only [Dl.app];simp only [tB] at ht;obtain ⟨x,hx⟩:=gU.1 ht;rw [hx]
  ·rw [if_neg ht];refine ih _ _ ?_;rw [←h];simp only [Dl.app];split
   ·rename_i x he;exact absurd (by simp [tB,he]) ht
   ·rfl
theorem nA (δs:Nat→Dl) (t:Pl): ∀(l:List Nat) (u v:LS),u.M t=v.M t→(fh δs l u).M t=(fh δs (l.filter fun j=>tM t (δs j)) v).M t:=by
 intro l;induction l with
 |nil=>intro u v h;exact h
 |cons j r ih=>
  intro u v h;simp only [fh,List.foldl_cons,List.filter_cons] at ih ⊢;by_cases ht:tM t (δs j)=true
  ·rw [if_pos ht,List.foldl_cons];refine ih _ _ ?_;simp only [Dl.app];simp only [tM] at ht;obtain ⟨x,hx⟩:=gU.1 ht;rw [hx]
  ·rw [if_neg ht];refine ih _ _ ?_;rw [←h];simp only [Dl.app];split
   ·rename_i x he;exact absurd (by simp [tM,he]) ht
   ·rfl

theorem ma {n i:Nat} {p q:Nat→Bool} (hi:i≤n) (h: ∀j,j<n→p j=(decide (j<i)&&q j)):(List.range n).filter p=(List.range i).filter q:=by
  induction n with
  | zero => have : i = 0 := by omega
            subst this;rfl
  |succ n ih=>
    by_cases hin:i=n+1
    · subst hin
      apply List.filter_congr
      intro j hj
      have:=List.mem_range.1 hj
      rw [h j this];simp [this]
    · rw [List.range_succ,List.filter_append,ih (by omega) (fun j hj=>h j (by omega))]
      have:=h n (by omega)
      rw [show decide (n<i)=false by simp;omega] at this
      simp [this]
end Go.Ai
namespace Go.Ai
open Go.RowKit

def kQ (o:Oper):List Nat:=(o.after.toList.filter fun e=>Region.binds .any e).map (·.on)
def GS:List Oper→List Nat→List Nat
 |[],acc=>acc
 |o::r,acc=>GS r (acc++[(kQ o).foldl (fun s m=>s|||2^m|||acc.getD m 0) 0])
def D0 (ops:List Oper) (A:List Nat):Bool:=
 (List.range ops.length).all fun j=>match ops[j]? with
  |some o=>(kQ o).all (fun m=>Nat.blt m j)&&(List.range j).all fun k=>!(A.getD j 0).testBit k||(kQ o).contains k||(kQ o).any fun m=>Nat.blt k m&&(A.getD m 0).testBit k
  |none=>false
def lj (us:List (List Nat)) (l:List be) (A:List Nat) (i j:Nat):Bool:=
 (A.getD j 0).testBit i||
 (let x:=l.getD i .no;let y:=l.getD j .no
  ((cW x).isNone||cW x !=cW y)&&(match cW x with |some d=>!(cM y).contains d|none=>true)&&(match cW y with |some d=>!(cM x).contains d|none=>true)&&
  ((fR x).isNone||fR x !=fR y)&&(eM x==0||eM y==0||(eM x==1&&eM y==1)||(us.getD j []).contains i))
def cf (l:List be):Nat:=if l.all Gm then l.length else l.length - 1
def GT (ops:Array Oper) (us:List (List Nat)) (l:List be):Bool:=
 let A:=GS ops.toList []
 let m:=cf l
 D0 ops.toList A&&ops.size==l.length&&us.length==l.length&&(l.take m).all Gm&&((List.range m).all fun j=>(List.range j).all fun i=>lj us l A i j)&&
  (m==l.length||(List.range m).all fun k=>(A.getD m 0).testBit k)

variable {Sp:Nat→Nat→In→bW→Prop}
theorem GU: ∀ {o:be},Gm o=true→Ml o=true:=by
 intro o;induction o with
 |gd s b d o ih=>intro h;simp only [Gm,aC] at h;exact ih h.2
 |_=>intro h;exact h

theorem vW: ∀ {h:List (Nat×Bx)} {u:List Nat} {b:Bx},DF h u b→ ∀p∈h,p.1∈u→Iz p.2 b
 |[],_,_,_,p,hp,_=>by simp at hp
 |(i,b')::h,u,b,ho,p,hp,hu=>by
  simp only [DF] at ho;cases hp with
  |head=>exact ho.1 hu
  |tail _ hp=>exact vW ho.2 p hp hu

theorem IC: ∀ {l:List be} {us:List (List Nat)} {j0:Nat} {h:List (Nat×Bx)} {K:St→Prop} {σ:St} {ut:List (List Nat)} {lt:List be},us.length=l.length→l.all Gm=true→jM Sp (us++ut) (l++lt) j0 h K σ→
  ∃(δs:Nat→Dl) (σs:Nat→St),σs 0=σ∧(∀(k:Nat) (o:be),l[k]?=some o→fe Sp o (· =δs k) (σs k)∧bS (σs (k+1))=(δs k).app (bS (σs k)))∧(∃j' h',jM Sp ut lt j' h' K (σs l.length))∧
   (∀(k:Nat) (o:be) (u:List Nat) (b:Bx),l[k]?=some o→us[k]?=some u→eb (σs k) o=some b→(∀p∈h,p.1∈u→Iz p.2 b)∧(∀i o',i<k→l[i]?=some o'→i+j0∈u→ ∀b',eb (σs i) o'=some b'→Iz b' b))∧
   (∀(k:Nat) (o:be) (u:List Nat),l[k]?=some o→us[k]?=some u→(∀p∈h,p.1∈u→p.2.kept (σs (k+1)))∧(∀i o',i<k→l[i]?=some o'→i+j0∈u→ ∀b',eb (σs i) o'=some b'→b'.kept (σs (k+1))))
 |[],us,j0,h,K,σ,ut,lt,hlen,hok,hw=>by
  cases us with
  |nil=>exact ⟨fun _=> .put 0 .undef,fun _=>σ,rfl,by simp,⟨j0,h,hw⟩,by simp,by simp⟩
  |cons=>simp at hlen
 |o::r,us,j0,h,K,σ,ut,lt,hlen,hok,hw=>by
  cases us with
  |nil=>simp at hlen
  |cons u us=>
   simp only [List.all_cons,aC] at hok;obtain ⟨hoff,hw⟩:=hw;obtain ⟨δ,hd,hk⟩:=GP (GN (GU hok.1) hw);obtain ⟨hkp,hk⟩:=eL.1 hk;have hfit:=tZ hok.1 hd;obtain ⟨δs,σs,t0,t1,t2,t3,t4⟩:=IC (by simpa using hlen) hok.2 hk;refine ⟨fun|0=>δ|k+1=>δs k,fun|0=>σ|k+1=>σs k,rfl,?_,t2,?_,?_⟩
   ·intro k o' ho;cases k with
    |zero=>
     simp at ho;subst ho;refine ⟨hd,?_⟩;simp only [t0];exact AB hfit.f
    |succ k=>simp at ho;exact t1 k o' ho
   ·intro k o' u' b ho hu hb;cases k with
    |zero=>
     simp at ho hu;subst ho;subst hu;refine ⟨?_,by intro i o' hi;omega⟩;simp only at hb;rw [hb] at hoff;simp only [GE] at hoff;exact vW hoff
    |succ k=>
     simp at ho hu;obtain ⟨s1,s2⟩:=t3 k o' u' b ho hu hb;refine ⟨fun p hp hpu=>s1 p ?_ hpu,fun i o2 hi ho2 hiu=>?_⟩
     ·cases hbb:eb σ o with
      |none=>exact hp
      |some b'=>simp only [yI];exact List.mem_cons_of_mem _ hp
     ·cases i with
      |zero=>
       simp at ho2;subst ho2;intro b' hbi;simp only at hbi;rw [hbi] at s1;exact s1 (j0,b') (by simp [yI]) (by simpa using hiu)
      |succ i=>
       simp at ho2;exact s2 i o2 (by omega) ho2 (by rw [show i+(j0+1)=i+1+j0 by omega];exact hiu)
   ·intro k o' u' ho hu;cases k with
    |zero=>
     simp at ho hu;subst ho;subst hu;refine ⟨?_,by intro i o' hi;omega⟩;simp only [t0];exact hkp
    |succ k=>
     simp at ho hu;obtain ⟨s1,s2⟩:=t4 k o' u' ho hu;refine ⟨fun p hp hpu=>s1 p ?_ hpu,fun i o2 hi ho2 hiu=>?_⟩
     ·cases hbb:eb σ o with
      |none=>exact hp
      |some b'=>simp only [yI];exact List.mem_cons_of_mem _ hp
     ·cases i with
      |zero=>
       simp at ho2;subst ho2;intro b' hbi;simp only at hbi;rw [hbi] at s1;exact s1 (j0,b') (by simp [yI]) (by simpa using hiu)
      |succ i=>
       simp at ho2;exact s2 i o2 (by omega) ho2 (by rw [show i+(j0+1)=i+1+j0 by omega];exact hiu)
theorem sL {x y:List (Id×List AV)} {b:Id} {off:Nat} (h:ar x b=ar y b):dU x (.ptr b off)=dU y (.ptr b off):=by
 simp only [dU,h]
theorem GV: ∀ {o:be} {σ:St} {b:Id} {off:Nat} {v:AV},eb σ o=some (.cel b off v)→dU σ.bx (.ptr b off)=some v∧eM o=1:=by
 intro o;induction o with
 |gd s b d o ih=>
  intro σ b' off v h;simp only [eb] at h;split at h
  ·split at h
   ·simpa [eM] using ih h
   ·cases h
  ·cases h
 |ldf d x=>
  intro σ b off v h;simp only [eb] at h;split at h
  ·split at h
   ·rename_i hl;cases h;exact ⟨hl,rfl⟩
   ·cases h
  ·cases h
 |_=>
  intro σ b off v h;simp only [eb] at h;repeat' (first|(split at h)|contradiction)
  all_goals cases h

theorem BY {n i:Nat} {listed:Array Bool} (hs:n≤listed.size) (hi:i<n) (hf:listed.getD i false=false):
  ((List.range n).filter fun j=>(listed.setIfInBounds i true).getD j false).length=((List.range n).filter fun j=>listed.getD j false).length+1:=by
 have key: ∀m,m≤n→((List.range m).filter fun j=>(listed.setIfInBounds i true).getD j false).length=((List.range m).filter fun j=>listed.getD j false).length+if i<m then 1 else 0:=by
  intro m;induction m with
  |zero=>intro _;simp
  |succ m ih=>
   intro hm;rw [List.range_succ,List.filter_append,List.filter_append,cG,cG,ih (by omega)];by_cases him:i=m
   ·subst him;have e1:(listed.setIfInBounds i true).getD i false=true:=by simp [lc,show i<listed.size by omega]
    have e2:([i].filter fun j=>(listed.setIfInBounds i true).getD j false)=[i]:=by simp only [List.filter_cons,e1,if_true,List.filter_nil]
    have e3:([i].filter fun j=>listed.getD j false)=[]:=by simp only [List.filter_cons,hf,List.filter_nil];rfl
    rw [e2,e3,if_neg (Nat.lt_irrefl _),if_pos (Mj _)];rfl
   ·have e1:(listed.setIfInBounds i true).getD m false=listed.getD m false:=by
     simp [lc,Array.getElem?_setIfInBounds_ne him]
    have e2:([m].filter fun j=>(listed.setIfInBounds i true).getD j false)=[m].filter fun j=>listed.getD j false:=by simp only [List.filter_cons,e1,List.filter_nil]
    rw [e2];by_cases h1:i<m
    ·rw [if_pos h1,if_pos (by omega)];omega
    ·rw [if_neg h1,if_neg (by omega)];omega
 have:=key n (eV _)
 rw [if_pos hi] at this;exact this

variable {P:Program} {GL:List (Nat×List Value)} {N:Nat}

theorem B3 {F:Fr} {ops:Array Oper} {us:List (List Nat)} {l:List be} {ut:List (List Nat)} {lt:List be} {A:List Nat}
  (hn:l.length≤ops.size) (hanc:D0 ops.toList A=true) (hus:us.length=l.length) (hokG:l.all Gm=true)
  (hpair:((List.range l.length).all fun j=>(List.range j).all fun i=>lj us l A i j)=true)
  (hop: ∀(i:Nat) (o:Oper),ops[i]?=some o→i<l.length→ ∃ao,l[i]?=some ao∧mt P F.GL F.N ops o ao=true)
  (htail: ∀i,l.length≤i→i<ops.size→ ∀k,k<l.length→(A.getD i 0).testBit k=true)
  {K:St→Prop} {Q:Exit→Act→World→Prop}
  (hfin: ∀(listed:Array Bool) (a:Act) (w:World),listed.size=ops.size→(∀j,j<l.length→listed.getD j false=true)→(∀j,l.length≤j→listed.getD j false=false)→
    ∀(S:aI) (gb:Gb) (τ:St) (j':Nat) (h':List (Nat×Bx)),aE F S gb τ a w→jM (aX P F.GL) ut lt j' h' K τ→wpAny P .any ops Q (ops.size - l.length) listed a w)
  {S:aI} {gb:Gb} {σ:St} {a:Act} {w:World} (hrel:aE F S gb σ a w) (hw:jM (aX P F.GL) (us++ut) (l++lt) 0 [] K σ):wpAny P .any ops Q ops.size (Array.replicate ops.size false) a {w with drawn:=w.drawn+1}:=by
 obtain ⟨δs,σs,t0,t1,⟨j',h',t2⟩,t3,t4⟩:=IC hus hokG hw;have hdir: ∀(j:Nat) (o:Oper),ops[j]?=some o→(∀m∈kQ o,m<j)∧ ∀k,k<j→(A.getD j 0).testBit k=true→k∈kQ o∨ ∃m∈kQ o,k<m∧(A.getD m 0).testBit k=true:=by
  intro j o ho;have hj:j<ops.size:=(pH.1 ho).1
  have:=fC.1 hanc j (List.mem_range.2 (by simpa using hj))
  simp only [Array.getElem?_toList,ho,aC,fC,BI,xQ,List.contains_eq_mem,rD,List.any_eq_true,List.mem_range] at this;refine ⟨fun m hm=>by have:=this.1 m hm;simpa using this,fun k hk hb=>?_⟩;rcases this.2 k hk with (h|h)|⟨m,h1,h2,h3⟩
  · rw [h] at hb;cases hb
  · exact .inl h
  · exact .inr ⟨m,h1,by simpa using h2,h3⟩
 let cl (listed:Array Bool):Prop:= ∀(j:Nat) (o:Oper),ops[j]?=some o→listed.getD j false=true→ ∀m∈kQ o,listed.getD m false=true
 have hclos: ∀listed,cl listed→ ∀(j:Nat) (o:Oper),ops[j]?=some o→(∀m∈kQ o,listed.getD m false=true)→ ∀k,k<j→(A.getD j 0).testBit k=true→listed.getD k false=true:=by
  intro listed hcl j;induction j using Nat.strongRecOn with
  |_ j ih=>
    intro o ho hd k hk hb;obtain ⟨d1,d2⟩:=hdir j o ho;rcases d2 k hk hb with h|⟨m,hm,hkm,hbm⟩
    ·exact hd k h
    ·have hmj:=d1 m hm;have hms:m<ops.size:=by have:=(pH.1 ho).1;omega
     obtain ⟨om,hom⟩: ∃om,ops[m]?=some om:=⟨ops[m],by simp [hms]⟩;exact ih m hmj om hom (hcl m om hom (hd m hm)) k hkm hbm
 have hview: ∀k,k≤l.length→bS (σs k)=fh δs (List.range k) (bS σ):=by
  intro k;induction k with
  |zero=>intro _;rw [t0];rfl
  |succ k ih=>
    intro hk;obtain ⟨o,ho⟩: ∃o,l[k]?=some o:=⟨l[k],by simp⟩;rw [List.range_succ,iK,(t1 k o ho).2,ih (by omega)]
 have hord: ∀(i j:Nat) (ao bo:be),i<j→l[i]?=some ao→l[j]?=some bo→(A.getD j 0).testBit i=false→
    (∀d,cW ao=some d→cW bo≠some d)∧(∀d,cW ao=some d→d∉cM bo)∧(∀d,cW bo=some d→d∉cM ao)∧(∀s,fR ao=some s→fR bo≠some s)∧
    (∀b,fE (eb (σs i) ao) b→fE (eb (σs j) bo) b→eM ao=1∧eM bo=1):=by
  intro i j ao bo hij hi hj hb;have hjl:j<l.length:=(oU.1 hj).1;have hp:=fC.1 (fC.1 hpair j (List.mem_range.2 hjl)) i (List.mem_range.2 hij);have ei:l.getD i .no=ao:=by simp [Ar,hi]
  have ej:l.getD j .no=bo:=by simp [Ar,hj]
  simp only [lj,hb,Bool.false_or,ei,ej,aC] at hp;obtain ⟨⟨⟨⟨h1,h2⟩,h3⟩,h4⟩,h5⟩:=hp;refine ⟨fun d hd=>?_,fun d hd=>?_,fun d hd=>?_,fun s hs=>?_,fun b hb1 hb2=>?_⟩
  · rw [hd] at h1;simp at h1;exact fun e=>h1 e.symm
  · rw [hd] at h2;simpa using h2
  · rw [hd] at h3;simpa using h3
  · rw [hs] at h4;simp at h4;exact fun e=>h4 e.symm
  · obtain ⟨x1,y1⟩: ∃x,eb (σs i) ao=some x:=by
     cases h:eb (σs i) ao with
     |none=>rw [h] at hb1;cases hb1
     |some x=>exact ⟨x,rfl⟩
    obtain ⟨x2,y2⟩: ∃x,eb (σs j) bo=some x:=by
     cases h:eb (σs j) bo with
     |none=>rw [h] at hb2;cases hb2
     |some x=>exact ⟨x,rfl⟩
    rw [y1] at hb1;rw [y2] at hb2;have z1:=AD y1;have z2:=AD y2;simp only [BI,bP,z1,z2,false_or,aC] at h5;rcases h5 with h5|h5
    ·exact h5
    ·exfalso;have hul:j<us.length:=by omega
     obtain ⟨u,hu⟩: ∃u,us[j]?=some u:=⟨us[j],by simp [hul]⟩;have hiu:i∈u:=by simpa [Ar,hu] using h5
     exact Js ((t3 j bo u x2 hj hu y2).2 i ao hij hi (by simpa using hiu) x1 y1) hb1 hb2
 have hconf: ∀(i j:Nat) (ao bo:be),i≠j→l[i]?=some ao→l[j]?=some bo→
    ((∃t,cW bo=some t∧(t∈cM ao∨cW ao=some t))∨(∃s,fR bo=some s∧(cW ao=some s∨fR ao=some s))∨(∃b,fE (eb (σs j) bo) b∧eM bo=2∧fE (eb (σs i) ao) b))→
    (i<j→(A.getD j 0).testBit i=true)∧(j<i→(A.getD i 0).testBit j=true):=by
  intro i j ao bo hne hi hj hc;constructor
  · intro hij;cases hb:(A.getD j 0).testBit i with
    |true=>rfl
    |false=>
     exfalso;obtain ⟨g1,g2,g3,g4,g5⟩:=hord i j ao bo hij hi hj hb;rcases hc with ⟨t,h1,h2⟩|⟨s,h1,h2⟩|⟨b,h1,h2,h3⟩
     ·rcases h2 with h2|h2
      ·exact g3 t h1 h2
      ·exact g1 t h2 h1
     ·rcases h2 with h2|h2
      ·exact g2 s h2 (l9 h1)
      ·exact g4 s h2 h1
     ·have:=g5 b h3 h1;omega
  · intro hji;cases hb:(A.getD i 0).testBit j with
    |true=>rfl
    |false=>
     exfalso;obtain ⟨g1,g2,g3,g4,g5⟩:=hord j i bo ao hji hj hi hb;rcases hc with ⟨t,h1,h2⟩|⟨s,h1,h2⟩|⟨b,h1,h2,h3⟩
     ·rcases h2 with h2|h2
      ·exact g2 t h1 h2
      ·exact g1 t h1 h2
     ·rcases h2 with h2|h2
      ·exact g3 s h2 (l9 h1)
      ·exact g4 s h1 h2
     ·have:=g5 b h1 h3;omega
 have hfit: ∀(k:Nat) (o:be),l[k]?=some o→Lw o (σs k) (δs k):=fun k o ho=>tZ (fC.1 hokG o (List.mem_of_getElem? ho)) (t1 k o ho).1
 let D (listed:Array Bool):List Nat:=(List.range l.length).filter fun j=>listed.getD j false
 have hstep: ∀(listed:Array Bool) (i:Nat) (ao:be) (o:Oper) (τ:St),listed.size=ops.size→cl listed→ops[i]?=some o→l[i]?=some ao→listed.getD i false=false→(∀m∈kQ o,listed.getD m false=true)→
    bS τ=fh δs (D listed) (bS σ)→Mm ao (σs i) τ∧(δs i).app (bS τ)=fh δs (D (listed.setIfInBounds i true)) (bS σ):=by
  intro listed i ao o τ hls hcl ho hi hf hd hτ;have hil:i<l.length:=(oU.1 hi).1;have hpast: ∀(j:Nat) (bo:be),l[j]?=some bo→i≠j→((∃t,cW bo=some t∧(t∈cM ao∨cW ao=some t))∨(∃s,fR bo=some s∧(cW ao=some s∨fR ao=some s))∨(∃b,fE (eb (σs j) bo) b∧eM bo=2∧fE (eb (σs i) ao) b))→(listed.getD j false=true↔j<i):=by
    intro j bo hj hne hc;obtain ⟨c1,c2⟩:=hconf i j ao bo hne hi hj hc;constructor
    ·intro hl;rcases Nat.lt_or_ge j i with h|h
     ·exact h
     ·exfalso;have hij:i<j:=by omega
      have hjs:j<ops.size:=by have:=(oU.1 hj).1;omega
      have:=hclos listed hcl j ops[j] (by simp [hjs]) (hcl j ops[j] (by simp [hjs]) hl) i hij (c1 hij)
      rw [hf] at this;cases this
    ·intro hji;exact hclos listed hcl i o ho hd j hji (c2 hji)
  have same: ∀(q:Nat→Bool),(∀(j:Nat) (bo:be),j<l.length→l[j]?=some bo→q j=true→j≠i→(listed.getD j false=true↔j<i))→
     ((D listed).filter q)=((List.range i).filter q):=by
    intro q hq;simp only [D,List.filter_filter];refine ma (Nat.le_of_lt hil) (fun j hj=>?_);obtain ⟨bo,hbo⟩: ∃bo,l[j]?=some bo:=⟨l[j],by simp [hj]⟩;cases hqj:q j with
    |false=>simp
    |true=>
     by_cases hji:j=i
     ·subst hji;simp [hf]
     ·have:=hq j bo hj hbo hqj hji
      simp only [kL,Bool.and_true];by_cases h1:j<i
      ·rw [this.2 h1];simp [h1]
      ·have h2:listed.getD j false=false:=by
        cases h3:listed.getD j false with
        |false=>rfl
        |true=>exact absurd (this.1 h3) h1
       rw [h2];simp;omega
  have hvi:=hview i (Nat.le_of_lt hil);have tEc: ∀(t j:Nat) (bo:be),l[j]?=some bo→tE t (δs j)=true→cW bo=some t:=by
    intro t j bo hj ht;simp only [tE] at ht;split at ht
    ·rename_i d x he;simp only [bP] at ht;subst ht;exact (hfit j bo hj).e _ _ he
    ·cases ht
  have tBc: ∀(b:Id) (j:Nat) (bo:be),l[j]?=some bo→tB b (δs j)=true→fE (eb (σs j) bo) b∧eM bo=2:=by
    intro b j bo hj ht;simp only [tB] at ht;obtain ⟨x,hx⟩:=gU.1 ht;exact (hfit j bo hj).b _ _ hx
  have tMc: ∀(p:Pl) (j:Nat) (bo:be),l[j]?=some bo→tM p (δs j)=true→(∃d,p.at d=true∧cW bo=some d)∨(∃s,p= .s s∧fR bo=some s)∨(∃b off,p= .b b off∧fE (eb (σs j) bo) b∧eM bo=2):=by
    intro p j bo hj ht;obtain ⟨x,hx⟩:=gU.1 ht;exact (hfit j bo hj).m p x hx
  refine ⟨⟨fun t ht=>?_,fun b hb=>?_,fun p hp=>?_,fun b off hb h2=>?_,fun x hx=>?_⟩,?_⟩
  · have e1:lk (σs i).e t=(fh δs (List.range i) (bS σ)).E t:=by rw [←hvi];rfl
    have e2:lk τ.e t=(fh δs (D listed) (bS σ)).E t:=by rw [←hτ];rfl
    rw [e1,e2,t6 δs t _ _ (bS σ) rfl,t6 δs t (D listed) _ (bS σ) rfl,same _ (fun j bo _ hj hq hne=>hpast j bo hj (Ne.symm hne) (.inl ⟨t,tEc t j bo hj hq,.inl ht⟩))]
  · have e1:ar (σs i).bx b=(fh δs (List.range i) (bS σ)).B b:=by rw [←hvi];rfl
    have e2:ar τ.bx b=(fh δs (D listed) (bS σ)).B b:=by rw [←hτ];rfl
    rw [e1,e2,ny δs b _ _ (bS σ) rfl,ny δs b (D listed) _ (bS σ) rfl,same _ (fun j bo _ hj hq hne=>by
     obtain ⟨q1,q2⟩:=tBc b j bo hj hq;exact hpast j bo hj (Ne.symm hne) (.inr (.inr ⟨b,q1,q2,hb⟩)))]
  · have e1:aA (σs i).pm p=(fh δs (List.range i) (bS σ)).M p:=by rw [←hvi];rfl
    have e2:aA τ.pm p=(fh δs (D listed) (bS σ)).M p:=by rw [←hτ];rfl
    rw [e1,e2,nA δs p _ _ (bS σ) rfl,nA δs p (D listed) _ (bS σ) rfl,same _ (fun j bo _ hj hq hne=>by
     refine hpast j bo hj (Ne.symm hne) ?_;rcases GR p hp with ⟨s,rfl,hs⟩|⟨b,off,rfl,hb1,hb2⟩
     ·rcases tMc _ j bo hj hq with ⟨d,e,hd'⟩|⟨s',e,hs'⟩|⟨_,_,e,_⟩
      ·simp [Pl.at] at e;subst e;exact .inl ⟨_,hd',.inl (l9 hs)⟩
      ·cases e;exact .inr (.inl ⟨s,hs',.inr hs⟩)
      ·cases e
     ·rcases tMc _ j bo hj hq with ⟨d,e,hd'⟩|⟨s',e,hs'⟩|⟨b',off',e,h1,h2⟩
      ·simp [Pl.at] at e
      ·cases e
      ·cases e;exact .inr (.inr ⟨b,h1,h2,hb1⟩))]
  · have e1:aA (σs i).pm (.b b off)=(fh δs (List.range i) (bS σ)).M (.b b off):=by rw [←hvi];rfl
    have e2:aA τ.pm (.b b off)=(fh δs (D listed) (bS σ)).M (.b b off):=by rw [←hτ];rfl
    rw [e1,e2,nA δs (.b b off) _ _ (bS σ) rfl,nA δs (.b b off) (D listed) _ (bS σ) rfl,same _ (fun j bo _ hj hq hne=>by
     refine hpast j bo hj (Ne.symm hne) ?_;rcases tMc _ j bo hj hq with ⟨d,e,hd'⟩|⟨s',e,hs'⟩|⟨b',off',e,h1,h2⟩
     ·simp [Pl.at] at e
     ·cases e
     ·cases e;exact .inr (.inr ⟨b,h1,h2,hb⟩))]
  ·
    cases x with
    |one b=>trivial
    |fr l=>trivial
    |cel b off v=>
     obtain ⟨c1,c2⟩:=GV hx;have ei:l.getD i .no=ao:=by simp [Ar,hi]
     have early: ∀(j:Nat) (bo:be),l[j]?=some bo→tB b (δs j)=true→j<i→listed.getD j false=true:=by
      intro j bo hj hq hji;obtain ⟨q1,q2⟩:=tBc b j bo hj hq;refine hclos listed hcl i o ho hd j hji ?_;cases hb:(A.getD i 0).testBit j with
      |true=>rfl
      |false=>
       exfalso;have hp:=fC.1 (fC.1 hpair i (List.mem_range.2 hil)) j (List.mem_range.2 hji);have ej:l.getD j .no=bo:=by simp [Ar,hj]
       simp only [lj,hb,Bool.false_or,ei,ej,aC,q2,c2] at hp;have h5:=hp.2;simp at h5;obtain ⟨x1,y1⟩: ∃x,eb (σs j) bo=some x:=by
        cases h:eb (σs j) bo with
        |none=>rw [h] at q1;cases q1
        |some x=>exact ⟨x,rfl⟩
       obtain ⟨u,hu⟩: ∃u,us[i]?=some u:=⟨us[i],by simp [show i<us.length by omega]⟩;have hju:j∈u:=by simpa [Ar,hu] using h5
       have:=(t3 i ao u _ hi hu hx).2 j bo hji hj (by simpa using hju) x1 y1
       rw [y1] at q1;cases x1<;>simp only [Iz,fE,Bx.tch] at this q1
     have late: ∀(m:Nat) (bo:be),l[m]?=some bo→tB b (δs m)=true→i<m→listed.getD m false=true→dU (σs (m+1)).bx (.ptr b off)=some v:=by
      intro m bo hm hq him hlm;obtain ⟨q1,q2⟩:=tBc b m bo hm hq;have hml:m<l.length:=(oU.1 hm).1;have hms:m<ops.size:=by omega
      have hb:(A.getD m 0).testBit i=false:=by
       cases hb:(A.getD m 0).testBit i with
       |false=>rfl
       |true=>
        have:=hclos listed hcl m ops[m] (by simp [hms]) (hcl m ops[m] (by simp [hms]) hlm) i him hb
        rw [hf] at this;cases this
      have hp:=fC.1 (fC.1 hpair m (List.mem_range.2 hml)) i (List.mem_range.2 him);have ej:l.getD m .no=bo:=by simp [Ar,hm]
      simp only [lj,hb,Bool.false_or,ei,ej,aC,q2,c2] at hp;have h5:=hp.2;simp at h5;obtain ⟨u,hu⟩: ∃u,us[m]?=some u:=⟨us[m],by simp [show m<us.length by omega]⟩;have hju:i∈u:=by simpa [Ar,hu] using h5
      exact (t4 m bo u hm hu).2 i ao him hi (by simpa using hju) _ hx
     have e2:ar τ.bx b=(fh δs (D listed) (bS σ)).B b:=by rw [←hτ];rfl
     rw [ny δs b (D listed) _ (bS σ) rfl] at e2;simp only [Bx.kept];by_cases hm: ∃m,m∈(D listed).filter (fun j=>tB b (δs j))∧i<m
     ·obtain ⟨m,hmL,him⟩:=hm;have hsort:((D listed).filter (fun j=>tB b (δs j))).Pairwise (· < ·):=(List.pairwise_lt_range (n:=l.length)).sublist (List.filter_sublist.trans List.filter_sublist);rcases List.eq_nil_or_concat ((D listed).filter (fun j=>tB b (δs j))) with hL|⟨L,m',hL⟩
      ·rw [hL] at hmL;cases hmL
      ·rw [hL] at hmL hsort e2;have hle:i<m':=by
        rw [List.concat_eq_append] at hmL hsort;rcases gg.1 hmL with h|h
        ·have:=(List.pairwise_append.1 hsort).2.2 m h m' (by simp)
         omega
        ·simp at h;omega
       have hm':m'∈(D listed).filter (fun j=>tB b (δs j)):=by rw [hL];simp
       obtain ⟨hm1,hm2⟩:=List.mem_filter.1 hm';obtain ⟨hm3,hm4⟩:=List.mem_filter.1 hm1;have hml:=List.mem_range.1 hm3;obtain ⟨bo,hbo⟩: ∃bo,l[m']?=some bo:=⟨l[m'],by simp [hml]⟩;have k1:=late m' bo hbo hm2 hle hm4;rw [List.concat_eq_append,iK] at e2;have e3:ar (σs (m'+1)).bx b=((δs m').app (bS (σs m'))).B b:=by rw [←(t1 m' bo hbo).2];rfl
       simp only [tB] at hm2;obtain ⟨cs,hcs⟩:=gU.1 hm2;simp only [Dl.app,hcs] at e2 e3;rw [sL (e2.trans e3.symm)];exact k1
     ·have sm:=same (fun j=>tB b (δs j)) (fun j bo hjl hj hq hne=>by
       constructor
       ·intro hl;rcases Nat.lt_or_ge j i with h|h
        ·exact h
        ·exact absurd ⟨j,List.mem_filter.2 ⟨List.mem_filter.2 ⟨List.mem_range.2 hjl,hl⟩,hq⟩,by omega⟩ hm
       ·intro hji;exact early j bo hj hq hji)
      rw [sm] at e2;have e1:ar (σs i).bx b=(fh δs (List.range i) (bS σ)).B b:=by rw [←hvi];rfl
      rw [ny δs b _ _ (bS σ) rfl] at e1;rw [sL (e2.trans e1.symm)];exact c1
  ·
    rw [hτ];have hfi:=hfit i ao hi;have hD': ∀(q:Nat→Bool),(q i=true→ ∀(j:Nat) (bo:be),j<l.length→l[j]?=some bo→q j=true→j≠i→(listed.getD j false=true↔j<i))→
      (D (listed.setIfInBounds i true)).filter q=if q i=true then (D listed).filter q++[i] else (D listed).filter q:=by
     intro q hq;have gs: ∀j,(listed.setIfInBounds i true).getD j false=if j=i then true else listed.getD j false:=by
      intro j;by_cases h1:j=i
      ·subst h1;simp [lc,show j<listed.size by omega]
      ·rw [if_neg h1];simp [lc,Array.getElem?_setIfInBounds_ne (Ne.symm h1)]
     by_cases hqi:q i=true
     ·rw [if_pos hqi,same q (hq hqi)]
      have:(List.range i).filter q++[i]=(List.range (i+1)).filter q:=by rw [List.range_succ,List.filter_append];simp [hqi]
      rw [this];simp only [D,List.filter_filter];refine ma (by omega) (fun j hj=>?_);obtain ⟨bo,hbo⟩: ∃bo,l[j]?=some bo:=⟨l[j],by simp [hj]⟩;rw [gs j];cases hqj:q j with
      |false=>simp
      |true=>
       by_cases hji:j=i
       ·subst hji;simp
       ·have:=hq hqi j bo hj hbo hqj hji
        rw [if_neg hji];simp only [kL,Bool.and_true];by_cases h1:j<i
        ·rw [this.2 h1];simp;omega
        ·have h2:listed.getD j false=false:=by
          cases h3:listed.getD j false with
          |false=>rfl
          |true=>exact absurd (this.1 h3) h1
         rw [h2];simp;omega
     ·rw [if_neg hqi];simp only [D,List.filter_filter];apply List.filter_congr;intro j hj;rw [gs j];by_cases hji:j=i
      ·subst hji;simp [hqi]
      ·rw [if_neg hji]
    apply LS.ext'
    ·intro t;rw [t6 δs t (D (listed.setIfInBounds i true)) _ (bS σ) rfl,hD' _ (fun hqi j bo _ hj hq hne=>hpast j bo hj (Ne.symm hne) (.inl ⟨t,tEc t j bo hj hq,.inr (tEc t i ao hi hqi)⟩))];split
     ·rename_i hqi;rw [iK];simp only [tE] at hqi;simp only [Dl.app];split at hqi
      ·rename_i d x he;simp only [bP] at hqi;simp [hqi]
      ·cases hqi
     ·rename_i hqi;rw [←t6 δs t (D listed) (bS σ) (bS σ) rfl];simp only [Dl.app];split
      ·rename_i d x he;rw [if_neg];intro e;exact hqi (by simp [tE,he,e])
      ·rfl
    ·intro t;rw [ny δs t (D (listed.setIfInBounds i true)) _ (bS σ) rfl,hD' _ (fun hqi j bo _ hj hq hne=>by
      obtain ⟨q1,q2⟩:=tBc t j bo hj hq;exact hpast j bo hj (Ne.symm hne) (.inr (.inr ⟨t,q1,q2,(tBc t i ao hi hqi).1⟩)))]
     split
     ·rename_i hqi;rw [iK];simp only [tB] at hqi;obtain ⟨x,hx⟩:=gU.1 hqi;simp only [Dl.app,hx]
     ·rename_i hqi;rw [←ny δs t (D listed) (bS σ) (bS σ) rfl];simp only [Dl.app];split
      ·rename_i x he;exact absurd (by simp [tB,he]) hqi
      ·rfl
    ·intro t;rw [nA δs t (D (listed.setIfInBounds i true)) _ (bS σ) rfl,hD' _ (fun hqi j bo _ hj hq hne=>by
      refine hpast j bo hj (Ne.symm hne) ?_;rcases tMc t i ao hi hqi with ⟨d,hat,hd1⟩|⟨s,rfl,hs1⟩|⟨b,off,rfl,hb1,hb2⟩
      ·rcases tMc _ j bo hj hq with ⟨d',e,hd'⟩|⟨s',e,hs'⟩|⟨_,_,e,_⟩
       ·have:d'=d:=by cases t<;>simp [Pl.at] at e hat<;>omega
        subst this;exact .inl ⟨d',hd',.inr hd1⟩
       ·subst e;simp [Pl.at] at hat;subst hat;exact .inr (.inl ⟨_,hs',.inl hd1⟩)
       ·subst e;simp [Pl.at] at hat
      ·rcases tMc _ j bo hj hq with ⟨d',e,hd'⟩|⟨s',e,hs'⟩|⟨_,_,e,_⟩
       ·simp [Pl.at] at e;subst e;exact .inl ⟨_,hd',.inl (l9 hs1)⟩
       ·cases e;exact .inr (.inl ⟨s,hs',.inr hs1⟩)
       ·cases e
      ·rcases tMc _ j bo hj hq with ⟨d',e,hd'⟩|⟨s',e,hs'⟩|⟨b',off',e,h1,h2⟩
       ·simp [Pl.at] at e
       ·cases e
       ·cases e;exact .inr (.inr ⟨b,h1,h2,hb1⟩))]
     split
     ·rename_i hqi;rw [iK];simp only [tM] at hqi;obtain ⟨x,hx⟩:=gU.1 hqi;simp only [Dl.app,hx]
     ·rename_i hqi;rw [←nA δs t (D listed) (bS σ) (bS σ) rfl];simp only [Dl.app];split
      ·rename_i x he;exact absurd (by simp [tM,he]) hqi
      ·rfl
 have congr: ∀ {S gb τ τ' a w},bS τ=bS τ'→aE F S gb τ a w→aE F S gb τ' a w:=by
  intro S gb τ τ' a w hv h;have he:lk τ'.e=lk τ.e:=by have:=congrArg LS.E hv;exact this.symm
  have hb:ar τ'.bx=ar τ.bx:=by have:=congrArg LS.B hv;exact this.symm
  have hp:aA τ'.pm=aA τ.pm:=by have:=congrArg LS.M hv;exact this.symm
  refine ⟨h.defers,h.size,h.bw,h.ext,h.le,?_,⟨h.hr.agree,?_,?_,?_,?_,?_,?_,?_⟩,?_,?_,?_,h.up,h.glo⟩
  · intro t;rw [he];exact h.env t
  · intro d cs;rw [hb];exact h.hr.box d cs
  · intro d cs;rw [hb];exact h.hr.its d cs
  · intro d d';rw [hb];exact h.hr.inj d d'
  · intro p k;rw [hp];exact h.hr.own p k
  · intro p q k l' b;rw [hp];exact h.hr.ownd p q k l' b
  · intro p k b d;rw [hp,hb];exact h.hr.ownb p k b d
  · intro d off k;rw [hp,hb];exact h.hr.pmb d off k
  · intro d g z;rw [hb];exact h.newb d g z
  · intro p k g;rw [hp];exact h.newo p k g
  · intro d;rw [hb];exact h.dom d
 have main: ∀fuel listed a w,listed.size=ops.size→fuel+(D listed).length=l.length→(∀j,l.length≤j→listed.getD j false=false)→cl listed→(∃S gb τ,aE F S gb τ a w∧bS τ=fh δs (D listed) (bS σ))→wpAny P .any ops Q (fuel+(ops.size - l.length)) listed a w:=by
  have allDone: ∀listed a w,listed.size=ops.size→(∀j,j<l.length→listed.getD j false=true)→(∀j,l.length≤j→listed.getD j false=false)→(∃S gb τ,aE F S gb τ a w∧bS τ=fh δs (D listed) (bS σ))→wpAny P .any ops Q (ops.size - l.length) listed a w:=by
    rintro listed a w hls hall hopen ⟨S,gb,τ,h,hτ⟩;refine hfin listed a w hls hall hopen S gb (σs l.length) j' h' (congr ?_ h) t2;rw [hτ,hview _ (eV _)];congr 1
    simp only [D];exact List.filter_eq_self.2 (fun j hj=>hall j (List.mem_range.1 hj))
  have notReady: ∀listed,listed.size=ops.size→Region.ready .any ops listed=[]→ ∀j,j<ops.size→listed.getD j false=true:=by
    intro listed hls hr j;induction j using Nat.strongRecOn with
    |_ j ih=>
     intro hj;cases hl:listed.getD j false with
     |true=>rfl
     |false=>
      exfalso;have hjs:j<ops.size:=hj;have hmem:j∈Region.ready .any ops listed:=by
       simp only [Region.ready,List.mem_filter,List.mem_range,aC,xQ];refine ⟨hjs,?_,?_⟩
       ·have:listed.getD j true=listed.getD j false:=by simp [lc,show j<listed.size by omega]
        rw [this,hl]
       ·have ho:ops[j]?=some ops[j]:=by simp [hjs]
        simp only [ho,Option.map_some,Option.getD_some];rw [Array.all_eq_true_iff_forall_mem];intro e he;simp only [BI,xQ];cases hbi:Region.binds .any e with
        |false=>left;rfl
        |true=>
         right;have hm:e.on∈kQ ops[j]:=by
          simp only [kQ,tO,List.mem_filter];exact ⟨e,⟨by simpa using he,hbi⟩,rfl⟩
         have:=(hdir j _ ho).1 e.on hm
         exact ih e.on this (by omega)
      rw [hr] at hmem;simp at hmem
  intro fuel;induction fuel with
  |zero=>
    intro listed a w hls hcnt hopen hcl hrel';have hall: ∀j,j<l.length→listed.getD j false=true:=by
     intro j hj;have hlen:(D listed).length=(List.range l.length).length:=by simpa using hcnt
     have:=List.length_filter_eq_length_iff.1 hlen j (List.mem_range.2 hj)
     exact this
    rw [na];exact allDone listed a w hls hall hopen hrel'
  |succ fuel ih=>
    intro listed a w hls hcnt hopen hcl hrel';have hex: ∃j,j<l.length∧listed.getD j false=false:=by
     refine Classical.byContradiction fun hno=>?_
     have hall: ∀j,j<l.length→listed.getD j false=true:=by
      intro j hj;cases hl:listed.getD j false with
      |true=>rfl
      |false=>exact absurd ⟨j,hj,hl⟩ hno
     have:(D listed).length=(List.range l.length).length:=List.length_filter_eq_length_iff.2 fun j hj=>hall j (List.mem_range.1 hj)
     simp only [List.length_range] at this;omega
    rw [show fuel+1+(ops.size - l.length)=(fuel+(ops.size - l.length))+1 by omega];refine ⟨fun hr=>?_,fun i hi=>?_⟩
    ·obtain ⟨j,hj,hjf⟩:=hex;rw [notReady listed hls hr j (by omega)] at hjf;cases hjf
    simp only [Region.ready,List.mem_filter,List.mem_range,aC,xQ] at hi;obtain ⟨his,hif,hib⟩:=hi;have hf:listed.getD i false=false:=by
     have:listed.getD i true=listed.getD i false:=by simp [lc,show i<listed.size by omega]
     rw [←this];exact hif
    have ho:ops[i]?=some ops[i]:=by simp [his]
    have hd: ∀m∈kQ ops[i],listed.getD m false=true:=by
     intro m hm;simp only [ho,Option.map_some,Option.getD_some] at hib;rw [Array.all_eq_true_iff_forall_mem] at hib;simp only [kQ,tO,List.mem_filter] at hm;obtain ⟨e,⟨he,hbi⟩,rfl⟩:=hm
     have:=hib e (by simpa using he)
     simpa [hbi] using this
    have hil:i<l.length:=by
     rcases Nat.lt_or_ge i l.length with h|h
     ·exact h
     ·exfalso;obtain ⟨j,hj,hjf⟩:=hex;rw [hclos listed hcl i _ ho hd j (by omega) (htail i h his j hj)] at hjf;cases hjf
    obtain ⟨ao,hi2,hmt⟩:=hop i _ ho hil;obtain ⟨S,gb,τ,h,hτ⟩:=hrel';obtain ⟨hagr,hnext⟩:=hstep listed i ao ops[i] τ hls hcl ho hi2 hf hd hτ;have hwp:=GQ hagr (t1 i ao hi2).1;have hfit':=tZ (fC.1 hokG ao (List.mem_of_getElem? hi2)) hwp;have hw1:bh (aX P F.GL) ao (fun τ'=>bS τ'=(δs i).app (bS τ)) τ:=GM (BX (K':=fun δ=>bS (δ.ap τ)=(δs i).app (bS τ)) (AB hfit'.f) hwp);have hcl':cl (listed.setIfInBounds i true):=by
     intro j oj hoj hlj m hm;have keep: ∀m,listed.getD m false=true→(listed.setIfInBounds i true).getD m false=true:=by
      intro m hm;by_cases h1:m=i
      ·subst h1;simp [lc,hls,his]
      ·simp only [lc,Array.getElem?_setIfInBounds_ne (Ne.symm h1)] at hm ⊢;exact hm
     by_cases hji:j=i
     ·subst hji;rw [ho] at hoj;cases hoj;exact keep m (hd m hm)
     ·have:listed.getD j false=true:=by
       simp only [lc,Array.getElem?_setIfInBounds_ne (Ne.symm hji)] at hlj ⊢;exact hlj
      exact keep m (hcl j oj hoj this m hm)
    have hcnt':fuel+(D (listed.setIfInBounds i true)).length=l.length:=by
     have:=BY (show l.length≤listed.size by omega) hil hf
     simp only [D] at hcnt ⊢;omega
    have:=gn h hmt hw1 (K':=wpAny P .any ops Q (fuel+(ops.size - l.length)) (listed.setIfInBounds i true)) (Q:=Q) (fun S' gb' τ' a' w' h' hv'=>
     ih _ a' w' (by simpa using hls) hcnt' (fun j hj=>by have:=hopen j hj;simp only [lc,Array.getElem?_setIfInBounds_ne (show i≠j by omega)] at this ⊢;exact this) hcl' ⟨S',gb',τ',h',by rw [hv'];exact hnext⟩)
    unfold wpOp;rw [ho];simp only [];split
    ·rename_i hc;rw [if_pos hc] at this;exact .inl this
    ·rename_i hc;rw [if_neg hc] at this;exact this
 have rep: ∀j,(Array.replicate ops.size false).getD j false=false:=by
  intro j;simp only [lc,Array.getElem?_replicate];split<;>rfl
 have none:D (Array.replicate ops.size false)=[]:=by
  simp only [D,List.filter_eq_nil_iff,List.mem_range];intro j hj;rw [rep j];simp
 have:=main l.length (Array.replicate ops.size false) a {w with drawn:=w.drawn+1} (by simp) (by rw [none];simp) (fun j _=>rep j) (fun j o ho hl=>by rw [rep j] at hl;cases hl) ⟨S,gb,σ,hrel.drew,by rw [none];rfl⟩
 rw [show l.length+(ops.size - l.length)=ops.size by omega] at this;exact this

theorem yV {P:Program} {GL:List (Nat×List Value)} {N:Nat}:
 ∀(F:Fr),F.GL=GL→F.N=N→ ∀(ops:Array Oper) (us:List (List Nat)) (l:List be),kx P F.GL F.N ops ops.toList l=true→GT ops us l=true→ ∀(K:St→Prop) (Q:Exit→Act→World→Prop),(∀S gb σ a w,aE F S gb σ a w→K σ→Q .normal a w)→
  ∀ {S:aI} {gb:Gb} {σ:St} {a:Act} {w:World},aE F S gb σ a w→jM (aX P F.GL) us l 0 [] K σ→wpAny P .any ops Q ops.size (Array.replicate ops.size false) a {w with drawn:=w.drawn+1}:=by
 intro F hGL hN ops us l hmts hdr K Q hQ S gb σ a w hrel hw;simp only [GT,aC,bP] at hdr;obtain ⟨⟨⟨⟨⟨hanc,hsz⟩,hus⟩,hokG⟩,hpair⟩,htl⟩:=hdr;have hop: ∀(i:Nat) (o:Oper),ops[i]?=some o→ ∃ao,l[i]?=some ao∧mt P F.GL F.N ops o ao=true:=by
  have: ∀(ol:List Oper) (al:List be),kx P F.GL F.N ops ol al=true→ ∀(i:Nat) (o:Oper),ol[i]?=some o→ ∃ao,al[i]?=some ao∧mt P F.GL F.N ops o ao=true:=by
   intro ol;induction ol with
   |nil=>intro al _ i o h;simp at h
   |cons x r ih=>
    intro al hm i o h;cases al with
    |nil=>simp [kx] at hm
    |cons y s=>
     simp only [kx,aC] at hm;cases i with
     |zero=>simp at h;subst h;exact ⟨y,by simp,hm.1⟩
     |succ i=>simp at h ⊢;exact ih s hm.2 i o h
  intro i o h;exact this _ _ hmts i o (by simpa using h)
 generalize hA:GS ops.toList []=A at hanc hpair htl;have hm:cf l≤l.length:=by unfold cf;split<;>omega
 have hlt:(l.take (cf l)).length=cf l:=by simp;omega
 have hut:(us.take (cf l)).length=cf l:=by simp;omega
 have hgl: ∀j,j<cf l→(l.take (cf l)).getD j .no=l.getD j .no:=by
  intro j hj;simp only [Ar,oW,if_pos hj]
 have hgu: ∀j,j<cf l→(us.take (cf l)).getD j []=us.getD j []:=by
  intro j hj;simp only [Ar,oW,if_pos hj]
 refine B3 (us:=us.take (cf l)) (l:=l.take (cf l)) (ut:=us.drop (cf l)) (lt:=l.drop (cf l)) (A:=A) (K:=K) (by rw [hlt];omega) hanc (by rw [hlt,hut]) hokG ?_ ?_ ?_ ?_ hrel (by
  rw [Gj,Gj];exact hw)
 ·rw [hlt];refine fC.2 fun j hj=>fC.2 fun i hi=>?_
  have hj':=List.mem_range.1 hj;have hi':=List.mem_range.1 hi
  have:=fC.1 (fC.1 hpair j hj) i hi
  unfold lj at this ⊢;rw [hgl i (by omega),hgl j hj',hgu j hj'];exact this
 ·intro i o ho hi;rw [hlt] at hi;obtain ⟨ao,h1,h2⟩:=hop i o ho;exact ⟨ao,by rw [oW,if_pos hi];exact h1,h2⟩
 ·intro i hi his k hk;rw [hlt] at hi hk;have hi2:i=cf l:=by
   have:cf l=l.length∨cf l=l.length - 1:=by unfold cf;split<;>simp
   omega
  subst hi2;simp only [BI,bP,fC,List.mem_range] at htl;rcases htl with h|h
  ·omega
  ·exact h k hk
 ·intro listed a w hls hall hopen S gb τ j' h' hr hwl;rw [hlt] at hall hopen ⊢;have hcase:cf l=l.length∨(cf l+1=l.length):=by
   have:cf l=l.length∨cf l=l.length - 1:=by unfold cf;split<;>simp
   rcases this with h|h
   ·exact .inl h
   ·rcases Nat.eq_zero_or_pos l.length with h0|h0
    ·left;omega
    ·right;omega
  rcases hcase with hc|hc
  ·have e1:l.drop (cf l)=[]:=by rw [hc];simp
   have e2:us.drop (cf l)=[]:=by rw [hc,←hus];simp
   rw [e1,e2] at hwl;rw [show ops.size - cf l=0 by omega];refine ⟨?_,hQ S gb τ a w hr hwl⟩;simp only [Region.ready,List.filter_eq_nil_iff,List.mem_range,aC,xQ,not_and];intro j hj hf
   have:listed.getD j true=listed.getD j false:=by simp [lc,show j<listed.size by omega]
   rw [this,hall j (by omega)] at hf;cases hf
  ·obtain ⟨o,ho⟩: ∃o,l[cf l]?=some o:=⟨l[cf l],by simp⟩;obtain ⟨u,hu⟩: ∃u,us[cf l]?=some u:=⟨us[cf l],by simp⟩;have e1:l.drop (cf l)=[o]:=by
    rw [sf (by omega),Aq (by omega)]
    have:=(oU.1 ho).2
    rw [this]
   have e2:us.drop (cf l)=[u]:=by
    rw [sf (by omega),Aq (by omega)]
    have:=(oU.1 hu).2
    rw [this]
   rw [e1,e2] at hwl;obtain ⟨-,hw1⟩:=hwl;have hpl:cf l<ops.size:=by omega
   have hops:ops[cf l]?=some ops[cf l]:=by simp [hpl]
   obtain ⟨ao,h1,hmt⟩:=hop _ _ hops;rw [ho] at h1;cases h1;rw [show ops.size - cf l=0+1 by omega];have hready: ∀lst:Array Bool,lst.size=ops.size→(∀j,j<l.length→lst.getD j false=true)→Region.ready .any ops lst=[]:=by
    intro lst hl hal;simp only [Region.ready,List.filter_eq_nil_iff,List.mem_range,aC,xQ,not_and];intro j hj hf
    have:lst.getD j true=lst.getD j false:=by simp [lc,show j<lst.size by omega]
    rw [this,hal j (by omega)] at hf;cases hf
   have hdirs: ∀m∈kQ ops[cf l],m<cf l:=by
    intro m hm'
    have:=fC.1 hanc (cf l) (List.mem_range.2 (by simpa using hpl))
    simp only [Array.getElem?_toList,hops,aC,fC] at this;simpa using this.1 m hm'
   have hrd:cf l∈Region.ready .any ops listed:=by
    simp only [Region.ready,List.mem_filter,List.mem_range,aC,xQ];refine ⟨hpl,?_,?_⟩
    ·have:listed.getD (cf l) true=listed.getD (cf l) false:=by simp [lc,show cf l<listed.size by omega]
     rw [this,hopen _ (eV _)]
    ·simp only [hops,Option.map_some,Option.getD_some];rw [Array.all_eq_true_iff_forall_mem];intro e he;simp only [BI,xQ];cases hbi:Region.binds .any e with
     |false=>left;rfl
     |true=>
      right;refine hall _ (hdirs e.on ?_);simp only [kQ,tO,List.mem_filter];exact ⟨e,⟨by simpa using he,hbi⟩,rfl⟩
   refine ⟨fun hr0=>(by rw [hr0] at hrd;cases hrd),fun i hi=>?_⟩;simp only [Region.ready,List.mem_filter,List.mem_range,aC,xQ] at hi;have hi2:i=cf l:=by
    rcases Nat.lt_or_ge i (cf l) with h|h
    ·have hh:=hi.2.1
     have:listed.getD i true=listed.getD i false:=by simp [lc,show i<listed.size by omega]
     rw [this,hall i h] at hh;cases hh
    ·omega
   subst hi2;have hlast:=gn hr hmt hw1 (K':=wpAny P .any ops Q 0 (listed.setIfInBounds (cf l) true)) (Q:=Q) (fun S' gb' τ' a' w' hr' hk'=>by
    refine ⟨hready _ (by simpa using hls) fun j hj=>?_,hQ S' gb' τ' a' w' hr' (eL.1 hk').2⟩;by_cases hjp:j=cf l
    ·subst hjp;simp [lc,hls,hpl]
    ·simp only [lc,Array.getElem?_setIfInBounds_ne (Ne.symm hjp)]
     have:=hall j (by omega)
     simpa only [lc] using this)
   unfold wpOp;rw [hops];simp only [];split
   ·rename_i hc;rw [if_pos hc] at hlast;exact .inl hlast
   ·rename_i hc;rw [if_neg hc] at hlast;exact hlast
end Go.Ai
