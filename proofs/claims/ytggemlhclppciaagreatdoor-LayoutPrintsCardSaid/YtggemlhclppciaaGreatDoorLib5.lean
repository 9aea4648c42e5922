/- Lib5: a part of the proof. Conditions: as each theorem says. -/
import Derived.Test.YtggemlhclppciaaGreatDoorLib4
set_option linter.unusedSimpArgs false
set_option linter.unusedVariables false
namespace Go.Ai
open Go.RowKit
variable {P:Program} {F:Fr} {S:aM} {gb:Gb} {σ:St} {a:Act} {w:World}

inductive AR where
 |t (s:Nat)
 |cs (s:Nat)
 |ca (s n:Nat)

structure AF where
 c:AC
 rs:List AR
 np:Nat
 N:Nat

def gr (σ:St):List AR→Option (List AV)
 |[]=>some []
 | .t s::r=>match gr σ r with
  |some vs=>some (lk σ.e s::vs)
  |none=>none
 | .cs s::r=>match fb σ.bx (lk σ.e s),gr σ r with
  |some v,some vs=>some (v::vs)
  |_,_=>none
 | .ca s n::r=>match uP σ.bx n (lk σ.e s),gr σ r with
  |some v,some vs=>some (v::vs)
  |_,_=>none

def uw:List AV→AV
 |[v]=>v
 |vs=> .tup vs

def iW (rs:List AR) (r:AV):AE→St→Prop
 | .x _,_=>False
 |_,σ=>match gr σ rs with
  |some vs=>dY (uw vs)=some r
  |none=>False

def dI:Nat→List AV→List (Nat×AV)
 |_,[]=>[]
 |i,v::r=>(i,v)::dI (i+1) r

def AS (P:Program):List AR→List ResultVar→Bool
 |[],[]=>true
 | .t s::r,.tmp t::q=>s==t&&AS P r q
 | .cs s::r,.cell t T::q=>s==t&&ma P T&&AS P r q
 | .ca s n::r,.cell t T::q=>s==t&&ji P T&&kW P T==some n&&AS P r q
 |_,_=>false

def mF (P:Program) (GL:List (Nat×List Value)) (dr:Array Oper→List (List Nat)→List bz→Bool) (fn:Func) (f:AF):Bool:=
 fn.name != "runtime.NumGoroutine"&&fn.params.size+fn.nfree==f.np&&fn.ntmps==f.N&&Nat.ble f.np f.N&&AS P f.rs fn.results.toList&&(match fn.body with |some c=>mC P GL f.N dr c f.c|none=>false)

def GY (tmps:Array Value):ResultVar→Sem Value
 | .tmp t=>pure (tmps.getD t undef)
 | .cell a t=>do loadVar t (←asAddr (tmps.getD a undef))
theorem r7 (fn:Func) (tmps:Array Value):results fn tmps=(do let vs ←fn.results.mapM (GY tmps);pure (if h:vs.size=1 then vs[0] else .tuple vs)):=rfl

theorem lN (h:aI F S gb σ a w): ∀ {rs:List AR} {qs:List ResultVar} {vs:List AV},AS P rs qs=true→gr σ rs=some vs→ ∀(acc:Array Value),
  ∃us,(qs.foldlM (fun (bs:Array Value) (q:ResultVar)=>(Functor.map bs.push (GY a.tmps q):Sem (Array Value))) acc).run P w= .ok (acc++us.toArray) w∧aa S gb vs us∧ ∀(i s:Nat),rs[i]?=some (AR.t s)→us[i]?=some (tv a s)
 |[],qs,vs,hm,hr,acc=>by
  cases qs<;>simp [AS] at hm;simp [gr] at hr;subst hr;exact ⟨[],by simp,by simp [aa],by simp⟩
 | .t s::r,qs,vs,hm,hr,acc=>by
  match qs,hm with
  | .tmp t::q,hm=>
   simp only [AS,aE,bP] at hm;obtain ⟨rfl,hm⟩:=hm;simp only [gr] at hr;split at hr
   ·rename_i vs' hvs;simp only [cC] at hr;subst hr;obtain ⟨us,g1,g2,g3⟩:=lN h hm hvs (acc.push (a.tmps.getD s undef));refine ⟨a.tmps.getD s undef::us,?_,⟨_,_,rfl,h.env s,g2⟩,by
     intro i s' hi;cases i with
     |zero=>simp at hi;subst hi;rfl
     |succ i=>simpa using g3 i s' (by simpa using hi)⟩
    have:(GY a.tmps (.tmp s)).run P w= .ok (a.tmps.getD s undef) w:=rfl
    simp only [List.foldlM_cons,Sem.run_bind,Sem.run_map,this,Result.andThen_ok];rw [g1];simp
   ·cases hr
 | .cs s::r,qs,vs,hm,hr,acc=>by
  match qs,hm with
  | .cell t T::q,hm=>
   simp only [AS,aE,bP] at hm;obtain ⟨⟨rfl,ht⟩,hm⟩:=hm;simp only [gr] at hr;split at hr
   ·rename_i v vs' hl hvs;simp only [cC] at hr;subst hr;obtain ⟨u,hu,hp⟩:=kZ h ht hl (h.env s);obtain ⟨us,g1,g2,g3⟩:=lN h hm hvs (acc.push u);refine ⟨u::us,?_,⟨_,_,rfl,hp,g2⟩,by
     intro i s' hi;cases i with
     |zero=>simp at hi
     |succ i=>simpa using g3 i s' (by simpa using hi)⟩
    have:(GY a.tmps (.cell s T)).run P w= .ok u w:=by
     show (do loadVar T (←asAddr (a.tmps.getD s undef)):Sem Value).run P w= .ok u w;have hu:(Instr.loadAt T (a.tmps.getD s undef)).run P w= .ok u w:=hu;generalize a.tmps.getD s undef=pv at hu ⊢;cases pv<;>simp [Instr.loadAt,Instr.sureAddr] at hu;rename_i ad;cases ad<;>simp at hu;simpa [asAddr] using hu
    simp only [List.foldlM_cons,Sem.run_bind,Sem.run_map,this,Result.andThen_ok];rw [g1];simp
   ·cases hr
 | .ca s n::r,qs,vs,hm,hr,acc=>by
  match qs,hm with
  | .cell t T::q,hm=>
   simp only [AS,aE,bP] at hm;obtain ⟨⟨⟨rfl,ht⟩,hn⟩,hm⟩:=hm;simp only [gr] at hr;split at hr
   ·rename_i v vs' hl hvs;simp only [cC] at hr;subst hr;obtain ⟨u,hu,hp⟩:=p5 h ht hn hl (h.env s);obtain ⟨us,g1,g2,g3⟩:=lN h hm hvs (acc.push u);refine ⟨u::us,?_,⟨_,_,rfl,hp,g2⟩,by
     intro i s' hi;cases i with
     |zero=>simp at hi
     |succ i=>simpa using g3 i s' (by simpa using hi)⟩
    have:(GY a.tmps (.cell s T)).run P w= .ok u w:=by
     show (do loadVar T (←asAddr (a.tmps.getD s undef)):Sem Value).run P w= .ok u w;have hu:(Instr.loadAt T (a.tmps.getD s undef)).run P w= .ok u w:=hu;generalize a.tmps.getD s undef=pv at hu ⊢;cases pv<;>simp [Instr.loadAt,Instr.sureAddr] at hu;rename_i ad;cases ad<;>simp at hu;simpa [asAddr] using hu
    simp only [List.foldlM_cons,Sem.run_bind,Sem.run_map,this,Result.andThen_ok];rw [g1];simp
   ·cases hr

theorem fU {as:List AV} {us:List Value} (h:aa S gb as us): ∀(i t:Nat),(t<i→lk (dI i as) t= .undef)∧(∀j,t=i+j→PR S gb (lk (dI i as) t) (us.getD j undef)):=by
 induction as generalizing us with
 |nil=>intro i t;simp [dI,lk,PR]
 |cons c r ih=>
  simp only [aa] at h;obtain ⟨u,us',rfl,h1,h2⟩:=h;intro i t;simp only [dI,lk];constructor
  ·intro hlt;rw [if_neg (by omega)];exact (ih h2 (i+1) t).1 (by omega)
  ·intro j hj;split
   ·rename_i e
    have:j=0:=by omega
    subst this;simpa using h1
   ·rename_i e
    have:j≠0:=by omega
    obtain ⟨j',rfl⟩: ∃j',j=j'+1:=⟨j - 1,by omega⟩
    have:=(ih h2 (i+1) t).2 j' (by omega)
    simpa using this

theorem dQ {vs:List Value} {n t:Nat}:tv {tmps:=vs.toArray++Array.replicate n undef,defers:=[]} t=vs.getD t undef:=by
 simp only [tv,mK,Array.getElem?_append,Dh];split
 ·simp
 ·rename_i hge;simp only [List.size_toArray,Nat.not_lt] at hge;rw [EG hge,Array.getElem?_replicate];split<;>simp

theorem j8 {fn:Func} {rs:List AR} (h:aI F S gb σ a w) (h5:AS P rs fn.results.toList=true) {vs':List AV} (hv:gr σ rs=some vs'):
  ∃us:List Value,(results fn a.tmps).run P w= .ok (if h:us.toArray.size=1 then us.toArray[0] else .tuple us.toArray) w∧aa S gb vs' us∧ ∀(i s:Nat),rs[i]?=some (AR.t s)→us[i]?=some (tv a s):=by
 obtain ⟨us,g1,g2⟩:=lN (P:=P) h h5 hv #[];refine ⟨us,?_,g2⟩;rw [r7,Sem.run_bind,Array.mapM_eq_foldlM,←Array.foldlM_toList];simp only [Array.empty_append] at g1;rw [g1];simp
theorem Bq {vs':List AV} {us:List Value} (g2:aa S gb vs' us):PR S gb (uw vs') (if h:us.toArray.size=1 then us.toArray[0] else .tuple us.toArray):=by
 match vs',us,g2 with
 |[],us,g2=>
  simp only [aa] at g2;subst g2;simp only [uw,PR];exact ⟨#[],by simp,by simp [aa]⟩
 |[v],us,g2=>
  simp only [aa] at g2;obtain ⟨u,_,rfl,hp,rfl⟩:=g2;exact hp
 |v1::v2::r',us,g2=>
  have hl2:=g2.length;simp only [uw,PR];refine ⟨us.toArray,?_,by simpa using g2⟩;rw [dif_neg];simp only [em] at hl2;simp;omega

theorem PR.noids {S:aM} {gb gb':Gb} (v:AV) (u:Value) (h:v.ids=[]) (hp:PR S gb v u):PR S gb' v u:=PR.restr v u (fun d hd=>by rw [h] at hd;cases hd) hp
theorem aa.noids {S:aM} {gb gb':Gb} (v:List AV) (u:List Value) (h:ba v=[]) (hp:aa S gb v u):aa S gb' v u:=aa.restr v u (fun d hd=>by rw [h] at hd;cases hd) hp

def eB (gb:Gb):Gb:=fun i=>match i with
 | .up j=>gb j
 |_=>none

theorem ET {GL:List (Nat×List Value)} {dr:Array Oper→List (List Nat)→List bz→Bool} {f:Nat} {fn:Func} {af:AF} (hf:P.funcs[f]?=some fn) (hm:mF P GL dr fn af=true) (hd:bK P GL af.N dr) {l:List AV} {r:AV} (hl:l.length=af.np) (hi:ba l=[])
  (hw:dG (bc P GL) af.c (iW af.rs r) ⟨dI 0 l,[],[]⟩):rL (bc P GL) f l r:=by
 intro d;simp only [mF,aE,bne_iff_ne,bP] at hm;obtain ⟨⟨⟨⟨⟨h1,h2⟩,h3⟩,h4⟩,h5⟩,h6⟩:=hm;split at h6<;>(try cases h6);rename_i c hb;have h4:=Nat.le_of_ble_eq_true h4;intro S gb w vs hvs hhr hglo hnw;have hlen:vs.length=l.length:=hvs.length.symm;unfold k9;have hcall:(callFunc f vs.toArray).run P w= .ok (.enter f vs.toArray) w:=by
  simp [callFunc,hf,hb,h1]
 rw [hcall];refine calls_of_wp hf hb ?_
 let F:Fr:=⟨S,w,MS ⟨l,[],[]⟩ gb (fun t=>vs.getD t undef) w,gb,af.N,GL,[]⟩
 have hrel:aI F S (eB gb) ⟨dI 0 l,[],[]⟩ {tmps:=vs.toArray++Array.replicate (fn.ntmps - vs.toArray.size) undef,defers:=[]} w:=by
  refine ⟨rfl,?_,Bw.refl _ _,fun _ _ _ _=>rfl,aM.le.refl _,?_,⟨hhr.agree,?_,?_,?_,?_,?_,?_,?_⟩,?_,?_,?_,fun d=>rfl,hglo⟩
  ·show (vs.toArray++Array.replicate (fn.ntmps - vs.toArray.size) undef).size=af.N;simp;omega
  ·intro t
   have:=(fU (aa.noids (gb':=eB gb) _ _ hi hvs) 0 t).2 t (by omega)
   rw [dQ];exact this
  ·intro d cs hcs;simp [aw] at hcs
  ·intro d cs hcs;simp [aw] at hcs
  ·intro d d' g z z' hg;simp [aw] at hg
  ·intro p k hk;simp [aD] at hk
  ·intro p q k l b hk;simp [aD] at hk
  ·intro p k b d z hk;simp [aD] at hk
  ·intro d off k hk;simp [aD] at hk
  ·intro d g z hg;simp [aw] at hg
  ·intro p k g hk;simp [aD] at hk
  ·intro d hd;cases d<;>simp [eB,Id.isUp] at hd ⊢
 refine eA (F:=F) hd h6 (Q:=iW af.rs r) ?_ hrel hw;intro e S' gb' σ' a' w' hr hq;have fin: ∀vs',gr σ' af.rs=some vs'→dY (uw vs')=some r→a'.defers=[]∧ ∃v,(results fn a'.tmps).run P w'= .ok v w'∧(∃u,Ending.returned v= .returned u∧ ∃S'' gb'',dH d ⟨l,[],[]⟩ ⟨r,[],[]⟩ S gb (fun t=>vs.getD t undef) w S'' gb'' u w'):=by
  intro vs' hv hs;refine ⟨hr.defers,?_⟩;obtain ⟨us,hrun,g2,_⟩:=j8 (P:=P) hr h5 hv;refine ⟨_,hrun,_,rfl,S',gb,hr.bw,hr.ext,hr.le,fun _ _=>rfl,fun i hi hne=>absurd (hnw i hi) hne,uZ (bM _ _ _ hs (Bq g2)),⟨hr.hr.agree,?_,?_,?_,?_,?_,?_,?_⟩,?_,?_⟩
  ·intro d cs hcs;simp [aw] at hcs
  ·intro d cs hcs;simp [aw] at hcs
  ·intro d d' g z z' hg;simp [aw] at hg
  ·intro p k hk;simp [aD] at hk
  ·intro p q k l b hk;simp [aD] at hk
  ·intro p k b d z hk;simp [aD] at hk
  ·intro d off k hk;simp [aD] at hk
  ·intro d g z hg;simp [aw] at hg
  ·intro p k g hk;simp [aD] at hk
 cases e
 ·simp only [iW] at hq;split at hq
  ·rename_i vs' hv;exact fin vs' hv hq
  ·cases hq
 ·exact hq.elim
 ·simp only [iW] at hq;split at hq
  ·rename_i vs' hv;exact fin vs' hv hq
  ·cases hq
end Go.Ai
namespace Go.Ai
open Go.RowKit

structure LS where
 E:Nat→AV
 B:Id→Option (List AV)
 M:Pl→Option Nat
def cw (σ:St):LS:=⟨lk σ.e,aw σ.bx,aD σ.pm⟩

theorem LS.ext' {u v:LS} (h1: ∀t,u.E t=v.E t) (h2: ∀t,u.B t=v.B t) (h3: ∀t,u.M t=v.M t):u=v:=by
 cases u;cases v;simp only [LS.mk.injEq];exact ⟨funext h1,funext h2,funext h3⟩

inductive Dl where
 |put (d:Nat) (v:AV)
 |puto (d:Nat) (v:AV) (k:Nat)
 |mo (d s:Nat) (v:AV) (k:Nat)
 |box (d:Nat) (cs:List AV)
 |st (d:Id) (off n:Nat) (cs:List AV)
 |lo (d:Nat) (b:Id) (off:Nat) (v:AV) (k:Nat)
 |so (d:Id) (off s:Nat) (cs:List AV) (k:Nat)
 |rdc (d:Nat) (b:Id) (v:AV)
 |call (d:Nat) (xs:List X) (I:In) (O:cK)

def Dl.ap:Dl→St→St
 | .put d v,σ=>σ.put d v
 | .puto d v k,σ=>σ.puto d v k
 | .mo d s v k,σ=>⟨(d,v)::σ.e,σ.bx,(.s d,k)::gU (dl σ.pm (.s s)) d⟩
 | .box d cs,σ=>⟨(d,.ptr (.n d) 0)::σ.e,(.n d,cs)::σ.bx,gU σ.pm d⟩
 | .st d off n cs,σ=>⟨σ.e,Gn σ.bx d cs,xR σ.pm d off n⟩
 | .lo d b off v k,σ=>⟨(d,v)::σ.e,σ.bx,(.s d,k)::gU (dl σ.pm (.b b off)) d⟩
 | .so d off s cs k,σ=>⟨σ.e,Gn σ.bx d cs,(.b d off,k)::dl (dl σ.pm (.s s)) (.b d off)⟩
 | .rdc d b v,σ=>⟨(d,v)::σ.e,σ.bx,gU (ud σ.pm b) d⟩
 | .call d xs I O,σ=>bm d σ xs I O

def Dl.e?:Dl→Option (Nat×AV)
 | .put d v=>some (d,v)
 | .puto d v _=>some (d,v)
 | .mo d _ v _=>some (d,v)
 | .box d _=>some (d,.ptr (.n d) 0)
 | .lo d _ _ v _=>some (d,v)
 | .rdc d _ v=>some (d,v)
 | .call d _ _ O=>some (d,O.r)
 |_=>none
def Dl.b?:Dl→Id→Option (List AV)
 | .box d cs,i=>if .n d=i then some cs else none
 | .st d _ _ cs,i=>if d=i then some cs else none
 | .so d _ _ cs _,i=>if d=i then some cs else none
 | .call _ _ _ O,i=>aw O.bx i
 |_,_=>none
def eN (d:Id) (off n:Nat):Pl→Bool
 | .b e o=>e==d&&Nat.ble off o&&Nat.blt o (off+n)
 |_=>false
def Dq (b:Id):Pl→Bool
 | .b e _=>e==b
 |_=>false
theorem Br (l:List (Pl×Nat)) (b:Id) (q:Pl):aD (ud l b) q=if Dq b q=true then none else aD l q:=by
 rw [lK];cases q<;>simp [Dq]
def Dl.m?:Dl→Pl→Option (Option Nat)
 | .put d _,p=>if p.at d=true then some none else none
 | .puto d _ k,p=>if p= .s d then some (some k) else if p.at d=true then some none else none
 | .mo d s _ k,p=>if p= .s d then some (some k) else if p.at d=true then some none else if p= .s s then some none else none
 | .box d _,p=>if p.at d=true then some none else none
 | .st d off n _,p=>if eN d off n p=true then some none else none
 | .lo d b off _ k,p=>if p= .s d then some (some k) else if p.at d=true then some none else if p= .b b off then some none else none
 | .so d off s _ k,p=>if p= .b d off then some (some k) else if p= .s s then some none else none
 | .rdc d b _,p=>if p.at d=true then some none else if Dq b p=true then some none else none
 | .call d _ I O,p=>if p.at d=true then some none else match aD O.pm p with
  |some k=>some (some k)
  |none=>match p with
   | .b e _=>if (aw I.bx e).isSome then some none else none
   |_=>none
def Dl.app (δ:Dl) (v:LS):LS:=
 ⟨fun t=>match δ.e? with |some (d,x)=>if d=t then x else v.E t|none=>v.E t,
  fun b=>match δ.b? b with |some cs=>some cs|none=>v.B b,
  fun p=>match δ.m? p with |some x=>x|none=>v.M p⟩

theorem Bt (l:List (Pl×Nat)) (d:Id) (off n:Nat) (q:Pl):aD (xR l d off n) q=if eN d off n q=true then none else aD l q:=by
 induction l with
 |nil=>simp [xR,aD]
 |cons x r ih=>
  obtain ⟨y,k'⟩:=x;cases y with
  |s t=>
   simp only [xR,aD];split
   ·rename_i h2;subst h2;simp [eN]
   ·exact ih
  |t t i=>
   simp only [xR,aD];split
   ·rename_i h2;subst h2;simp [eN]
   ·exact ih
  |b e o=>
   simp only [xR];split
   ·rename_i h2;rw [ih];simp only [aD];split
    ·rfl
    ·rename_i h3;rw [if_neg];intro e';subst e';obtain ⟨rfl,h4,h5⟩:=h2;exact h3 (by simp [eN,Nat.ble_eq,Nat.blt_eq,h4,h5])
   ·rename_i h2;simp only [aD,ih];split
    ·rename_i h3;subst h3;rw [if_neg];intro h4;simp only [eN,aE,bP,Nat.ble_eq,Nat.blt_eq] at h4;exact h2 ⟨h4.1.1,h4.1.2,h4.2⟩
    ·rfl

def Pe (d:Nat) (s:Option X) (v:AV) (k:Nat):Dl:=match s with
 |some (.s t)=> .mo d t v k
 |_=> .puto d v k
theorem GZ (d:Nat) (s:Option X) (v:AV) (k:Nat) (σ:St):(Pe d s v k).ap σ=A9 d s v k σ:=by
 cases s with
 |none=>rfl
 |some x=>cases x<;>rfl
def Dl.fits (δ:Dl) (σ:St):Prop:=
 match δ with
 | .st d _ _ _=>(aw σ.bx d).isSome
 | .so d _ _ _ _=>(aw σ.bx d).isSome
 | .call _ _ I O=>(∀p∈I.bx,(aw O.bx p.1).isSome)∧(∀p∈I.pm,p.1.isB=true)∧(∀p∈O.pm,p.1.isB=true)
 |_=>True
theorem lO: ∀ {l:List (Id×List AV)} {i:Id},(aw l i).isSome→ ∃cs,(i,cs)∈l:=by
 intro l i h;obtain ⟨cs,hcs⟩:=iT.1 h;exact ⟨cs,cM _ _ _ hcs⟩
theorem qa: ∀(r:List (Id×List AV)) (l:List (Pl×Nat)) (p:Pl),aD (kJ l r) p=match p with | .b e _=>if (aw r e).isSome then none else aD l p|_=>aD l p
 |[],l,p=>by cases p<;>simp [kJ,aw]
 |(d,c)::r,l,p=>by
  simp only [kJ];rw [qa r];cases p with
  |s t=>simp only [lK]
  |t t i=>simp only [lK]
  |b e o=>
   simp only [lK,aw];by_cases h:d=e
   ·subst h;simp
   ·have h': ¬e=d:=fun q=>h q.symm
    simp [h,h']
theorem yX (xs:List X): ∀(r l:List (Pl×Nat)),(∀p∈r,p.1.isB=true)→jf xs l r=l
 |[],l,_=>rfl
 |(.b e o,k)::r,l,h=>by
  simp only [jf];exact yX xs r l fun p hp=>h p (List.mem_cons_of_mem _ hp)
 |(.s t,k)::r,l,h=>by have:=h _ (List.mem_cons_self ..);cases this
 |(.t t i,k)::r,l,h=>by have:=h _ (List.mem_cons_self ..);cases this
theorem yY (d:Nat): ∀(l:List (Pl×Nat)),(∀p∈l,p.1.isB=true)→kK d l=l
 |[],_=>rfl
 |(.b e o,k)::r,h=>by
  simp only [kK];rw [yY d r fun p hp=>h p (List.mem_cons_of_mem _ hp)]
 |(.s t,k)::r,h=>by have:=h _ (List.mem_cons_self ..);cases this
 |(.t t i,k)::r,h=>by have:=h _ (List.mem_cons_self ..);cases this
theorem Dr: ∀ {l:List (Pl×Nat)} {p:Pl} {k:Nat},(∀p∈l,p.1.isB=true)→aD l p=some k→p.isB=true
 |[],p,k,_,h=>by simp [aD] at h
 |(q,k0)::r,p,k,hb,h=>by
  simp only [aD] at h;split at h
  ·rename_i e;subst e;exact hb _ (List.mem_cons_self ..)
  ·exact Dr (fun p hp=>hb p (List.mem_cons_of_mem _ hp)) h
theorem r8: ∀ {l:List (Id×List AV)} {p:Id×List AV},p∈l→(aw l p.1).isSome
 |(k,v)::r,p,h=>by
  simp only [aw];split
  ·rfl
  ·rename_i e;rcases jU.1 h with h|h
   ·exact absurd (by rw [h]) e
   ·exact r8 h
theorem MH {p:Pl} {d:Nat} (h:p.isB=true):p.at d=false:=by cases p<;>simp_all [Pl.isB,Pl.at]
theorem Ds {δ:Dl} {σ:St} (h:δ.fits σ):cw (δ.ap σ)=δ.app (cw σ):=by
 apply LS.ext'
 ·intro t;cases δ<;>simp [cw,Dl.ap,Dl.app,Dl.e?,St.put,St.puto,bm,lk]
 ·intro t;cases δ<;>simp only [cw,Dl.ap,Dl.app,Dl.b?,St.put,St.puto,aw]
  case box d cs=>by_cases e:Id.n d=t<;>simp [e]
  case call d xs I O=>
   simp only [Dl.fits] at h;simp only [bm,ii,jB];cases h1:aw O.bx t with
   |some c=>rfl
   |none=>
    simp only [];rw [if_neg];intro h2;obtain ⟨cs,hm⟩:=lO h2
    have:=h.1 _ hm
    rw [h1] at this;cases this
  case st d off n cs=>
   simp only [Dl.fits] at h;rw [nL t h];by_cases e:d=t
   ·subst e;simp
   ·have e': ¬t=d:=fun q=>e q.symm
    simp [e,e']
  case so d off s' cs k=>
   simp only [Dl.fits] at h;rw [nL t h];by_cases e:d=t
   ·subst e;simp
   ·have e': ¬t=d:=fun q=>e q.symm
    simp [e,e']
 ·intro p;have e1: ∀q:Pl,(q=p)=(p=q):=fun q=>propext ⟨fun e=>e.symm,fun e=>e.symm⟩
  cases δ<;>simp only [cw,Dl.ap,Dl.app,Dl.m?,St.put,St.puto,aD,jg,jW,Bt,Br,e1]
  case put d v=>by_cases h1:p.at d=true<;>simp [h1]
  case puto d v k=>by_cases h0:p= .s d<;>by_cases h1:p.at d=true<;>simp [h0,h1]
  case mo d s' v k=>
   by_cases h0:p= .s d
   ·simp [h0]
   ·by_cases h1:p.at d=true
    ·simp [h0,h1]
    ·by_cases h2:p= .s s'
     ·simp only [if_neg h0,if_neg h1,if_pos h2]
     ·simp only [if_neg h0,if_neg h1,if_neg h2]
  case box d cs=>by_cases h1:p.at d=true<;>simp [h1]
  case st d off n cs=>by_cases h1:eN d off n p=true<;>simp [h1]
  case lo d b off v k=>by_cases h0:p= .s d<;>by_cases h1:p.at d=true<;>by_cases h2:p= .b b off<;>simp [h0,h1,h2]
  case rdc d b v=>by_cases h1:p.at d=true<;>by_cases h2:Dq b p=true<;>simp [h1,h2]
  case call d xs I O=>
   simp only [Dl.fits] at h;obtain ⟨h1,h2,h3⟩:=h;simp only [bm,Do,yX _ _ _ h2,yY _ _ h3,jW,qa];cases h4:aD O.pm p with
   |some k=>
    have:=MH (d:=d) (Dr h3 h4)
    simp [this]
   |none=>
    by_cases h5:p.at d=true
    ·simp [h5]
    ·simp only [if_neg h5];cases p with
     |s t=>rfl
     |t t i=>rfl
     |b e o=>by_cases h6:(aw I.bx e).isSome<;>simp [h6]
  case so d off s' cs k=>by_cases h0:p= .b d off<;>by_cases h2:p= .s s'<;>simp [h0,h2]

section
variable (S:Nat→Nat→In→cK→Prop)
def gv:bz→(Dl→Prop)→St→Prop
 | .mo d s,K,σ=>match aD σ.pm (.s s) with
  |some k=>K (.mo d s (lk σ.e s) k)
  |none=>K (.put d (lk σ.e s))
 | .al d z,K,σ=>match aw σ.bx (.n d) with
  |none=>K (.box d z)
  |some _=>False
 | .alT d T off z,K,σ=>match aw σ.bx (.n d) with
  |none=>K (.box d (z.set off (.nilT (.n d) T z.length)))
  |some _=>False
 | .bx d x,K,σ=>match aw σ.bx (.n d) with
  |none=>match (σ.v x).cs with
   |some cs=>K (.box d cs)
   |none=>False
  |some _=>False
 | .bs d sz ps,K,σ=>match je σ sz ps with
  |some rows=>K (.puto d (.sl rows) sz)
  |none=>False
 | .st n x v,K,σ=>match σ.v x with
  | .ptr d off=>match aw σ.bx d with
   |some cs=>match (σ.v v).cs with
    |some vs=>vs.length=n∧off+n≤cs.length∧K (.st d off n (gh cs off vs))
    |none=>False
   |none=>False
  |_=>False
 | .lo d x,K,σ=>match σ.v x with
  | .ptr b off=>match aw σ.bx b with
   |some cs=>match cs[off]? with
    |some v=>match aD σ.pm (.b b off) with
     |some k=>K (.lo d b off v k)
     |none=>K (.put d v)
    |none=>False
   |none=>False
  | .pin cs=>match cs[0]? with
   |some v=>K (.put d v)
   |none=>False
  |_=>False
 | .so x s,K,σ=>match σ.v x with
  | .ptr d off=>match aw σ.bx d with
   |some cs=>match aD σ.pm (.s s) with
    |some k=>off<cs.length∧K (.so d off s (cs.set off (lk σ.e s)) k)
    |none=>match (lk σ.e s).cs with
     |some vs=>vs.length=1∧off+1≤cs.length∧K (.st d off 1 (gh cs off vs))
     |none=>False
   |none=>False
  |_=>False
 | .ap d sz bytes s y,K,σ=>match dY (σ.v y) with
  |some (.sl news)=>(match σ.v s,s with
   | .sl rows,.s t=>aD σ.pm (.s t)=some sz∧(rows.length+news.length)*bytes≤l8∧(∀r∈rows,r.length=sz)∧(∀r∈news,r.length=sz)∧K (.mo d t (.sl (rows++news)) sz)
   | .nils,_=>news.length*bytes≤l8∧(∀r∈news,r.length=sz)∧K (.puto d (.sl news) sz)
   |_,_=>False)
  |_=>False
 | .mk _ _ _ _ _ _,_,_=>False
 | .sls d x lo hi,K,σ=>match σ.v x with
  | .str s=>match yH σ 0 lo,yH σ s.length hi with
   |some l,some h=>0≤l∧l≤h∧h≤s.length∧K (.put d (.str ((s.take h.toNat).drop l.toNat)))
   |_,_=>False
  |_=>False
 | .slc d sz x lo hi,K,σ=>match σ.v x with
  | .sl rows=>match yH σ 0 lo,yH σ rows.length hi with
   |some l,some h=>0≤l∧l≤h∧h≤rows.length∧(∀r∈rows,r.length=sz)∧K (.put d (.sl ((rows.take h.toNat).drop l.toNat)))
   |_,_=>False
  |_=>False
 | .cl d f xs,K,σ=>match jv (xs.map σ.v) with
  |some l=> ∃r,rL S f l r∧K (.put d r)
  |none=>False
 | .cr _ _ _,_,_=>False
 | .cq d f xs fr,K,σ=> ∃I O,S f d I O∧dt d σ xs I O∧(JT fr I O∧fr.contains d=false)∧K (.call d xs I O)
 | .gd s b d o,K,σ=>match JU (lk σ.e s) b with
  |some true=>gv o K σ
  |some false=>K (.put d (.tup []))
  |none=>False
 | .ca d f s ps,K,σ=> ∃k out,JV S f σ s ps k out∧K (Pe d s (.sl out) k)
 | .ce _ _ _,_,_=>False
 | .cd _ _ _,_,_=>False
 | .apm _ _ _ _ _,_,_=>False
 | .mkm _ _ _ _ _ _,_,_=>False
 | .bsm _ _ _,_,_=>False
 | .bsn _ _ _,_,_=>False
 | .rs _ _,_,_=>False
 | .nx _ _,_,_=>False
 | .s2b _ _,_,_=>False
 | .aps _ _ _,_,_=>False
 | .ex _ _ _,_,_=>False
 | .sla _ _ _ _ _,_,_=>False
 | .b2s _ _,_,_=>False
 | .i2s _ _,_,_=>False
 | .inl _ _ _,_,_=>False
 | .mkp _,_,_=>False
 | .mpl _ _,_,_=>False
 | .mpe _ _ _ _ _,_,_=>False
 | .mes _ _ _,_,_=>False
 | .mup _ _ _ _,_,_=>False
 | .clr _ _ _,_,_=>False
 | .trm _ _ _ _,_,_=>False
 |o,K,σ=>match ev σ o with
  |some (d,v)=>K (.put d v)
  |none=>False
end
variable {Sp:Nat→Nat→In→cK→Prop}
def P6:bz→Bool
 | .ce _ _ _| .cd _ _ _| .apm _ _ _ _ _| .mkm _ _ _ _ _ _| .bsn _ _ _| .bsm _ _ _| .rs _ _| .nx _ _| .s2b _ _| .aps _ _ _| .ex _ _ _| .sla _ _ _ _ _| .b2s _ _| .i2s _ _| .inl _ _ _| .mkp _| .mpl _ _| .mpe _ _ _ _ _| .mes _ _ _| .mup _ _ _ _| .clr _ _ _| .trm _ _ _ _| .bxT _ _ _ _=>false
 | .gd _ _ _ o=>P6 o
 |_=>true

theorem J3: ∀ {o:bz} {K:St→Prop} {σ:St},gv Sp o (fun δ=>K (δ.ap σ)) σ→bD Sp o K σ:=by
 intro o;induction o with
 |gd s b d o ih=>
  intro K σ h;simp only [gv] at h;simp only [bD];split at h
  ·rename_i e;rw [e];exact ih h
  ·rename_i e;rw [e];exact h
  ·cases h
 |ce|cd|apm|mkm|bsn|bsm|rs|nx|s2b|aps|ex|sla|b2s|i2s|inl|mkp|mpl|mpe|mes|mup|bxT|clr|trm=>intro K σ h;exact (h:False).elim
 |ca d f s ps=>intro K σ h;simp only [gv,GZ] at h;exact h
 |_=>intro K σ h;exact h
theorem J4: ∀ {o:bz} {K:St→Prop} {σ:St},P6 o=true→bD Sp o K σ→gv Sp o (fun δ=>K (δ.ap σ)) σ:=by
 intro o;induction o with
 |gd s b d o ih=>
  intro K σ hok h;simp only [bD] at h;simp only [gv];split at h
  ·rename_i e;rw [e];exact ih hok h
  ·rename_i e;rw [e];exact h
  ·cases h
 |ce|cd|apm|mkm|bsn|bsm|rs|nx|s2b|aps|ex|sla|b2s|i2s|inl|mkp|mpl|mpe|mes|mup|bxT|clr|trm=>intro K σ hok h;cases hok
 |ca d f s ps=>intro K σ hok h;simp only [gv,GZ];exact h
 |_=>intro K σ hok h;exact h

theorem J5: ∀ {o:bz} {K:Dl→Prop} {σ:St},gv Sp o K σ→ ∃δ,gv Sp o (· =δ) σ∧K δ:=by
 intro o;induction o with
 |ce|cd|apm|mkm|bsn|bsm|rs|nx|s2b|aps|ex|sla|b2s|i2s|inl|mkp|mpl|mpe|mes|mup|bxT|clr|trm=>intro K σ h;exact (h:False).elim
 |gd s b d o ih=>
  intro K σ h;simp only [gv] at h ⊢;split at h
  ·obtain ⟨δ,h1,h2⟩:=ih h;exact ⟨δ,h1,h2⟩
  ·exact ⟨_,rfl,h⟩
  ·cases h
 |ca d f s ps=>intro K σ h;obtain ⟨k,out,h1,h2⟩:=h;exact ⟨_,⟨k,out,h1,rfl⟩,h2⟩
 |cq d f ps fr=>intro K σ h;obtain ⟨I,O,h1,h2,h3,h4⟩:=h;exact ⟨_,⟨I,O,h1,h2,h3,rfl⟩,h4⟩
 |_=>
  intro K σ h;simp only [gv] at h ⊢;repeat' (first|(split at h)|contradiction)
  all_goals first
   |exact ⟨_,rfl,h⟩
   |(obtain ⟨h1,h2⟩:=h;exact ⟨_,⟨h1,rfl⟩,h2⟩)
   |(obtain ⟨h1,h2,h3⟩:=h;exact ⟨_,⟨h1,h2,rfl⟩,h3⟩)
   |(obtain ⟨h1,h2,h3,h4⟩:=h;exact ⟨_,⟨h1,h2,h3,rfl⟩,h4⟩)
   |(obtain ⟨h1,h2,h3,h4,h5⟩:=h;exact ⟨_,⟨h1,h2,h3,h4,rfl⟩,h5⟩)
   |(obtain ⟨r,h1,h2⟩:=h;exact ⟨_,⟨r,h1,rfl⟩,h2⟩)

theorem EU {K':Dl→Prop} {δ:Dl} (hk:K' δ): ∀ {o:bz} {σ:St},gv Sp o (· =δ) σ→gv Sp o K' σ:=by
 intro o;induction o with
 |ce|cd|apm|mkm|bsn|bsm|rs|nx|s2b|aps|ex|sla|b2s|i2s|inl|mkp|mpl|mpe|mes|mup|bxT|clr|trm=>intro σ h;exact (h:False).elim
 |gd s b d o ih=>
  intro σ h;simp only [gv] at h ⊢;split at h
  ·exact ih h
  ·rw [h];exact hk
  ·cases h
 |ca d f s ps=>intro σ h;obtain ⟨k,out,h1,h2⟩:=h;exact ⟨k,out,h1,by rw [h2];exact hk⟩
 |cq d f ps fr=>intro σ h;obtain ⟨I,O,h1,h2,h3,h4⟩:=h;exact ⟨I,O,h1,h2,h3,by rw [h4];exact hk⟩
 |_=>
  intro σ h;simp only [gv] at h ⊢;repeat' (first|(split at h)|contradiction)
  all_goals first
   |(rw [h];exact hk)
   |(obtain ⟨g1,g2⟩:=h;exact ⟨g1,by rw [g2];exact hk⟩)
   |(obtain ⟨g1,g2,g3⟩:=h;exact ⟨g1,g2,by rw [g3];exact hk⟩)
   |(obtain ⟨g1,g2,g3,g4⟩:=h;exact ⟨g1,g2,g3,by rw [g4];exact hk⟩)
   |(obtain ⟨g1,g2,g3,g4,g5⟩:=h;exact ⟨g1,g2,g3,g4,by rw [g5];exact hk⟩)

def wC (σ:St):bz→List Pl
 | .mo _ s=>[.s s]
 | .ap _ _ _ (.s t) _=>[.s t]
 | .ca _ _ (some (.s t)) _=>[.s t]
 | .lo _ x=>match σ.v x with | .ptr b off=>[.b b off]|_=>[]
 | .so _ s=>[.s s]
 | .gd s b _ o=>match lk σ.e s with
  | .bool t=>if t=b then wC σ o else []
  |_=>[]
 |_=>[]

def fV:bz→Nat
 | .lds _ _| .ldf _ _| .lda _ _ _| .mlk _ _ _ _ _ _=>1
 | .st _ _ _| .lo _ _| .so _ _| .al _ _| .alT _ _ _ _| .bx _ _| .cr _ _ _| .cq _ _ _ _=>2
 | .gd _ _ _ o=>fV o
 |_=>0

structure P7 (o:bz) (σ τ:St):Prop where
 e: ∀t∈dz o,lk σ.e t=lk τ.e t
 t: ∀b,gH (ft σ o) b→aw σ.bx b=aw τ.bx b
 p: ∀p∈wC σ o,aD σ.pm p=aD τ.pm p
 q: ∀b off,gH (ft σ o) b→fV o=2→aD σ.pm (.b b off)=aD τ.pm (.b b off)
 c: ∀x,ft σ o=some x→x.kept τ
theorem P7.b {o:bz} {σ τ:St} (h:P7 o σ τ): ∀b,ft σ o=some (.one b)→aw σ.bx b=aw τ.bx b:=fun b hb=>h.t b (by rw [hb];rfl)

theorem ef {σ τ:St} {x:X} (h: ∀t∈xs x,lk σ.e t=lk τ.e t):σ.v x=τ.v x:=by
 cases x with
 |s t=>exact h t (by simp [xs])
 |c v=>rfl
theorem qW {σ τ:St} {n:Nat} {x:Option X} (h: ∀t∈ox x,lk σ.e t=lk τ.e t):yH σ n x=yH τ n x:=by
 cases x with
 |none=>rfl
 |some x=>simp only [yH];rw [ef h]
theorem vf {σ τ:St}: ∀ {ps:List (Nat×Nat×X)} {z:List AV},(∀t∈ps.flatMap (fun p=>xs p.2.2),lk σ.e t=lk τ.e t)→jV σ ps z=jV τ ps z
 |[],_,_=>rfl
 |(off,n,x)::r,z,h=>by
  simp only [List.flatMap_cons,iB] at h;simp only [jV];rw [ef (σ:=σ) (τ:=τ) (x:=x) (fun t ht=>h t (.inl ht))];split
  ·split
   ·exact vf (fun t ht=>h t (.inr ht))
   ·rfl
  ·rfl
theorem yZ {σ τ:St} {sz:Nat}: ∀ {ps:List X},(∀t∈ps.flatMap xs,lk σ.e t=lk τ.e t)→je σ sz ps=je τ sz ps
 |[],_=>rfl
 |x::r,h=>by
  simp only [List.flatMap_cons,iB] at h;simp only [je];rw [ef (σ:=σ) (τ:=τ) (x:=x) (fun t ht=>h t (.inl ht)),yZ (fun t ht=>h t (.inr ht))]
theorem nQ {σ τ:St}: ∀ {ps:List X},(∀t∈ps.flatMap xs,lk σ.e t=lk τ.e t)→ps.map σ.v=ps.map τ.v
 |[],_=>rfl
 |x::r,h=>by
  simp only [List.flatMap_cons,iB] at h;simp only [iP];rw [ef (σ:=σ) (τ:=τ) (x:=x) (fun t ht=>h t (.inl ht)),nQ (fun t ht=>h t (.inr ht))]

theorem J6 {K:Dl→Prop}: ∀ {o:bz} {σ τ:St},P7 o σ τ→gv Sp o K σ→gv Sp o K τ:=by
 intro o;induction o with
 |ce|cd|apm|mkm|bsn|bsm|rs|nx|s2b|aps|ex|sla|b2s|i2s|inl|mkp|mpl|mpe|mes|mup|bxT|clr|trm=>intro σ τ ha h;exact (h:False).elim
 |mf d f ps=>
  intro σ τ ha h;simp only [gv,ev] at h ⊢;rw [←nQ ha.e];exact h
 |gd s b d o ih=>
  intro σ τ ha h;have h1:=ha.e;simp only [dz,jU,forall_eq_or_imp] at h1;simp only [gv] at h ⊢;rw [←h1.1];split at h
  ·rename_i e;have ht:=nG e;have hbi:ft σ (.gd s b d o)=ft σ o:=by simp only [ft,ht,if_true]
   exact ih ⟨h1.2,fun b' hb=>ha.t b' (by rw [hbi];exact hb),fun p hp=>ha.p p (by simp only [wC,ht,if_true];exact hp),fun b' off hb h2=>ha.q b' off (by rw [hbi];exact hb) h2,fun x hx=>ha.c x (by rw [hbi];exact hx)⟩ h
  ·exact h
  ·cases h
 |mo d s=>
  intro σ τ ha h;have h1:=ha.e s (by simp [dz]);have h2:=ha.p (.s s) (by simp [wC]);simp only [gv] at h ⊢;rw [←h2,←h1];exact h
 |al d z=>
  intro σ τ ha h;have h2:=ha.b (.n d) rfl;simp only [gv] at h ⊢;rw [←h2];exact h
 |alT d T off z=>
  intro σ τ ha h;have h2:=ha.b (.n d) rfl;simp only [gv] at h ⊢;rw [←h2];exact h
 |bx d x=>
  intro σ τ ha h;have h2:=ha.b (.n d) rfl;have h1:=ef (σ:=σ) (τ:=τ) (x:=x) ha.e;simp only [gv] at h ⊢;rw [←h2,←h1];exact h
 |bs d sz ps=>
  intro σ τ ha h;simp only [gv] at h ⊢;rw [←yZ ha.e];exact h
 |st n x v=>
  intro σ τ ha h;have h0:=ha.e;simp only [dz,iB] at h0;have h1:=ef (σ:=σ) (τ:=τ) (x:=x) (fun t ht=>h0 t (.inl ht));have h2:=ef (σ:=σ) (τ:=τ) (x:=v) (fun t ht=>h0 t (.inr ht));simp only [gv] at h ⊢;rw [←h1,←h2];split at h
  ·rename_i d off hx;have h3:=ha.b d (by simp only [ft,hx]);rw [←h3];exact h
  ·cases h
 |lo d x=>
  intro σ τ ha h;have h1:=ef (σ:=σ) (τ:=τ) (x:=x) ha.e;simp only [gv] at h ⊢;rw [←h1];split at h
  ·rename_i b off hx;have h3:=ha.b b (by simp only [ft,hx]);have h4:=ha.p (.b b off) (by simp [wC,hx]);rw [←h3,←h4];exact h
  ·exact h
  ·cases h
 |so x s=>
  intro σ τ ha h;have h0:=ha.e;simp only [dz,iB] at h0;have h1:=ef (σ:=σ) (τ:=τ) (x:=x) (fun t ht=>h0 t (.inl ht));have h2:=h0 s (by simp);simp only [gv] at h ⊢;rw [←h1,←h2];split at h
  ·rename_i b off hx;have h3:=ha.b b (by simp only [ft,hx]);have h4:=ha.p (.s s) (by simp [wC]);rw [←h3,←h4];exact h
  ·cases h
 |ap d sz by_ s y=>
  intro σ τ ha h;have h0:=ha.e;simp only [dz,iB] at h0;have h1:=ef (σ:=σ) (τ:=τ) (x:=s) (fun t ht=>h0 t (.inl ht));have h2:=ef (σ:=σ) (τ:=τ) (x:=y) (fun t ht=>h0 t (.inr ht));simp only [gv] at h ⊢;rw [←h1,←h2];cases s with
  |s t=>
   have h4:=ha.p (.s t) (by simp [wC]);split at h
   ·split at h
    ·rename_i rows t' hrows he;cases he;exact ⟨h4▸h.1,h.2⟩
    ·exact h
    ·cases h
   ·cases h
  |c v=>
   split at h
   ·split at h
    ·rename_i he;cases he
    ·exact h
    ·cases h
   ·cases h
 |ca d f s ps=>
  intro σ τ ha h;obtain ⟨k,out,h1,h2⟩:=h;refine ⟨k,out,?_,h2⟩;have h0:=ha.e;simp only [dz,iB] at h0;have hm:ps.map σ.v=ps.map τ.v:=nQ (fun t ht=>h0 t (.inr ht));cases s with
  |none=>simp only [JV] at h1 ⊢;rw [←hm];exact h1
  |some x=>
   cases x with
   |c v=>simp only [JV] at h1 ⊢;rw [←hm];exact h1
   |s t=>
    have e1:=h0 t (.inl (by simp [xs]));have e2:=ha.p (.s t) (by simp [wC]);simp only [JV] at h1 ⊢;rw [←hm,←e1,←e2];exact h1
 |mk d sz by_ z l c=>intro _ _ _ h;exact (show False from h).elim
 |sls d x l hh=>
  intro σ τ ha h;have h0:=ha.e;simp only [dz,iB] at h0;simp only [gv] at h ⊢;rw [←ef (σ:=σ) (τ:=τ) (x:=x) (fun t ht=>h0 t (.inl ht))];split at h
  ·rename_i s hs;rw [←qW (σ:=σ) (τ:=τ) (x:=l) (fun t ht=>h0 t (.inr (.inl ht))),←qW (σ:=σ) (τ:=τ) (x:=hh) (fun t ht=>h0 t (.inr (.inr ht)))];exact h
  ·cases h
 |slc d sz x l hh=>
  intro σ τ ha h;have h0:=ha.e;simp only [dz,iB] at h0;simp only [gv] at h ⊢;rw [←ef (σ:=σ) (τ:=τ) (x:=x) (fun t ht=>h0 t (.inl ht))];split at h
  ·rename_i s hs;rw [←qW (σ:=σ) (τ:=τ) (x:=l) (fun t ht=>h0 t (.inr (.inl ht))),←qW (σ:=σ) (τ:=τ) (x:=hh) (fun t ht=>h0 t (.inr (.inr ht)))];exact h
  ·cases h
 |cl d f ps=>
  intro σ τ ha h;simp only [gv] at h ⊢;rw [←nQ ha.e];exact h
 |cr d f ps=>intro _ _ _ h;exact (show False from h).elim
 |cq d f ps fr=>
  intro σ τ ha h;have hm:ps.map σ.v=ps.map τ.v:=nQ ha.e;obtain ⟨I,O,c1,c2,⟨c3,c5⟩,c4⟩:=h;have hb: ∀i,Gr fr i=false→aw σ.bx i=aw τ.bx i:=fun i hi=>ha.t i hi
  have hp: ∀i off,Gr fr i=false→aD σ.pm (.b i off)=aD τ.pm (.b i off):=fun i off hi=>ha.q i off hi rfl
  have hI: ∀p∈I.bx,Gr fr p.1=false:=fun p hp=>by
   obtain ⟨cs,hcs⟩:=lO (c2.kept p hp);exact c3.fo (p.1,cs) hcs
  refine ⟨I,O,c1,⟨by rw [←hm];exact c2.vs,fun p hp=>?_,fun p hpm=>?_,c2.one,c2.kept,c2.new,fun p hpm=>?_⟩,⟨c3,c5⟩,c4⟩
  ·have:=c2.bx p hp
   unfold Gq at this ⊢;rw [←hb _ (hI p hp)];exact this
  ·have h1:=c2.pm p hpm;have h2:=c3.ip p hpm;obtain ⟨q,k⟩:=p;cases q with
   |s t=>cases h2
   |t t i=>cases h2
   |b e off=>
    simp only [um,kQ] at h1 ⊢;obtain ⟨cs,hcs⟩:=lO h1.1;have hf:=hI _ hcs;rw [←hb _ hf,←hp _ _ hf];exact h1
  ·cases hn:p.1.isNw d with
   |false=>rfl
   |true=>
    exfalso;have hf:Gr fr p.1=false:=by
     cases h0:p.1<;>rw [h0] at hn<;>first|(simp [Id.isNw] at hn;done)|skip
     simp only [Id.isNw,aE,bP] at hn;simp only [Gr,hn.1,c5]
    have hs:(aw τ.bx p.1).isSome:=r8 hpm;rw [←hb _ hf] at hs;obtain ⟨cs,hcs⟩:=lO hs
    have:=c2.free _ hcs
    simp only at this;rw [hn] at this;cases this
 |lds d x=>
  intro σ τ ha h;have h1:=ef (σ:=σ) (τ:=τ) (x:=x) ha.e;simp only [gv,ev] at h ⊢;rw [←h1];cases hx:σ.v x<;>rw [hx] at h<;>simp only [fb] at h ⊢ <;>try exact h
  rename_i b off;have h3:=ha.b b (by simp only [ft,hx]);rw [←h3];exact h
 |ldf d x=>
  intro σ τ ha h;have h1:=ef (σ:=σ) (τ:=τ) (x:=x) ha.e;simp only [gv,ev] at h ⊢;rw [←h1];cases hx:σ.v x<;>rw [hx] at h<;>try exact h
  rename_i b off;cases hl:fb σ.bx (.ptr b off) with
  |none=>rw [hl] at h;cases h
  |some v=>
   have h3:=ha.c (.cel b off v) (by simp only [ft,hx,hl]);simp only [Bx.kept] at h3;rw [hl] at h;rw [h3];exact h
 |lda d n x=>
  intro σ τ ha h;have h1:=ef (σ:=σ) (τ:=τ) (x:=x) ha.e;simp only [gv,ev] at h ⊢;rw [←h1];cases hx:σ.v x<;>rw [hx] at h<;>simp only [uP] at h ⊢ <;>try exact h
  rename_i b off;have h3:=ha.b b (by simp only [ft,hx]);rw [←h3];exact h
 |mlk d q z m k ok=>
  intro σ τ ha h;have h0:=ha.e;simp only [dz,iB] at h0;have h1:=ef (σ:=σ) (τ:=τ) (x:=m) (fun t ht=>h0 t (.inl ht));have h2:=ef (σ:=σ) (τ:=τ) (x:=k) (fun t ht=>h0 t (.inr ht));simp only [gv,ev] at h ⊢;rw [←h1,←h2];cases hx:σ.v m<;>rw [hx] at h<;>simp only [Di] at h ⊢ <;>try exact h
  rename_i b;have h3:=ha.b b (by simp only [ft,hx]);rw [←h3];exact h
 |bd d z ps=>
  intro σ τ ha h;simp only [gv,ev] at h ⊢;rw [←vf ha.e];exact h
 |pk d c x y=>
  intro σ τ ha h;have h0:=ha.e;simp only [dz,iB] at h0;simp only [gv,ev] at h ⊢;rw [←ef (σ:=σ) (τ:=τ) (x:=c) (fun t ht=>h0 t (.inl ht)),←ef (σ:=σ) (τ:=τ) (x:=x) (fun t ht=>h0 t (.inr (.inl ht))),←ef (σ:=σ) (τ:=τ) (x:=y) (fun t ht=>h0 t (.inr (.inr ht)))];exact h
 |no=>intro σ τ ha h;exact h
 |mv|un|pn|bq|cv|ln|lns|fa|fls|fla|exq|nc|mi|ta=>
  intro σ τ ha h;have h1:=ef (σ:=σ) (τ:=τ) ha.e;simp only [gv,ev] at h ⊢;rw [←h1];exact h
 |bi|bb|ea|ia|iaa|ixs|ixa|mn|mx=>
  intro σ τ ha h;have h0:=ha.e;simp only [dz,iB] at h0;have h1:=ef (σ:=σ) (τ:=τ) (fun t ht=>h0 t (.inl ht));have h2:=ef (σ:=σ) (τ:=τ) (fun t ht=>h0 t (.inr ht));simp only [gv,ev] at h ⊢;rw [←h1,←h2];exact h

def gV:bz→Option Nat
 | .mo _ s=>some s
 | .so _ s=>some s
 | .ap _ _ _ (.s t) _=>some t
 | .ca _ _ (some (.s t)) _=>some t
 | .gd _ _ _ o=>gV o
 |_=>none
theorem MI {σ:St} {o:bz} {d:Nat} {v:AV} (h:ev σ o=some (d,v)):dN o=some d:=by
 cases o<;>simp only [ev] at h<;>(try cases h)<;>(repeat' (first|(split at h)|contradiction))<;>simp_all [dN]

structure Pf (o:bz) (σ:St) (δ:Dl):Prop where
 e: ∀d v,δ.e?=some (d,v)→dN o=some d
 b: ∀d cs,δ.b? d=some cs→gH (ft σ o) d∧fV o=2
 m: ∀p x,δ.m? p=some x→(∃d,p.at d=true∧dN o=some d)∨(∃s,p= .s s∧gV o=some s)∨(∃b off,p= .b b off∧gH (ft σ o) b∧fV o=2)
 f:δ.fits σ

def JH:bz→Bool
 | .gd _ _ d o=>dN o==some d&&JH o
 |o=>P6 o

theorem iX {o:bz} {σ:St} {d:Nat} {v:AV} (h:dN o=some d):Pf o σ (.put d v):=
 ⟨fun _ _ e=>by simp only [Dl.e?,cC,iQ] at e;rw [h,e.1],fun _ _ e=>by simp [Dl.b?] at e,
  fun p x e=>by
   simp only [Dl.m?] at e;split at e
   ·rename_i h0;exact .inl ⟨d,h0,h⟩
   ·exact absurd e (by simp),trivial⟩
theorem r9 {o:bz} {σ:St} {d k:Nat} {v:AV} (h:dN o=some d):Pf o σ (.puto d v k):=
 ⟨fun _ _ e=>by simp only [Dl.e?,cC,iQ] at e;rw [h,e.1],fun _ _ e=>by simp [Dl.b?] at e,
  fun p x e=>by
   simp only [Dl.m?] at e;split at e
   ·rename_i h0;exact .inl ⟨d,by rw [h0];simp [Pl.at],h⟩
   ·split at e
    ·rename_i h0;exact .inl ⟨d,h0,h⟩
    ·exact absurd e (by simp),trivial⟩

theorem wD: ∀ {o:bz} {σ:St} {δ:Dl},JH o=true→gv Sp o (· =δ) σ→Pf o σ δ:=by
 intro o;induction o with
 |gd s b d o ih=>
  intro σ δ hok h;simp only [JH,aE,bP] at hok;simp only [gv] at h;split at h
  ·rename_i e;have ht:=nG e;obtain ⟨f1,f2,f3,f4⟩:=ih hok.2 h;refine ⟨fun d' v hd=>?_,fun d' cs hd=>?_,fun p x hp=>?_,f4⟩
   ·have:=f1 d' v hd;simp only [dN];rw [if_pos hok.1,←hok.1];exact this
   ·simpa [ft,ht,fV] using f2 d' cs hd
   ·rcases f3 p x hp with ⟨d',ha,h1⟩|⟨s',rfl,h1⟩|⟨b',off,rfl,h1,h2⟩
    ·left;refine ⟨d',ha,?_⟩;simp only [dN];rw [if_pos hok.1,←hok.1];exact h1
    ·right;left;exact ⟨s',rfl,by simpa [gV] using h1⟩
    ·right;right;exact ⟨b',off,rfl,by simpa [ft,ht] using h1,by simpa [fV] using h2⟩
  ·subst h;exact iX (by simp only [dN];rw [if_pos hok.1])
  ·cases h
 |mo d s=>
  intro σ δ _ h;simp only [gv] at h;split at h
  ·subst h;exact ⟨fun _ _ e=>by simp [Dl.e?] at e;simp [dN,e.1],fun _ _ e=>by simp [Dl.b?] at e,fun p x e=>by
    simp only [Dl.m?] at e;split at e
    ·rename_i h0;left;exact ⟨d,by rw [h0];simp [Pl.at],rfl⟩
    ·split at e
     ·left;exact ⟨d,by assumption,rfl⟩
     ·split at e
      ·right;left;exact ⟨s,by assumption,rfl⟩
      ·exact absurd e (by simp),trivial⟩
  ·subst h;exact iX rfl
 |al d z=>
  intro σ δ _ h;simp only [gv] at h;split at h
  ·subst h;exact ⟨fun _ _ e=>by simp [Dl.e?] at e;simp [dN,e.1],fun _ _ e=>by simp [Dl.b?] at e;simp [ft,gH,Bx.tch,fV,e.1],fun p x e=>by
    simp only [Dl.m?] at e;split at e
    ·left;exact ⟨d,by assumption,rfl⟩
    ·exact absurd e (by simp),trivial⟩
  ·cases h
 |alT d T off z=>
  intro σ δ _ h;simp only [gv] at h;split at h
  ·subst h;exact ⟨fun _ _ e=>by simp [Dl.e?] at e;simp [dN,e.1],fun _ _ e=>by simp [Dl.b?] at e;simp [ft,gH,Bx.tch,fV,e.1],fun p x e=>by
    simp only [Dl.m?] at e;split at e
    ·left;exact ⟨d,by assumption,rfl⟩
    ·exact absurd e (by simp),trivial⟩
  ·cases h
 |bx d z=>
  intro σ δ _ h;simp only [gv] at h;split at h
  ·split at h
   ·subst h;exact ⟨fun _ _ e=>by simp [Dl.e?] at e;simp [dN,e.1],fun _ _ e=>by simp [Dl.b?] at e;simp [ft,gH,Bx.tch,fV,e.1],fun p x e=>by
     simp only [Dl.m?] at e;split at e
     ·left;exact ⟨d,by assumption,rfl⟩
     ·exact absurd e (by simp),trivial⟩
   ·cases h
  ·cases h
 |bs d sz ps=>
  intro σ δ _ h;simp only [gv] at h;split at h
  ·subst h;exact r9 rfl
  ·cases h
 |st n x v=>
  intro σ δ _ h;simp only [gv] at h;split at h
  ·rename_i d off hx;split at h
   ·rename_i cs hcs;split at h
    ·obtain ⟨_,_,h⟩:=h;subst h;refine ⟨fun _ _ e=>by simp [Dl.e?] at e,fun _ _ e=>by simp [Dl.b?] at e;simp [ft,gH,Bx.tch,fV,hx,e.1],fun p x e=>?_,by simp [Dl.fits,hcs]⟩;simp only [Dl.m?] at e;split at e
     ·rename_i hr;cases p with
      |s t=>simp [eN] at hr
      |t t i=>simp [eN] at hr
      |b b' o'=>
       simp only [eN,aE,bP] at hr;right;right;exact ⟨b',o',rfl,by simp [ft,gH,Bx.tch,hx,hr.1.1],rfl⟩
     ·cases e
    ·cases h
   ·cases h
  ·cases h
 |lo d x=>
  intro σ δ _ h;simp only [gv] at h;split at h
  ·rename_i b off hx;split at h
   ·split at h
    ·split at h
     ·subst h;exact ⟨fun _ _ e=>by simp [Dl.e?] at e;simp [dN,e.1],fun _ _ e=>by simp [Dl.b?] at e,fun p x e=>by
       simp only [Dl.m?] at e;split at e
       ·rename_i h0;left;exact ⟨d,by rw [h0];simp [Pl.at],rfl⟩
       ·split at e
        ·left;exact ⟨d,by assumption,rfl⟩
        ·split at e
         ·right;right;exact ⟨b,off,by assumption,by simp [ft,gH,Bx.tch,hx],rfl⟩
         ·exact absurd e (by simp),trivial⟩
     ·subst h;exact iX rfl
    ·cases h
   ·cases h
  ·split at h
   ·subst h;exact iX rfl
   ·cases h
  ·cases h
 |so x s=>
  intro σ δ _ h;simp only [gv] at h;split at h
  ·rename_i d off hx;split at h
   ·rename_i cs hcs;split at h
    ·rename_i k hk;obtain ⟨_,h⟩:=h;subst h;exact ⟨fun _ _ e=>by simp [Dl.e?] at e,fun _ _ e=>by simp [Dl.b?] at e;simp [ft,gH,Bx.tch,fV,hx,e.1],fun p x e=>by
      simp only [Dl.m?] at e;split at e
      ·right;right;exact ⟨d,off,by assumption,by simp [ft,gH,Bx.tch,hx],rfl⟩
      ·split at e
       ·right;left;exact ⟨_,by assumption,rfl⟩
       ·exact absurd e (by simp),by simp [Dl.fits,hcs]⟩
    ·split at h
     ·obtain ⟨_,_,h⟩:=h;subst h;refine ⟨fun _ _ e=>by simp [Dl.e?] at e,fun _ _ e=>by simp [Dl.b?] at e;simp [ft,gH,Bx.tch,fV,hx,e.1],fun p x e=>?_,by simp [Dl.fits,hcs]⟩;simp only [Dl.m?] at e;split at e
      ·rename_i hr;cases p with
       |s t=>simp [eN] at hr
       |t t i=>simp [eN] at hr
       |b b' o'=>
        simp only [eN,aE,bP] at hr;right;right;exact ⟨b',o',rfl,by simp [ft,gH,Bx.tch,hx,hr.1.1],rfl⟩
      ·cases e
     ·cases h
   ·cases h
  ·cases h
 |ap d sz by_ s y=>
  intro σ δ _ h;simp only [gv] at h;split at h
  ·split at h
   ·rename_i rows t hrows;obtain ⟨_,_,_,_,h⟩:=h;subst h;exact ⟨fun _ _ e=>by simp [Dl.e?] at e;simp [dN,e.1],fun _ _ e=>by simp [Dl.b?] at e,fun p x e=>by
     simp only [Dl.m?] at e;split at e
     ·rename_i h0;left;exact ⟨d,by rw [h0];simp [Pl.at],rfl⟩
     ·split at e
      ·left;exact ⟨d,by assumption,rfl⟩
      ·split at e
       ·right;left;exact ⟨_,by assumption,rfl⟩
       ·exact absurd e (by simp),trivial⟩
   ·obtain ⟨_,_,h⟩:=h;subst h;exact r9 rfl
   ·cases h
  ·cases h
 |ca d f s ps=>
  intro σ δ _ h;obtain ⟨k,out,_,h⟩:=h;have hp: ∀v,Pf (.ca d f s ps) σ (.puto d v k):=fun v=>r9 rfl
  cases s with
  |none=>subst h;exact hp _
  |some x=>
   cases x with
   |c v=>subst h;exact hp _
   |s t=>
    subst h;exact ⟨fun _ _ e=>by simp [Pe,Dl.e?] at e;simp [dN,e.1],fun _ _ e=>by simp [Pe,Dl.b?] at e,fun p x e=>by
     simp only [Pe,Dl.m?] at e;split at e
     ·rename_i h0;left;exact ⟨d,by rw [h0];simp [Pl.at],rfl⟩
     ·split at e
      ·left;exact ⟨d,by assumption,rfl⟩
      ·split at e
       ·right;left;exact ⟨_,by assumption,rfl⟩
       ·exact absurd e (by simp),trivial⟩
 |mk d sz by_ z l c=>intro _ _ _ h;exact (show False from h).elim
 |sls d x l hh=>
  intro σ δ _ h;simp only [gv] at h;split at h
  ·split at h
   ·obtain ⟨_,_,_,h⟩:=h;subst h;exact iX rfl
   ·cases h
  ·cases h
 |slc d sz x l hh=>
  intro σ δ _ h;simp only [gv] at h;split at h
  ·split at h
   ·obtain ⟨_,_,_,_,h⟩:=h;subst h;exact iX rfl
   ·cases h
  ·cases h
 |cl d f ps=>
  intro σ δ _ h;simp only [gv] at h;split at h
  ·obtain ⟨r,_,h⟩:=h;subst h;exact iX rfl
  ·cases h
 |cr d f ps=>intro _ _ _ h;exact (show False from h).elim
 |cq d f ps fr=>
  intro σ δ _ h;obtain ⟨I,O,c1,c2,⟨c3,c5⟩,h⟩:=h;subst h;have hI: ∀e,(aw I.bx e).isSome→Gr fr e=false:=fun e he=>by
   obtain ⟨cs,hcs⟩:=lO he;obtain ⟨cs',hcs'⟩:=lO (c2.kept _ hcs);exact c3.fo _ hcs'
  refine ⟨fun _ _ e=>by simp [Dl.e?] at e;simp [dN,e.1],fun i cs e=>?_,fun p x e=>?_,⟨c2.kept,c3.ip,fun p hp=>Pl.isF_isB (c3.op p hp)⟩⟩
  ·simp only [Dl.b?] at e;exact ⟨c3.fo _ (cM _ _ _ e),rfl⟩
  ·simp only [Dl.m?] at e;split at e
   ·left;exact ⟨d,by assumption,rfl⟩
   ·split at e
    ·rename_i k hk;have hb:=c3.op _ (eJ _ _ _ hk);cases p with
     |s t=>cases hb
     |t t i=>cases hb
     |b e' off=>
      right;right;exact ⟨e',off,rfl,by simpa [Pl.isF,gH,ft,Bx.tch] using hb,rfl⟩
    ·cases p with
     |s t=>cases e
     |t t i=>cases e
     |b e' off=>
      simp only at e;split at e
      ·rename_i he;right;right;exact ⟨e',off,rfl,hI _ he,rfl⟩
      ·cases e
 |ce|cd|apm|mkm|bsn|bsm|rs|nx|s2b|aps|ex|sla|b2s|i2s|inl|mkp|mpl|mpe|mes|mup|bxT|clr|trm=>intro σ δ _ h;exact (h:False).elim
 |_=>
  intro σ δ _ h;simp only [gv] at h;split at h
  ·rename_i he;subst h;exact iX (MI he)
  ·cases h

theorem J7: ∀ {o:bz} {σ:St},∀p∈wC σ o,(∃s,p= .s s∧gV o=some s)∨(∃b off,p= .b b off∧gH (ft σ o) b∧fV o=2):=by
 intro o;induction o with
 |gd s b d o ih=>
  intro σ p hp;simp only [wC] at hp;split at hp
  ·rename_i t ht;split at hp
   ·rename_i e;rcases ih p hp with ⟨s',rfl,h⟩|⟨b',off,rfl,h1,h2⟩
    ·left;exact ⟨s',rfl,by simpa [gV] using h⟩
    ·right;exact ⟨b',off,rfl,by simpa [ft,ht,e] using h1,by simpa [fV] using h2⟩
   ·simp at hp
  ·simp at hp
 |mo d s=>intro σ p hp;simp [wC] at hp;left;exact ⟨s,hp,rfl⟩
 |so x s=>intro σ p hp;simp [wC] at hp;left;exact ⟨s,hp,rfl⟩
 |ap d sz by_ s y=>
  intro σ p hp;cases s with
  |s t=>simp [wC] at hp;left;exact ⟨t,hp,rfl⟩
  |c v=>simp [wC] at hp
 |ca d f s ps=>
  intro σ p hp;cases s with
  |none=>simp [wC] at hp
  |some x=>
   cases x with
   |s t=>simp [wC] at hp;left;exact ⟨t,hp,rfl⟩
   |c v=>simp [wC] at hp
 |lo d x=>
  intro σ p hp;simp only [wC] at hp;split at hp
  ·rename_i b off hx;simp at hp;right;exact ⟨b,off,hp,by simp [ft,gH,Bx.tch,hx],rfl⟩
  ·simp at hp
 |_=>intro σ p hp;simp [wC] at hp
theorem nR: ∀ {o:bz} {s:Nat},gV o=some s→s∈dz o:=by
 intro o;induction o with
 |gd s b d o ih=>intro s' h;simp only [gV] at h;simp [dz,ih h]
 |mo d s=>intro s' h;simp [gV] at h;simp [dz,h]
 |so x s=>intro s' h;simp [gV] at h;simp [dz,h]
 |ap d sz by_ s y=>
  intro s' h;cases s with
  |s t=>simp [gV] at h;simp [dz,xs,h]
  |c v=>simp [gV] at h
 |ca d f s ps=>
  intro s' h;cases s with
  |none=>simp [gV] at h
  |some x=>
   cases x with
   |s t=>simp [gV] at h;simp [dz,xs,h]
   |c v=>simp [gV] at h
 |_=>intro s' h;simp [gV] at h
theorem Dt: ∀ {o:bz} {σ:St} {b:Bx},ft σ o=some b→fV o≠0:=by
 intro o;induction o with
 |gd s b d o ih=>
  intro σ b' h;simp only [ft] at h;split at h
  ·split at h
   ·simpa [fV] using ih h
   ·cases h
  ·cases h
 |_=>intro σ b h;first|(simp [fV];done)|simp [ft] at h

def gw (δs:Nat→Dl) (l:List Nat) (v:LS):LS:=l.foldl (fun v j=>(δs j).app v) v
theorem jD (δs:Nat→Dl) (l:List Nat) (j:Nat) (v:LS):gw δs (l++[j]) v=(δs j).app (gw δs l v):=by simp [gw]

def tE (t:Nat) (δ:Dl):Bool:=match δ.e? with |some (d,_)=>d==t|none=>false
def tB (b:Id) (δ:Dl):Bool:=(δ.b? b).isSome
def tM (p:Pl) (δ:Dl):Bool:=(δ.m? p).isSome

theorem wE (δs:Nat→Dl) (t:Nat): ∀(l:List Nat) (u v:LS),u.E t=v.E t→(gw δs l u).E t=(gw δs (l.filter fun j=>tE t (δs j)) v).E t:=by
 intro l;induction l with
 |nil=>intro u v h;exact h
 |cons j r ih=>
  intro u v h;simp only [gw,List.foldl_cons,List.filter_cons] at ih ⊢;by_cases ht:tE t (δs j)=true
  ·rw [if_pos ht,List.foldl_cons];refine ih _ _ ?_;simp only [Dl.app];simp only [tE] at ht;split at ht
   ·rename_i d x he;simp only [bP] at ht;simp [ht]
   ·cases ht
  ·rw [if_neg ht];refine ih _ _ ?_;rw [←h];simp only [Dl.app];split
   ·rename_i d x he;rw [if_neg];intro e;exact ht (by simp [tE,he,e])
   ·rfl
theorem pj (δs:Nat→Dl) (t:Id): ∀(l:List Nat) (u v:LS),u.B t=v.B t→(gw δs l u).B t=(gw δs (l.filter fun j=>tB t (δs j)) v).B t:=by
 intro l;induction l with
 |nil=>intro u v h;exact h
 |cons j r ih=>
  intro u v h;simp only [gw,List.foldl_cons,List.filter_cons] at ih ⊢;by_cases ht:tB t (δs j)=true
  ·rw [if_pos ht,List.foldl_cons];refine ih _ _ ?_;simp only [Dl.app];simp only [tB] at ht;obtain ⟨x,hx⟩:=iT.1 ht;rw [hx]
  ·rw [if_neg ht];refine ih _ _ ?_;rw [←h];simp only [Dl.app];split
   ·rename_i x he;exact absurd (by simp [tB,he]) ht
   ·rfl
theorem po (δs:Nat→Dl) (t:Pl): ∀(l:List Nat) (u v:LS),u.M t=v.M t→(gw δs l u).M t=(gw δs (l.filter fun j=>tM t (δs j)) v).M t:=by
 intro l;induction l with
 |nil=>intro u v h;exact h
 |cons j r ih=>
  intro u v h;simp only [gw,List.foldl_cons,List.filter_cons] at ih ⊢;by_cases ht:tM t (δs j)=true
  ·rw [if_pos ht,List.foldl_cons];refine ih _ _ ?_;simp only [Dl.app];simp only [tM] at ht;obtain ⟨x,hx⟩:=iT.1 ht;rw [hx]
  ·rw [if_neg ht];refine ih _ _ ?_;rw [←h];simp only [Dl.app];split
   ·rename_i x he;exact absurd (by simp [tM,he]) ht
   ·rfl

theorem nS {n i:Nat} {p q:Nat→Bool} (hi:i≤n) (h: ∀j,j<n→p j=(decide (j<i)&&q j)):(List.range n).filter p=(List.range i).filter q:=by
  induction n with
  | zero => have : i = 0 := by omega
            subst this;rfl
  |succ n ih=>
    by_cases hin:i=n+1
    · subst hin
      apply List.filter_congr
      intro j hj
      have:=List.mem_range.1 hj
      rw [h j this];simp [this]
    · rw [List.range_succ,List.filter_append,ih (by omega) (fun j hj=>h j (by omega))]
      have:=h n (by omega)
      rw [show decide (n<i)=false by simp;omega] at this
      simp [this]
end Go.Ai
namespace Go.Ai
open Go.RowKit

def mc (o:Oper):List Nat:=(o.after.toList.filter fun e=>Region.binds .any e).map (·.on)
def J8:List Oper→List Nat→List Nat
 |[],acc=>acc
 |o::r,acc=>J8 r (acc++[(mc o).foldl (fun s m=>s|||2^m|||acc.getD m 0) 0])
def G1 (ops:List Oper) (A:List Nat):Bool:=
 (List.range ops.length).all fun j=>match ops[j]? with
  |some o=>(mc o).all (fun m=>Nat.blt m j)&&(List.range j).all fun k=>!(A.getD j 0).testBit k||(mc o).contains k||(mc o).any fun m=>Nat.blt k m&&(A.getD m 0).testBit k
  |none=>false
def mS (us:List (List Nat)) (l:List bz) (A:List Nat) (i j:Nat):Bool:=
 (A.getD j 0).testBit i||
 (let x:=l.getD i .no;let y:=l.getD j .no
  ((dN x).isNone||dN x !=dN y)&&(match dN x with |some d=>!(dz y).contains d|none=>true)&&(match dN y with |some d=>!(dz x).contains d|none=>true)&&
  ((gV x).isNone||gV x !=gV y)&&(fV x==0||fV y==0||(fV x==1&&fV y==1)||(us.getD j []).contains i))
def cR (l:List bz):Nat:=if l.all JH then l.length else l.length - 1
def J9 (ops:Array Oper) (us:List (List Nat)) (l:List bz):Bool:=
 let A:=J8 ops.toList []
 let m:=cR l
 G1 ops.toList A&&ops.size==l.length&&us.length==l.length&&(l.take m).all JH&&((List.range m).all fun j=>(List.range j).all fun i=>mS us l A i j)&&
  (m==l.length||(List.range m).all fun k=>(A.getD m 0).testBit k)

variable {Sp:Nat→Nat→In→cK→Prop}
theorem Ka: ∀ {o:bz},JH o=true→P6 o=true:=by
 intro o;induction o with
 |gd s b d o ih=>intro h;simp only [JH,aE] at h;exact ih h.2
 |_=>intro h;exact h

theorem y6: ∀ {h:List (Nat×Bx)} {u:List Nat} {b:Bx},GH h u b→ ∀p∈h,p.1∈u→LJ p.2 b
 |[],_,_,_,p,hp,_=>by simp at hp
 |(i,b')::h,u,b,ho,p,hp,hu=>by
  simp only [GH] at ho;cases hp with
  |head=>exact ho.1 hu
  |tail _ hp=>exact y6 ho.2 p hp hu

theorem LN: ∀ {l:List bz} {us:List (List Nat)} {j0:Nat} {h:List (Nat×Bx)} {K:St→Prop} {σ:St} {ut:List (List Nat)} {lt:List bz},us.length=l.length→l.all JH=true→kR Sp (us++ut) (l++lt) j0 h K σ→
  ∃(δs:Nat→Dl) (σs:Nat→St),σs 0=σ∧(∀(k:Nat) (o:bz),l[k]?=some o→gv Sp o (· =δs k) (σs k)∧cw (σs (k+1))=(δs k).app (cw (σs k)))∧(∃j' h',kR Sp ut lt j' h' K (σs l.length))∧
   (∀(k:Nat) (o:bz) (u:List Nat) (b:Bx),l[k]?=some o→us[k]?=some u→ft (σs k) o=some b→(∀p∈h,p.1∈u→LJ p.2 b)∧(∀i o',i<k→l[i]?=some o'→i+j0∈u→ ∀b',ft (σs i) o'=some b'→LJ b' b))∧
   (∀(k:Nat) (o:bz) (u:List Nat),l[k]?=some o→us[k]?=some u→(∀p∈h,p.1∈u→p.2.kept (σs (k+1)))∧(∀i o',i<k→l[i]?=some o'→i+j0∈u→ ∀b',ft (σs i) o'=some b'→b'.kept (σs (k+1))))
 |[],us,j0,h,K,σ,ut,lt,hlen,hok,hw=>by
  cases us with
  |nil=>exact ⟨fun _=> .put 0 .undef,fun _=>σ,rfl,by simp,⟨j0,h,hw⟩,by simp,by simp⟩
  |cons=>simp at hlen
 |o::r,us,j0,h,K,σ,ut,lt,hlen,hok,hw=>by
  cases us with
  |nil=>simp at hlen
  |cons u us=>
   simp only [List.all_cons,aE] at hok;obtain ⟨hoff,hw⟩:=hw;obtain ⟨δ,hd,hk⟩:=J5 (J4 (Ka hok.1) hw);obtain ⟨hkp,hk⟩:=fS.1 hk;have hfit:=wD hok.1 hd;obtain ⟨δs,σs,t0,t1,t2,t3,t4⟩:=LN (by simpa using hlen) hok.2 hk;refine ⟨fun|0=>δ|k+1=>δs k,fun|0=>σ|k+1=>σs k,rfl,?_,t2,?_,?_⟩
   ·intro k o' ho;cases k with
    |zero=>
     simp at ho;subst ho;refine ⟨hd,?_⟩;simp only [t0];exact Ds hfit.f
    |succ k=>simp at ho;exact t1 k o' ho
   ·intro k o' u' b ho hu hb;cases k with
    |zero=>
     simp at ho hu;subst ho;subst hu;refine ⟨?_,by intro i o' hi;omega⟩;simp only at hb;rw [hb] at hoff;simp only [JW] at hoff;exact y6 hoff
    |succ k=>
     simp at ho hu;obtain ⟨s1,s2⟩:=t3 k o' u' b ho hu hb;refine ⟨fun p hp hpu=>s1 p ?_ hpu,fun i o2 hi ho2 hiu=>?_⟩
     ·cases hbb:ft σ o with
      |none=>exact hp
      |some b'=>simp only [Ba];exact List.mem_cons_of_mem _ hp
     ·cases i with
      |zero=>
       simp at ho2;subst ho2;intro b' hbi;simp only at hbi;rw [hbi] at s1;exact s1 (j0,b') (by simp [Ba]) (by simpa using hiu)
      |succ i=>
       simp at ho2;exact s2 i o2 (by omega) ho2 (by rw [show i+(j0+1)=i+1+j0 by omega];exact hiu)
   ·intro k o' u' ho hu;cases k with
    |zero=>
     simp at ho hu;subst ho;subst hu;refine ⟨?_,by intro i o' hi;omega⟩;simp only [t0];exact hkp
    |succ k=>
     simp at ho hu;obtain ⟨s1,s2⟩:=t4 k o' u' ho hu;refine ⟨fun p hp hpu=>s1 p ?_ hpu,fun i o2 hi ho2 hiu=>?_⟩
     ·cases hbb:ft σ o with
      |none=>exact hp
      |some b'=>simp only [Ba];exact List.mem_cons_of_mem _ hp
     ·cases i with
      |zero=>
       simp at ho2;subst ho2;intro b' hbi;simp only at hbi;rw [hbi] at s1;exact s1 (j0,b') (by simp [Ba]) (by simpa using hiu)
      |succ i=>
       simp at ho2;exact s2 i o2 (by omega) ho2 (by rw [show i+(j0+1)=i+1+j0 by omega];exact hiu)
theorem vg {x y:List (Id×List AV)} {b:Id} {off:Nat} (h:aw x b=aw y b):fb x (.ptr b off)=fb y (.ptr b off):=by
 simp only [fb,h]
theorem Kb: ∀ {o:bz} {σ:St} {b:Id} {off:Nat} {v:AV},ft σ o=some (.cel b off v)→fb σ.bx (.ptr b off)=some v∧fV o=1:=by
 intro o;induction o with
 |gd s b d o ih=>
  intro σ b' off v h;simp only [ft] at h;split at h
  ·split at h
   ·simpa [fV] using ih h
   ·cases h
  ·cases h
 |ldf d x=>
  intro σ b off v h;simp only [ft] at h;split at h
  ·split at h
   ·rename_i hl;cases h;exact ⟨hl,rfl⟩
   ·cases h
  ·cases h
 |_=>
  intro σ b off v h;simp only [ft] at h;repeat' (first|(split at h)|contradiction)
  all_goals cases h

theorem EV {n i:Nat} {listed:Array Bool} (hs:n≤listed.size) (hi:i<n) (hf:listed.getD i false=false):
  ((List.range n).filter fun j=>(listed.setIfInBounds i true).getD j false).length=((List.range n).filter fun j=>listed.getD j false).length+1:=by
 have key: ∀m,m≤n→((List.range m).filter fun j=>(listed.setIfInBounds i true).getD j false).length=((List.range m).filter fun j=>listed.getD j false).length+if i<m then 1 else 0:=by
  intro m;induction m with
  |zero=>intro _;simp
  |succ m ih=>
   intro hm;rw [List.range_succ,List.filter_append,List.filter_append,cG,cG,ih (by omega)];by_cases him:i=m
   ·subst him;have e1:(listed.setIfInBounds i true).getD i false=true:=by simp [mK,show i<listed.size by omega]
    have e2:([i].filter fun j=>(listed.setIfInBounds i true).getD j false)=[i]:=by simp only [List.filter_cons,e1,if_true,List.filter_nil]
    have e3:([i].filter fun j=>listed.getD j false)=[]:=by simp only [List.filter_cons,hf,List.filter_nil];rfl
    rw [e2,e3,if_neg (Nat.lt_irrefl _),if_pos (Of _)];rfl
   ·have e1:(listed.setIfInBounds i true).getD m false=listed.getD m false:=by
     simp [mK,Array.getElem?_setIfInBounds_ne him]
    have e2:([m].filter fun j=>(listed.setIfInBounds i true).getD j false)=[m].filter fun j=>listed.getD j false:=by simp only [List.filter_cons,e1,List.filter_nil]
    rw [e2];by_cases h1:i<m
    ·rw [if_pos h1,if_pos (by omega)];omega
    ·rw [if_neg h1,if_neg (by omega)];omega
 have:=key n (eI _)
 rw [if_pos hi] at this;exact this

variable {P:Program} {GL:List (Nat×List Value)} {N:Nat}

theorem EW {F:Fr} {ops:Array Oper} {us:List (List Nat)} {l:List bz} {ut:List (List Nat)} {lt:List bz} {A:List Nat}
  (hn:l.length≤ops.size) (hanc:G1 ops.toList A=true) (hus:us.length=l.length) (hokG:l.all JH=true)
  (hpair:((List.range l.length).all fun j=>(List.range j).all fun i=>mS us l A i j)=true)
  (hop: ∀(i:Nat) (o:Oper),ops[i]?=some o→i<l.length→ ∃ao,l[i]?=some ao∧mt P F.GL F.N ops o ao=true)
  (htail: ∀i,l.length≤i→i<ops.size→ ∀k,k<l.length→(A.getD i 0).testBit k=true)
  {K:St→Prop} {Q:Exit→Act→World→Prop}
  (hfin: ∀(listed:Array Bool) (a:Act) (w:World),listed.size=ops.size→(∀j,j<l.length→listed.getD j false=true)→(∀j,l.length≤j→listed.getD j false=false)→
    ∀(S:aM) (gb:Gb) (τ:St) (j':Nat) (h':List (Nat×Bx)),aI F S gb τ a w→kR (bc P F.GL) ut lt j' h' K τ→wpAny P .any ops Q (ops.size - l.length) listed a w)
  {S:aM} {gb:Gb} {σ:St} {a:Act} {w:World} (hrel:aI F S gb σ a w) (hw:kR (bc P F.GL) (us++ut) (l++lt) 0 [] K σ):wpAny P .any ops Q ops.size (Array.replicate ops.size false) a {w with drawn:=w.drawn+1}:=by
 obtain ⟨δs,σs,t0,t1,⟨j',h',t2⟩,t3,t4⟩:=LN hus hokG hw;have hdir: ∀(j:Nat) (o:Oper),ops[j]?=some o→(∀m∈mc o,m<j)∧ ∀k,k<j→(A.getD j 0).testBit k=true→k∈mc o∨ ∃m∈mc o,k<m∧(A.getD m 0).testBit k=true:=by
  intro j o ho;have hj:j<ops.size:=(rF.1 ho).1
  have:=gE.1 hanc j (List.mem_range.2 (by simpa using hj))
  simp only [Array.getElem?_toList,ho,aE,gE,EE,yG,List.contains_eq_mem,o5,List.any_eq_true,List.mem_range] at this;refine ⟨fun m hm=>by have:=this.1 m hm;simpa using this,fun k hk hb=>?_⟩;rcases this.2 k hk with (h|h)|⟨m,h1,h2,h3⟩
  · rw [h] at hb;cases hb
  · exact .inl h
  · exact .inr ⟨m,h1,by simpa using h2,h3⟩
 let cl (listed:Array Bool):Prop:= ∀(j:Nat) (o:Oper),ops[j]?=some o→listed.getD j false=true→ ∀m∈mc o,listed.getD m false=true
 have hclos: ∀listed,cl listed→ ∀(j:Nat) (o:Oper),ops[j]?=some o→(∀m∈mc o,listed.getD m false=true)→ ∀k,k<j→(A.getD j 0).testBit k=true→listed.getD k false=true:=by
  intro listed hcl j;induction j using Nat.strongRecOn with
  |_ j ih=>
    intro o ho hd k hk hb;obtain ⟨d1,d2⟩:=hdir j o ho;rcases d2 k hk hb with h|⟨m,hm,hkm,hbm⟩
    ·exact hd k h
    ·have hmj:=d1 m hm;have hms:m<ops.size:=by have:=(rF.1 ho).1;omega
     obtain ⟨om,hom⟩: ∃om,ops[m]?=some om:=⟨ops[m],by simp [hms]⟩;exact ih m hmj om hom (hcl m om hom (hd m hm)) k hkm hbm
 have hview: ∀k,k≤l.length→cw (σs k)=gw δs (List.range k) (cw σ):=by
  intro k;induction k with
  |zero=>intro _;rw [t0];rfl
  |succ k ih=>
    intro hk;obtain ⟨o,ho⟩: ∃o,l[k]?=some o:=⟨l[k],by simp⟩;rw [List.range_succ,jD,(t1 k o ho).2,ih (by omega)]
 have hord: ∀(i j:Nat) (ao bo:bz),i<j→l[i]?=some ao→l[j]?=some bo→(A.getD j 0).testBit i=false→
    (∀d,dN ao=some d→dN bo≠some d)∧(∀d,dN ao=some d→d∉dz bo)∧(∀d,dN bo=some d→d∉dz ao)∧(∀s,gV ao=some s→gV bo≠some s)∧
    (∀b,gH (ft (σs i) ao) b→gH (ft (σs j) bo) b→fV ao=1∧fV bo=1):=by
  intro i j ao bo hij hi hj hb;have hjl:j<l.length:=(qI.1 hj).1;have hp:=gE.1 (gE.1 hpair j (List.mem_range.2 hjl)) i (List.mem_range.2 hij);have ei:l.getD i .no=ao:=by simp [Dh,hi]
  have ej:l.getD j .no=bo:=by simp [Dh,hj]
  simp only [mS,hb,Bool.false_or,ei,ej,aE] at hp;obtain ⟨⟨⟨⟨h1,h2⟩,h3⟩,h4⟩,h5⟩:=hp;refine ⟨fun d hd=>?_,fun d hd=>?_,fun d hd=>?_,fun s hs=>?_,fun b hb1 hb2=>?_⟩
  · rw [hd] at h1;simp at h1;exact fun e=>h1 e.symm
  · rw [hd] at h2;simpa using h2
  · rw [hd] at h3;simpa using h3
  · rw [hs] at h4;simp at h4;exact fun e=>h4 e.symm
  · obtain ⟨x1,y1⟩: ∃x,ft (σs i) ao=some x:=by
     cases h:ft (σs i) ao with
     |none=>rw [h] at hb1;cases hb1
     |some x=>exact ⟨x,rfl⟩
    obtain ⟨x2,y2⟩: ∃x,ft (σs j) bo=some x:=by
     cases h:ft (σs j) bo with
     |none=>rw [h] at hb2;cases hb2
     |some x=>exact ⟨x,rfl⟩
    rw [y1] at hb1;rw [y2] at hb2;have z1:=Dt y1;have z2:=Dt y2;simp only [EE,bP,z1,z2,false_or,aE] at h5;rcases h5 with h5|h5
    ·exact h5
    ·exfalso;have hul:j<us.length:=by omega
     obtain ⟨u,hu⟩: ∃u,us[j]?=some u:=⟨us[j],by simp [hul]⟩;have hiu:i∈u:=by simpa [Dh,hu] using h5
     exact MB ((t3 j bo u x2 hj hu y2).2 i ao hij hi (by simpa using hiu) x1 y1) hb1 hb2
 have hconf: ∀(i j:Nat) (ao bo:bz),i≠j→l[i]?=some ao→l[j]?=some bo→
    ((∃t,dN bo=some t∧(t∈dz ao∨dN ao=some t))∨(∃s,gV bo=some s∧(dN ao=some s∨gV ao=some s))∨(∃b,gH (ft (σs j) bo) b∧fV bo=2∧gH (ft (σs i) ao) b))→
    (i<j→(A.getD j 0).testBit i=true)∧(j<i→(A.getD i 0).testBit j=true):=by
  intro i j ao bo hne hi hj hc;constructor
  · intro hij;cases hb:(A.getD j 0).testBit i with
    |true=>rfl
    |false=>
     exfalso;obtain ⟨g1,g2,g3,g4,g5⟩:=hord i j ao bo hij hi hj hb;rcases hc with ⟨t,h1,h2⟩|⟨s,h1,h2⟩|⟨b,h1,h2,h3⟩
     ·rcases h2 with h2|h2
      ·exact g3 t h1 h2
      ·exact g1 t h2 h1
     ·rcases h2 with h2|h2
      ·exact g2 s h2 (nR h1)
      ·exact g4 s h2 h1
     ·have:=g5 b h3 h1;omega
  · intro hji;cases hb:(A.getD i 0).testBit j with
    |true=>rfl
    |false=>
     exfalso;obtain ⟨g1,g2,g3,g4,g5⟩:=hord j i bo ao hji hj hi hb;rcases hc with ⟨t,h1,h2⟩|⟨s,h1,h2⟩|⟨b,h1,h2,h3⟩
     ·rcases h2 with h2|h2
      ·exact g2 t h1 h2
      ·exact g1 t h1 h2
     ·rcases h2 with h2|h2
      ·exact g3 s h2 (nR h1)
      ·exact g4 s h1 h2
     ·have:=g5 b h1 h3;omega
 have hfit: ∀(k:Nat) (o:bz),l[k]?=some o→Pf o (σs k) (δs k):=fun k o ho=>wD (gE.1 hokG o (List.mem_of_getElem? ho)) (t1 k o ho).1
 let D (listed:Array Bool):List Nat:=(List.range l.length).filter fun j=>listed.getD j false
 have hstep: ∀(listed:Array Bool) (i:Nat) (ao:bz) (o:Oper) (τ:St),listed.size=ops.size→cl listed→ops[i]?=some o→l[i]?=some ao→listed.getD i false=false→(∀m∈mc o,listed.getD m false=true)→
    cw τ=gw δs (D listed) (cw σ)→P7 ao (σs i) τ∧(δs i).app (cw τ)=gw δs (D (listed.setIfInBounds i true)) (cw σ):=by
  intro listed i ao o τ hls hcl ho hi hf hd hτ;have hil:i<l.length:=(qI.1 hi).1;have hpast: ∀(j:Nat) (bo:bz),l[j]?=some bo→i≠j→((∃t,dN bo=some t∧(t∈dz ao∨dN ao=some t))∨(∃s,gV bo=some s∧(dN ao=some s∨gV ao=some s))∨(∃b,gH (ft (σs j) bo) b∧fV bo=2∧gH (ft (σs i) ao) b))→(listed.getD j false=true↔j<i):=by
    intro j bo hj hne hc;obtain ⟨c1,c2⟩:=hconf i j ao bo hne hi hj hc;constructor
    ·intro hl;rcases Nat.lt_or_ge j i with h|h
     ·exact h
     ·exfalso;have hij:i<j:=by omega
      have hjs:j<ops.size:=by have:=(qI.1 hj).1;omega
      have:=hclos listed hcl j ops[j] (by simp [hjs]) (hcl j ops[j] (by simp [hjs]) hl) i hij (c1 hij)
      rw [hf] at this;cases this
    ·intro hji;exact hclos listed hcl i o ho hd j hji (c2 hji)
  have same: ∀(q:Nat→Bool),(∀(j:Nat) (bo:bz),j<l.length→l[j]?=some bo→q j=true→j≠i→(listed.getD j false=true↔j<i))→
     ((D listed).filter q)=((List.range i).filter q):=by
    intro q hq;simp only [D,List.filter_filter];refine nS (Nat.le_of_lt hil) (fun j hj=>?_);obtain ⟨bo,hbo⟩: ∃bo,l[j]?=some bo:=⟨l[j],by simp [hj]⟩;cases hqj:q j with
    |false=>simp
    |true=>
     by_cases hji:j=i
     ·subst hji;simp [hf]
     ·have:=hq j bo hj hbo hqj hji
      simp only [ib,Bool.and_true];by_cases h1:j<i
      ·rw [this.2 h1];simp [h1]
      ·have h2:listed.getD j false=false:=by
        cases h3:listed.getD j false with
        |false=>rfl
        |true=>exact absurd (this.1 h3) h1
       rw [h2];simp;omega
  have hvi:=hview i (Nat.le_of_lt hil);have tEc: ∀(t j:Nat) (bo:bz),l[j]?=some bo→tE t (δs j)=true→dN bo=some t:=by
    intro t j bo hj ht;simp only [tE] at ht;split at ht
    ·rename_i d x he;simp only [bP] at ht;subst ht;exact (hfit j bo hj).e _ _ he
    ·cases ht
  have tBc: ∀(b:Id) (j:Nat) (bo:bz),l[j]?=some bo→tB b (δs j)=true→gH (ft (σs j) bo) b∧fV bo=2:=by
    intro b j bo hj ht;simp only [tB] at ht;obtain ⟨x,hx⟩:=iT.1 ht;exact (hfit j bo hj).b _ _ hx
  have tMc: ∀(p:Pl) (j:Nat) (bo:bz),l[j]?=some bo→tM p (δs j)=true→(∃d,p.at d=true∧dN bo=some d)∨(∃s,p= .s s∧gV bo=some s)∨(∃b off,p= .b b off∧gH (ft (σs j) bo) b∧fV bo=2):=by
    intro p j bo hj ht;obtain ⟨x,hx⟩:=iT.1 ht;exact (hfit j bo hj).m p x hx
  refine ⟨⟨fun t ht=>?_,fun b hb=>?_,fun p hp=>?_,fun b off hb h2=>?_,fun x hx=>?_⟩,?_⟩
  · have e1:lk (σs i).e t=(gw δs (List.range i) (cw σ)).E t:=by rw [←hvi];rfl
    have e2:lk τ.e t=(gw δs (D listed) (cw σ)).E t:=by rw [←hτ];rfl
    rw [e1,e2,wE δs t _ _ (cw σ) rfl,wE δs t (D listed) _ (cw σ) rfl,same _ (fun j bo _ hj hq hne=>hpast j bo hj (Ne.symm hne) (.inl ⟨t,tEc t j bo hj hq,.inl ht⟩))]
  · have e1:aw (σs i).bx b=(gw δs (List.range i) (cw σ)).B b:=by rw [←hvi];rfl
    have e2:aw τ.bx b=(gw δs (D listed) (cw σ)).B b:=by rw [←hτ];rfl
    rw [e1,e2,pj δs b _ _ (cw σ) rfl,pj δs b (D listed) _ (cw σ) rfl,same _ (fun j bo _ hj hq hne=>by
     obtain ⟨q1,q2⟩:=tBc b j bo hj hq;exact hpast j bo hj (Ne.symm hne) (.inr (.inr ⟨b,q1,q2,hb⟩)))]
  · have e1:aD (σs i).pm p=(gw δs (List.range i) (cw σ)).M p:=by rw [←hvi];rfl
    have e2:aD τ.pm p=(gw δs (D listed) (cw σ)).M p:=by rw [←hτ];rfl
    rw [e1,e2,po δs p _ _ (cw σ) rfl,po δs p (D listed) _ (cw σ) rfl,same _ (fun j bo _ hj hq hne=>by
     refine hpast j bo hj (Ne.symm hne) ?_;rcases J7 p hp with ⟨s,rfl,hs⟩|⟨b,off,rfl,hb1,hb2⟩
     ·rcases tMc _ j bo hj hq with ⟨d,e,hd'⟩|⟨s',e,hs'⟩|⟨_,_,e,_⟩
      ·simp [Pl.at] at e;subst e;exact .inl ⟨_,hd',.inl (nR hs)⟩
      ·cases e;exact .inr (.inl ⟨s,hs',.inr hs⟩)
      ·cases e
     ·rcases tMc _ j bo hj hq with ⟨d,e,hd'⟩|⟨s',e,hs'⟩|⟨b',off',e,h1,h2⟩
      ·simp [Pl.at] at e
      ·cases e
      ·cases e;exact .inr (.inr ⟨b,h1,h2,hb1⟩))]
  · have e1:aD (σs i).pm (.b b off)=(gw δs (List.range i) (cw σ)).M (.b b off):=by rw [←hvi];rfl
    have e2:aD τ.pm (.b b off)=(gw δs (D listed) (cw σ)).M (.b b off):=by rw [←hτ];rfl
    rw [e1,e2,po δs (.b b off) _ _ (cw σ) rfl,po δs (.b b off) (D listed) _ (cw σ) rfl,same _ (fun j bo _ hj hq hne=>by
     refine hpast j bo hj (Ne.symm hne) ?_;rcases tMc _ j bo hj hq with ⟨d,e,hd'⟩|⟨s',e,hs'⟩|⟨b',off',e,h1,h2⟩
     ·simp [Pl.at] at e
     ·cases e
     ·cases e;exact .inr (.inr ⟨b,h1,h2,hb⟩))]
  ·
    cases x with
    |one b=>trivial
    |fr l=>trivial
    |cel b off v=>
     obtain ⟨c1,c2⟩:=Kb hx;have ei:l.getD i .no=ao:=by simp [Dh,hi]
     have early: ∀(j:Nat) (bo:bz),l[j]?=some bo→tB b (δs j)=true→j<i→listed.getD j false=true:=by
      intro j bo hj hq hji;obtain ⟨q1,q2⟩:=tBc b j bo hj hq;refine hclos listed hcl i o ho hd j hji ?_;cases hb:(A.getD i 0).testBit j with
      |true=>rfl
      |false=>
       exfalso;have hp:=gE.1 (gE.1 hpair i (List.mem_range.2 hil)) j (List.mem_range.2 hji);have ej:l.getD j .no=bo:=by simp [Dh,hj]
       simp only [mS,hb,Bool.false_or,ei,ej,aE,q2,c2] at hp;have h5:=hp.2;simp at h5;obtain ⟨x1,y1⟩: ∃x,ft (σs j) bo=some x:=by
        cases h:ft (σs j) bo with
        |none=>rw [h] at q1;cases q1
        |some x=>exact ⟨x,rfl⟩
       obtain ⟨u,hu⟩: ∃u,us[i]?=some u:=⟨us[i],by simp [show i<us.length by omega]⟩;have hju:j∈u:=by simpa [Dh,hu] using h5
       have:=(t3 i ao u _ hi hu hx).2 j bo hji hj (by simpa using hju) x1 y1
       rw [y1] at q1;cases x1<;>simp only [LJ,gH,Bx.tch] at this q1
     have late: ∀(m:Nat) (bo:bz),l[m]?=some bo→tB b (δs m)=true→i<m→listed.getD m false=true→fb (σs (m+1)).bx (.ptr b off)=some v:=by
      intro m bo hm hq him hlm;obtain ⟨q1,q2⟩:=tBc b m bo hm hq;have hml:m<l.length:=(qI.1 hm).1;have hms:m<ops.size:=by omega
      have hb:(A.getD m 0).testBit i=false:=by
       cases hb:(A.getD m 0).testBit i with
       |false=>rfl
       |true=>
        have:=hclos listed hcl m ops[m] (by simp [hms]) (hcl m ops[m] (by simp [hms]) hlm) i him hb
        rw [hf] at this;cases this
      have hp:=gE.1 (gE.1 hpair m (List.mem_range.2 hml)) i (List.mem_range.2 him);have ej:l.getD m .no=bo:=by simp [Dh,hm]
      simp only [mS,hb,Bool.false_or,ei,ej,aE,q2,c2] at hp;have h5:=hp.2;simp at h5;obtain ⟨u,hu⟩: ∃u,us[m]?=some u:=⟨us[m],by simp [show m<us.length by omega]⟩;have hju:i∈u:=by simpa [Dh,hu] using h5
      exact (t4 m bo u hm hu).2 i ao him hi (by simpa using hju) _ hx
     have e2:aw τ.bx b=(gw δs (D listed) (cw σ)).B b:=by rw [←hτ];rfl
     rw [pj δs b (D listed) _ (cw σ) rfl] at e2;simp only [Bx.kept];by_cases hm: ∃m,m∈(D listed).filter (fun j=>tB b (δs j))∧i<m
     ·obtain ⟨m,hmL,him⟩:=hm;have hsort:((D listed).filter (fun j=>tB b (δs j))).Pairwise (· < ·):=(List.pairwise_lt_range (n:=l.length)).sublist (List.filter_sublist.trans List.filter_sublist);rcases List.eq_nil_or_concat ((D listed).filter (fun j=>tB b (δs j))) with hL|⟨L,m',hL⟩
      ·rw [hL] at hmL;cases hmL
      ·rw [hL] at hmL hsort e2;have hle:i<m':=by
        rw [List.concat_eq_append] at hmL hsort;rcases iB.1 hmL with h|h
        ·have:=(List.pairwise_append.1 hsort).2.2 m h m' (by simp)
         omega
        ·simp at h;omega
       have hm':m'∈(D listed).filter (fun j=>tB b (δs j)):=by rw [hL];simp
       obtain ⟨hm1,hm2⟩:=List.mem_filter.1 hm';obtain ⟨hm3,hm4⟩:=List.mem_filter.1 hm1;have hml:=List.mem_range.1 hm3;obtain ⟨bo,hbo⟩: ∃bo,l[m']?=some bo:=⟨l[m'],by simp [hml]⟩;have k1:=late m' bo hbo hm2 hle hm4;rw [List.concat_eq_append,jD] at e2;have e3:aw (σs (m'+1)).bx b=((δs m').app (cw (σs m'))).B b:=by rw [←(t1 m' bo hbo).2];rfl
       simp only [tB] at hm2;obtain ⟨cs,hcs⟩:=iT.1 hm2;simp only [Dl.app,hcs] at e2 e3;rw [vg (e2.trans e3.symm)];exact k1
     ·have sm:=same (fun j=>tB b (δs j)) (fun j bo hjl hj hq hne=>by
       constructor
       ·intro hl;rcases Nat.lt_or_ge j i with h|h
        ·exact h
        ·exact absurd ⟨j,List.mem_filter.2 ⟨List.mem_filter.2 ⟨List.mem_range.2 hjl,hl⟩,hq⟩,by omega⟩ hm
       ·intro hji;exact early j bo hj hq hji)
      rw [sm] at e2;have e1:aw (σs i).bx b=(gw δs (List.range i) (cw σ)).B b:=by rw [←hvi];rfl
      rw [pj δs b _ _ (cw σ) rfl] at e1;rw [vg (e2.trans e1.symm)];exact c1
  ·
    rw [hτ];have hfi:=hfit i ao hi;have hD': ∀(q:Nat→Bool),(q i=true→ ∀(j:Nat) (bo:bz),j<l.length→l[j]?=some bo→q j=true→j≠i→(listed.getD j false=true↔j<i))→
      (D (listed.setIfInBounds i true)).filter q=if q i=true then (D listed).filter q++[i] else (D listed).filter q:=by
     intro q hq;have gs: ∀j,(listed.setIfInBounds i true).getD j false=if j=i then true else listed.getD j false:=by
      intro j;by_cases h1:j=i
      ·subst h1;simp [mK,show j<listed.size by omega]
      ·rw [if_neg h1];simp [mK,Array.getElem?_setIfInBounds_ne (Ne.symm h1)]
     by_cases hqi:q i=true
     ·rw [if_pos hqi,same q (hq hqi)]
      have:(List.range i).filter q++[i]=(List.range (i+1)).filter q:=by rw [List.range_succ,List.filter_append];simp [hqi]
      rw [this];simp only [D,List.filter_filter];refine nS (by omega) (fun j hj=>?_);obtain ⟨bo,hbo⟩: ∃bo,l[j]?=some bo:=⟨l[j],by simp [hj]⟩;rw [gs j];cases hqj:q j with
      |false=>simp
      |true=>
       by_cases hji:j=i
       ·subst hji;simp
       ·have:=hq hqi j bo hj hbo hqj hji
        rw [if_neg hji];simp only [ib,Bool.and_true];by_cases h1:j<i
        ·rw [this.2 h1];simp;omega
        ·have h2:listed.getD j false=false:=by
          cases h3:listed.getD j false with
          |false=>rfl
          |true=>exact absurd (this.1 h3) h1
         rw [h2];simp;omega
     ·rw [if_neg hqi];simp only [D,List.filter_filter];apply List.filter_congr;intro j hj;rw [gs j];by_cases hji:j=i
      ·subst hji;simp [hqi]
      ·rw [if_neg hji]
    apply LS.ext'
    ·intro t;rw [wE δs t (D (listed.setIfInBounds i true)) _ (cw σ) rfl,hD' _ (fun hqi j bo _ hj hq hne=>hpast j bo hj (Ne.symm hne) (.inl ⟨t,tEc t j bo hj hq,.inr (tEc t i ao hi hqi)⟩))];split
     ·rename_i hqi;rw [jD];simp only [tE] at hqi;simp only [Dl.app];split at hqi
      ·rename_i d x he;simp only [bP] at hqi;simp [hqi]
      ·cases hqi
     ·rename_i hqi;rw [←wE δs t (D listed) (cw σ) (cw σ) rfl];simp only [Dl.app];split
      ·rename_i d x he;rw [if_neg];intro e;exact hqi (by simp [tE,he,e])
      ·rfl
    ·intro t;rw [pj δs t (D (listed.setIfInBounds i true)) _ (cw σ) rfl,hD' _ (fun hqi j bo _ hj hq hne=>by
      obtain ⟨q1,q2⟩:=tBc t j bo hj hq;exact hpast j bo hj (Ne.symm hne) (.inr (.inr ⟨t,q1,q2,(tBc t i ao hi hqi).1⟩)))]
     split
     ·rename_i hqi;rw [jD];simp only [tB] at hqi;obtain ⟨x,hx⟩:=iT.1 hqi;simp only [Dl.app,hx]
     ·rename_i hqi;rw [←pj δs t (D listed) (cw σ) (cw σ) rfl];simp only [Dl.app];split
      ·rename_i x he;exact absurd (by simp [tB,he]) hqi
      ·rfl
    ·intro t;rw [po δs t (D (listed.setIfInBounds i true)) _ (cw σ) rfl,hD' _ (fun hqi j bo _ hj hq hne=>by
      refine hpast j bo hj (Ne.symm hne) ?_;rcases tMc t i ao hi hqi with ⟨d,hat,hd1⟩|⟨s,rfl,hs1⟩|⟨b,off,rfl,hb1,hb2⟩
      ·rcases tMc _ j bo hj hq with ⟨d',e,hd'⟩|⟨s',e,hs'⟩|⟨_,_,e,_⟩
       ·have:d'=d:=by cases t<;>simp [Pl.at] at e hat<;>omega
        subst this;exact .inl ⟨d',hd',.inr hd1⟩
       ·subst e;simp [Pl.at] at hat;subst hat;exact .inr (.inl ⟨_,hs',.inl hd1⟩)
       ·subst e;simp [Pl.at] at hat
      ·rcases tMc _ j bo hj hq with ⟨d',e,hd'⟩|⟨s',e,hs'⟩|⟨_,_,e,_⟩
       ·simp [Pl.at] at e;subst e;exact .inl ⟨_,hd',.inl (nR hs1)⟩
       ·cases e;exact .inr (.inl ⟨s,hs',.inr hs1⟩)
       ·cases e
      ·rcases tMc _ j bo hj hq with ⟨d',e,hd'⟩|⟨s',e,hs'⟩|⟨b',off',e,h1,h2⟩
       ·simp [Pl.at] at e
       ·cases e
       ·cases e;exact .inr (.inr ⟨b,h1,h2,hb1⟩))]
     split
     ·rename_i hqi;rw [jD];simp only [tM] at hqi;obtain ⟨x,hx⟩:=iT.1 hqi;simp only [Dl.app,hx]
     ·rename_i hqi;rw [←po δs t (D listed) (cw σ) (cw σ) rfl];simp only [Dl.app];split
      ·rename_i x he;exact absurd (by simp [tM,he]) hqi
      ·rfl
 have congr: ∀ {S gb τ τ' a w},cw τ=cw τ'→aI F S gb τ a w→aI F S gb τ' a w:=by
  intro S gb τ τ' a w hv h;have he:lk τ'.e=lk τ.e:=by have:=congrArg LS.E hv;exact this.symm
  have hb:aw τ'.bx=aw τ.bx:=by have:=congrArg LS.B hv;exact this.symm
  have hp:aD τ'.pm=aD τ.pm:=by have:=congrArg LS.M hv;exact this.symm
  refine ⟨h.defers,h.size,h.bw,h.ext,h.le,?_,⟨h.hr.agree,?_,?_,?_,?_,?_,?_,?_⟩,?_,?_,?_,h.up,h.glo⟩
  · intro t;rw [he];exact h.env t
  · intro d cs;rw [hb];exact h.hr.box d cs
  · intro d cs;rw [hb];exact h.hr.its d cs
  · intro d d';rw [hb];exact h.hr.inj d d'
  · intro p k;rw [hp];exact h.hr.own p k
  · intro p q k l' b;rw [hp];exact h.hr.ownd p q k l' b
  · intro p k b d;rw [hp,hb];exact h.hr.ownb p k b d
  · intro d off k;rw [hp,hb];exact h.hr.pmb d off k
  · intro d g z;rw [hb];exact h.newb d g z
  · intro p k g;rw [hp];exact h.newo p k g
  · intro d;rw [hb];exact h.dom d
 have main: ∀fuel listed a w,listed.size=ops.size→fuel+(D listed).length=l.length→(∀j,l.length≤j→listed.getD j false=false)→cl listed→(∃S gb τ,aI F S gb τ a w∧cw τ=gw δs (D listed) (cw σ))→wpAny P .any ops Q (fuel+(ops.size - l.length)) listed a w:=by
  have allDone: ∀listed a w,listed.size=ops.size→(∀j,j<l.length→listed.getD j false=true)→(∀j,l.length≤j→listed.getD j false=false)→(∃S gb τ,aI F S gb τ a w∧cw τ=gw δs (D listed) (cw σ))→wpAny P .any ops Q (ops.size - l.length) listed a w:=by
    rintro listed a w hls hall hopen ⟨S,gb,τ,h,hτ⟩;refine hfin listed a w hls hall hopen S gb (σs l.length) j' h' (congr ?_ h) t2;rw [hτ,hview _ (eI _)];congr 1
    simp only [D];exact List.filter_eq_self.2 (fun j hj=>hall j (List.mem_range.1 hj))
  have notReady: ∀listed,listed.size=ops.size→Region.ready .any ops listed=[]→ ∀j,j<ops.size→listed.getD j false=true:=by
    intro listed hls hr j;induction j using Nat.strongRecOn with
    |_ j ih=>
     intro hj;cases hl:listed.getD j false with
     |true=>rfl
     |false=>
      exfalso;have hjs:j<ops.size:=hj;have hmem:j∈Region.ready .any ops listed:=by
       simp only [Region.ready,List.mem_filter,List.mem_range,aE,yG];refine ⟨hjs,?_,?_⟩
       ·have:listed.getD j true=listed.getD j false:=by simp [mK,show j<listed.size by omega]
        rw [this,hl]
       ·have ho:ops[j]?=some ops[j]:=by simp [hjs]
        simp only [ho,Option.map_some,Option.getD_some];rw [Array.all_eq_true_iff_forall_mem];intro e he;simp only [EE,yG];cases hbi:Region.binds .any e with
        |false=>left;rfl
        |true=>
         right;have hm:e.on∈mc ops[j]:=by
          simp only [mc,vY,List.mem_filter];exact ⟨e,⟨by simpa using he,hbi⟩,rfl⟩
         have:=(hdir j _ ho).1 e.on hm
         exact ih e.on this (by omega)
      rw [hr] at hmem;simp at hmem
  intro fuel;induction fuel with
  |zero=>
    intro listed a w hls hcnt hopen hcl hrel';have hall: ∀j,j<l.length→listed.getD j false=true:=by
     intro j hj;have hlen:(D listed).length=(List.range l.length).length:=by simpa using hcnt
     have:=List.length_filter_eq_length_iff.1 hlen j (List.mem_range.2 hj)
     exact this
    rw [mM];exact allDone listed a w hls hall hopen hrel'
  |succ fuel ih=>
    intro listed a w hls hcnt hopen hcl hrel';have hex: ∃j,j<l.length∧listed.getD j false=false:=by
     refine Classical.byContradiction fun hno=>?_
     have hall: ∀j,j<l.length→listed.getD j false=true:=by
      intro j hj;cases hl:listed.getD j false with
      |true=>rfl
      |false=>exact absurd ⟨j,hj,hl⟩ hno
     have:(D listed).length=(List.range l.length).length:=List.length_filter_eq_length_iff.2 fun j hj=>hall j (List.mem_range.1 hj)
     simp only [List.length_range] at this;omega
    rw [show fuel+1+(ops.size - l.length)=(fuel+(ops.size - l.length))+1 by omega];refine ⟨fun hr=>?_,fun i hi=>?_⟩
    ·obtain ⟨j,hj,hjf⟩:=hex;rw [notReady listed hls hr j (by omega)] at hjf;cases hjf
    simp only [Region.ready,List.mem_filter,List.mem_range,aE,yG] at hi;obtain ⟨his,hif,hib⟩:=hi;have hf:listed.getD i false=false:=by
     have:listed.getD i true=listed.getD i false:=by simp [mK,show i<listed.size by omega]
     rw [←this];exact hif
    have ho:ops[i]?=some ops[i]:=by simp [his]
    have hd: ∀m∈mc ops[i],listed.getD m false=true:=by
     intro m hm;simp only [ho,Option.map_some,Option.getD_some] at hib;rw [Array.all_eq_true_iff_forall_mem] at hib;simp only [mc,vY,List.mem_filter] at hm;obtain ⟨e,⟨he,hbi⟩,rfl⟩:=hm
     have:=hib e (by simpa using he)
     simpa [hbi] using this
    have hil:i<l.length:=by
     rcases Nat.lt_or_ge i l.length with h|h
     ·exact h
     ·exfalso;obtain ⟨j,hj,hjf⟩:=hex;rw [hclos listed hcl i _ ho hd j (by omega) (htail i h his j hj)] at hjf;cases hjf
    obtain ⟨ao,hi2,hmt⟩:=hop i _ ho hil;obtain ⟨S,gb,τ,h,hτ⟩:=hrel';obtain ⟨hagr,hnext⟩:=hstep listed i ao ops[i] τ hls hcl ho hi2 hf hd hτ;have hwp:=J6 hagr (t1 i ao hi2).1;have hfit':=wD (gE.1 hokG ao (List.mem_of_getElem? hi2)) hwp;have hw1:bD (bc P F.GL) ao (fun τ'=>cw τ'=(δs i).app (cw τ)) τ:=J3 (EU (K':=fun δ=>cw (δ.ap τ)=(δs i).app (cw τ)) (Ds hfit'.f) hwp);have hcl':cl (listed.setIfInBounds i true):=by
     intro j oj hoj hlj m hm;have keep: ∀m,listed.getD m false=true→(listed.setIfInBounds i true).getD m false=true:=by
      intro m hm;by_cases h1:m=i
      ·subst h1;simp [mK,hls,his]
      ·simp only [mK,Array.getElem?_setIfInBounds_ne (Ne.symm h1)] at hm ⊢;exact hm
     by_cases hji:j=i
     ·subst hji;rw [ho] at hoj;cases hoj;exact keep m (hd m hm)
     ·have:listed.getD j false=true:=by
       simp only [mK,Array.getElem?_setIfInBounds_ne (Ne.symm hji)] at hlj ⊢;exact hlj
      exact keep m (hcl j oj hoj this m hm)
    have hcnt':fuel+(D (listed.setIfInBounds i true)).length=l.length:=by
     have:=EV (show l.length≤listed.size by omega) hil hf
     simp only [D] at hcnt ⊢;omega
    have:=ir h hmt hw1 (K':=wpAny P .any ops Q (fuel+(ops.size - l.length)) (listed.setIfInBounds i true)) (Q:=Q) (fun S' gb' τ' a' w' h' hv'=>
     ih _ a' w' (by simpa using hls) hcnt' (fun j hj=>by have:=hopen j hj;simp only [mK,Array.getElem?_setIfInBounds_ne (show i≠j by omega)] at this ⊢;exact this) hcl' ⟨S',gb',τ',h',by rw [hv'];exact hnext⟩)
    unfold wpOp;rw [ho];simp only [];split
    ·rename_i hc;rw [if_pos hc] at this;exact .inl this
    ·rename_i hc;rw [if_neg hc] at this;exact this
 have rep: ∀j,(Array.replicate ops.size false).getD j false=false:=by
  intro j;simp only [mK,Array.getElem?_replicate];split<;>rfl
 have none:D (Array.replicate ops.size false)=[]:=by
  simp only [D,List.filter_eq_nil_iff,List.mem_range];intro j hj;rw [rep j];simp
 have:=main l.length (Array.replicate ops.size false) a {w with drawn:=w.drawn+1} (by simp) (by rw [none];simp) (fun j _=>rep j) (fun j o ho hl=>by rw [rep j] at hl;cases hl) ⟨S,gb,σ,hrel.drew,by rw [none];rfl⟩
 rw [show l.length+(ops.size - l.length)=ops.size by omega] at this;exact this

theorem Bu {P:Program} {GL:List (Nat×List Value)} {N:Nat}:
 ∀(F:Fr),F.GL=GL→F.N=N→ ∀(ops:Array Oper) (us:List (List Nat)) (l:List bz),lM P F.GL F.N ops ops.toList l=true→J9 ops us l=true→ ∀(K:St→Prop) (Q:Exit→Act→World→Prop),(∀S gb σ a w,aI F S gb σ a w→K σ→Q .normal a w)→
  ∀ {S:aM} {gb:Gb} {σ:St} {a:Act} {w:World},aI F S gb σ a w→kR (bc P F.GL) us l 0 [] K σ→wpAny P .any ops Q ops.size (Array.replicate ops.size false) a {w with drawn:=w.drawn+1}:=by
 intro F hGL hN ops us l hmts hdr K Q hQ S gb σ a w hrel hw;simp only [J9,aE,bP] at hdr;obtain ⟨⟨⟨⟨⟨hanc,hsz⟩,hus⟩,hokG⟩,hpair⟩,htl⟩:=hdr;have hop: ∀(i:Nat) (o:Oper),ops[i]?=some o→ ∃ao,l[i]?=some ao∧mt P F.GL F.N ops o ao=true:=by
  have: ∀(ol:List Oper) (al:List bz),lM P F.GL F.N ops ol al=true→ ∀(i:Nat) (o:Oper),ol[i]?=some o→ ∃ao,al[i]?=some ao∧mt P F.GL F.N ops o ao=true:=by
   intro ol;induction ol with
   |nil=>intro al _ i o h;simp at h
   |cons x r ih=>
    intro al hm i o h;cases al with
    |nil=>simp [lM] at hm
    |cons y s=>
     simp only [lM,aE] at hm;cases i with
     |zero=>simp at h;subst h;exact ⟨y,by simp,hm.1⟩
     |succ i=>simp at h ⊢;exact ih s hm.2 i o h
  intro i o h;exact this _ _ hmts i o (by simpa using h)
 generalize hA:J8 ops.toList []=A at hanc hpair htl;have hm:cR l≤l.length:=by unfold cR;split<;>omega
 have hlt:(l.take (cR l)).length=cR l:=by simp;omega
 have hut:(us.take (cR l)).length=cR l:=by simp;omega
 have hgl: ∀j,j<cR l→(l.take (cR l)).getD j .no=l.getD j .no:=by
  intro j hj;simp only [Dh,pY,if_pos hj]
 have hgu: ∀j,j<cR l→(us.take (cR l)).getD j []=us.getD j []:=by
  intro j hj;simp only [Dh,pY,if_pos hj]
 refine EW (us:=us.take (cR l)) (l:=l.take (cR l)) (ut:=us.drop (cR l)) (lt:=l.drop (cR l)) (A:=A) (K:=K) (by rw [hlt];omega) hanc (by rw [hlt,hut]) hokG ?_ ?_ ?_ ?_ hrel (by
  rw [EF,EF];exact hw)
 ·rw [hlt];refine gE.2 fun j hj=>gE.2 fun i hi=>?_
  have hj':=List.mem_range.1 hj;have hi':=List.mem_range.1 hi
  have:=gE.1 (gE.1 hpair j hj) i hi
  unfold mS at this ⊢;rw [hgl i (by omega),hgl j hj',hgu j hj'];exact this
 ·intro i o ho hi;rw [hlt] at hi;obtain ⟨ao,h1,h2⟩:=hop i o ho;exact ⟨ao,by rw [pY,if_pos hi];exact h1,h2⟩
 ·intro i hi his k hk;rw [hlt] at hi hk;have hi2:i=cR l:=by
   have:cR l=l.length∨cR l=l.length - 1:=by unfold cR;split<;>simp
   omega
  subst hi2;simp only [EE,bP,gE,List.mem_range] at htl;rcases htl with h|h
  ·omega
  ·exact h k hk
 ·intro listed a w hls hall hopen S gb τ j' h' hr hwl;rw [hlt] at hall hopen ⊢;have hcase:cR l=l.length∨(cR l+1=l.length):=by
   have:cR l=l.length∨cR l=l.length - 1:=by unfold cR;split<;>simp
   rcases this with h|h
   ·exact .inl h
   ·rcases Nat.eq_zero_or_pos l.length with h0|h0
    ·left;omega
    ·right;omega
  rcases hcase with hc|hc
  ·have e1:l.drop (cR l)=[]:=by rw [hc];simp
   have e2:us.drop (cR l)=[]:=by rw [hc,←hus];simp
   rw [e1,e2] at hwl;rw [show ops.size - cR l=0 by omega];refine ⟨?_,hQ S gb τ a w hr hwl⟩;simp only [Region.ready,List.filter_eq_nil_iff,List.mem_range,aE,yG,not_and];intro j hj hf
   have:listed.getD j true=listed.getD j false:=by simp [mK,show j<listed.size by omega]
   rw [this,hall j (by omega)] at hf;cases hf
  ·obtain ⟨o,ho⟩: ∃o,l[cR l]?=some o:=⟨l[cR l],by simp⟩;obtain ⟨u,hu⟩: ∃u,us[cR l]?=some u:=⟨us[cR l],by simp⟩;have e1:l.drop (cR l)=[o]:=by
    rw [oU (by omega),ui (by omega)]
    have:=(qI.1 ho).2
    rw [this]
   have e2:us.drop (cR l)=[u]:=by
    rw [oU (by omega),ui (by omega)]
    have:=(qI.1 hu).2
    rw [this]
   rw [e1,e2] at hwl;obtain ⟨-,hw1⟩:=hwl;have hpl:cR l<ops.size:=by omega
   have hops:ops[cR l]?=some ops[cR l]:=by simp [hpl]
   obtain ⟨ao,h1,hmt⟩:=hop _ _ hops;rw [ho] at h1;cases h1;rw [show ops.size - cR l=0+1 by omega];have hready: ∀lst:Array Bool,lst.size=ops.size→(∀j,j<l.length→lst.getD j false=true)→Region.ready .any ops lst=[]:=by
    intro lst hl hal;simp only [Region.ready,List.filter_eq_nil_iff,List.mem_range,aE,yG,not_and];intro j hj hf
    have:lst.getD j true=lst.getD j false:=by simp [mK,show j<lst.size by omega]
    rw [this,hal j (by omega)] at hf;cases hf
   have hdirs: ∀m∈mc ops[cR l],m<cR l:=by
    intro m hm'
    have:=gE.1 hanc (cR l) (List.mem_range.2 (by simpa using hpl))
    simp only [Array.getElem?_toList,hops,aE,gE] at this;simpa using this.1 m hm'
   have hrd:cR l∈Region.ready .any ops listed:=by
    simp only [Region.ready,List.mem_filter,List.mem_range,aE,yG];refine ⟨hpl,?_,?_⟩
    ·have:listed.getD (cR l) true=listed.getD (cR l) false:=by simp [mK,show cR l<listed.size by omega]
     rw [this,hopen _ (eI _)]
    ·simp only [hops,Option.map_some,Option.getD_some];rw [Array.all_eq_true_iff_forall_mem];intro e he;simp only [EE,yG];cases hbi:Region.binds .any e with
     |false=>left;rfl
     |true=>
      right;refine hall _ (hdirs e.on ?_);simp only [mc,vY,List.mem_filter];exact ⟨e,⟨by simpa using he,hbi⟩,rfl⟩
   refine ⟨fun hr0=>(by rw [hr0] at hrd;cases hrd),fun i hi=>?_⟩;simp only [Region.ready,List.mem_filter,List.mem_range,aE,yG] at hi;have hi2:i=cR l:=by
    rcases Nat.lt_or_ge i (cR l) with h|h
    ·have hh:=hi.2.1
     have:listed.getD i true=listed.getD i false:=by simp [mK,show i<listed.size by omega]
     rw [this,hall i h] at hh;cases hh
    ·omega
   subst hi2;have hlast:=ir hr hmt hw1 (K':=wpAny P .any ops Q 0 (listed.setIfInBounds (cR l) true)) (Q:=Q) (fun S' gb' τ' a' w' hr' hk'=>by
    refine ⟨hready _ (by simpa using hls) fun j hj=>?_,hQ S' gb' τ' a' w' hr' (fS.1 hk').2⟩;by_cases hjp:j=cR l
    ·subst hjp;simp [mK,hls,hpl]
    ·simp only [mK,Array.getElem?_setIfInBounds_ne (Ne.symm hjp)]
     have:=hall j (by omega)
     simpa only [mK] using this)
   unfold wpOp;rw [hops];simp only [];split
   ·rename_i hc;rw [if_pos hc] at hlast;exact .inl hlast
   ·rename_i hc;rw [if_neg hc] at hlast;exact hlast
end Go.Ai
