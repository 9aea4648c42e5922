/- AiCall: a part of the proof: the rules, or what functions compute. Conditions: as each theorem says. -/
import Derived.Test.YtpaipepdakekbaaGreatDoorAiApp
set_option linter.unusedSimpArgs false
set_option linter.unusedVariables false
namespace Go.Ai
open Go.RowKit

def Does (P:Program) (f:FuncId) (vs:Array Value) (w:World) (R:Value→World→Prop):Prop:=
 match (callFunc f vs).run P w with
 | .ok (.value v) w'=>R v w'
 | .ok (.enter f' as') w'=>Calls P f' as' w' fun e w''=> ∃v,e= .returned v∧R v w''
 |_=>False

def MS (I:In) (gb:Gb) (sv:Nat→Value) (w:World) (g:Nat):Prop:=
 (∃d z,(lkB I.bx d).isSome∧gb d=some (g,z))∨(∃p k,lkP I.pm p=some k∧(plv gb sv w p).ownBlock=some g)

structure PostR (d:Nat) (I:In) (O:Out) (S:Mem) (gb:Gb) (sv:Nat→Value) (w:World) (S':Mem) (gb':Gb) (v:Value) (w':World):Prop where
 bw:Bw (MS I gb sv w) w w'
 ext: ∀g o,g<w.heap.size→ ¬MS I gb sv w g→S' g o=S g o
 le:S.le S'
 same: ∀i,i.isNw d=false→gb' i=gb i
 nw: ∀i,i.isNw d=true→gb' i≠none→(lkB O.bx i).isSome
 r:PR S' gb' O.r v
 hr:HR S' gb' O.bx O.pm (fun _=>v) w'
 newb: ∀i g z,(lkB O.bx i).isSome→gb' i=some (g,z)→w.heap.size≤g∨MS I gb sv w g
 newo: ∀p k g,lkP O.pm p=some k→(plv gb' (fun _=>v) w' p).ownBlock=some g→w.heap.size≤g∨MS I gb sv w g

def Spec (P:Program) (GL:List (Nat×List Value)) (f d:Nat) (I:In) (O:Out):Prop:=
 ∀(S:Mem) (gb:Gb) (w:World) (vs:List Value),PRlist S gb I.vs vs→HR S gb I.bx I.pm (fun t=>vs.getD t undef) w→
  (∀i us,GL.lookup i=some us→ ∀(o:Nat) (u:Value),us[o]?=some u→S i o=some u∧u.oneCell'=true)→(∀i,i.isNw d=true→gb i=none)→
  Does P f vs.toArray w fun v w'=> ∃S' gb',PostR d I O S gb (fun t=>vs.getD t undef) w S' gb' v w'

theorem lkB_app (A B:List (Id×List AV)) (d:Id):lkB (A++B) d=match lkB A d with |some c=>some c|none=>lkB B d:=by
 induction A with
 |nil=>simp [lkB]
 |cons x r ih=>
  obtain ⟨k,v⟩:=x
  simp only [List.cons_append,lkB]
  split
  ·rfl
  ·exact ih
theorem lkB_rmB (l:List (Id×List AV)) (d e:Id):lkB (rmB l d) e=if d=e then none else lkB l e:=by
 induction l with
 |nil=>simp [rmB,lkB]
 |cons x r ih=>
  obtain ⟨k,v⟩:=x
  simp only [rmB]
  split
  ·rename_i h;subst h;rw [ih];simp only [lkB]
   split
   ·rfl
   ·rfl
  ·rename_i h
   simp only [lkB,ih]
   split
   ·rename_i h2;subst h2;rw [if_neg (fun e=>h e.symm)]
   ·rfl
theorem lkB_rmBs: ∀(r l:List (Id×List AV)) (e:Id),lkB (rmBs l r) e=if (lkB r e).isSome then none else lkB l e
 |[],l,e=>by simp [rmBs,lkB]
 |(d,c)::r,l,e=>by
  simp only [rmBs,lkB]
  rw [lkB_rmBs r,lkB_rmB]
  by_cases h:d=e
  ·subst h;simp
  ·simp [h]
theorem lkP_app (A B:List (Pl×Nat)) (p:Pl):lkP (A++B) p=match lkP A p with |some c=>some c|none=>lkP B p:=by
 induction A with
 |nil=>simp [lkP]
 |cons x r ih=>
  obtain ⟨k,v⟩:=x
  simp only [List.cons_append,lkP]
  split
  ·rfl
  ·exact ih
theorem lkP_dlBs: ∀(r:List (Id×List AV)) (l:List (Pl×Nat)) (p:Pl) (k:Nat),lkP (dlBs l r) p=some k→lkP l p=some k∧ ∀e o,p= .b e o→lkB r e=none
 |[],l,p,k,h=>⟨h,fun e o _=>rfl⟩
 |(d,c)::r,l,p,k,h=>by
  simp only [dlBs] at h
  obtain ⟨h1,h2⟩:=lkP_dlBs r _ p k h
  rw [lkP_dlB] at h1
  cases p with
  |s t=>exact ⟨h1,fun e o he=>by cases he⟩
  |t t i=>exact ⟨h1,fun e o he=>by cases he⟩
  |b e o=>
   simp only at h1
   split at h1
   ·cases h1
   ·rename_i hne
    refine ⟨h1,fun e' o' he=>?_⟩
    cases he
    simp only [lkB]
    rw [if_neg (fun e=>hne e.symm)]
    exact h2 e o rfl
theorem lkP_dlXs (xs:List X): ∀(r l:List (Pl×Nat)) (p:Pl) (k:Nat),lkP (dlXs xs l r) p=some k→lkP l p=some k∧ ∀i k' t,(Pl.s i,k')∈r→xs[i]?=some (.s t)→p≠ .s t
 |[],l,p,k,h=>⟨h,fun i k' t hm=>by simp at hm⟩
 |(.s i,k0)::r,l,p,k,h=>by
  simp only [dlXs] at h
  split at h
  ·rename_i t ht
   obtain ⟨h1,h2⟩:=lkP_dlXs xs r _ p k h
   rw [lkP_dl] at h1
   split at h1
   ·cases h1
   ·rename_i hne
    refine ⟨h1,fun i' k' t' hm hx=>?_⟩
    cases hm with
    |head=>rw [ht] at hx;cases hx;exact fun e=>hne e
    |tail _ hm=>exact h2 i' k' t' hm hx
  ·rename_i hno
   obtain ⟨h1,h2⟩:=lkP_dlXs xs r _ p k h
   refine ⟨h1,fun i' k' t' hm hx=>?_⟩
   cases hm with
   |head=>exact absurd hx (hno t')
   |tail _ hm=>exact h2 i' k' t' hm hx
 |(.t a b,k0)::r,l,p,k,h=>by
  simp only [dlXs] at h
  obtain ⟨h1,h2⟩:=lkP_dlXs xs r _ p k h
  refine ⟨h1,fun i' k' t' hm hx=>?_⟩
  cases hm with
  |tail _ hm=>exact h2 i' k' t' hm hx
 |(.b a b,k0)::r,l,p,k,h=>by
  simp only [dlXs] at h
  obtain ⟨h1,h2⟩:=lkP_dlXs xs r _ p k h
  refine ⟨h1,fun i' k' t' hm hx=>?_⟩
  cases hm with
  |tail _ hm=>exact h2 i' k' t' hm hx
def back:Pl→Pl→Prop
 | .s _,.s _=>True
 | .t _ i,.t _ j=>i=j
 | .b e o,.b e' o'=>e=e'∧o=o'
 |_,_=>False
theorem lkP_retP (d:Nat): ∀(l:List (Pl×Nat)) (p:Pl) (k:Nat),lkP (retP d l) p=some k→(p.at d=true∨ ∃e o,p= .b e o)∧ ∃q,back p q∧lkP l q=some k
 |[],p,k,h=>by simp [retP,lkP] at h
 |(.s t,k0)::r,p,k,h=>by
  simp only [retP,lkP] at h
  split at h
  ·rename_i e;subst e;simp only [Option.some.injEq] at h;subst h
   exact ⟨.inl (by simp [Pl.at]),.s t,trivial,by simp [lkP]⟩
  ·rename_i e
   obtain ⟨h1,q,h2,h3⟩:=lkP_retP d r p k h
   refine ⟨h1,q,h2,?_⟩
   simp only [lkP]
   rw [if_neg]
   ·exact h3
   ·intro e2;subst e2
    cases p with
    |s j=>
     rcases h1 with h1|⟨_,_,h1⟩
     ·simp [Pl.at] at h1;exact e (by rw [h1])
     ·cases h1
    |t j i=>exact h2
    |b j i=>exact h2
 |(.t t i,k0)::r,p,k,h=>by
  simp only [retP,lkP] at h
  split at h
  ·rename_i e;subst e;simp only [Option.some.injEq] at h;subst h
   exact ⟨.inl (by simp [Pl.at]),.t t i,rfl,by simp [lkP]⟩
  ·rename_i e
   obtain ⟨h1,q,h2,h3⟩:=lkP_retP d r p k h
   refine ⟨h1,q,h2,?_⟩
   simp only [lkP]
   rw [if_neg]
   ·exact h3
   ·intro e2;subst e2
    cases p with
    |s j=>exact h2
    |t j i'=>
     rcases h1 with h1|⟨_,_,h1⟩
     ·simp [Pl.at] at h1;exact e (by rw [h1];simp only [back] at h2;rw [h2])
     ·cases h1
    |b j i=>exact h2
 |(.b e0 o0,k0)::r,p,k,h=>by
  simp only [retP,lkP] at h
  split at h
  ·rename_i e;subst e;simp only [Option.some.injEq] at h;subst h
   exact ⟨.inr ⟨e0,o0,rfl⟩,.b e0 o0,⟨rfl,rfl⟩,by simp [lkP]⟩
  ·rename_i e
   obtain ⟨h1,q,h2,h3⟩:=lkP_retP d r p k h
   refine ⟨h1,q,h2,?_⟩
   simp only [lkP]
   rw [if_neg]
   ·exact h3
   ·intro e2;subst e2
    cases p with
    |s j=>exact h2
    |t j i=>exact h2
    |b j i=>simp only [back] at h2;exact e (by rw [h2.1,h2.2])
theorem pmOne_ne {xs:List X}: ∀ {r:List (Pl×Nat)},pmOne xs r→ ∀ {i j ki kj},(Pl.s i,ki)∈r→(Pl.s j,kj)∈r→i≠j→xs[i]?≠xs[j]?
 |[],_,i,j,ki,kj,h,_,_=>by simp at h
 |(.s a,k0)::r,ho,i,j,ki,kj,hi,hj,hne=>by
  simp only [pmOne] at ho
  cases hi with
  |head=>
   cases hj with
   |head=>exact absurd rfl hne
   |tail _ hj=>exact fun e=>ho.1 _ hj j rfl (fun e2=>hne e2.symm) e.symm
  |tail _ hi=>
   cases hj with
   |head=>exact ho.1 _ hi i rfl hne
   |tail _ hj=>exact pmOne_ne ho.2 hi hj hne
 |(.t a b,k0)::r,ho,i,j,ki,kj,hi,hj,hne=>by
  simp only [pmOne] at ho
  cases hi with
  |tail _ hi=>cases hj with
   |tail _ hj=>exact pmOne_ne ho hi hj hne
 |(.b a b,k0)::r,ho,i,j,ki,kj,hi,hj,hne=>by
  simp only [pmOne] at ho
  cases hi with
  |tail _ hi=>cases hj with
   |tail _ hj=>exact pmOne_ne ho hi hj hne

variable {P:Program} {F:Fr} {S:Mem} {gb:Gb} {σ:St} {a:Act} {w:World}

theorem HR.weaker {bx bx':List (Id×List AV)} {pm:List (Pl×Nat)} {sv:Nat→Value} (h:HR S gb bx pm sv w) (hb: ∀d cs,lkB bx' d=some cs→wkB bx d cs):
  (∀d cs,lkB bx' d=some cs→d.isIt=false→ ∃g us T,gb d=some (g,⟨us.size,T⟩)∧w.heap[g]?=some (.cells us T (0,0))∧cs.length≤us.size∧PRlist S gb cs (us.toList.take cs.length)∧(∀u∈us.toList,u.oneCell'=true)∧(∀o,S g o=none))∧
  (∀d cs,lkB bx' d=some cs→d.isIt=true→ ∃g z ob,gb d=some (g,z)∧itO cs=some ob∧w.heap[g]?=some ob∧ ∀o,S g o=none)∧
  (∀d,(lkB bx' d).isSome→(lkB bx d).isSome):=by
 refine ⟨fun d cs hcs hi=>?_,fun d cs hcs hi=>?_,fun d hd=>?_⟩
 ·obtain ⟨cs',hcs',hw⟩:=wkB_some (hb d cs hcs)
  obtain ⟨g,us,T,e1,e3,e0,e4,e5,e6⟩:=h.box d cs' hcs' hi
  have hl:=wkL_length hw
  exact ⟨g,us,T,e1,e3,by omega,wkL_PR hw (by rw [←hl];exact e4),e5,e6⟩
 ·obtain ⟨cs',hcs',hw⟩:=wkB_some (hb d cs hcs)
  obtain ⟨g,z,ob,e1,e2,e3,e6⟩:=h.its d cs' hcs' hi
  exact ⟨g,z,ob,e1,itO_wk e2 hw,e3,e6⟩
 ·obtain ⟨cs,hcs⟩:=Option.isSome_iff_exists.1 hd
  obtain ⟨cs',hcs',_⟩:=wkB_some (hb d cs hcs)
  rw [hcs'];rfl

theorem pass (h:Rel F S gb σ a w) {d:Nat} {xs:List X} {I:In} {O:Out} (hc:CallOk d σ xs I O) {vs:List Value} (hvs:PRlist S gb (xs.map σ.v) vs) (hsl: ∀(i t:Nat),xs[i]?=some (X.s t)→vs[i]?=some (tv a t))
  {p:Pl} {k:Nat} (hp:lkP I.pm p=some k):
  (∃q,lkP σ.pm q=some k∧plv gb (fun t=>vs.getD t undef) w p=plv gb (tv a) w q∧((∃i t,p= .s i∧q= .s t∧xs[i]?=some (.s t))∨(∃e o,p= .b e o∧q= .b e o∧(lkB I.bx e).isSome)))∨
   (plv gb (fun t=>vs.getD t undef) w p= .slice none 0 0)∧(∀e o,p= .b e o→(lkB I.bx e).isSome∧e.isIt=false):=by
 have hin:=hc.pm _ (lkP_mem _ _ _ hp)
 cases p with
 |s i=>
  simp only [pmIn] at hin
  split at hin
  ·rename_i t ht
   have hv:vs.getD i undef=tv a t:=by rw [List.getD_eq_getElem?_getD,hsl i t ht];rfl
   rcases hin with h1|h1
   ·exact .inl ⟨.s t,h1,by simp only [plv];exact hv,.inl ⟨i,t,rfl,rfl,ht⟩⟩
   ·right
    refine ⟨?_,fun e o he=>by cases he⟩
    have:=h.env t
    rw [h1] at this
    simp only [plv,hv]
    simpa [PR] using this
  ·rename_i v hv
   subst hin
   right
   refine ⟨?_,fun e o he=>by cases he⟩
   have h1:(xs.map σ.v)[i]?=some .nils:=by rw [List.getElem?_map,hv];rfl
   obtain ⟨u,hu,hp⟩:=hvs.get h1
   simp only [PR] at hp
   simp only [plv,List.getD_eq_getElem?_getD,hu,hp];rfl
  ·exact hin.elim
 |t t i=>simp [pmIn] at hin
 |b e o=>
  simp only [pmIn] at hin
  obtain ⟨h0,h1|h1⟩:=hin
  ·exact .inl ⟨.b e o,h1,rfl,.inr ⟨e,o,rfl,rfl,h0⟩⟩
  ·have hit:e.isIt=false:=by
    simp only [nilAt] at h1
    split at h1
    ·rename_i cs hcs
     cases hi:e.isIt with
     |false=>rfl
     |true=>
      obtain ⟨_,_,ob,_,e2,_⟩:=h.hr.its e cs hcs hi
      obtain ⟨v,rfl,hv⟩:=itO_one e2
      cases o with
      |zero=>simp at h1;exact absurd h1 hv
      |succ n=>simp at h1
    ·cases h1
   exact .inr ⟨nilAt_plv h h1 (fun d off he=>by cases he;exact hit),fun e' o' he=>by cases he;exact ⟨h0,hit⟩⟩

theorem call_entry (h:Rel F S gb σ a w) {d:Nat} {xs:List X} {I:In} {O:Out} (hc:CallOk d σ xs I O) {vs:List Value} (hvs:PRlist S gb (xs.map σ.v) vs) (hsl: ∀(i t:Nat),xs[i]?=some (X.s t)→vs[i]?=some (tv a t)):
  HR S gb I.bx I.pm (fun t=>vs.getD t undef) w:=by
 obtain ⟨w1,w2,w3⟩:=h.hr.weaker (bx':=I.bx) (fun d cs hcs=>hc.bx _ (lkB_mem _ _ _ hcs))
 refine ⟨h.hr.agree,w1,w2,fun e e' g z z' i1 i2=>h.hr.inj e e' g z z' (w3 e i1) (w3 e' i2),?_,?_,?_,?_⟩
 ·intro p k hp
  rcases pass h hc hvs hsl hp with ⟨q,q1,q2,_⟩|⟨q1,_⟩
  ·rw [q2];exact h.hr.own q k q1
  ·rw [q1];exact .inl rfl
 ·intro p q k l b hp hq hb1 hb2
  rcases pass h hc hvs hsl hp with ⟨p',p1,p2,p3⟩|⟨p1,_⟩
  ·rcases pass h hc hvs hsl hq with ⟨q',q1,q2,q3⟩|⟨q1,_⟩
   ·rw [p2] at hb1
    rw [q2] at hb2
    have e:=h.hr.ownd p' q' k l b p1 q1 hb1 hb2
    rcases p3 with ⟨i,t,rfl,rfl,hx⟩|⟨e1,o1,rfl,rfl,_⟩
    ·rcases q3 with ⟨j,t',rfl,rfl,hy⟩|⟨e2,o2,rfl,rfl,_⟩
     ·cases e
      by_cases hij:i=j
      ·rw [hij]
      ·exact absurd (hx.trans hy.symm) (pmOne_ne hc.one (lkP_mem _ _ _ hp) (lkP_mem _ _ _ hq) hij)
     ·cases e
    ·rcases q3 with ⟨j,t',rfl,rfl,hy⟩|⟨e2,o2,rfl,rfl,_⟩
     ·cases e
     ·exact e
   ·rw [q1] at hb2;simp [Value.ownBlock] at hb2
  ·rw [p1] at hb1;simp [Value.ownBlock] at hb1
 ·intro p k b e z hp hb he
  rcases pass h hc hvs hsl hp with ⟨q,q1,q2,_⟩|⟨q1,_⟩
  ·rw [q2] at hb;exact h.hr.ownb q k b e z q1 hb (w3 e he)
  ·rw [q1] at hb;simp [Value.ownBlock] at hb
 ·intro e o k hp
  rcases pass h hc hvs hsl hp with ⟨q,q1,q2,q3⟩|⟨_,q2⟩
  ·rcases q3 with ⟨i,t,he,_⟩|⟨e',o',he,rfl,hi⟩
   ·cases he
   ·cases he;exact ⟨hi,(h.hr.pmb e o k q1).2⟩
  ·exact q2 e o rfl

theorem getD_plv {gb:Gb} {v:Value} {w:World} {p q:Pl} (hq:back p q) {d:Nat} (hd:d<a.tmps.size) (hp:p.at d=true∨ ∃e o,p= .b e o):plv gb (tv (a.put (some d) v)) w p=plv gb (fun _=>v) w q:=by
 cases p with
 |s j=>
  cases q with
  |s j'=>
   rcases hp with hp|⟨_,_,hp⟩
   ·simp [Pl.at] at hp;subst hp;simp [plv,tv_put hd]
   ·cases hp
  |t _ _=>exact hq.elim
  |b _ _=>exact hq.elim
 |t j i=>
  cases q with
  |t j' i'=>
   rcases hp with hp|⟨_,_,hp⟩
   ·simp [Pl.at] at hp;subst hp;simp only [back] at hq;subst hq;simp only [plv,tv_put hd,if_true]
   ·cases hp
  |s _=>exact hq.elim
  |b _ _=>exact hq.elim
 |b e o=>
  cases q with
  |b e' o'=>simp only [back] at hq;obtain ⟨rfl,rfl⟩:=hq;rfl
  |s _=>exact hq.elim
  |t _ _=>exact hq.elim

theorem Rel.call (h:Rel F S gb σ a w) {d dn:Nat} (hd:d<F.N) {xs:List X} {I:In} {O:Out} (hc:CallOk dn σ xs I O) {vs:List Value} (hvs:PRlist S gb (xs.map σ.v) vs) (hsl: ∀(i t:Nat),xs[i]?=some (X.s t)→vs[i]?=some (tv a t))
  {S':Mem} {gb':Gb} {v:Value} {w':World} (hp:PostR dn I O S gb (fun t=>vs.getD t undef) w S' gb' v w'):Rel F S' gb' (callSt d σ xs I O) (a.put (some d) v) w':=by
 have hd':d<a.tmps.size:=by rw [h.size];exact hd
 obtain ⟨_,_,w3⟩:=h.hr.weaker (bx':=I.bx) (fun d cs hcs=>hc.bx _ (lkB_mem _ _ _ hcs))
 have hMS: ∀g,MS I gb (fun t=>vs.getD t undef) w g→(∃e z,(lkB σ.bx e).isSome∧(lkB I.bx e).isSome∧gb e=some (g,z))∨
   (∃q k p,lkP σ.pm q=some k∧(plv gb (tv a) w q).ownBlock=some g∧lkP I.pm p=some k∧((∃i t,p= .s i∧q= .s t∧xs[i]?=some (.s t))∨(∃e o,p= .b e o∧q= .b e o∧(lkB I.bx e).isSome))):=by
  rintro g (⟨e,z,h1,h2⟩|⟨p,k,h1,h2⟩)
  ·exact .inl ⟨e,z,w3 e h1,h1,h2⟩
  ·rcases pass h hc hvs hsl h1 with ⟨q,q1,q2,q3⟩|⟨q1,_⟩
   ·rw [q2] at h2;exact .inr ⟨q,k,p,q1,h2,h1,q3⟩
   ·rw [q1] at h2;simp [Value.ownBlock] at h2
 have hM0: ∀g,MS I gb (fun t=>vs.getD t undef) w g→F.w0.heap.size≤g∨F.M g:=by
  intro g hg
  rcases hMS g hg with ⟨e,z,h1,_,h2⟩|⟨q,k,p,h1,h2,_⟩
  ·exact h.newb e g z h1 h2
  ·exact h.newo q k g h1 h2
 have hgn: ∀i,i.isNw dn=true→gb i=none:=by
  intro i hi
  cases hg:gb i with
  |none=>rfl
  |some x=>
   rcases h.dom i (by rw [hg];simp) with h1|h1
   ·obtain ⟨cs,hcs⟩:=Option.isSome_iff_exists.1 h1
    have:=hc.free _ (lkB_mem _ _ _ hcs)
    simp only at this
    rw [this] at hi;cases hi
   ·cases i<;>simp [Id.isUp,Id.isNw] at h1 hi
 have hle:gb.le gb':=fun i x hx=>by
  have:i.isNw dn=false:=by
   cases hi:i.isNw dn with
   |false=>rfl
   |true=>rw [hgn i hi] at hx;cases hx
  rw [hp.same i this];exact hx
 have hrest: ∀e,(lkB (rmBs σ.bx I.bx) e).isSome→(lkB σ.bx e).isSome∧lkB I.bx e=none∧lkB (rmBs σ.bx I.bx) e=lkB σ.bx e:=by
  intro e he
  rw [lkB_rmBs] at he ⊢
  by_cases h1:(lkB I.bx e).isSome=true
  ·rw [if_pos h1] at he;cases he
  ·rw [if_neg h1] at he ⊢
   exact ⟨he,by simpa using h1,rfl⟩
 have hboth: ∀e,(lkB (O.bx++rmBs σ.bx I.bx) e).isSome→(lkB O.bx e).isSome∨(lkB O.bx e=none∧(lkB (rmBs σ.bx I.bx) e).isSome):=by
  intro e he
  rw [lkB_app] at he
  cases h1:lkB O.bx e with
  |some c=>exact .inl rfl
  |none=>rw [h1] at he;exact .inr ⟨rfl,he⟩
 have hrg: ∀e g z,(lkB (rmBs σ.bx I.bx) e).isSome→gb' e=some (g,z)→gb e=some (g,z):=by
  intro e g z he hg
  obtain ⟨h1,_,_⟩:=hrest e he
  obtain ⟨cs,hcs⟩:=Option.isSome_iff_exists.1 h1
  have:=hc.free _ (lkB_mem _ _ _ hcs)
  simp only at this
  rw [←hp.same e this];exact hg
 have hbfree: ∀e g z,(lkB (rmBs σ.bx I.bx) e).isSome→gb e=some (g,z)→g<w.heap.size∧ ¬MS I gb (fun t=>vs.getD t undef) w g:=by
  intro e g z he hg
  obtain ⟨h1,h2,_⟩:=hrest e he
  refine ⟨h.gblt h1 hg,fun hm=>?_⟩
  rcases hMS g hm with ⟨e',z',i1,i2,i3⟩|⟨q,k,p,i1,i2,_⟩
  ·have:=h.hr.inj e e' g z z' h1 i1 hg i3
   subst this;rw [h2] at i2;cases i2
  ·exact h.hr.ownb q k g e z i1 i2 h1 hg
 have hkeep: ∀p k,lkP (dlS (dlXs xs (dlBs σ.pm I.bx) I.pm) d) p=some k→p.at d=false∧lkP σ.pm p=some k∧(∀e o,p= .b e o→lkB I.bx e=none)∧ ∀i k' t,(Pl.s i,k')∈I.pm→xs[i]?=some (.s t)→p≠ .s t:=by
  intro p k hk
  rw [lkP_dlS] at hk
  split at hk
  ·cases hk
  ·rename_i hne
   obtain ⟨h1,h2⟩:=lkP_dlXs xs _ _ p k hk
   obtain ⟨h3,h4⟩:=lkP_dlBs _ _ p k h1
   exact ⟨by simpa using hne,h3,h4,h2⟩
 have hkb: ∀e o k,lkP (dlS (dlXs xs (dlBs σ.pm I.bx) I.pm) d) (.b e o)=some k→(lkB (rmBs σ.bx I.bx) e).isSome:=by
  intro e o k hk
  obtain ⟨_,h2,h3,_⟩:=hkeep _ k hk
  rw [lkB_rmBs,h3 e o rfl]
  exact (h.hr.pmb e o k h2).1
 have hkv: ∀p k,lkP (dlS (dlXs xs (dlBs σ.pm I.bx) I.pm) d) p=some k→plv gb' (tv (a.put (some d) v)) w' p=plv gb (tv a) w p:=by
  intro p k hk
  obtain ⟨h1,h2,h3,_⟩:=hkeep p k hk
  rw [plv_put hd' h1]
  cases p with
  |s t=>rfl
  |t t i=>rfl
  |b e o=>
   have hr:=hkb e o k hk
   obtain ⟨r1,_,_⟩:=hrest e hr
   obtain ⟨cs,hcs⟩:=Option.isSome_iff_exists.1 r1
   have hnw:=hc.free _ (lkB_mem _ _ _ hcs)
   simp only at hnw
   simp only [plv,hp.same e hnw]
   cases hg:gb e with
   |none=>rfl
   |some x=>
    obtain ⟨g,z⟩:=x
    obtain ⟨f1,f2⟩:=hbfree e g z hr hg
    simp only []
    rw [World.cell?_of_block (w:=w) (hp.bw.block g f1 f2)]
 have hkfree: ∀p k g,lkP (dlS (dlXs xs (dlBs σ.pm I.bx) I.pm) d) p=some k→(plv gb (tv a) w p).ownBlock=some g→g<w.heap.size∧ ¬MS I gb (fun t=>vs.getD t undef) w g:=by
  intro p k g hk hg
  obtain ⟨h1,h2,h3,h4⟩:=hkeep p k hk
  refine ⟨h.plvlt h2 hg,fun hm=>?_⟩
  rcases hMS g hm with ⟨e',z',i1,_,i3⟩|⟨q,l,p',i1,i2,i3,i4⟩
  ·exact h.hr.ownb p k g e' z' h2 hg i1 i3
  ·have e:=h.hr.ownd p q k l g h2 i1 hg i2
   rcases i4 with ⟨i,t,rfl,rfl,hx⟩|⟨e1,o1,rfl,rfl,hi⟩
   ·exact h4 i l t (lkP_mem _ _ _ i3) hx e
   ·rw [h3 e1 o1 e] at hi;cases hi
 have hmix: ∀p k,lkP (callSt d σ xs I O).pm p=some k→(∃q,back p q∧(p.at d=true∨ ∃e o,p= .b e o)∧lkP O.pm q=some k)∨lkP (dlS (dlXs xs (dlBs σ.pm I.bx) I.pm) d) p=some k:=by
  intro p k hk
  simp only [callSt,lkP_app] at hk
  cases h1:lkP (retP d O.pm) p with
  |some c=>
   rw [h1] at hk
   simp only [Option.some.injEq] at hk;subst hk
   obtain ⟨g1,q,g2,g3⟩:=lkP_retP d _ _ _ h1
   exact .inl ⟨q,g2,g1,g3⟩
  |none=>rw [h1] at hk;exact .inr hk
 refine ⟨h.defers,by simp [Act.put,h.size],h.bw.trans hp.bw (fun g hg hm=>(hM0 g hm).resolve_left (by omega)),?_,h.le.trans hp.le,?_,⟨hp.hr.agree,?_,?_,?_,?_,?_,?_,?_⟩,?_,?_,?_,?_,h.glo⟩
 ·intro g o hg hm
  rw [hp.ext g o (Nat.lt_of_lt_of_le hg h.bw.size) (fun e=>hm ((hM0 g e).resolve_left (by omega)))]
  exact h.ext g o hg hm
 ·intro t
  simp only [tv_put hd',callSt,lk]
  split
  ·exact hp.r
  ·exact PR.mono hp.le hle _ _ (h.env t)
 ·intro e cs hcs hi
  simp only [callSt,lkB_app] at hcs
  cases h1:lkB O.bx e with
  |some c=>rw [h1] at hcs;cases hcs;exact hp.hr.box e _ h1 hi
  |none=>
   rw [h1] at hcs
   have hr:(lkB (rmBs σ.bx I.bx) e).isSome:=by simp only at hcs;rw [hcs];rfl
   obtain ⟨r1,r2,r3⟩:=hrest e hr
   simp only at hcs
   rw [r3] at hcs
   obtain ⟨g,us,T,e1,e3,e0,e4,e5,e6⟩:=h.hr.box e cs hcs hi
   obtain ⟨f1,f2⟩:=hbfree e g _ hr e1
   exact ⟨g,us,T,hle _ _ e1,by rw [hp.bw.block g f1 f2];exact e3,e0,PRlist.mono hp.le hle _ _ e4,e5,fun o=>by rw [hp.ext g o f1 f2];exact e6 o⟩
 ·intro e cs hcs hi
  simp only [callSt,lkB_app] at hcs
  cases h1:lkB O.bx e with
  |some c=>rw [h1] at hcs;cases hcs;exact hp.hr.its e _ h1 hi
  |none=>
   rw [h1] at hcs
   have hr:(lkB (rmBs σ.bx I.bx) e).isSome:=by simp only at hcs;rw [hcs];rfl
   obtain ⟨r1,r2,r3⟩:=hrest e hr
   simp only at hcs
   rw [r3] at hcs
   obtain ⟨g,z,ob,e1,e2,e3,e6⟩:=h.hr.its e cs hcs hi
   obtain ⟨f1,f2⟩:=hbfree e g z hr e1
   exact ⟨g,z,ob,hle _ _ e1,e2,by rw [hp.bw.block g f1 f2];exact e3,fun o=>by rw [hp.ext g o f1 f2];exact e6 o⟩
 ·intro e e' g z z' i1 i2 g1 g2
  rcases hboth e i1 with j1|⟨_,j1⟩
  ·rcases hboth e' i2 with j2|⟨_,j2⟩
   ·exact hp.hr.inj e e' g z z' j1 j2 g1 g2
   ·exfalso
    obtain ⟨f1,f2⟩:=hbfree e' g z' j2 (hrg e' g z' j2 g2)
    rcases hp.newb e g z j1 g1 with h1|h1
    ·omega
    ·exact f2 h1
  ·rcases hboth e' i2 with j2|⟨_,j2⟩
   ·exfalso
    obtain ⟨f1,f2⟩:=hbfree e g z j1 (hrg e g z j1 g1)
    rcases hp.newb e' g z' j2 g2 with h1|h1
    ·omega
    ·exact f2 h1
   ·exact h.hr.inj e e' g z z' (hrest e j1).1 (hrest e' j2).1 (hrg e g z j1 g1) (hrg e' g z' j2 g2)
 ·intro p k hk
  rcases hmix p k hk with ⟨q,b1,b2,b3⟩|h1
  ·rw [getD_plv b1 hd' b2];exact hp.hr.own q k b3
  ·rw [hkv p k h1]
   have h2:=(hkeep p k h1).2.1
   exact (h.hr.own p k h2).mono (fun g hg=>hp.bw.block g (hkfree p k g h1 hg).1 (hkfree p k g h1 hg).2) (fun g o hg hn=>by rw [hp.ext g o (hkfree p k g h1 hg).1 (hkfree p k g h1 hg).2];exact hn)
 ·intro p q k l b hk hl g1 g2
  rcases hmix p k hk with ⟨p',b1,b2,b3⟩|h1
  ·rw [getD_plv b1 hd' b2] at g1
   rcases hmix q l hl with ⟨q',c1,c2,c3⟩|h2
   ·rw [getD_plv c1 hd' c2] at g2
    have e:=hp.hr.ownd p' q' k l b b3 c3 g1 g2
    subst e
    cases p with
    |s j=>
     cases p' with
     |s j'=>
      cases q with
      |s j2=>
       rcases b2 with b2|⟨_,_,b2⟩
       ·rcases c2 with c2|⟨_,_,c2⟩
        ·simp [Pl.at] at b2 c2;rw [b2,c2]
        ·cases c2
       ·cases b2
      |t _ _=>exact c1.elim
      |b _ _=>exact c1.elim
     |t _ _=>exact b1.elim
     |b _ _=>exact b1.elim
    |t j i=>
     cases p' with
     |t j' i'=>
      cases q with
      |t j2 i2=>
       rcases b2 with b2|⟨_,_,b2⟩
       ·rcases c2 with c2|⟨_,_,c2⟩
        ·simp [Pl.at] at b2 c2;simp only [back] at b1 c1;rw [b2,c2,b1,c1]
        ·cases c2
       ·cases b2
      |s _=>exact c1.elim
      |b _ _=>exact c1.elim
     |s _=>exact b1.elim
     |b _ _=>exact b1.elim
    |b e o=>
     cases p' with
     |b e' o'=>
      cases q with
      |b e2 o2=>simp only [back] at b1 c1;rw [b1.1,b1.2,c1.1,c1.2]
      |s _=>exact c1.elim
      |t _ _=>exact c1.elim
     |s _=>exact b1.elim
     |t _ _=>exact b1.elim
   ·rw [hkv q l h2] at g2
    exfalso
    obtain ⟨f1,f2⟩:=hkfree q l b h2 g2
    rcases hp.newo p' k b b3 g1 with e|e
    ·omega
    ·exact f2 e
  ·rw [hkv p k h1] at g1
   rcases hmix q l hl with ⟨q',c1,c2,c3⟩|h2
   ·rw [getD_plv c1 hd' c2] at g2
    exfalso
    obtain ⟨f1,f2⟩:=hkfree p k b h1 g1
    rcases hp.newo q' l b c3 g2 with e|e
    ·omega
    ·exact f2 e
   ·rw [hkv q l h2] at g2
    exact h.hr.ownd p q k l b (hkeep p k h1).2.1 (hkeep q l h2).2.1 g1 g2
 ·intro p k b e z hk g1 he hg
  rcases hmix p k hk with ⟨p',b1,b2,b3⟩|h1
  ·rw [getD_plv b1 hd' b2] at g1
   rcases hboth e he with j1|⟨_,j1⟩
   ·exact hp.hr.ownb p' k b e z b3 g1 j1 hg
   ·obtain ⟨f1,f2⟩:=hbfree e b z j1 (hrg e b z j1 hg)
    rcases hp.newo p' k b b3 g1 with q|q
    ·omega
    ·exact f2 q
  ·rw [hkv p k h1] at g1
   obtain ⟨f1,f2⟩:=hkfree p k b h1 g1
   rcases hboth e he with j1|⟨_,j1⟩
   ·rcases hp.newb e b z j1 hg with q|q
    ·omega
    ·exact f2 q
   ·exact h.hr.ownb p k b e z (hkeep p k h1).2.1 g1 (hrest e j1).1 (hrg e b z j1 hg)
 ·intro e o k hk
  rcases hmix _ k hk with ⟨p',b1,b2,b3⟩|h1
  ·cases p' with
   |b e' o'=>
    simp only [back] at b1
    obtain ⟨rfl,rfl⟩:=b1
    obtain ⟨q1,q2⟩:=hp.hr.pmb e o k b3
    refine ⟨?_,q2⟩
    simp only [callSt,lkB_app]
    obtain ⟨cs,hcs⟩:=Option.isSome_iff_exists.1 q1
    rw [hcs];rfl
   |s _=>exact b1.elim
   |t _ _=>exact b1.elim
  ·have hr:=hkb e o k h1
   refine ⟨?_,(h.hr.pmb e o k (hkeep _ k h1).2.1).2⟩
   simp only [callSt,lkB_app]
   cases h2:lkB O.bx e with
   |some c=>rfl
   |none=>exact hr
 ·intro e g z he hg
  rcases hboth e he with j1|⟨_,j1⟩
  ·rcases hp.newb e g z j1 hg with q|q
   ·exact .inl (Nat.le_trans h.bw.size q)
   ·exact hM0 g q
  ·exact h.newb e g z (hrest e j1).1 (hrg e g z j1 hg)
 ·intro p k g hk hg
  rcases hmix p k hk with ⟨p',b1,b2,b3⟩|h1
  ·rw [getD_plv b1 hd' b2] at hg
   rcases hp.newo p' k g b3 hg with q|q
   ·exact .inl (Nat.le_trans h.bw.size q)
   ·exact hM0 g q
  ·rw [hkv p k h1] at hg
   exact h.newo p k g (hkeep p k h1).2.1 hg
 ·intro e he
  have hin: ∀e,(lkB O.bx e).isSome→(lkB (callSt d σ xs I O).bx e).isSome:=by
   intro e h1
   simp only [callSt,lkB_app]
   obtain ⟨cs,hcs⟩:=Option.isSome_iff_exists.1 h1
   rw [hcs];rfl
  cases hnw:e.isNw dn with
  |true=>exact .inl (hin e (hp.nw e hnw he))
  |false=>
   rw [hp.same e hnw] at he
   rcases h.dom e he with h1|h1
   ·left
    cases h2:lkB I.bx e with
    |some c=>exact hin e (hc.kept _ (lkB_mem _ _ _ h2))
    |none=>
     simp only [callSt,lkB_app]
     cases h3:lkB O.bx e with
     |some c=>rfl
     |none=>
      simp only []
      rw [lkB_rmBs,h2]
      exact h1
   ·exact .inr h1
 ·intro e
  rw [hp.same (.up e) rfl];exact h.up e
end Go.Ai
