/- AiState: a part of the proof: the rules, or what functions compute. Conditions: as each theorem says. -/
import Derived.Test.YtpaipepdakekbaaGreatDoorAiRel
set_option linter.unusedSimpArgs false
set_option linter.unusedVariables false
namespace Go.Ai
open Go.RowKit

def Pl.at (d:Nat):Pl→Bool
 | .s j=>j==d
 | .t j _=>j==d
 | .b _ _=>false
def plv (gb:Gb) (sv:Nat→Value) (w:World):Pl→Value
 | .s t=>sv t
 | .t t i=>match sv t with
  | .tuple us=>us.getD i undef
  |_=>undef
 | .b d off=>match gb d with
  |some (g,_)=>(w.cell? ⟨g,off,none⟩).getD undef
  |none=>undef

def KB:Nat:=4294967296
def OwnR (S:Mem) (w:World) (k:Nat) (v:Value):Prop:=
 v= .slice none 0 0∨(k<KB∧ ∃g n cap cur T,v= .slice (some ⟨g,0,none⟩) n cap∧w.heap[g]?=some (.cells cur T (0,0))∧n≤cap∧cap≤maxLen∧cap*k≤cur.size∧(∀o,n*k≤o→S g o=none))∨
  (KB≤k∧ ∃g n cap cur,v= .slice (some ⟨g,0,none⟩) n cap∧w.heap[g]?=some (.cells cur (k - KB) (0,0))∧n≤cap∧cap≤maxLen∧cur.size=cap∧(∀o,n≤o→S g o=none))

structure Bw (M:Nat→Prop) (w w':World):Prop where
 os:w'.os=w.os
 tape:w'.tape=w.tape
 output:w'.output=w.output
 size:w.heap.size≤w'.heap.size
 block: ∀k,k<w.heap.size→ ¬M k→w'.heap[k]?=w.heap[k]?
theorem Bw.refl (M:Nat→Prop) (w:World):Bw M w w:=⟨rfl,rfl,rfl,Nat.le_refl _,fun _ _ _=>rfl⟩
theorem Bw.of_below {M:Nat→Prop} {w w':World} (h:Below w.heap.size w w'):Bw M w w':=⟨h.os,h.tape,h.output,h.size,fun k hk _=>h.block k hk⟩
theorem Bw.trans {M M':Nat→Prop} {a b c:World} (h:Bw M a b) (k:Bw M' b c) (hm: ∀g,g<a.heap.size→M' g→M g):Bw M a c:=
 ⟨k.os.trans h.os,k.tape.trans h.tape,k.output.trans h.output,Nat.le_trans h.size k.size,fun i hi hn=>(k.block i (Nat.lt_of_lt_of_le hi h.size) (fun e=>hn (hm i hi e))).trans (h.block i hi hn)⟩

def MK.val:MK→Value
 | .s l=> .string ⟨l.toArray⟩
 | .i k n=> .int k n
def mapEnts (es:List (MK×MK)):Array MapEntry:=(es.zipIdx.map fun p=>(⟨p.1.1.val,p.1.2.val,p.2⟩:MapEntry)).toArray
def itO:List AV→Option Obj
 |[.itr s pos]=>some (.stringIter ⟨s.toArray⟩ pos)
 |[.mpv es]=>some (.map (mapEnts es) es.length)
 |_=>none
theorem itO_one {cs:List AV} {ob:Obj} (h:itO cs=some ob): ∃v,cs=[v]∧v≠ .nils:=by
 unfold itO at h
 split at h
 ·exact ⟨_,rfl,by simp⟩
 ·exact ⟨_,rfl,by simp⟩
 ·cases h
theorem itO_wk {cs cs':List AV} {ob:Obj} (h:itO cs=some ob) (hw:wkL cs cs'):itO cs'=some ob:=by
 obtain ⟨v,rfl,hv⟩:=itO_one h
 match cs',hw with
 |[u],hw=>
  simp only [wkL] at hw
  rcases hw.1 with e|⟨e,_⟩
  ·rw [←e];exact h
  ·exact absurd e hv
 |[],hw=>simp [wkL] at hw
 |_::_::_,hw=>simp [wkL] at hw
structure HR (S:Mem) (gb:Gb) (bx:List (Id×List AV)) (pm:List (Pl×Nat)) (sv:Nat→Value) (w:World):Prop where
 agree: ∀g o v,S g o=some v→w.cell? ⟨g,o,none⟩=some v
 box: ∀d cs,lkB bx d=some cs→d.isIt=false→ ∃g us T,gb d=some (g,⟨us.size,T⟩)∧w.heap[g]?=some (.cells us T (0,0))∧cs.length≤us.size∧PRlist S gb cs (us.toList.take cs.length)∧(∀u∈us.toList,u.oneCell'=true)∧(∀o,S g o=none)
 its: ∀d cs,lkB bx d=some cs→d.isIt=true→ ∃g z ob,gb d=some (g,z)∧itO cs=some ob∧w.heap[g]?=some ob∧ ∀o,S g o=none
 inj: ∀d d' g z z',(lkB bx d).isSome→(lkB bx d').isSome→gb d=some (g,z)→gb d'=some (g,z')→d=d'
 own: ∀p k,lkP pm p=some k→OwnR S w k (plv gb sv w p)
 ownd: ∀p q k l b,lkP pm p=some k→lkP pm q=some l→(plv gb sv w p).ownBlock=some b→(plv gb sv w q).ownBlock=some b→p=q
 ownb: ∀p k b d z,lkP pm p=some k→(plv gb sv w p).ownBlock=some b→(lkB bx d).isSome→gb d≠some (b,z)
 pmb: ∀d off k,lkP pm (.b d off)=some k→(lkB bx d).isSome∧d.isIt=false

structure Fr where
 S0:Mem
 w0:World
 M:Nat→Prop
 gb:Gb
 N:Nat
 GL:List (Nat×List Value)
 df:List Deferred

def tv (a:Act):Nat→Value:=fun t=>a.tmps.getD t undef

structure Rel (F:Fr) (S:Mem) (gb:Gb) (σ:St) (a:Act) (w:World):Prop where
 defers:a.defers=F.df
 size:a.tmps.size=F.N
 bw:Bw F.M F.w0 w
 ext: ∀g o,g<F.w0.heap.size→ ¬F.M g→S g o=F.S0 g o
 le:F.S0.le S
 env: ∀t,PR S gb (lk σ.e t) (tv a t)
 hr:HR S gb σ.bx σ.pm (tv a) w
 newb: ∀d g z,(lkB σ.bx d).isSome→gb d=some (g,z)→F.w0.heap.size≤g∨F.M g
 newo: ∀p k g,lkP σ.pm p=some k→(plv gb (tv a) w p).ownBlock=some g→F.w0.heap.size≤g∨F.M g
 dom: ∀d,gb d≠none→(lkB σ.bx d).isSome∨d.isUp=true
 up: ∀d,gb (.up d)=F.gb d
 glo: ∀i us,F.GL.lookup i=some us→ ∀(o:Nat) (u:Value),us[o]?=some u→F.S0 i o=some u∧u.oneCell'=true

theorem lkP_dl (l:List (Pl×Nat)) (p q:Pl):lkP (dl l p) q=if q=p then none else lkP l q:=by
 induction l with
 |nil=>simp [dl,lkP]
 |cons x r ih=>
  obtain ⟨y,k⟩:=x
  simp only [dl]
  split
  ·rename_i h;subst h
   rw [ih];simp only [lkP]
   split
   ·rfl
   ·rename_i h2;rw [if_neg (fun e=>h2 e.symm)]
  ·rename_i h
   simp only [lkP,ih]
   split
   ·rename_i h2;subst h2;rw [if_neg (fun e=>h e)]
   ·rfl
theorem lkP_dlS (l:List (Pl×Nat)) (d:Nat) (q:Pl):lkP (dlS l d) q=if q.at d=true then none else lkP l q:=by
 induction l with
 |nil=>simp [dlS,lkP]
 |cons x r ih=>
  obtain ⟨y,k⟩:=x
  cases y with
  |s t=>
   simp only [dlS]
   split
   ·rename_i h;subst h;rw [ih];simp only [lkP]
    split
    ·rfl
    ·rename_i h2;rw [if_neg];intro e;subst e;simp [Pl.at] at h2
   ·rename_i h;simp only [lkP,ih]
    split
    ·rename_i h2;subst h2;simp [Pl.at,h]
    ·rfl
  |t t i=>
   simp only [dlS]
   split
   ·rename_i h;subst h;rw [ih];simp only [lkP]
    split
    ·rfl
    ·rename_i h2;rw [if_neg];intro e;subst e;simp [Pl.at] at h2
   ·rename_i h;simp only [lkP,ih]
    split
    ·rename_i h2;subst h2;simp [Pl.at,h]
    ·rfl
  |b e o=>
   simp only [dlS,lkP,ih]
   split
   ·rename_i h2;subst h2;simp [Pl.at]
   ·rfl
theorem lkP_dlB (l:List (Pl×Nat)) (d:Id) (q:Pl):lkP (dlB l d) q=match q with | .b e _=>if e=d then none else lkP l q|_=>lkP l q:=by
 induction l with
 |nil=>cases q<;>simp [dlB,lkP]
 |cons x r ih=>
  obtain ⟨y,k⟩:=x
  cases y with
  |b e o=>
   simp only [dlB]
   split
   ·rename_i h;subst h;rw [ih]
    cases q with
    |b e2 o2=>
     simp only [lkP]
     split
     ·rfl
     ·rename_i h2;rw [if_neg];intro h3;cases h3;exact h2 rfl
    |s t=>simp [lkP]
    |t t i=>simp [lkP]
   ·rename_i h;simp only [lkP,ih]
    cases q with
    |b e2 o2=>
     simp only []
     split
     ·rename_i h2;cases h2;rw [if_neg h]
     ·rfl
    |s t=>simp
    |t t i=>simp
  |s t=>
   simp only [dlB,lkP,ih]
   cases q with
   |b e2 o2=>simp
   |s t2=>rfl
   |t t2 i=>rfl
  |t t j=>
   simp only [dlB,lkP,ih]
   cases q with
   |b e2 o2=>simp
   |s t2=>rfl
   |t t2 i=>rfl
theorem lkP_dlr (l:List (Pl×Nat)) (d:Id) (off n:Nat) (q:Pl) {k:Nat} (h:lkP (dlr l d off n) q=some k):lkP l q=some k∧ ∀o,q= .b d o→ ¬(off≤o∧o<off+n):=by
 induction l with
 |nil=>simp [dlr,lkP] at h
 |cons x r ih=>
  obtain ⟨y,k'⟩:=x
  cases y with
  |s t=>
   simp only [dlr,lkP] at h ⊢
   split
   ·rename_i h2;subst h2;rw [if_pos rfl] at h;exact ⟨h,by simp⟩
   ·rename_i h2;rw [if_neg h2] at h;exact ih h
  |t t i=>
   simp only [dlr,lkP] at h ⊢
   split
   ·rename_i h2;subst h2;rw [if_pos rfl] at h;exact ⟨h,by simp⟩
   ·rename_i h2;rw [if_neg h2] at h;exact ih h
  |b e o=>
   simp only [dlr] at h
   split at h
   ·rename_i h2
    obtain ⟨h3,h4⟩:=ih h
    simp only [lkP]
    refine ⟨?_,h4⟩
    rw [if_neg]
    ·exact h3
    ·intro e';subst e';obtain ⟨rfl,h5⟩:=h2;exact h4 o rfl h5
   ·rename_i h2
    simp only [lkP] at h ⊢
    split
    ·rename_i h3;subst h3;rw [if_pos rfl] at h
     refine ⟨h,fun o' e'=>?_⟩
     simp only [Pl.b.injEq] at e'
     obtain ⟨rfl,rfl⟩:=e'
     exact fun h5=>h2 ⟨rfl,h5⟩
    ·rename_i h3;rw [if_neg h3] at h;exact ih h

theorem OwnR.mono {S S':Mem} {w w':World} {k:Nat} {v:Value} (h:OwnR S w k v) (hh: ∀g,v.ownBlock=some g→w'.heap[g]?=w.heap[g]?) (hs: ∀g o,v.ownBlock=some g→S g o=none→S' g o=none):OwnR S' w' k v:=by
 rcases h with h|⟨hk,g,n,cap,cur,T,rfl,h3,h4,h5,h6,h7⟩|⟨hk,g,n,cap,cur,rfl,h3,h4,h5,h6,h7⟩
 ·exact .inl h
 ·refine .inr (.inl ⟨hk,g,n,cap,cur,T,rfl,?_,h4,h5,h6,fun o ho=>hs g o rfl (h7 o ho)⟩)
  rw [hh g rfl];exact h3
 ·refine .inr (.inr ⟨hk,g,n,cap,cur,rfl,?_,h4,h5,h6,fun o ho=>hs g o rfl (h7 o ho)⟩)
  rw [hh g rfl];exact h3
theorem OwnR.lt {S:Mem} {w:World} {k:Nat} {v:Value} (h:OwnR S w k v) {g:Nat} (hg:v.ownBlock=some g):g<w.heap.size:=by
 rcases h with h|⟨_,g',n,cap,cur,T,h,h3,_⟩|⟨_,g',n,cap,cur,h,h3,_⟩
 ·rw [h] at hg;simp [Value.ownBlock] at hg
 ·rw [h] at hg;simp [Value.ownBlock] at hg;subst hg;exact (Array.getElem?_eq_some_iff.1 h3).1
 ·rw [h] at hg;simp [Value.ownBlock] at hg;subst hg;exact (Array.getElem?_eq_some_iff.1 h3).1

theorem getD_set {xs:Array Value} {d t:Nat} {v:Value} (hd:d<xs.size):(xs.setIfInBounds d v).getD t undef=if d=t then v else xs.getD t undef:=by
 simp only [Array.getD_eq_getD_getElem?,Array.getElem?_setIfInBounds]
 split
 ·rename_i h;subst h;simp
 ·rfl

variable {F:Fr} {S:Mem} {gb:Gb} {σ:St} {a:Act} {w:World}

theorem tv_put {d:Nat} {u:Value} (hd:d<a.tmps.size) (t:Nat):tv (a.put (some d) u) t=if d=t then u else tv a t:=by
 simp only [tv,Act.put,getD_set hd]
theorem plv_put {d:Nat} {u:Value} (hd:d<a.tmps.size) {p:Pl} (hp:p.at d=false):plv gb (tv (a.put (some d) u)) w p=plv gb (tv a) w p:=by
 cases p with
 |s t=>simp only [Pl.at,beq_eq_false_iff_ne] at hp;simp only [plv,tv_put hd];rw [if_neg (fun e=>hp e.symm)]
 |t t i=>simp only [Pl.at,beq_eq_false_iff_ne] at hp;simp only [plv,tv_put hd];rw [if_neg (fun e=>hp e.symm)]
 |b d off=>rfl

theorem HR.gblt (h:HR S gb σ.bx σ.pm (tv a) w) {d:Id} {g:Nat} {z:BZ} (hd:(lkB σ.bx d).isSome) (hg:gb d=some (g,z)):g<w.heap.size:=by
 obtain ⟨cs,hcs⟩:=Option.isSome_iff_exists.1 hd
 cases hi:d.isIt with
 |false=>
  obtain ⟨g',us,T,e1,e3,_⟩:=h.box d cs hcs hi
  rw [hg] at e1;cases e1
  exact (Array.getElem?_eq_some_iff.1 e3).1
 |true=>
  obtain ⟨g',z',ob,e1,_,e3,_⟩:=h.its d cs hcs hi
  rw [hg] at e1;cases e1
  exact (Array.getElem?_eq_some_iff.1 e3).1

theorem Rel.put (h:Rel F S gb σ a w) {d:Nat} (hd:d<F.N) {v:AV} {u:Value} (hp:PR S gb v u):Rel F S gb (σ.put d v) (a.put (some d) u) w:=by
 have hd':d<a.tmps.size:=by rw [h.size];exact hd
 have hat: ∀p k,lkP (σ.put d v).pm p=some k→p.at d=false∧lkP σ.pm p=some k:=by
  intro p k hk
  simp only [St.put,lkP_dlS] at hk
  split at hk
  ·cases hk
  ·rename_i hne;exact ⟨by simpa using hne,hk⟩
 refine ⟨h.defers,by simp [Act.put,h.size],h.bw,h.ext,h.le,?_,⟨h.hr.agree,h.hr.box,h.hr.its,h.hr.inj,?_,?_,?_,?_⟩,h.newb,?_,h.dom,h.up,h.glo⟩
 ·intro t
  simp only [tv_put hd',St.put,lk]
  split
  ·exact hp
  ·exact h.env t
 ·intro p k hk
  obtain ⟨h1,h2⟩:=hat p k hk
  rw [plv_put hd' h1];exact h.hr.own p k h2
 ·intro p q k l b hk hl h1 h2
  obtain ⟨p1,p2⟩:=hat p k hk
  obtain ⟨q1,q2⟩:=hat q l hl
  rw [plv_put hd' p1] at h1
  rw [plv_put hd' q1] at h2
  exact h.hr.ownd p q k l b p2 q2 h1 h2
 ·intro p k b d' z hk h1
  obtain ⟨p1,p2⟩:=hat p k hk
  rw [plv_put hd' p1] at h1
  exact h.hr.ownb p k b d' z p2 h1
 ·intro e off k hk;exact h.hr.pmb e off k (hat _ k hk).2
 ·intro p k g hk hg
  obtain ⟨p1,p2⟩:=hat p k hk
  rw [plv_put hd' p1] at hg
  exact h.newo p k g p2 hg

theorem Rel.puto (h:Rel F S gb σ a w) {d:Nat} (hd:d<F.N) {v:AV} {u:Value} (hp:PR S gb v u) {k:Nat} (ho:OwnR S w k u) (hn: ∀g,u.ownBlock=some g→F.w0.heap.size≤g∨F.M g)
  (hq: ∀p l b,lkP σ.pm p=some l→p.at d=false→(plv gb (tv a) w p).ownBlock=some b→u.ownBlock≠some b) (hb: ∀b d' z,u.ownBlock=some b→(lkB σ.bx d').isSome→gb d'≠some (b,z)):
  Rel F S gb (σ.puto d v k) (a.put (some d) u) w:=by
 have hd':d<a.tmps.size:=by rw [h.size];exact hd
 have h1:=h.put hd hp
 have hs:plv gb (tv (a.put (some d) u)) w (.s d)=u:=by simp [plv,tv_put hd']
 have hat: ∀p l,lkP (σ.puto d v k).pm p=some l→(p= .s d∧l=k)∨(p.at d=false∧lkP σ.pm p=some l):=by
  intro p l hl
  simp only [St.puto,lkP,lkP_dlS] at hl
  split at hl
  ·rename_i e;subst e;simp only [Option.some.injEq] at hl;exact .inl ⟨rfl,hl.symm⟩
  ·split at hl
   ·cases hl
   ·rename_i hne;exact .inr ⟨by simpa using hne,hl⟩
 refine ⟨h1.defers,h1.size,h1.bw,h1.ext,h1.le,h1.env,⟨h1.hr.agree,h1.hr.box,h1.hr.its,h1.hr.inj,?_,?_,?_,?_⟩,h1.newb,?_,h1.dom,h1.up,h1.glo⟩
 ·intro p l hl
  rcases hat p l hl with ⟨rfl,rfl⟩|⟨p1,p2⟩
  ·rw [hs];exact ho
  ·rw [plv_put hd' p1];exact h.hr.own p l p2
 ·intro p q l m b hl hm g1 g2
  rcases hat p l hl with ⟨rfl,rfl⟩|⟨p1,p2⟩
  ·rcases hat q m hm with ⟨rfl,rfl⟩|⟨q1,q2⟩
   ·rfl
   ·rw [hs] at g1
    rw [plv_put hd' q1] at g2
    exact absurd g1 (hq q m b q2 q1 g2)
  ·rw [plv_put hd' p1] at g1
   rcases hat q m hm with ⟨rfl,rfl⟩|⟨q1,q2⟩
   ·rw [hs] at g2
    exact absurd g2 (hq p l b p2 p1 g1)
   ·rw [plv_put hd' q1] at g2
    exact h.hr.ownd p q l m b p2 q2 g1 g2
 ·intro p l b d' z hl g1
  rcases hat p l hl with ⟨rfl,rfl⟩|⟨p1,p2⟩
  ·rw [hs] at g1;exact hb b d' z g1
  ·rw [plv_put hd' p1] at g1;exact h.hr.ownb p l b d' z p2 g1
 ·intro e off l hl
  rcases hat _ l hl with ⟨e,_⟩|⟨p1,p2⟩
  ·cases e
  ·exact h.hr.pmb e off l p2
 ·intro p l g hl hg
  rcases hat p l hl with ⟨rfl,rfl⟩|⟨p1,p2⟩
  ·rw [hs] at hg;exact hn g hg
  ·rw [plv_put hd' p1] at hg;exact h.newo p l g p2 hg

theorem Rel.fewer (h:Rel F S gb σ a w) {pm:List (Pl×Nat)} (hpm: ∀p k,lkP pm p=some k→lkP σ.pm p=some k):Rel F S gb ⟨σ.e,σ.bx,pm⟩ a w:=
 ⟨h.defers,h.size,h.bw,h.ext,h.le,h.env,⟨h.hr.agree,h.hr.box,h.hr.its,h.hr.inj,fun p k hk=>h.hr.own p k (hpm p k hk),fun p q k l b hk hl=>h.hr.ownd p q k l b (hpm p k hk) (hpm q l hl),
  fun p k b d z hk=>h.hr.ownb p k b d z (hpm p k hk),fun d off k hk=>h.hr.pmb d off k (hpm _ k hk)⟩,h.newb,fun p k g hk=>h.newo p k g (hpm p k hk),h.dom,h.up,h.glo⟩
theorem Rel.drop (h:Rel F S gb σ a w) (p:Pl):Rel F S gb ⟨σ.e,σ.bx,dl σ.pm p⟩ a w:=h.fewer (fun q k hk=>by
 rw [lkP_dl] at hk
 split at hk
 ·cases hk
 ·exact hk)

theorem Rel.step (h:Rel F S gb σ a w) {S':Mem} {w':World} (hb:Below w.heap.size w w') (hext: ∀g o,g<w.heap.size→S' g o=S g o) (hle:S.le S')
  (hag: ∀g o v,S' g o=some v→w'.cell? ⟨g,o,none⟩=some v):Rel F S' gb σ a w':=by
 have hpl: ∀p k,lkP σ.pm p=some k→plv gb (tv a) w' p=plv gb (tv a) w p:=by
  intro p k hk
  cases p with
  |s t=>rfl
  |t t i=>rfl
  |b d off=>
   simp only [plv]
   cases hg:gb d with
   |none=>rfl
   |some x=>
    obtain ⟨g,z⟩:=x
    have:=h.hr.gblt (h.hr.pmb d off k hk).1 hg
    simp only []
    rw [hb.cell (p:=⟨g,off,none⟩) this]
 refine ⟨h.defers,h.size,h.bw.trans (Bw.of_below hb) (M':=fun _=>False) (fun _ _ e=>e.elim),?_,h.le.trans hle,fun t=>PR.mono hle (Gb.le.refl _) _ _ (h.env t),⟨hag,?_,?_,h.hr.inj,?_,?_,?_,h.hr.pmb⟩,h.newb,?_,h.dom,h.up,h.glo⟩
 ·intro g o hg hm
  rw [hext g o (Nat.lt_of_lt_of_le hg h.bw.size)];exact h.ext g o hg hm
 ·intro d cs hcs hi
  obtain ⟨g,us,T,e1,e3,e0,e4,e5,e6⟩:=h.hr.box d cs hcs hi
  have hg:g<w.heap.size:=(Array.getElem?_eq_some_iff.1 e3).1
  exact ⟨g,us,T,e1,by rw [hb.block g hg];exact e3,e0,PRlist.mono hle (Gb.le.refl _) _ _ e4,e5,fun o=>by rw [hext g o hg];exact e6 o⟩
 ·intro d cs hcs hi
  obtain ⟨g,z,ob,e1,e2,e3,e6⟩:=h.hr.its d cs hcs hi
  have hg:g<w.heap.size:=(Array.getElem?_eq_some_iff.1 e3).1
  exact ⟨g,z,ob,e1,e2,by rw [hb.block g hg];exact e3,fun o=>by rw [hext g o hg];exact e6 o⟩
 ·intro p k hk
  rw [hpl p k hk]
  exact (h.hr.own p k hk).mono (fun g hg=>hb.block g ((h.hr.own p k hk).lt hg)) (fun g o hg hn=>by rw [hext g o ((h.hr.own p k hk).lt hg)];exact hn)
 ·intro p q k l b hk hl h1 h2
  rw [hpl p k hk] at h1
  rw [hpl q l hl] at h2
  exact h.hr.ownd p q k l b hk hl h1 h2
 ·intro p k b d z hk h1
  rw [hpl p k hk] at h1
  exact h.hr.ownb p k b d z hk h1
 ·intro p k g hk hg
  rw [hpl p k hk] at hg
  exact h.newo p k g hk hg

theorem Rel.drew (h:Rel F S gb σ a w):Rel F S gb σ a w.drew:=
 h.step ((Below.refl _ _).drew) (fun _ _ _=>rfl) (Mem.le.refl _) h.hr.agree

theorem lk_mem: ∀(l:List (Nat×AV)) t,lk l t≠ .undef→(t,lk l t)∈l:=by
 intro l t
 induction l with
 |nil=>intro hne;exact absurd rfl hne
 |cons x r ih=>
  obtain ⟨k,v⟩:=x
  simp only [lk]
  split
  ·rename_i e;subst e;intro _;simp
  ·intro hne;exact List.mem_cons_of_mem _ (ih hne)
theorem lkB_mem: ∀(l:List (Id×List AV)) t cs,lkB l t=some cs→(t,cs)∈l:=by
 intro l t cs
 induction l with
 |nil=>intro hne;cases hne
 |cons x r ih=>
  obtain ⟨k,v⟩:=x
  simp only [lkB]
  split
  ·rename_i e;subst e;intro e2;cases e2;simp
  ·intro hne;exact List.mem_cons_of_mem _ (ih hne)
theorem lkP_mem: ∀(l:List (Pl×Nat)) t k,lkP l t=some k→(t,k)∈l:=by
 intro l t k
 induction l with
 |nil=>intro hne;cases hne
 |cons x r ih=>
  obtain ⟨q,v⟩:=x
  simp only [lkP]
  split
  ·rename_i e;subst e;intro e2;cases e2;simp
  ·intro hne;exact List.mem_cons_of_mem _ (ih hne)
theorem wk_PR {v u:AV} {x:Value} (hk:wk v u) (hp:PR S gb v x):PR S gb u x:=by
 rcases hk with rfl|⟨rfl,rfl⟩
 ·exact hp
 ·simp only [PR] at hp ⊢;exact .inl ⟨hp,trivial⟩
theorem wkL_PR: ∀ {vs us:List AV} {xs:List Value},wkL vs us→PRlist S gb vs xs→PRlist S gb us xs:=by
 intro vs
 induction vs with
 |nil=>intro us xs h hp;cases us<;>simp [wkL] at h;exact hp
 |cons v r ih=>
  intro us xs h hp
  cases us with
  |nil=>simp [wkL] at h
  |cons u s=>
   simp only [wkL] at h
   simp only [PRlist] at hp ⊢
   obtain ⟨x,xs',rfl,h1,h2⟩:=hp
   exact ⟨x,xs',rfl,wk_PR h.1 h1,ih h.2 h2⟩
theorem wkL_length: ∀ {vs us:List AV},wkL vs us→vs.length=us.length:=by
 intro vs
 induction vs with
 |nil=>intro us h;cases us<;>simp [wkL] at h ⊢
 |cons v r ih=>
  intro us h
  cases us with
  |nil=>simp [wkL] at h
  |cons u s=>simp only [wkL] at h;simp [ih h.2]
theorem wkB_some {l:List (Id×List AV)} {d:Id} {cs:List AV} (h:wkB l d cs): ∃cs',lkB l d=some cs'∧wkL cs' cs:=by
 simp only [wkB] at h
 split at h
 ·rename_i cs' e;exact ⟨cs',e,h⟩
 ·cases h
theorem nilAt_plv (h:Rel F S gb σ a w) {p:Pl} (hn:nilAt σ p) (hb: ∀d off,p= .b d off→d.isIt=false):plv gb (tv a) w p= .slice none 0 0:=by
 cases p with
 |s t=>have:=h.env t;simp only [nilAt] at hn;rw [hn] at this;simpa [PR,plv] using this
 |t t i=>exact hn.elim
 |b d off=>
  simp only [nilAt] at hn
  split at hn
  ·rename_i cs hcs
   obtain ⟨g,us,T,e1,e3,e0,e4,_⟩:=h.hr.box d cs hcs (hb d off rfl)
   obtain ⟨u,hu,hp⟩:=e4.get hn
   simp only [PR] at hp
   simp only [plv,e1]
   have hcell:w.cell? ⟨g,off,none⟩=us[off]?:=by simp [World.cell?,e3]
   rw [hcell]
   rw [List.getElem?_take] at hu
   split at hu
   ·have hu2:us[off]?=some u:=by simpa using hu
    rw [hu2,hp];rfl
   ·cases hu
  ·cases hn

theorem Rel.weak (h:Rel F S gb σ a w) {τ:St} (hw:Weak σ τ): ∃gb',Rel F S gb' τ a w:=by
 let gb':Gb:=fun d=>if (lkB τ.bx d).isSome∨d.isUp=true then gb d else none
 have hgb: ∀d x,gb' d=some x→gb d=some x:=by
  intro d g hg
  simp only [gb'] at hg
  split at hg
  ·exact hg
  ·cases hg
 have hsame: ∀d,(lkB τ.bx d).isSome∨d.isUp=true→gb d=gb' d:=by
  intro d hd;simp only [gb'];rw [if_pos hd]
 have hbx: ∀d,(lkB τ.bx d).isSome→(lkB σ.bx d).isSome:=by
  intro d hd
  obtain ⟨cs,hcs⟩:=Option.isSome_iff_exists.1 hd
  obtain ⟨cs',h1,_⟩:=wkB_some (hw.b _ (lkB_mem _ _ _ hcs))
  simp only at h1
  rw [h1];rfl
 have hpi: ∀d off k,lkP τ.pm (.b d off)=some k→(lkB τ.bx d).isSome:=fun d off k hk=>hw.pi _ (lkP_mem _ _ _ hk) d (by simp [Pl.ids])
 have hpl: ∀p k,lkP τ.pm p=some k→plv gb' (tv a) w p=plv gb (tv a) w p:=by
  intro p k hk
  cases p with
  |s t=>rfl
  |t t i=>rfl
  |b d off=>simp only [plv,hsame d (.inl (hpi d off k hk))]
 have hit: ∀d off k,lkP τ.pm (.b d off)=some k→d.isIt=false:=by
  intro d off k hk
  rcases hw.p _ (lkP_mem _ _ _ hk) with h1|h1
  ·exact (h.hr.pmb d off k h1).2
  ·simp only [nilAt] at h1
   split at h1
   ·rename_i cs hcs
    cases hi:d.isIt with
    |false=>rfl
    |true=>
     obtain ⟨_,_,ob,_,e2,_⟩:=h.hr.its d cs hcs hi
     obtain ⟨v,rfl,hv⟩:=itO_one e2
     cases off with
     |zero=>simp at h1;exact absurd h1 hv
     |succ n=>simp at h1
   ·cases h1
 have hpk: ∀p k,lkP τ.pm p=some k→lkP σ.pm p=some k∨plv gb (tv a) w p= .slice none 0 0:=by
  intro p k hk
  rcases hw.p _ (lkP_mem _ _ _ hk) with h1|h1
  ·exact .inl h1
  ·exact .inr (nilAt_plv h h1 (fun d off e=>by subst e;exact hit d off k hk))
 have hblk: ∀p k b,lkP τ.pm p=some k→(plv gb (tv a) w p).ownBlock=some b→lkP σ.pm p=some k:=by
  intro p k b hk hb
  rcases hpk p k hk with h1|h1
  ·exact h1
  ·rw [h1] at hb;simp [Value.ownBlock] at hb
 refine ⟨gb',h.defers,h.size,h.bw,h.ext,h.le,?_,⟨h.hr.agree,?_,?_,?_,?_,?_,?_,?_⟩,?_,?_,?_,?_,h.glo⟩
 ·intro t
  by_cases hu:lk τ.e t= .undef
  ·rw [hu];simp [PR]
  ·have hm:=lk_mem _ _ hu
   have he:=hw.e _ hm
   have:=h.env t
   simp only at he
   exact PR.restr _ _ (fun d hd=>hsame d (hw.ei _ hm d hd)) (wk_PR he this)
 ·intro d cs hcs hi
  have hm:=lkB_mem _ _ _ hcs
  obtain ⟨cs',hcs',hb⟩:=wkB_some (hw.b _ hm)
  simp only at hcs' hb
  obtain ⟨g,us,T,e1,e3,e0,e4,e5,e6⟩:=h.hr.box d cs' hcs' hi
  have hl:=wkL_length hb
  exact ⟨g,us,T,by rw [←hsame d (.inl (by simp [hcs]))];exact e1,e3,by omega,PRlist.restr _ _ (fun d' hd=>hsame d' (hw.bi _ hm d' hd)) (wkL_PR hb (by rw [←hl];exact e4)),e5,e6⟩
 ·intro d cs hcs hi
  have hm:=lkB_mem _ _ _ hcs
  obtain ⟨cs',hcs',hb⟩:=wkB_some (hw.b _ hm)
  simp only at hcs' hb
  obtain ⟨g,z,ob,e1,e2,e3,e6⟩:=h.hr.its d cs' hcs' hi
  exact ⟨g,z,ob,by rw [←hsame d (.inl (by simp [hcs]))];exact e1,itO_wk e2 hb,e3,e6⟩
 ·exact fun d d' g z z' i1 i2 h1 h2=>h.hr.inj d d' g z z' (hbx d i1) (hbx d' i2) (hgb _ _ h1) (hgb _ _ h2)
 ·intro p k hk
  rw [hpl p k hk]
  rcases hpk p k hk with h1|h1
  ·exact h.hr.own p k h1
  ·rw [h1];exact .inl rfl
 ·intro p q k l b hk hl h1 h2
  rw [hpl p k hk] at h1
  rw [hpl q l hl] at h2
  exact h.hr.ownd p q k l b (hblk p k b hk h1) (hblk q l b hl h2) h1 h2
 ·intro p k b d z hk h1 hi hg
  rw [hpl p k hk] at h1
  exact h.hr.ownb p k b d z (hblk p k b hk h1) h1 (hbx d hi) (hgb _ _ hg)
 ·intro d off k hk;exact ⟨hpi d off k hk,hit d off k hk⟩
 ·intro d g z hd hg;exact h.newb d g z (hbx d hd) (hgb _ _ hg)
 ·intro p k g hk hg
  rw [hpl p k hk] at hg
  exact h.newo p k g (hblk p k g hk hg) hg
 ·intro d hd
  simp only [gb'] at hd
  split at hd
  ·assumption
  ·exact absurd rfl hd
 ·intro d
  have:gb' (.up d)=gb (.up d):=(hsame _ (.inr rfl)).symm
  rw [this];exact h.up d

section
variable {f g:Id→Id}
theorem rn_up (h:RnOk f g) {d:Id}:(g d).isUp=true↔d.isUp=true:=by
 constructor
 ·intro h1
  have:=h.up _ h1
  rw [h.fg] at this
  rw [this];exact h1
 ·intro h1
  have:=h.gf d
  rw [h.up d h1] at this
  rw [this];exact h1
theorem rn_itf (h:RnOk f g) {d:Id} (h1:d.isIt=false):(f d).isIt=false:=by
 cases h2:(f d).isIt
 ·rfl
 ·have h3:=h.it _ h2
  have h4:=congrArg g h3
  rw [h.gf,h.gf] at h4
  rw [h4,h1] at h2;exact h2.symm
theorem rn_itg (h:RnOk f g) {d:Id} (h1:d.isIt=true):g d=d:=by
 have:=h.gf d
 rwa [h.it d h1] at this
theorem rn_itg' (h:RnOk f g) {d:Id} (h1:d.isIt=false):(g d).isIt=false:=by
 cases h2:(g d).isIt
 ·rfl
 ·have:=h.it _ h2
  rw [h.fg] at this
  rw [←this,h1] at h2;exact h2.symm
mutual
theorem PR_rn (h:RnOk f g): ∀(v:AV) (u:Value),PR S gb v u→PR S (fun d=>gb (g d)) (v.mp f) u
 | .ptr d o,u,hp=>by
  simp only [AV.mp,PR,h.gf] at hp ⊢
  obtain ⟨x,z,h1,h2,h3⟩:=hp
  exact ⟨x,z,h1,rn_itf h h2,h3⟩
 | .ms d o n sz,u,hp=>by
  simp only [AV.mp,PR,h.gf] at hp ⊢
  obtain ⟨x,z,c,h1,h2,h3⟩:=hp
  exact ⟨x,z,c,h1,rn_itf h h2,h3⟩
 | .itp _,u,_=>by simp only [AV.mp,PR]
 | .mref d,u,hp=>by
  simp only [AV.mp,PR,h.gf] at hp ⊢
  obtain ⟨x,z,h1,h2,h3⟩:=hp
  exact ⟨x,z,h1,by rw [h.it d h2];exact h2,h3⟩
 | .nilT d _ _,u,hp=>by simpa only [AV.mp,PR,h.gf] using hp
 | .mpv _,_,hp=>by simp only [PR] at hp
 | .fn q cs,u,hp=>by
  simp only [AV.mp,PR] at hp ⊢
  obtain ⟨us,h1,h2⟩:=hp
  exact ⟨us,h1,PRlist_rn h _ _ h2⟩
 | .agg cs,u,hp=>by
  simp only [AV.mp,PR] at hp ⊢
  obtain ⟨us,h1,h0,h2⟩:=hp
  exact ⟨us,h1,h0,PRlist_rn h _ _ h2⟩
 | .tup cs,u,hp=>by
  simp only [AV.mp,PR] at hp ⊢
  obtain ⟨us,h1,h2⟩:=hp
  exact ⟨us,h1,PRlist_rn h _ _ h2⟩
 | .undef,_,_=>by simp only [AV.mp,PR]
 | .int _ _,_,hp=>by simpa only [AV.mp,PR] using hp
 | .bool _,_,hp=>by simpa only [AV.mp,PR] using hp
 | .str _,_,hp=>by simpa only [AV.mp,PR] using hp
 | .nils,_,hp=>by simpa only [AV.mp,PR] using hp
 | .sl _,_,hp=>by simpa only [AV.mp,PR] using hp
 | .pin _,_,hp=>by simpa only [AV.mp,PR] using hp
 | .itr _ _,_,hp=>by simp only [PR] at hp
 | .nilp,_,hp=>by simpa only [AV.mp,PR] using hp
 | .nili,_,hp=>by simpa only [AV.mp,PR] using hp
 | .ifc _ v,u,hp=>by
  simp only [AV.mp,PR] at hp ⊢
  obtain ⟨us,h1,h2⟩:=hp
  exact ⟨us,h1,PR_rn h v _ h2⟩
theorem PRlist_rn (h:RnOk f g): ∀(l:List AV) (us:List Value),PRlist S gb l us→PRlist S (fun d=>gb (g d)) (mpL f l) us
 |[],us,hp=>by simpa only [mpL,PRlist] using hp
 |v::r,us,hp=>by
  simp only [mpL,PRlist] at hp ⊢
  obtain ⟨u,us',h1,h2,h3⟩:=hp
  exact ⟨u,us',h1,PR_rn h v u h2,PRlist_rn h r us' h3⟩
end
theorem lk_rn (f:Id→Id): ∀(l:List (Nat×AV)) (t:Nat),lk (l.map fun p=>(p.1,p.2.mp f)) t=(lk l t).mp f
 |[],t=>rfl
 |(k,v)::r,t=>by
  simp only [List.map_cons,lk]
  split
  ·rfl
  ·exact lk_rn f r t
theorem lkB_rn (h:RnOk f g): ∀(l:List (Id×List AV)) (d:Id),lkB (mpB f l) d=(lkB l (g d)).map (mpL f)
 |[],d=>rfl
 |(k,v)::r,d=>by
  simp only [mpB,lkB]
  by_cases e:k=g d
  ·rw [if_pos e,if_pos (by rw [e,h.fg])];rfl
  ·rw [if_neg e,if_neg (fun e'=>e (by rw [←e',h.gf])),lkB_rn h r d]
theorem lkP_rn (h:RnOk f g): ∀(l:List (Pl×Nat)) (p:Pl),lkP (mpP f l) p=lkP l (p.mp g)
 |[],p=>rfl
 |(q,k)::r,p=>by
  have hq:q.mp f=p↔q=p.mp g:=by
   cases q<;>cases p<;>simp [Pl.mp]
   rename_i d o d' o'
   intro _
   constructor
   ·intro e;rw [←e,h.gf]
   ·intro e;rw [e,h.fg]
  simp only [mpP,lkP]
  by_cases e:q=p.mp g
  ·rw [if_pos e,if_pos (hq.2 e)]
  ·rw [if_neg e,if_neg (fun e'=>e (hq.1 e')),lkP_rn h r p]
theorem mpL_len {f:Id→Id}: ∀(l:List AV),(mpL f l).length=l.length
 |[]=>rfl
 |v::r=>by simp only [mpL,List.length_cons,mpL_len r]
theorem Rel.rn (h:Rel F S gb σ a w) (hf:RnOk f g):Rel F S (fun d=>gb (g d)) (σ.rn f) a w:=by
 have hpl: ∀p,plv (fun d=>gb (g d)) (tv a) w p=plv gb (tv a) w (p.mp g):=by
  intro p;cases p<;>rfl
 refine ⟨h.defers,h.size,h.bw,h.ext,h.le,?_,⟨h.hr.agree,?_,?_,?_,?_,?_,?_,?_⟩,?_,?_,?_,?_,h.glo⟩
 ·intro t
  simp only [St.rn]
  rw [lk_rn]
  exact PR_rn hf _ _ (h.env t)
 ·intro d cs hcs hi
  simp only [St.rn] at hcs
  rw [lkB_rn hf] at hcs
  cases hl:lkB σ.bx (g d) with
  |none=>rw [hl] at hcs;cases hcs
  |some cs0=>
   rw [hl] at hcs
   simp only [Option.map_some,Option.some.injEq] at hcs
   subst hcs
   obtain ⟨x,us,T,e1,e3,e0,e4,e5,e6⟩:=h.hr.box (g d) cs0 hl (rn_itg' hf hi)
   refine ⟨x,us,T,e1,e3,by rw [mpL_len];exact e0,?_,e5,e6⟩
   rw [mpL_len]
   exact PRlist_rn hf _ _ e4
 ·intro d cs hcs hi
  simp only [St.rn] at hcs
  rw [lkB_rn hf,rn_itg hf hi] at hcs
  cases hl:lkB σ.bx d with
  |none=>rw [hl] at hcs;cases hcs
  |some cs0=>
   rw [hl] at hcs
   simp only [Option.map_some,Option.some.injEq] at hcs
   subst hcs
   obtain ⟨x,z,ob,e1,e2,e3,e6⟩:=h.hr.its d cs0 hl hi
   refine ⟨x,z,ob,by rw [rn_itg hf hi];exact e1,?_,e3,e6⟩
   unfold itO at e2
   split at e2
   ·exact e2
   ·exact e2
   ·cases e2
 ·intro d d' x z z' i1 i2 h1 h2
  simp only [St.rn] at i1 i2
  rw [lkB_rn hf,Option.isSome_map] at i1 i2
  have:=h.hr.inj _ _ x z z' i1 i2 h1 h2
  have:=congrArg f this
  rwa [hf.fg,hf.fg] at this
 ·intro p k hk
  simp only [St.rn] at hk
  rw [lkP_rn hf] at hk
  rw [hpl]
  exact h.hr.own _ k hk
 ·intro p q k l b hk hl h1 h2
  simp only [St.rn] at hk hl
  rw [lkP_rn hf] at hk hl
  rw [hpl] at h1 h2
  have:=h.hr.ownd _ _ k l b hk hl h1 h2
  cases p<;>cases q<;>simp [Pl.mp] at this ⊢
  ·exact this
  ·exact this
  ·obtain ⟨e1,e2⟩:=this
   have:=congrArg f e1
   rw [hf.fg,hf.fg] at this
   exact ⟨this,e2⟩
 ·intro p k b d z hk h1 hi hg
  simp only [St.rn] at hk hi
  rw [lkP_rn hf] at hk
  rw [lkB_rn hf,Option.isSome_map] at hi
  rw [hpl] at h1
  exact h.hr.ownb _ k b _ z hk h1 hi hg
 ·intro d off k hk
  simp only [St.rn] at hk ⊢
  rw [lkP_rn hf] at hk
  obtain ⟨e1,e2⟩:=h.hr.pmb (g d) off k hk
  refine ⟨by rw [lkB_rn hf,Option.isSome_map];exact e1,?_⟩
  have:=rn_itf hf e2
  rwa [hf.fg] at this
 ·intro d x z hd hg
  simp only [St.rn] at hd
  rw [lkB_rn hf,Option.isSome_map] at hd
  exact h.newb _ x z hd hg
 ·intro p k x hk hg
  simp only [St.rn] at hk
  rw [lkP_rn hf] at hk
  rw [hpl] at hg
  exact h.newo _ k x hk hg
 ·intro d hd
  rcases h.dom (g d) hd with h1|h1
  ·left
   simp only [St.rn]
   rw [lkB_rn hf,Option.isSome_map];exact h1
  ·exact .inr ((rn_up hf).1 h1)
 ·intro d
  have:g (.up d)= .up d:=by
   have:=hf.gf (.up d)
   rwa [hf.up _ rfl] at this
  simp only [this]
  exact h.up d
end
theorem Rel.weakR (h:Rel F S gb σ a w) {τ:St} (hw:WeakR σ τ): ∃gb',Rel F S gb' τ a w:=by
 rcases hw with hw|⟨f,g,hf,hw⟩
 ·exact h.weak hw
 ·exact (h.rn hf).weak hw
theorem Rel.sameL (h:Rel F S gb σ a w) {τ:St} (he: ∀t,lk τ.e t=lk σ.e t) (hb: ∀i,lkB τ.bx i=lkB σ.bx i) (hp: ∀p k,lkP τ.pm p=some k→lkP σ.pm p=some k):Rel F S gb τ a w:=by
 refine ⟨h.defers,h.size,h.bw,h.ext,h.le,fun t=>by rw [he];exact h.env t,⟨h.hr.agree,?_,?_,?_,?_,?_,?_,?_⟩,?_,?_,?_,h.up,h.glo⟩
 ·intro d cs;rw [hb];exact h.hr.box d cs
 ·intro d cs;rw [hb];exact h.hr.its d cs
 ·intro d d' g z z';rw [hb,hb];exact h.hr.inj d d' g z z'
 ·intro p k hk;exact h.hr.own p k (hp p k hk)
 ·intro p q k l b hk hl;exact h.hr.ownd p q k l b (hp p k hk) (hp q l hl)
 ·intro p k b d z hk h1;rw [hb];exact h.hr.ownb p k b d z (hp p k hk) h1
 ·intro d off k hk;rw [hb];exact h.hr.pmb d off k (hp _ k hk)
 ·intro d g z;rw [hb];exact h.newb d g z
 ·intro p k g hk;exact h.newo p k g (hp p k hk)
 ·intro d;rw [hb];exact h.dom d
end Go.Ai
