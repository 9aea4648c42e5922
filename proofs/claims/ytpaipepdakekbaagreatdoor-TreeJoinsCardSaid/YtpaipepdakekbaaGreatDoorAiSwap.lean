/- AiSwap: a part of the proof: the rules, or what functions compute. Conditions: as each theorem says. -/
import Derived.Test.YtpaipepdakekbaaGreatDoorAiCall
set_option linter.unusedSimpArgs false
set_option linter.unusedVariables false
namespace Go.Ai
open Go.RowKit
variable {P:Program} {F:Fr} {S:Mem} {gb:Gb} {σ:St} {a:Act} {w:World}

theorem lk_purE (l:List (Nat×AV)) (b:Id) (t:Nat):lk (purE l b) t=if b∈(lk l t).ids then .undef else lk l t:=by
 induction l with
 |nil=>simp [purE,lk,AV.ids]
 |cons x r ih=>
  obtain ⟨k,v⟩:=x
  simp only [purE,List.map_cons,lk] at ih ⊢
  split
  ·rfl
  ·exact ih
def rnOf (b d:Id):Pl→Pl→Prop
 | .b e o,q=>(e=d∧q= .b b o)∨(e≠b∧q= .b e o)
 |p,q=>q=p
theorem lkP_rnP (l:List (Pl×Nat)) (b d:Id) (p:Pl) (k:Nat) (h:lkP (rnP l b d) p=some k): ∃q,lkP l q=some k∧rnOf b d p q:=by
 induction l with
 |nil=>simp [rnP,lkP] at h
 |cons x r ih=>
  obtain ⟨y,k0⟩:=x
  cases y with
  |s t=>
   simp only [rnP,lkP] at h
   split at h
   ·rename_i e;subst e;exact ⟨.s t,by simp only [lkP,if_true];exact h,rfl⟩
   ·rename_i hne
    obtain ⟨q,h1,h2⟩:=ih h
    refine ⟨q,?_,h2⟩
    simp only [lkP]
    rw [if_neg]
    ·exact h1
    ·intro e;subst e
     cases p with
     |s t'=>simp only [rnOf] at h2;exact hne h2
     |t _ _=>simp only [rnOf] at h2;cases h2
     |b _ _=>simp only [rnOf] at h2;rcases h2 with ⟨_,h2⟩|⟨_,h2⟩<;>cases h2
  |t t i=>
   simp only [rnP,lkP] at h
   split at h
   ·rename_i e;subst e;exact ⟨.t t i,by simp only [lkP,if_true];exact h,rfl⟩
   ·rename_i hne
    obtain ⟨q,h1,h2⟩:=ih h
    refine ⟨q,?_,h2⟩
    simp only [lkP]
    rw [if_neg]
    ·exact h1
    ·intro e;subst e
     cases p with
     |t _ _=>simp only [rnOf] at h2;exact hne h2
     |s _=>simp only [rnOf] at h2;cases h2
     |b _ _=>simp only [rnOf] at h2;rcases h2 with ⟨_,h2⟩|⟨_,h2⟩<;>cases h2
  |b e o=>
   simp only [rnP,lkP] at h
   by_cases e1:Pl.b (if e=b then d else e) o=p
   ·rw [if_pos e1] at h
    subst e1
    refine ⟨.b e o,by simp only [lkP,if_true];exact h,?_⟩
    by_cases he:e=b
    ·subst he;rw [if_pos rfl];exact .inl ⟨rfl,rfl⟩
    ·rw [if_neg he];exact .inr ⟨he,rfl⟩
   ·rw [if_neg e1] at h
    obtain ⟨q,h1,h2⟩:=ih h
    refine ⟨q,?_,h2⟩
    simp only [lkP]
    rw [if_neg]
    ·exact h1
    ·intro e2;subst e2
     cases p with
     |s _=>simp only [rnOf] at h2;cases h2
     |t _ _=>simp only [rnOf] at h2;cases h2
     |b e' o'=>
      simp only [rnOf] at h2
      rcases h2 with ⟨rfl,h2⟩|⟨h3,h2⟩
      ·cases h2;exact e1 (by rw [if_pos rfl])
      ·cases h2;exact e1 (by rw [if_neg h3])

theorem purC_no (b:Id): ∀cs:List AV,b∉idsL (purC b cs)
 |[]=>by simp [purC,idsL]
 |v::r=>by
  have ih:=purC_no b r
  simp only [purC,List.map_cons,idsL,List.mem_append,not_or] at ih ⊢
  refine ⟨?_,ih⟩
  split
  ·simp [AV.ids]
  ·assumption
theorem purC_same {b:Id}: ∀ {cs:List AV},b∉idsL cs→purC b cs=cs
 |[],_=>rfl
 |v::r,h=>by
  simp only [idsL,List.mem_append,not_or] at h
  have ih:=purC_same h.2
  simp only [purC,List.map_cons] at ih ⊢
  rw [if_neg h.1,ih]
theorem purC_len (b:Id) (cs:List AV):(purC b cs).length=cs.length:=by simp [purC]
theorem lkB_purB (l:List (Id×List AV)) (b d:Id):lkB (purB l b) d=(lkB l d).map (purC b):=by
 induction l with
 |nil=>rfl
 |cons p r ih=>
  obtain ⟨k,v⟩:=p
  simp only [purB,List.map_cons,lkB] at ih ⊢
  split
  ·rfl
  ·exact ih
theorem PRlist_purC {b:Id}: ∀(cs:List AV) (us:List Value),PRlist S gb cs us→PRlist S gb (purC b cs) us
 |[],us,h=>by simpa [purC,PRlist] using h
 |v::r,us,h=>by
  simp only [PRlist] at h
  obtain ⟨u,us',rfl,h2,h3⟩:=h
  have ih:=PRlist_purC (b:=b) r us' h3
  simp only [purC,List.map_cons,PRlist] at ih ⊢
  refine ⟨u,us',rfl,?_,ih⟩
  split
  ·simp [PR]
  ·exact h2
theorem Rel.pur (h:Rel F S gb σ a w) (b:Id):Rel F S gb ⟨σ.e,purB σ.bx b,σ.pm⟩ a w:=by
 have hs: ∀d,(lkB (purB σ.bx b) d).isSome=(lkB σ.bx d).isSome:=fun d=>by rw [lkB_purB,Option.isSome_map]
 refine ⟨h.defers,h.size,h.bw,h.ext,h.le,h.env,⟨h.hr.agree,?_,?_,?_,h.hr.own,h.hr.ownd,?_,?_⟩,?_,h.newo,?_,h.up,h.glo⟩
 ·intro d cs hcs hi
  rw [lkB_purB] at hcs
  cases hl:lkB σ.bx d with
  |none=>rw [hl] at hcs;cases hcs
  |some cs0=>
   rw [hl] at hcs
   simp only [Option.map_some,Option.some.injEq] at hcs
   subst hcs
   obtain ⟨g,us,T,e1,e3,e0,e4,e5,e6⟩:=h.hr.box d cs0 hl hi
   exact ⟨g,us,T,e1,e3,by rw [purC_len];exact e0,by rw [purC_len];exact PRlist_purC _ _ e4,e5,e6⟩
 ·intro d cs hcs hi
  rw [lkB_purB] at hcs
  cases hl:lkB σ.bx d with
  |none=>rw [hl] at hcs;cases hcs
  |some cs0=>
   rw [hl] at hcs
   simp only [Option.map_some,Option.some.injEq] at hcs
   subst hcs
   obtain ⟨g,z,ob,e1,e2,e3,e6⟩:=h.hr.its d cs0 hl hi
   refine ⟨g,z,ob,e1,?_,e3,e6⟩
   unfold itO at e2
   split at e2
   ·exact e2
   ·exact e2
   ·cases e2
 ·intro d d' g z z' i1 i2;simp only [hs] at i1 i2;exact h.hr.inj d d' g z z' i1 i2
 ·intro p k c d z hk h1 hi;simp only [hs] at hi;exact h.hr.ownb p k c d z hk h1 hi
 ·intro d off k hk;simp only [hs];exact h.hr.pmb d off k hk
 ·intro d g z hd hg;simp only [hs] at hd;exact h.newb d g z hd hg
 ·intro d hd;simp only [hs];exact h.dom d hd
theorem Rel.swap (h:Rel F S gb σ a w) {b:Id} {d:Nat} (hd:d<F.N) {cs:List AV} (hb:lkB σ.bx b=some cs) (hbu:b.isUp=false) (hit:b.isIt=false) {g:Nat} {us:Array Value} {T:TypeId} (hg:gb b=some (g,⟨us.size,T⟩)) (hcells:w.heap[g]?=some (.cells us T (0,0))) (hSg: ∀o,S g o=none)
  (hno1: ∀p∈rmB σ.bx b,b∉idsL p.2) (hno2:b∉idsL cs) (hnd:lkB (rmB σ.bx b) (.n d)=none) (hcu:PRlist S gb cs (us.toList.take cs.length)) (hcl:cs.length≤us.size)
  {w':World} {g':Nat} {us':Array Value} {T':TypeId} (hw':w'.heap[g']?=some (.cells us' T' (0,0))) (hbw: ∀k,k<w.heap.size→k≠g'→w'.heap[k]?=w.heap[k]?) (hg':g'=g∨w.heap.size≤g') (hsz:w.heap.size≤w'.heap.size)
  (hos:w'.os=w.os) (htp:w'.tape=w.tape) (hou:w'.output=w.output)
  {ns:List AV} {nus:List Value} (hns: ∀gb':Gb,(∀v u,b∉idsL v→PRlist S gb v u→PRlist S gb' v u)→PRlist S gb' ns nus) (htake:us'.toList.take (cs++ns).length=us.toList.take cs.length++nus) (hlen:(cs++ns).length≤us'.size) (hone: ∀u∈us'.toList,u.oneCell'=true)
  (hpo: ∀o k,lkP σ.pm (.b b o)=some k→o<cs.length) {n' cap' sz:Nat} (hn':n'≤cap') (hcap:cap'≤maxLen) (hfit:cap'*sz≤us'.size):
  ∃gb',Rel F S gb' ⟨(d,.ms (.n d) 0 n' sz)::purE σ.e b,(.n d,cs++ns)::rmB σ.bx b,rnP (dlS σ.pm d) b (.n d)⟩ (a.put (some d) (.slice (some ⟨g',0,none⟩) n' cap')) w':=by
 have hd':d<a.tmps.size:=by rw [h.size];exact hd
 let gb':Gb:=fun i=>if i= .n d then some (g',⟨us'.size,T'⟩) else if i=b then none else gb i
 have hS': ∀o,S g' o=none:=by
  intro o
  rcases hg' with rfl|hg'
  ·exact hSg o
  ·exact h.fresh hg'
 have hoth: ∀i,i≠b→i≠ .n d→gb' i=gb i:=fun i h1 h2=>by simp only [gb',if_neg h1,if_neg h2]
 have hrm: ∀i,(lkB (rmB σ.bx b) i).isSome→i≠b∧i≠ .n d∧lkB (rmB σ.bx b) i=lkB σ.bx i:=by
  intro i hi
  have h2:i≠ .n d:=fun e=>by subst e;rw [hnd] at hi;cases hi
  rw [lkB_rmB] at hi ⊢
  by_cases e:b=i
  ·rw [if_pos e] at hi;cases hi
  ·rw [if_neg e] at hi ⊢;exact ⟨fun e'=>e e'.symm,h2,rfl⟩
 have hlive:gb (.n d)=none∨b= .n d:=by
  cases hq:gb (.n d) with
  |none=>exact .inl rfl
  |some x=>
   right
   rcases h.dom (.n d) (by rw [hq];simp) with h1|h1
   ·have:lkB (rmB σ.bx b) (.n d)=if b= .n d then none else lkB σ.bx (.n d):=lkB_rmB _ _ _
    rw [hnd] at this
    split at this
    ·assumption
    ·rw [←this] at h1;cases h1
   ·cases h1
 have hpr: ∀(v:AV) (u:Value),b∉v.ids→PR S gb v u→PR S gb' v u:=by
  intro v u hv hp
  have h1:PR S (fun i=>if i=b then none else gb i) v u:=PR.restr v u (fun i hi=>by
   have:i≠b:=fun e=>hv (e▸hi)
   simp only [if_neg this]) hp
  refine PR.mono (Mem.le.refl _) (fun i x hx=>?_) v u h1
  split at hx
  ·cases hx
  ·rename_i hne
   have:i≠ .n d:=by
    intro e;subst e
    rcases hlive with h2|h2
    ·rw [h2] at hx;cases hx
    ·exact hne h2.symm
   rw [hoth i hne this];exact hx
 have hprL: ∀(v:List AV) (u:List Value),b∉idsL v→PRlist S gb v u→PRlist S gb' v u:=by
  intro v
  induction v with
  |nil=>intro u _ hp;simpa [PRlist] using hp
  |cons c r ih=>
   intro u hv hp
   simp only [idsL,List.mem_append,not_or] at hv
   simp only [PRlist] at hp ⊢
   obtain ⟨u1,us1,rfl,p1,p2⟩:=hp
   exact ⟨u1,us1,rfl,hpr _ _ hv.1 p1,ih _ hv.2 p2⟩
 have hblk: ∀i g1 z1,(lkB (rmB σ.bx b) i).isSome→gb i=some (g1,z1)→g1<w.heap.size∧g1≠g':=by
  intro i g1 z1 hi hq
  obtain ⟨h1,h2,h3⟩:=hrm i hi
  rw [h3] at hi
  have hlt:=h.gblt hi hq
  refine ⟨hlt,fun e=>?_⟩
  rcases hg' with e2|e2
  ·exact h1 (h.hr.inj i b g z1 _ hi (by simp [hb]) (by rw [hq,e,e2]) hg)
  ·omega
 have hnewg:F.w0.heap.size≤g'∨F.M g':=by
  rcases hg' with rfl|hg'
  ·exact h.newb b _ _ (by simp [hb]) hg
  ·exact .inl (Nat.le_trans h.bw.size hg')
 have hpl: ∀p k,lkP (rnP (dlS σ.pm d) b (.n d)) p=some k→ ∃q,lkP σ.pm q=some k∧q.at d=false∧plv gb' (tv (a.put (some d) (.slice (some ⟨g',0,none⟩) n' cap'))) w' p=plv gb (tv a) w q∧
   ((∃o,p= .b (.n d) o∧q= .b b o)∨(p=q∧ ∀e o,p= .b e o→e≠b∧(lkB (rmB σ.bx b) e).isSome)):=by
  intro p k hk
  obtain ⟨q,h1,h2⟩:=lkP_rnP _ _ _ _ _ hk
  rw [lkP_dlS] at h1
  split at h1
  ·cases h1
  ·rename_i hat
   have hat:q.at d=false:=by simpa using hat
   cases p with
   |s t=>simp only [rnOf] at h2;subst h2;exact ⟨_,h1,hat,by rw [plv_put hd' hat];rfl,.inr ⟨rfl,fun e o he=>by cases he⟩⟩
   |t t i=>simp only [rnOf] at h2;subst h2;exact ⟨_,h1,hat,by rw [plv_put hd' hat];rfl,.inr ⟨rfl,fun e o he=>by cases he⟩⟩
   |b e o=>
    simp only [rnOf] at h2
    rcases h2 with ⟨rfl,rfl⟩|⟨hne,rfl⟩
    ·refine ⟨_,h1,hat,?_,.inl ⟨o,rfl,rfl⟩⟩
     have hown:=h.hr.own _ _ h1
     simp only [plv,gb',if_true,hg]
     rw [cell_of_row w' g' o us' T' _ hw',cell_of_row w g o us T _ hcells]
     have ho:o<cs.length:=hpo o k h1
     have e1:us'.toList[o]?=us.toList[o]?:=by
      have e2:(us'.toList.take (cs++ns).length)[o]?=(us.toList.take cs.length++nus)[o]?:=by rw [htake]
      rw [List.getElem?_take,if_pos (by simp;omega),List.getElem?_append_left (by simp;omega),List.getElem?_take,if_pos ho] at e2
      exact e2
     simp only [Array.getElem?_toList] at e1
     rw [e1]
    ·have hbo:=(h.hr.pmb e o k h1).1
     have hbr:(lkB (rmB σ.bx b) e).isSome:=by rw [lkB_rmB,if_neg (fun e'=>hne e'.symm)];exact hbo
     obtain ⟨r1,r2,_⟩:=hrm e hbr
     refine ⟨_,h1,hat,?_,.inr ⟨rfl,fun e' o' he=>by cases he;exact ⟨hne,hbr⟩⟩⟩
     simp only [plv,hoth e r1 r2]
     cases hq:gb e with
     |none=>rfl
     |some x=>
      obtain ⟨g1,z1⟩:=x
      obtain ⟨f1,f2⟩:=hblk e g1 z1 hbr hq
      simp only []
      rw [World.cell?_of_block (w:=w) (hbw g1 f1 f2)]
 have hownb: ∀q k g1,lkP σ.pm q=some k→(plv gb (tv a) w q).ownBlock=some g1→g1<w.heap.size∧g1≠g':=by
  intro q k g1 hq hg1
  have hlt:=h.plvlt hq hg1
  refine ⟨hlt,fun e=>?_⟩
  rcases hg' with e2|e2
  ·exact h.hr.ownb q k g1 b _ hq hg1 (by simp [hb]) (by rw [hg,e,e2])
  ·omega
 refine ⟨gb',h.defers,by simp [Act.put,h.size],?_,h.ext,h.le,?_,⟨?_,?_,?_,?_,?_,?_,?_,?_⟩,?_,?_,?_,?_,h.glo⟩
 ·refine ⟨hos.trans h.bw.os,htp.trans h.bw.tape,hou.trans h.bw.output,Nat.le_trans h.bw.size hsz,fun k hk hm=>?_⟩
  rw [hbw k (Nat.lt_of_lt_of_le hk h.bw.size) (fun e=>by subst e;rcases hnewg with h1|h1;omega;exact hm h1)]
  exact h.bw.block k hk hm
 ·intro t
  simp only [tv_put hd',lk]
  split
  ·simp only [PR]
   exact ⟨g',⟨us'.size,T'⟩,cap',by simp [gb'],rfl,rfl,hn',hcap,by simpa using hfit⟩
  ·rw [lk_purE]
   split
   ·simp [PR]
   ·rename_i hne;exact hpr _ _ hne (h.env t)
 ·intro g1 o v hs
  have hne:g1≠g':=fun e=>by subst e;rw [hS'] at hs;cases hs
  have hlt:g1<w.heap.size:=by have:=World.block_lt_of_cell? w _ (h.hr.agree _ _ _ hs);simpa using this
  rw [World.cell?_of_block (w:=w) (hbw g1 hlt hne)]
  exact h.hr.agree _ _ _ hs
 ·intro e cs1 hcs1 hi
  simp only [lkB] at hcs1
  split at hcs1
  ·rename_i e1;subst e1;cases hcs1
   refine ⟨g',us',T',by simp [gb'],hw',hlen,?_,hone,hS'⟩
   rw [htake]
   exact (hprL _ _ hno2 hcu).append (hns _ hprL)
  ·have hr:(lkB (rmB σ.bx b) e).isSome:=by rw [hcs1];rfl
   obtain ⟨r1,r2,r3⟩:=hrm e hr
   have hm:=lkB_mem _ _ _ hcs1
   rw [r3] at hcs1
   obtain ⟨g1,us1,T1,e1,e3,e0,e4,e5,e6⟩:=h.hr.box e cs1 hcs1 hi
   obtain ⟨f1,f2⟩:=hblk e g1 _ hr e1
   exact ⟨g1,us1,T1,by rw [hoth e r1 r2];exact e1,by rw [hbw g1 f1 f2];exact e3,e0,hprL _ _ (hno1 _ hm) e4,e5,e6⟩
 ·intro e cs1 hcs1 hi
  simp only [lkB] at hcs1
  split at hcs1
  ·rename_i e1;subst e1;cases hi
  ·have hr:(lkB (rmB σ.bx b) e).isSome:=by rw [hcs1];rfl
   obtain ⟨r1,r2,r3⟩:=hrm e hr
   rw [r3] at hcs1
   obtain ⟨g1,z1,ob,e1,e2,e3,e6⟩:=h.hr.its e cs1 hcs1 hi
   obtain ⟨f1,f2⟩:=hblk e g1 z1 hr e1
   exact ⟨g1,z1,ob,by rw [hoth e r1 r2];exact e1,e2,by rw [hbw g1 f1 f2];exact e3,e6⟩
 ·intro d1 d2 g1 z1 z2 i1 i2 q1 q2
  simp only [lkB] at i1 i2
  by_cases e1:Id.n d=d1
  ·by_cases e2:Id.n d=d2
   ·rw [←e1,←e2]
   ·exfalso
    rw [if_neg e2] at i2
    obtain ⟨r1,r2,_⟩:=hrm d2 i2
    rw [hoth d2 r1 r2] at q2
    have:gb' d1=some (g',⟨us'.size,T'⟩):=by simp [gb',←e1]
    rw [this] at q1;cases q1
    exact (hblk d2 g' z2 i2 q2).2 rfl
  ·rw [if_neg e1] at i1
   obtain ⟨r1,r2,r3⟩:=hrm d1 i1
   rw [hoth d1 r1 r2] at q1
   by_cases e2:Id.n d=d2
   ·exfalso
    have:gb' d2=some (g',⟨us'.size,T'⟩):=by simp [gb',←e2]
    rw [this] at q2;cases q2
    exact (hblk d1 g' z1 i1 q1).2 rfl
   ·rw [if_neg e2] at i2
    obtain ⟨s1,s2,s3⟩:=hrm d2 i2
    rw [hoth d2 s1 s2] at q2
    rw [r3] at i1
    rw [s3] at i2
    exact h.hr.inj d1 d2 g1 z1 z2 i1 i2 q1 q2
 ·intro p k hk
  obtain ⟨q,q1,_,q2,_⟩:=hpl p k hk
  rw [q2]
  exact (h.hr.own q k q1).mono (fun g1 hg1=>hbw g1 (hownb q k g1 q1 hg1).1 (hownb q k g1 q1 hg1).2) (fun _ _ _ hn=>hn)
 ·intro p1 p2 k l c hk hl c1 c2
  obtain ⟨q1,r1,_,v1,s1⟩:=hpl p1 k hk
  obtain ⟨q2,r2,_,v2,s2⟩:=hpl p2 l hl
  rw [v1] at c1
  rw [v2] at c2
  have e:=h.hr.ownd q1 q2 k l c r1 r2 c1 c2
  rcases s1 with ⟨o1,rfl,rfl⟩|⟨rfl,t1⟩
  ·rcases s2 with ⟨o2,rfl,rfl⟩|⟨rfl,t2⟩
   ·cases e;rfl
   ·exact absurd rfl (t2 b o1 e.symm).1
  ·rcases s2 with ⟨o2,rfl,rfl⟩|⟨rfl,t2⟩
   ·exact absurd rfl (t1 b o2 e).1
   ·exact e
 ·intro p k c e z1 hk c1 he
  obtain ⟨q,r1,_,v1,_⟩:=hpl p k hk
  rw [v1] at c1
  simp only [lkB] at he
  by_cases e1:Id.n d=e
  ·have:gb' e=some (g',⟨us'.size,T'⟩):=by simp [gb',←e1]
   rw [this]
   intro e2;cases e2
   exact (hownb q k _ r1 c1).2 rfl
  ·rw [if_neg e1] at he
   obtain ⟨s1,s2,s3⟩:=hrm e he
   rw [hoth e s1 s2]
   rw [s3] at he
   exact h.hr.ownb q k c e z1 r1 c1 he
 ·intro e o k hk
  obtain ⟨q,r1,_,_,s1⟩:=hpl _ k hk
  rcases s1 with ⟨o1,e1,rfl⟩|⟨rfl,t1⟩
  ·cases e1;exact ⟨by simp [lkB],rfl⟩
  ·refine ⟨?_,(h.hr.pmb e o k r1).2⟩
   simp only [lkB]
   split
   ·rfl
   ·exact (t1 e o rfl).2
 ·intro e g1 z1 he hq
  simp only [lkB] at he
  by_cases e1:Id.n d=e
  ·have:gb' e=some (g',⟨us'.size,T'⟩):=by simp [gb',←e1]
   rw [this] at hq;cases hq
   exact hnewg
  ·rw [if_neg e1] at he
   obtain ⟨s1,s2,s3⟩:=hrm e he
   rw [hoth e s1 s2] at hq
   rw [s3] at he
   exact h.newb e g1 z1 he hq
 ·intro p k g1 hk hg1
  obtain ⟨q,r1,_,v1,_⟩:=hpl p k hk
  rw [v1] at hg1
  exact h.newo q k g1 r1 hg1
 ·intro e he
  simp only [lkB]
  by_cases e1:Id.n d=e
  ·exact .inl (by rw [if_pos e1];rfl)
  ·rw [if_neg e1]
   by_cases e2:e=b
   ·exfalso;apply he;simp only [gb'];rw [if_neg (fun q=>e1 q.symm),if_pos e2]
   ·rw [hoth e e2 (fun q=>e1 q.symm)] at he
    rcases h.dom e he with h1|h1
    ·left;rw [lkB_rmB,if_neg (fun q=>e2 q.symm)];exact h1
    ·exact .inr h1
 ·intro e
  have h1:Id.up e≠b:=fun q=>by rw [←q] at hbu;cases hbu
  rw [hoth (.up e) h1 (fun q=>by cases q)];exact h.up e
end Go.Ai
