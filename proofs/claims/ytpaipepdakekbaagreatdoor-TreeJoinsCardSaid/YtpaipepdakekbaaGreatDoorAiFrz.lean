/- AiFrz: a part of the proof: the rules, or what functions compute. Conditions: as each theorem says. -/
import Derived.Test.YtpaipepdakekbaaGreatDoorAiUse
set_option linter.unusedSimpArgs false
set_option linter.unusedVariables false
namespace Go.Ai
open Go.RowKit
variable {P:Program} {F:Fr} {S:Mem} {gb:Gb} {σ:St} {a:Act} {w:World}

def frzSt (σ:St) (s:Nat) (b:Id) (rows:List (List AV)):St:=⟨(s,.sl rows)::purE σ.e b,rmB σ.bx b,dlB σ.pm b⟩
structure FrzOk (σ:St) (s:Nat) (b:Id) (n sz:Nat) (rows:List (List AV)):Prop where
 hv:lk σ.e s= .ms b 0 n sz
 hb:lkB σ.bx b=some rows.flatten
 hup:b.isUp=false
 hn:rows.length=n
 hsz: ∀r∈rows,r.length=sz
 hids:idsL rows.flatten=[]
 hoff: ∀p∈rmB σ.bx b,b∉idsL p.2

structure FrzOk2 (σ:St) (s:Nat) (b:Id) (n sz:Nat) (rows:List (List AV)) (tl:List AV):Prop where
 hv:lk σ.e s= .ms b 0 n sz
 hb:lkB σ.bx b=some (rows.flatten++tl)
 hup:b.isUp=false
 hn:rows.length=n
 hsz: ∀r∈rows,r.length=sz
 hids:idsL rows.flatten=[]
 hoff: ∀p∈rmB σ.bx b,b∉idsL p.2
theorem FrzOk.two {σ:St} {s:Nat} {b:Id} {n sz:Nat} {rows:List (List AV)} (h:FrzOk σ s b n sz rows):FrzOk2 σ s b n sz rows []:=
 ⟨h.hv,by rw [h.hb,List.append_nil],h.hup,h.hn,h.hsz,h.hids,h.hoff⟩
def FrzX (F:Fr) (S':Mem) (gb':Gb) (σ:St) (s:Nat) (b:Id) (n sz:Nat) (a:Act) (w:World):Prop:=
 ∃g cap us T,tv a s= .slice (some ⟨g,0,none⟩) n cap∧w.heap[g]?=some (.cells us T (0,0))∧n≤cap∧cap≤maxLen∧cap*sz≤us.size∧(∀o,n*sz≤o→S' g o=none)∧(F.w0.heap.size≤g∨F.M g)∧
  (∀p k,lkP (dlB σ.pm b) p=some k→(plv gb' (tv a) w p).ownBlock≠some g)∧(∀d z,(lkB (rmB σ.bx b) d).isSome→gb' d≠some (g,z))
theorem Rel.freeze (h:Rel F S gb σ a w) {s:Nat} {b:Id} {n sz:Nat} {rows:List (List AV)} {tl:List AV} (hf:FrzOk2 σ s b n sz rows tl): ∃S' gb',Rel F S' gb' (frzSt σ s b rows) a w∧FrzX F S' gb' σ s b n sz a w:=by
 have hs:=h.env s
 rw [hf.hv] at hs
 simp only [PR] at hs
 obtain ⟨g,z,cap,hg,hit,hv,hncap,hcapm,hfit⟩:=hs
 obtain ⟨g',us,T,e1,e3,e0,e4,e5,e6⟩:=h.hr.box b _ hf.hb hit
 rw [hg] at e1;cases e1
 simp only at hfit
 have e4:PRlist S gb rows.flatten (us.toList.take rows.flatten.length):=by
  have h1:=e4.take rows.flatten.length
  rw [List.take_left',List.take_take,Nat.min_eq_left (by simp)] at h1
  ·exact h1
  ·rfl
 have hbS:(lkB σ.bx b).isSome:=by rw [hf.hb];rfl
 let S':Mem:=fun g' o=>if g'=g then (us.toList.take rows.flatten.length)[o]? else S g' o
 let gb':Gb:=fun i=>if i=b then none else gb i
 have hle:S.le S':=fun g1 o v hs=>by
  have:g1≠g:=fun e=>by subst e;rw [e6] at hs;cases hs
  simp only [S',if_neg this];exact hs
 have hof: ∀g1 o,g1≠g→S' g1 o=S g1 o:=fun g1 o hne=>by simp only [S',if_neg hne]
 have hoth: ∀i,i≠b→gb' i=gb i:=fun i h1=>by simp only [gb',if_neg h1]
 have hrm: ∀i,(lkB (rmB σ.bx b) i).isSome→i≠b∧lkB (rmB σ.bx b) i=lkB σ.bx i:=by
  intro i hi
  rw [lkB_rmB] at hi ⊢
  by_cases e:b=i
  ·rw [if_pos e] at hi;cases hi
  ·rw [if_neg e] at hi ⊢;exact ⟨fun e'=>e e'.symm,rfl⟩
 have hpr: ∀(v:AV) (u:Value),b∉v.ids→PR S gb v u→PR S' gb' v u:=fun v u hv hp=>
  PR.mono hle (Gb.le.refl _) v u (PR.restr v u (fun i hi=>by
   have:i≠b:=fun e=>hv (e▸hi)
   rw [hoth i this]) hp)
 have hprL: ∀(v:List AV) (u:List Value),b∉idsL v→PRlist S gb v u→PRlist S' gb' v u:=fun v u hv hp=>
  PRlist.mono hle (Gb.le.refl _) v u (PRlist.restr v u (fun i hi=>by
   have:i≠b:=fun e=>hv (e▸hi)
   rw [hoth i this]) hp)
 have hblk: ∀i g1 z1,(lkB (rmB σ.bx b) i).isSome→gb i=some (g1,z1)→g1≠g:=by
  intro i g1 z1 hi hq e
  obtain ⟨h1,h3⟩:=hrm i hi
  rw [h3] at hi
  exact h1 (h.hr.inj i b g z1 _ hi hbS (by rw [hq,e]) hg)
 have hkeep: ∀p k,lkP (dlB σ.pm b) p=some k→lkP σ.pm p=some k∧ ∀e o,p= .b e o→e≠b:=by
  intro p k hk
  rw [lkP_dlB] at hk
  cases p with
  |s t=>exact ⟨hk,fun e o he=>by cases he⟩
  |t t i=>exact ⟨hk,fun e o he=>by cases he⟩
  |b e o=>
   simp only at hk
   split at hk
   ·cases hk
   ·rename_i hne;exact ⟨hk,fun e' o' he=>by cases he;exact hne⟩
 have hpl: ∀p k,lkP (dlB σ.pm b) p=some k→plv gb' (tv a) w p=plv gb (tv a) w p:=by
  intro p k hk
  obtain ⟨h1,h2⟩:=hkeep p k hk
  cases p with
  |s t=>rfl
  |t t i=>rfl
  |b e o=>simp only [plv,hoth e (h2 e o rfl)]
 have hob: ∀p k g1,lkP σ.pm p=some k→(plv gb (tv a) w p).ownBlock=some g1→g1≠g:=by
  intro p k g1 hk hg1 e
  subst e
  exact h.hr.ownb p k _ b _ hk hg1 hbS hg
 have hnew:=h.newb b g _ hbS hg
 refine ⟨S',gb',?_,?_⟩
 rotate_left
 ·refine ⟨g,cap,us,T,hv,e3,hncap,hcapm,by omega,?_,hnew,?_,?_⟩
  ·intro o ho
   simp only [S',if_true]
   rw [List.getElem?_eq_none]
   rw [List.length_take,flatten_length hf.hsz,hf.hn];omega
  ·intro p k hk he
   rw [hpl p k hk] at he
   exact hob p k g (hkeep p k hk).1 he rfl
  ·intro d z hd he
   obtain ⟨r1,r3⟩:=hrm d hd
   rw [hoth d r1] at he
   exact hblk d g z hd he rfl
 refine ⟨h.defers,h.size,h.bw,?_,h.le.trans hle,?_,⟨?_,?_,?_,?_,?_,?_,?_,?_⟩,?_,?_,?_,?_,h.glo⟩
 ·intro g1 o hg1 hm
  rw [hof g1 o (fun e=>by subst e;rcases hnew with h1|h1;omega;exact hm h1)]
  exact h.ext g1 o hg1 hm
 ·intro t
  simp only [frzSt,lk]
  split
  ·rename_i e;subst e
   rw [hv]
   simp only [PR]
   refine .inr ⟨⟨g,0,none⟩,cap,sz,by rw [hf.hn],by rw [hf.hn];exact hncap,.inr ⟨rfl,?_⟩⟩
   rw [PRrows.flat]
   refine ⟨hf.hsz,PRcells.of_list (us:=us.toList.take rows.flatten.length) ?_ (fun u hu=>e5 u (List.mem_of_mem_take hu)) (fun j u hu=>by rw [Nat.zero_add];simp only [S',if_true];exact hu)⟩
   exact PRlist.noids _ _ hf.hids (PRlist.mono hle (Gb.le.refl _) _ _ e4)
  ·rw [lk_purE]
   split
   ·simp [PR]
   ·rename_i hne;exact hpr _ _ hne (h.env t)
 ·intro g1 o v hs
  simp only [S'] at hs
  split at hs
  ·rename_i e;subst e
   rw [cell_of_row w g1 o us T _ e3]
   rw [List.getElem?_take] at hs
   split at hs
   ·simpa using hs
   ·cases hs
  ·exact h.hr.agree _ _ _ hs
 ·intro d cs hcs hi
  simp only [frzSt] at hcs
  have hr:(lkB (rmB σ.bx b) d).isSome:=by rw [hcs];rfl
  obtain ⟨r1,r3⟩:=hrm d hr
  have hm:=lkB_mem _ _ _ hcs
  rw [r3] at hcs
  obtain ⟨g1,us1,T1,q1,q3,q0,q4,q5,q6⟩:=h.hr.box d cs hcs hi
  have hne:=hblk d g1 _ hr q1
  exact ⟨g1,us1,T1,by rw [hoth d r1];exact q1,q3,q0,hprL _ _ (hf.hoff _ hm) q4,q5,fun o=>by rw [hof g1 o hne];exact q6 o⟩
 ·intro d cs hcs hi
  simp only [frzSt] at hcs
  have hr:(lkB (rmB σ.bx b) d).isSome:=by rw [hcs];rfl
  obtain ⟨r1,r3⟩:=hrm d hr
  rw [r3] at hcs
  obtain ⟨g1,z1,ob1,q1,q2,q3,q6⟩:=h.hr.its d cs hcs hi
  have hne:=hblk d g1 z1 hr q1
  exact ⟨g1,z1,ob1,by rw [hoth d r1];exact q1,q2,q3,fun o=>by rw [hof g1 o hne];exact q6 o⟩
 ·intro d d' g1 z1 z2 i1 i2 q1 q2
  simp only [frzSt] at i1 i2
  obtain ⟨r1,r3⟩:=hrm d i1
  obtain ⟨s1,s3⟩:=hrm d' i2
  rw [hoth d r1] at q1
  rw [hoth d' s1] at q2
  rw [r3] at i1
  rw [s3] at i2
  exact h.hr.inj d d' g1 z1 z2 i1 i2 q1 q2
 ·intro p k hk
  rw [hpl p k hk]
  obtain ⟨h1,_⟩:=hkeep p k hk
  exact (h.hr.own p k h1).mono (fun _ _=>rfl) (fun g1 o hg1 hn=>by rw [hof g1 o (hob p k g1 h1 hg1)];exact hn)
 ·intro p q k l c hk hl c1 c2
  rw [hpl p k hk] at c1
  rw [hpl q l hl] at c2
  exact h.hr.ownd p q k l c (hkeep p k hk).1 (hkeep q l hl).1 c1 c2
 ·intro p k c d z1 hk c1 hd
  simp only [frzSt] at hd
  obtain ⟨r1,r3⟩:=hrm d hd
  rw [hpl p k hk] at c1
  rw [hoth d r1]
  rw [r3] at hd
  exact h.hr.ownb p k c d z1 (hkeep p k hk).1 c1 hd
 ·intro d o k hk
  obtain ⟨h1,h2⟩:=hkeep _ k hk
  obtain ⟨p1,p2⟩:=h.hr.pmb d o k h1
  refine ⟨?_,p2⟩
  simp only [frzSt]
  rw [lkB_rmB,if_neg (fun e=>h2 d o rfl e.symm)];exact p1
 ·intro d g1 z1 hd hq
  simp only [frzSt] at hd
  obtain ⟨r1,r3⟩:=hrm d hd
  rw [hoth d r1] at hq
  rw [r3] at hd
  exact h.newb d g1 z1 hd hq
 ·intro p k g1 hk hg1
  rw [hpl p k hk] at hg1
  exact h.newo p k g1 (hkeep p k hk).1 hg1
 ·intro d hd
  simp only [frzSt]
  by_cases e:d=b
  ·exfalso;apply hd;simp only [gb',if_pos e]
  ·rw [hoth d e] at hd
   rcases h.dom d hd with h1|h1
   ·left;rw [lkB_rmB,if_neg (fun q=>e q.symm)];exact h1
   ·exact .inr h1
 ·intro d
  have:Id.up d≠b:=fun q=>by have:=hf.hup;rw [←q] at this;cases this
  rw [hoth _ this];exact h.up d

def frzStP (σ:St) (s:Nat) (b:Id) (sz:Nat) (rows:List (List AV)):St:=(frzSt σ s b rows).puto s (.sl rows) sz
theorem Rel.freezeP (h:Rel F S gb σ a w) {s:Nat} {b:Id} {n sz:Nat} {rows:List (List AV)} {tl:List AV} (hf:FrzOk2 σ s b n sz rows tl) (hk:sz<KB): ∃S' gb',Rel F S' gb' (frzStP σ s b sz rows) a w:=by
 obtain ⟨S',gb',h1,g,cap,us,T,x1,x2,x3,x4,x5,x6,x7,x8,x9⟩:=h.freeze hf
 have hs:s<F.N:=by
  rw [←h.size]
  apply Classical.byContradiction
  intro hn
  have:tv a s=undef:=by simp only [tv,Array.getD_eq_getD_getElem?];rw [Array.getElem?_eq_none (by omega)];rfl
  rw [this] at x1
  simp [undef] at x1
 have ha:a.put (some s) (tv a s)=a:=by
  have h2:s<a.tmps.size:=by rw [h.size];exact hs
  simp only [Act.put]
  have:a.tmps.setIfInBounds s (tv a s)=a.tmps:=by
   apply Array.ext_getElem?
   intro i
   rw [Array.getElem?_setIfInBounds]
   split
   ·rename_i e;subst e;simp [tv,Array.getD_eq_getD_getElem?,h2]
   ·rfl
  rw [this]
 have hp:=h1.env s
 refine ⟨S',gb',?_⟩
 have h3:=h1.puto hs (v:= .sl rows) (u:=tv a s) (k:=sz) (by simpa [frzSt,lk] using hp) (.inr (.inl ⟨hk,g,n,cap,us,T,x1,x2,x3,x4,x5,x6⟩)) (fun g1 hg1=>by rw [x1] at hg1;simp only [Value.ownBlock,Option.some.injEq] at hg1;subst hg1;exact x7)
  (fun p l b1 hl _ hb1 he=>by rw [x1] at he;simp only [Value.ownBlock,Option.some.injEq] at he;subst he;exact x8 p l hl hb1)
  (fun b1 d' z he hd hz=>by rw [x1] at he;simp only [Value.ownBlock,Option.some.injEq] at he;subst he;exact x9 d' z hd hz)
 rw [ha] at h3
 exact h3
def postF (rs:List AR) (r:AV) (e:AE) (σ:St):Prop:=postA rs r e σ∨(∃s b n sz rows,FrzOk σ s b n sz rows∧postA rs r e (frzSt σ s b rows))∨ ∃s b n sz rows tl,FrzOk2 σ s b n sz rows tl∧postA rs r e (frzSt σ s b rows)

end Go.Ai
