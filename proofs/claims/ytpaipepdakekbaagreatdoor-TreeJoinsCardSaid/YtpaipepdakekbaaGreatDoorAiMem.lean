/- AiMem: a part of the proof: the rules, or what functions compute. Conditions: as each theorem says. -/
import Derived.Test.YtpaipepdakekbaaGreatDoorAiEv3
set_option linter.unusedSimpArgs false
set_option linter.unusedVariables false
namespace Go.Ai
open Go.RowKit
variable {P:Program} {F:Fr} {S:Mem} {gb:Gb} {σ:St} {a:Act} {w:World}

theorem Rel.fresh (h:Rel F S gb σ a w) {g o:Nat} (hg:w.heap.size≤g):S g o=none:=by
  cases hs:S g o with
  |none=>rfl
  |some v=>
    have:=h.hr.agree _ _ _ hs
    have:=World.block_lt_of_cell? w _ this
    simp only at this
    omega

def addS (S:Mem) (g:Nat) (l:List Value):Mem:=fun g' o=>if g'=g then l[o]? else S g' o

theorem Rel.plvlt (h:Rel F S gb σ a w) {p:Pl} {k b:Nat} (hk:lkP σ.pm p=some k) (hb:(plv gb (tv a) w p).ownBlock=some b):b<w.heap.size:=(h.hr.own p k hk).lt hb
theorem Rel.gblt (h:Rel F S gb σ a w) {d:Id} {g:Nat} {z:BZ} (hd:(lkB σ.bx d).isSome) (hg:gb d=some (g,z)):g<w.heap.size:=h.hr.gblt hd hg
theorem Rel.plv_same (h:Rel F S gb σ a w) {w':World} (hb: ∀d g z,(lkB σ.bx d).isSome→gb d=some (g,z)→w'.heap[g]?=w.heap[g]?) {p:Pl} {k:Nat} (hk:lkP σ.pm p=some k):plv gb (tv a) w' p=plv gb (tv a) w p:=by
  cases p with
  |s t=>rfl
  |t t i=>rfl
  |b d off=>
    simp only [plv]
    cases hg:gb d with
    |none=>rfl
    |some x=>
      obtain ⟨g,z⟩:=x
      simp only []
      rw [World.cell?_of_block (w:=w) (hb d g z (h.hr.pmb d off k hk).1 hg)]

theorem Rel.newRow (h:Rel F S gb σ a w) (cur:Array Value) (T:TypeId) (l:List Value) (hl: ∀(j:Nat) (u:Value),l[j]?=some u→cur[j]?=some u):
    Rel F (addS S w.heap.size l) gb σ a (w.alloc (.cells cur T)):=by
  refine h.step ((Below.refl _ _).alloc (Nat.le_refl _) _) (fun g o hg=>by simp [addS,Nat.ne_of_lt hg]) (fun g o v hs=>?_) (fun g o v hs=>?_)
  · have:g≠w.heap.size:=by intro e;subst e;rw [h.fresh (Nat.le_refl _)] at hs;cases hs
    simp [addS,this,hs]
  · simp only [addS] at hs
    split at hs
    · rename_i e;subst e
      rw [World.cell?_alloc_new]
      exact hl _ _ hs
    · rename_i e
      have hlt:g<w.heap.size:=by have:=World.block_lt_of_cell? w _ (h.hr.agree _ _ _ hs);simpa using this
      rw [World.cell?_alloc_lt]
      · exact h.hr.agree _ _ _ hs
      · exact hlt

theorem Rel.newOwn (h:Rel F S gb σ a w) {d:Nat} (hd:d<F.N) (cur:Array Value) (T:TypeId) {rows:List (List AV)} {us:List Value} {k cap:Nat} (hkb:k<KB) (hr: ∀r∈rows,r.length=k)
    (hu:PRlist S gb0 rows.flatten us) (h1: ∀u∈us,u.oneCell'=true) (hc:cur.toList.take us.length=us) (hs:cap*k≤cur.size) (hcap:rows.length≤cap) (hm:cap≤maxLen):
    ∃S',Rel F S' gb (σ.puto d (.sl rows) k) (a.put (some d) (.slice (some ⟨w.heap.size,0,none⟩) rows.length cap)) (w.alloc (.cells cur T)):=by
  have hlen:us.length=rows.length*k:=by rw [←hu.length,flatten_length hr]
  have hl: ∀(j:Nat) (u:Value),us[j]?=some u→cur[j]?=some u:=by
    intro j u hj
    rw [←hc,List.getElem?_take] at hj
    split at hj
    · simpa using hj
    · cases hj
  have h2:=h.newRow cur T us hl
  have hle:S.le (addS S w.heap.size us):=fun g o v hs=>by
    have:g≠w.heap.size:=by intro e;subst e;rw [h.fresh (Nat.le_refl _)] at hs;cases hs
    simp [addS,this,hs]
  refine ⟨_,h2.puto hd ?_ ?_ ?_ ?_ ?_⟩
  · simp only [PR]
    refine .inr ⟨_,cap,k,rfl,hcap,.inr ⟨rfl,?_⟩⟩
    rw [PRrows.flat]
    exact ⟨hr,PRcells.of_list (PRlist.mono hle (Gb.le.refl _) _ _ hu) h1 (fun j u hj=>by simpa [addS] using hj)⟩
  · refine .inr (.inl ⟨hkb,w.heap.size,rows.length,cap,cur,T,rfl,heap_alloc_new w _,hcap,hm,hs,fun o ho=>?_⟩)
    simp only [addS,if_true]
    exact List.getElem?_eq_none (by omega)
  · intro g hg
    simp only [Value.ownBlock,Option.some.injEq] at hg
    subst hg
    exact .inl h.bw.size
  · intro p l b hl' hne hb hb2
    simp only [Value.ownBlock,Option.some.injEq] at hb2
    subst hb2
    rw [h.plv_same (w':=w.alloc (.cells cur T)) (fun d g z hd hg=>Below.heap_alloc _ _ _ (h.gblt hd hg)) hl'] at hb
    have:=h.plvlt hl' hb
    omega
  · intro b d' z hb hd' hg
    simp only [Value.ownBlock,Option.some.injEq] at hb
    subst hb
    have:=h.gblt hd' hg
    omega

def updG (gb:Gb) (d:Id) (g:Nat) (z:BZ):Gb:=fun d'=>if d'=d then some (g,z) else gb d'

def BoxO (S:Mem) (gb:Gb) (d:Id) (cs:List AV) (z:BZ) (o:Obj):Prop:=
  (d.isIt=false→ ∃us T,z=⟨us.size,T⟩∧o= .cells us T (0,0)∧cs.length≤us.size∧PRlist S gb cs (us.toList.take cs.length)∧ ∀u∈us.toList,u.oneCell'=true)∧
  (d.isIt=true→itO cs=some o)

theorem Rel.newBoxT (h:Rel F S gb σ a w) {d:Nat} (hd:d<F.N) {i:Id} (hiu:i.isUp=false) (hn:lkB σ.bx i=none) {cs:List AV} {z:BZ} {o:Obj} (ho:BoxO S (updG gb i w.heap.size z) i cs z o) {v:AV} {u:Value} (hv:PR S (updG gb i w.heap.size z) v u):
    Rel F S (updG gb i w.heap.size z) ⟨(d,v)::σ.e,(i,cs)::σ.bx,dlS σ.pm d⟩ (a.put (some d) u) (w.alloc o):=by
  have hgd:gb i=none:=by
    cases hg:gb i with
    |none=>rfl
    | some g => rcases h.dom i (by rw [hg]; simp) with h1 | h1
                · rw [hn] at h1;cases h1
                · rw [hiu] at h1;cases h1
  have hle:gb.le (updG gb i w.heap.size z):=fun d' g hg=>by
    simp only [updG]
    split
    · rename_i e;subst e;rw [hgd] at hg;cases hg
    · exact hg
  have h2:Rel F S gb σ a (w.alloc o):=h.step ((Below.refl _ _).alloc (Nat.le_refl _) _) (fun _ _ _=>rfl) (Mem.le.refl _) (fun g o' v hs=>by
    have h3:=h.hr.agree _ _ _ hs
    rw [World.cell?_alloc_lt]
    · exact h3
    · exact World.block_lt_of_cell? w _ h3)
  have hne: ∀d',(lkB σ.bx d').isSome→d'≠i:=fun d' hd' e=>by subst e;rw [hn] at hd';cases hd'
  have h3:Rel F S (updG gb i w.heap.size z) ⟨σ.e,(i,cs)::σ.bx,σ.pm⟩ a (w.alloc o):=by
    have hpl: ∀p k,lkP σ.pm p=some k→plv (updG gb i w.heap.size z) (tv a) (w.alloc o) p=plv gb (tv a) (w.alloc o) p:=by
      intro p k hk
      cases p with
      |s t=>rfl
      |t t j=>rfl
      |b d' off=>simp only [plv,updG,if_neg (hne d' (h.hr.pmb d' off k hk).1)]
    refine ⟨h2.defers,h2.size,h2.bw,h2.ext,h2.le,fun t=>PR.mono (Mem.le.refl _) hle _ _ (h2.env t),⟨h2.hr.agree,?_,?_,?_,?_,?_,?_,?_⟩,?_,?_,?_,?_,h2.glo⟩
    · intro d' cs' hcs' hit
      simp only [lkB] at hcs'
      split at hcs'
      · rename_i e;subst e;cases hcs'
        obtain ⟨us,T,rfl,rfl,e0,e4,e5⟩:=ho.1 hit
        exact ⟨w.heap.size,us,T,by simp [updG],heap_alloc_new w _,e0,e4,e5,fun o=>h.fresh (Nat.le_refl _)⟩
      · obtain ⟨g,us',T',e1,e3,e0,e4,e5,e6⟩:=h2.hr.box d' cs' hcs' hit
        exact ⟨g,us',T',hle _ _ e1,e3,e0,PRlist.mono (Mem.le.refl _) hle _ _ e4,e5,e6⟩
    · intro d' cs' hcs' hit
      simp only [lkB] at hcs'
      split at hcs'
      · rename_i e;subst e;cases hcs'
        exact ⟨w.heap.size,z,_,by simp [updG],ho.2 hit,heap_alloc_new w _,fun o=>h.fresh (Nat.le_refl _)⟩
      · obtain ⟨g,z',ob,e1,e2,e3,e6⟩:=h2.hr.its d' cs' hcs' hit
        exact ⟨g,z',ob,hle _ _ e1,e2,e3,e6⟩
    · intro d1 d2 g z1 z2 i1 i2 g1 g2
      simp only [lkB] at i1 i2
      simp only [updG] at g1 g2
      split at g1
      · rename_i e1;cases g1
        split at g2
        · rename_i e2;rw [e1,e2]
        · rename_i e2
          rw [if_neg (fun e=>e2 e.symm)] at i2
          have:=h.gblt i2 g2;omega
      · rename_i e1
        rw [if_neg (fun e=>e1 e.symm)] at i1
        split at g2
        · cases g2;have:=h.gblt i1 g1;omega
        · rename_i e2
          rw [if_neg (fun e=>e2 e.symm)] at i2
          exact h.hr.inj d1 d2 g z1 z2 i1 i2 g1 g2
    · intro p k hk;rw [hpl p k hk];exact h2.hr.own p k hk
    · intro p q k l b hk hl g1 g2
      rw [hpl p k hk] at g1
      rw [hpl q l hl] at g2
      exact h2.hr.ownd p q k l b hk hl g1 g2
    · intro p k b d' z' hk g1 hd'
      rw [hpl p k hk] at g1
      simp only [updG]
      simp only [lkB] at hd'
      split
      · intro e;cases e
        rw [h.plv_same (w':=w.alloc o) (fun d g z hd hg=>Below.heap_alloc _ _ _ (h.gblt hd hg)) hk] at g1
        have:=h.plvlt hk g1
        omega
      · rename_i e2
        rw [if_neg (fun e=>e2 e.symm)] at hd'
        exact h2.hr.ownb p k b d' z' hk g1 hd'
    · intro d' off k hk
      obtain ⟨q1,q2⟩:=h2.hr.pmb d' off k hk
      refine ⟨?_,q2⟩
      simp only [lkB]
      split
      · rfl
      · exact q1
    · intro d' g z' hd' hg
      simp only [lkB] at hd'
      simp only [updG] at hg
      split at hg
      · cases hg;exact .inl h.bw.size
      · rename_i e2
        rw [if_neg (fun e=>e2 e.symm)] at hd'
        exact h2.newb d' g z' hd' hg
    · intro p k g hk hg
      rw [hpl p k hk] at hg
      exact h2.newo p k g hk hg
    · intro d' hd'
      simp only [updG] at hd'
      simp only [lkB]
      split
      · exact .inl rfl
      · rename_i e2
        rw [if_neg (fun e=>e2 e.symm)] at hd'
        exact h2.dom d' hd'
    · intro d'
      have:Id.up d'≠i:=fun e=>by rw [←e] at hiu;cases hiu
      simp only [updG,if_neg this]
      exact h2.up d'
  exact h3.put hd hv

theorem Rel.newBox (h:Rel F S gb σ a w) {d:Nat} (hd:d<F.N) {i:Id} (hiu:i.isUp=false) (hn:lkB σ.bx i=none) {cs:List AV} {z:BZ} {o:Obj} (ho:BoxO S gb i cs z o) {v:AV} {u:Value} (hv:PR S (updG gb i w.heap.size z) v u):
    Rel F S (updG gb i w.heap.size z) ⟨(d,v)::σ.e,(i,cs)::σ.bx,dlS σ.pm d⟩ (a.put (some d) u) (w.alloc o):=by
  have hgd:gb i=none:=by
    cases hg:gb i with
    |none=>rfl
    | some g => rcases h.dom i (by rw [hg]; simp) with h1 | h1
                · rw [hn] at h1;cases h1
                · rw [hiu] at h1;cases h1
  have hle:gb.le (updG gb i w.heap.size z):=fun d' g hg=>by
    simp only [updG]
    split
    · rename_i e;subst e;rw [hgd] at hg;cases hg
    · exact hg
  refine h.newBoxT hd hiu hn ⟨fun hi=>?_,ho.2⟩ hv
  obtain ⟨us,T,e1,e2,e3,e4,e5⟩:=ho.1 hi
  exact ⟨us,T,e1,e2,e3,PRlist.mono (Mem.le.refl _) hle _ _ e4,e5⟩
theorem Rel.off (h:Rel F S gb σ a w) {g:Nat} (hg:F.w0.heap.size≤g∨F.M g) (hb: ∀d z,(lkB σ.bx d).isSome→gb d≠some (g,z)) (hp: ∀p k,lkP σ.pm p=some k→(plv gb (tv a) w p).ownBlock≠some g)
    {w':World} {S':Mem} (hw: ∀k,k≠g→w'.heap[k]?=w.heap[k]?) (hsz:w'.heap.size=w.heap.size) (hos:w'.os=w.os) (htp:w'.tape=w.tape) (hou:w'.output=w.output)
    (hle:S.le S') (hof: ∀g' o,g'≠g→S' g' o=S g' o) (hag: ∀g o v,S' g o=some v→w'.cell? ⟨g,o,none⟩=some v):Rel F S' gb σ a w':=by
  have hpl: ∀p k,lkP σ.pm p=some k→plv gb (tv a) w' p=plv gb (tv a) w p:=fun p k hk=>h.plv_same (fun d q z hd hq=>hw q (fun e=>hb d z hd (by rw [hq,e]))) hk
  refine ⟨h.defers,h.size,?_,?_,h.le.trans hle,fun t=>PR.mono hle (Gb.le.refl _) _ _ (h.env t),⟨hag,?_,?_,h.hr.inj,?_,?_,?_,h.hr.pmb⟩,h.newb,?_,h.dom,h.up,h.glo⟩
  · refine ⟨hos.trans h.bw.os,htp.trans h.bw.tape,hou.trans h.bw.output,by rw [hsz];exact h.bw.size,fun k hk hm=>?_⟩
    rw [hw k (fun e=>by subst e;rcases hg with hg|hg;omega;exact hm hg)]
    exact h.bw.block k hk hm
  · intro g' o hg' hm
    rw [hof g' o (fun e=>by subst e;rcases hg with hg|hg;omega;exact hm hg)];exact h.ext g' o hg' hm
  · intro d cs hcs hi
    obtain ⟨q,us,T,e1,e3,e0,e4,e5,e6⟩:=h.hr.box d cs hcs hi
    have hne:q≠g:=fun e=>hb d _ (by simp [hcs]) (by rw [e1,e])
    exact ⟨q,us,T,e1,by rw [hw q hne];exact e3,e0,PRlist.mono hle (Gb.le.refl _) _ _ e4,e5,fun o=>by rw [hof q o hne];exact e6 o⟩
  · intro d cs hcs hi
    obtain ⟨q,z,ob,e1,e2,e3,e6⟩:=h.hr.its d cs hcs hi
    have hne:q≠g:=fun e=>hb d z (by simp [hcs]) (by rw [e1,e])
    exact ⟨q,z,ob,e1,e2,by rw [hw q hne];exact e3,fun o=>by rw [hof q o hne];exact e6 o⟩
  · intro p k hk
    rw [hpl p k hk]
    refine (h.hr.own p k hk).mono (fun q hq=>hw q (fun e=>hp p k hk (by rw [hq,e]))) (fun q o hq hn=>?_)
    rw [hof q o (fun e=>hp p k hk (by rw [hq,e]))];exact hn
  · intro p q k l b hk hl h1 h2
    rw [hpl p k hk] at h1
    rw [hpl q l hl] at h2
    exact h.hr.ownd p q k l b hk hl h1 h2
  · intro p k b d z hk h1
    rw [hpl p k hk] at h1
    exact h.hr.ownb p k b d z hk h1
  · intro p k q hk hq
    rw [hpl p k hk] at hq
    exact h.newo p k q hk hq

theorem lkB_stB {l:List (Id×List AV)} {d:Id} {cs:List AV} (d':Id) (h:(lkB l d).isSome):lkB (stB l d cs) d'=if d'=d then some cs else lkB l d':=by
  induction l with
  |nil=>simp [lkB] at h
  |cons x r ih=>
    obtain ⟨k,v⟩:=x
    simp only [stB,lkB] at h ⊢
    split
    · rename_i e;subst e
      simp only [lkB]
      split
      · rename_i e;rw [if_pos e.symm]
      · rename_i e;rw [if_neg (fun e'=>e e'.symm)]
    · rename_i e
      rw [if_neg e] at h
      simp only [lkB]
      split
      · rename_i e2;subst e2;rw [if_neg e]
      · exact ih h
theorem lkB_stB_some {l:List (Id×List AV)} {d:Id} {cs:List AV} {d':Id} (h:(lkB l d).isSome):(lkB (stB l d cs) d').isSome=(lkB l d').isSome:=by
  rw [lkB_stB d' h]
  split
  · rename_i e;subst e;rw [h];rfl
  · rfl

theorem Rel.setObj (h:Rel F S gb σ a w) {d:Id} {g:Nat} {z:BZ} (hd:(lkB σ.bx d).isSome) (hg:gb d=some (g,z)) (hS: ∀o,S g o=none)
    {w':World} (hw: ∀k,k≠g→w'.heap[k]?=w.heap[k]?) (hsz:w'.heap.size=w.heap.size) (hos:w'.os=w.os) (htp:w'.tape=w.tape) (hou:w'.output=w.output)
    {cs':List AV} (hb:d.isIt=false→ ∃us T,z=⟨us.size,T⟩∧w'.heap[g]?=some (.cells us T (0,0))∧cs'.length≤us.size∧PRlist S gb cs' (us.toList.take cs'.length)∧ ∀u∈us.toList,u.oneCell'=true)
    (hi:d.isIt=true→ ∃ob,itO cs'=some ob∧w'.heap[g]?=some ob) {pm:List (Pl×Nat)} (hpm: ∀p k,lkP pm p=some k→lkP σ.pm p=some k)
    (hsame: ∀off k,lkP pm (.b d off)=some k→w'.cell? ⟨g,off,none⟩=w.cell? ⟨g,off,none⟩):Rel F S gb ⟨σ.e,stB σ.bx d cs',pm⟩ a w':=by
  have hnew:=h.newb d g z hd hg
  have hpl: ∀p k,lkP pm p=some k→plv gb (tv a) w' p=plv gb (tv a) w p:=by
    intro p k hk
    cases p with
    |s t=>rfl
    |t t i=>rfl
    |b d' off=>
      simp only [plv]
      cases hq:gb d' with
      |none=>rfl
      |some x=>
        obtain ⟨q,z'⟩:=x
        simp only []
        by_cases e:q=g
        · subst e
          have:=h.hr.inj d' d q z' z (h.hr.pmb d' off k (hpm _ k hk)).1 hd hq hg
          subst this
          rw [hsame off k hk]
        · rw [World.cell?_of_block (w:=w) (hw q e)]
  refine ⟨h.defers,h.size,?_,h.ext,h.le,h.env,⟨?_,?_,?_,?_,?_,?_,?_,?_⟩,?_,?_,?_,h.up,h.glo⟩
  · refine ⟨hos.trans h.bw.os,htp.trans h.bw.tape,hou.trans h.bw.output,by rw [hsz];exact h.bw.size,fun k hk hm=>?_⟩
    rw [hw k (fun e=>by subst e;rcases hnew with h1|h1;omega;exact hm h1)]
    exact h.bw.block k hk hm
  · intro g' o v hs
    have hne:g'≠g:=fun e=>by subst e;rw [hS] at hs;cases hs
    rw [World.cell?_of_block (w:=w) (hw g' hne)]
    exact h.hr.agree _ _ _ hs
  · intro d' cs1 hcs1 hit
    rw [lkB_stB d' hd] at hcs1
    split at hcs1
    · rename_i e;subst e;cases hcs1
      obtain ⟨us,T,rfl,e3,e0,e4,e5⟩:=hb hit
      exact ⟨g,us,T,hg,e3,e0,e4,e5,hS⟩
    · rename_i e
      obtain ⟨q,vs,T',e1,e3,e0,e4,e5,e6⟩:=h.hr.box d' cs1 hcs1 hit
      have hne:q≠g:=fun e'=>e (h.hr.inj d' d g _ z (by simp [hcs1]) hd (by rw [e1,e']) hg)
      exact ⟨q,vs,T',e1,by rw [hw q hne];exact e3,e0,e4,e5,e6⟩
  · intro d' cs1 hcs1 hit
    rw [lkB_stB d' hd] at hcs1
    split at hcs1
    · rename_i e;subst e;cases hcs1
      obtain ⟨ob,e2,e3⟩:=hi hit
      exact ⟨g,z,ob,hg,e2,e3,hS⟩
    · rename_i e
      obtain ⟨q,z',ob,e1,e2,e3,e6⟩:=h.hr.its d' cs1 hcs1 hit
      have hne:q≠g:=fun e'=>e (h.hr.inj d' d g z' z (by simp [hcs1]) hd (by rw [e1,e']) hg)
      exact ⟨q,z',ob,e1,e2,by rw [hw q hne];exact e3,e6⟩
  · intro d1 d2 q z1 z2 i1 i2
    simp only [lkB_stB_some hd] at i1 i2
    exact h.hr.inj d1 d2 q z1 z2 i1 i2
  · intro p k hk
    rw [hpl p k hk]
    refine (h.hr.own p k (hpm p k hk)).mono (fun q hq=>hw q (fun e=>?_)) (fun q o hq hn=>hn)
    subst e
    exact h.hr.ownb p k q d z (hpm p k hk) hq hd hg
  · intro p q k l b hk hl h1 h2
    rw [hpl p k hk] at h1
    rw [hpl q l hl] at h2
    exact h.hr.ownd p q k l b (hpm p k hk) (hpm q l hl) h1 h2
  · intro p k b d' z' hk h1 hd'
    simp only [lkB_stB_some hd] at hd'
    rw [hpl p k hk] at h1
    exact h.hr.ownb p k b d' z' (hpm p k hk) h1 hd'
  · intro d' off k hk
    simp only [lkB_stB_some hd]
    exact h.hr.pmb d' off k (hpm _ k hk)
  · intro d' q z' hd' hq
    simp only [lkB_stB_some hd] at hd'
    exact h.newb d' q z' hd' hq
  · intro p k q hk hq
    rw [hpl p k hk] at hq
    exact h.newo p k q (hpm p k hk) hq
  · intro d' hd'
    simp only [lkB_stB_some hd]
    exact h.dom d' hd'
end Go.Ai
