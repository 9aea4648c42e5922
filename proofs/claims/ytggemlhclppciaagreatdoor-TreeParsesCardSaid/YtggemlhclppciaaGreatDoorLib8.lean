/- Lib8: a part of the proof: the rules, or what functions compute. Conditions: as each theorem says. -/
import Derived.Test.YtggemlhclppciaaGreatDoorLib7
import Derived.Recover
set_option linter.unusedSimpArgs false
set_option linter.unusedVariables false
namespace Go.Ai
open Go.RowKit
variable {P:Program} {F:Fr} {S:Mem} {gb:Gb} {σ:St} {a:Act} {w:World}

mutual
def nz:AV→AV
 | .nils=> .sl []
 | .fn g cs=> .fn g (nzL cs)
 | .agg cs=> .agg (nzL cs)
 | .tup cs=> .tup (nzL cs)
 |v=>v
def nzL:List AV→List AV
 |[]=>[]
 |v::r=>nz v::nzL r
end
def inSt (I:In):St:=⟨initE 0 (mpL Id.up I.vs),mpB Id.up I.bx,mpP Id.up I.pm⟩

mutual
theorem mp_noids {f:Id→Id}: ∀ {v:AV},v.ids=[]→v.mp f=v
 | .ptr _ _,h=>by simp [AV.ids] at h
 | .ms _ _ _ _,h=>by simp [AV.ids] at h
 | .itp _,h=>by simp [AV.ids] at h
 | .mref _,h=>by simp [AV.ids] at h
 | .nilT _ _ _,h=>by simp [AV.ids] at h
 | .mpv _,_=>rfl
 | .fn g cs,h=>by simp only [AV.mp];rw [mpL_noids (by simpa [AV.ids] using h)]
 | .agg cs,h=>by simp only [AV.mp];rw [mpL_noids (by simpa [AV.ids] using h)]
 | .tup cs,h=>by simp only [AV.mp];rw [mpL_noids (by simpa [AV.ids] using h)]
 | .undef,_=>rfl
 | .int _ _,_=>rfl
 | .bool _,_=>rfl
 | .str _,_=>rfl
 | .nils,_=>rfl
 | .sl _,_=>rfl
 | .pin _,_=>rfl
 | .itr _ _,_=>rfl
 | .nilp,_=>rfl
 | .ifc _ v,h=>by simp only [AV.mp];rw [mp_noids (v:=v) (by simpa [AV.ids] using h)]
 | .nili,_=>rfl
 | .yv _,_=>rfl
theorem mpL_noids {f:Id→Id}: ∀ {l:List AV},idsL l=[]→mpL f l=l
 |[],_=>rfl
 |v::r,h=>by
  simp only [idsL,List.append_eq_nil_iff] at h
  simp only [mpL]
  rw [mp_noids h.1,mpL_noids h.2]
end
mutual
theorem PR_up {S:Mem} {gb:Gb}: ∀(v:AV) (u:Value),PR S gb v u→PR S (gbUp gb) (v.mp Id.up) u
 | .ptr d o,u,h=>by simpa only [AV.mp,PR,gbUp,Id.isIt] using h
 | .ms d o n sz,u,h=>by simpa only [AV.mp,PR,gbUp,Id.isIt] using h
 | .itp _,u,_=>by simp [AV.mp,PR]
 | .mref d,u,h=>by simpa only [AV.mp,PR,gbUp,Id.isIt] using h
 | .nilT d _ _,u,h=>by simpa only [AV.mp,PR,gbUp] using h
 | .mpv _,_,h=>by simp only [PR] at h
 | .fn g cs,u,h=>by
  simp only [AV.mp,PR] at h ⊢
  obtain ⟨us,h1,h2⟩:=h
  exact ⟨us,h1,PRlist_up _ _ h2⟩
 | .agg cs,u,h=>by
  simp only [AV.mp,PR] at h ⊢
  obtain ⟨us,h1,h0,h2⟩:=h
  exact ⟨us,h1,h0,PRlist_up _ _ h2⟩
 | .tup cs,u,h=>by
  simp only [AV.mp,PR] at h ⊢
  obtain ⟨us,h1,h2⟩:=h
  exact ⟨us,h1,PRlist_up _ _ h2⟩
 | .undef,_,_=>by simp only [AV.mp,PR]
 | .int _ _,_,h=>by simpa only [AV.mp,PR] using h
 | .bool _,_,h=>by simpa only [AV.mp,PR] using h
 | .str _,_,h=>by simpa only [AV.mp,PR] using h
 | .nils,_,h=>by simpa only [AV.mp,PR] using h
 | .sl _,_,h=>by simpa only [AV.mp,PR] using h
 | .pin _,_,h=>by simpa only [AV.mp,PR] using h
 | .itr _ _,_,h=>by simp only [PR] at h
 | .nilp,_,h=>by simpa only [AV.mp,PR] using h
 | .ifc _ v,u,h=>by
  simp only [AV.mp,PR] at h ⊢
  obtain ⟨us,h1,h2⟩:=h
  exact ⟨us,h1,PR_up v _ h2⟩
 | .nili,_,h=>by simpa only [AV.mp,PR] using h
 | .yv _,_,h=>by simpa only [AV.mp,PR] using h
theorem PRlist_up {S:Mem} {gb:Gb}: ∀(l:List AV) (us:List Value),PRlist S gb l us→PRlist S (gbUp gb) (mpL Id.up l) us
 |[],us,h=>by simpa only [mpL,PRlist] using h
 |v::r,us,h=>by
  simp only [mpL,PRlist] at h ⊢
  obtain ⟨u,us',h1,h2,h3⟩:=h
  exact ⟨u,us',h1,PR_up v u h2,PRlist_up r us' h3⟩
end
mutual
theorem PR_nz {S:Mem} {gb:Gb}: ∀(v:AV) (u:Value),PR S gb v u→PR S gb (nz v) u
 | .nils,u,h=>by simp only [nz,PR] at h ⊢;exact .inl ⟨h,trivial⟩
 | .fn g cs,u,h=>by
  simp only [nz,PR] at h ⊢
  obtain ⟨us,h1,h2⟩:=h
  exact ⟨us,h1,PRlist_nz _ _ h2⟩
 | .agg cs,u,h=>by
  simp only [nz,PR] at h ⊢
  obtain ⟨us,h1,h0,h2⟩:=h
  exact ⟨us,h1,h0,PRlist_nz _ _ h2⟩
 | .tup cs,u,h=>by
  simp only [nz,PR] at h ⊢
  obtain ⟨us,h1,h2⟩:=h
  exact ⟨us,h1,PRlist_nz _ _ h2⟩
 | .ptr _ _,_,h=>h
 | .ms _ _ _ _,_,h=>h
 | .itp _,_,h=>h
 | .mref _,_,h=>h
 | .nilT _ _ _,_,h=>h
 | .mpv _,_,h=>h
 | .undef,_,h=>h
 | .int _ _,_,h=>h
 | .bool _,_,h=>h
 | .str _,_,h=>h
 | .sl _,_,h=>h
 | .pin _,_,h=>h
 | .itr _ _,_,h=>h
 | .nilp,_,h=>h
 | .ifc _ _,_,h=>h
 | .nili,_,h=>h
 | .yv _,_,h=>h
theorem PRlist_nz {S:Mem} {gb:Gb}: ∀(l:List AV) (us:List Value),PRlist S gb l us→PRlist S gb (nzL l) us
 |[],us,h=>h
 |v::r,us,h=>by
  simp only [nzL,PRlist] at h ⊢
  obtain ⟨u,us',h1,h2,h3⟩:=h
  exact ⟨u,us',h1,PR_nz v u h2,PRlist_nz r us' h3⟩
end
theorem nzL_length: ∀(l:List AV),(nzL l).length=l.length
 |[]=>rfl
 |v::r=>by simp only [nzL,List.length_cons,nzL_length r]
theorem mpL_length {f:Id→Id}: ∀(l:List AV),(mpL f l).length=l.length
 |[]=>rfl
 |v::r=>by simp only [mpL,List.length_cons,mpL_length r]

def gbOut (d:Nat) (gbc:Gb) (ob:List (Id×List AV)):Gb:=fun i=>if i.isNw d=true∧(lkB ob i).isSome=false then none else gbc (i.inn d)
def idOk (d:Nat) (ob:List (Id×List AV)) (i:Id):Prop:=i.isIt=false∧(i.isNw d=true→(lkB ob i).isSome=true)
theorem gbOut_ok {d:Nat} {gbc:Gb} {ob:List (Id×List AV)} {i:Id} (h:i.isNw d=true→(lkB ob i).isSome=true):gbOut d gbc ob i=gbc (i.inn d):=by
 unfold gbOut
 rw [if_neg]
 rintro ⟨h1,h2⟩
 rw [h h1] at h2;cases h2
theorem isIt_inn {d:Nat} {i:Id}:(i.inn d).isIt=i.isIt:=by
 cases i<;>simp only [Id.inn]<;>(try split)<;>simp_all [Id.isIt]
mutual
theorem PR_out {S:Mem} {d:Nat} {gbc:Gb} {ob:List (Id×List AV)}: ∀(v:AV) (u:Value),(∀i∈v.ids,idOk d ob i)→PR S gbc (v.mp (Id.inn d)) u→PR S (gbOut d gbc ob) v u
 | .ptr i o,u,hi,h=>by
  obtain ⟨h1,h2⟩:=hi i (by simp [AV.ids])
  simp only [AV.mp,PR] at h ⊢
  obtain ⟨g,z,e1,e2,e3⟩:=h
  exact ⟨g,z,by rw [gbOut_ok h2];exact e1,h1,e3⟩
 | .ms i o n sz,u,hi,h=>by
  obtain ⟨h1,h2⟩:=hi i (by simp [AV.ids])
  simp only [AV.mp,PR] at h ⊢
  obtain ⟨g,z,cap,e1,e2,e3⟩:=h
  exact ⟨g,z,cap,by rw [gbOut_ok h2];exact e1,h1,e3⟩
 | .itp k,u,hi,_=>by
  have:=(hi (.it k) (by simp [AV.ids])).1
  simp [Id.isIt] at this
 | .mref i,u,hi,h=>by
  have h1:=(hi i (by simp [AV.ids])).1
  simp only [AV.mp,PR] at h
  obtain ⟨g,z,_,e2,_⟩:=h
  rw [isIt_inn,h1] at e2;cases e2
 | .mpv _,_,_,h=>by simp only [AV.mp,PR] at h
 | .nilT i _ _,u,hi,h=>by
  obtain ⟨h1,h2⟩:=hi i (by simp [AV.ids])
  simp only [AV.mp,PR] at h ⊢
  obtain ⟨e0,g,e1⟩:=h
  exact ⟨e0,g,by rw [gbOut_ok h2];exact e1⟩
 | .fn g cs,u,hi,h=>by
  simp only [AV.mp,PR] at h ⊢
  obtain ⟨us,h1,h2⟩:=h
  exact ⟨us,h1,PRlist_out _ _ (by simpa [AV.ids] using hi) h2⟩
 | .agg cs,u,hi,h=>by
  simp only [AV.mp,PR] at h ⊢
  obtain ⟨us,h1,h0,h2⟩:=h
  exact ⟨us,h1,h0,PRlist_out _ _ (by simpa [AV.ids] using hi) h2⟩
 | .tup cs,u,hi,h=>by
  simp only [AV.mp,PR] at h ⊢
  obtain ⟨us,h1,h2⟩:=h
  exact ⟨us,h1,PRlist_out _ _ (by simpa [AV.ids] using hi) h2⟩
 | .undef,_,_,_=>by simp only [AV.mp,PR]
 | .int _ _,_,_,h=>by simpa only [AV.mp,PR] using h
 | .bool _,_,_,h=>by simpa only [AV.mp,PR] using h
 | .str _,_,_,h=>by simpa only [AV.mp,PR] using h
 | .nils,_,_,h=>by simpa only [AV.mp,PR] using h
 | .sl _,_,_,h=>by simpa only [AV.mp,PR] using h
 | .pin _,_,_,h=>by simpa only [AV.mp,PR] using h
 | .itr _ _,_,_,h=>by simp only [AV.mp,PR] at h
 | .nilp,_,_,h=>by simpa only [AV.mp,PR] using h
 | .nili,_,_,h=>by simpa only [AV.mp,PR] using h
 | .yv _,_,_,h=>by simpa only [AV.mp,PR] using h
 | .ifc _ v,u,hi,h=>by
  simp only [AV.mp,PR] at h ⊢
  obtain ⟨us,h1,h2⟩:=h
  exact ⟨us,h1,PR_out v _ (by simpa [AV.ids] using hi) h2⟩
theorem PRlist_out {S:Mem} {d:Nat} {gbc:Gb} {ob:List (Id×List AV)}: ∀(l:List AV) (us:List Value),(∀i∈idsL l,idOk d ob i)→PRlist S gbc (mpL (Id.inn d) l) us→PRlist S (gbOut d gbc ob) l us
 |[],us,_,h=>by simpa only [mpL,PRlist] using h
 |v::r,us,hi,h=>by
  simp only [mpL,PRlist] at h ⊢
  obtain ⟨u,us',h1,h2,h3⟩:=h
  exact ⟨u,us',h1,PR_out v u (fun i hm=>hi i (by simp [idsL,hm])) h2,PRlist_out r us' (fun i hm=>hi i (by simp [idsL,hm])) h3⟩
end
theorem inn_inj {d:Nat} {i j:Id} (h:i.inn d=j.inn d):i=j:=by
 cases i<;>cases j<;>simp only [Id.inn] at h<;>(try split at h)<;>(try split at h)<;>simp_all [Id.isUp]
 all_goals (first|(subst h;simp_all [Id.isUp])|skip)
theorem inn_it {d:Nat} {i:Id} (h:i.isIt=true):(i.inn d).isIt=true:=by
 rw [isIt_inn];exact h
theorem inn_notNw {d:Nat} {i:Id} (h:i.isNw d=false):i.inn d= .up i:=by
 cases i with
 |nw d' j=>
  simp only [Id.inn]
  rw [if_neg]
  rintro ⟨rfl,h2⟩
  cases j<;>simp_all [Id.isNw,Id.isUp]
 |_=>rfl
theorem lkB_mpB {f:Id→Id} (hf: ∀i j,f i=f j→i=j): ∀(l:List (Id×List AV)) (i:Id),lkB (mpB f l) (f i)=(lkB l i).map (mpL f)
 |[],i=>rfl
 |(d,cs)::r,i=>by
  simp only [mpB,lkB]
  by_cases e:d=i
  ·subst e;simp
  ·rw [if_neg (fun q=>e (hf _ _ q)),if_neg e,lkB_mpB hf r i]
theorem lkB_mpB_some {f:Id→Id} (hf: ∀i j,f i=f j→i=j): ∀ {l:List (Id×List AV)} {j:Id} {cs:List AV},lkB (mpB f l) j=some cs→ ∃i cs',j=f i∧lkB l i=some cs'∧cs=mpL f cs'
 |[],j,cs,h=>by simp [mpB,lkB] at h
 |(d,c)::r,j,cs,h=>by
  simp only [mpB,lkB] at h
  split at h
  ·rename_i e;simp only [Option.some.injEq] at h
   exact ⟨d,c,e.symm,by simp [lkB],h.symm⟩
  ·rename_i e
   obtain ⟨i,cs',h1,h2,h3⟩:=lkB_mpB_some hf h
   exact ⟨i,cs',h1,by simp only [lkB];rw [if_neg (fun q=>e (by rw [q,h1]))];exact h2,h3⟩
theorem lkP_mpP {f:Id→Id} (hf: ∀i j,f i=f j→i=j): ∀ {l:List (Pl×Nat)} {q:Pl} {k:Nat},lkP (mpP f l) q=some k→ ∃p,q=p.mp f∧lkP l p=some k
 |[],q,k,h=>by simp [mpP,lkP] at h
 |(p,k')::r,q,k,h=>by
  simp only [mpP,lkP] at h
  split at h
  ·rename_i e;simp only [Option.some.injEq] at h;exact ⟨p,e.symm,by simp [lkP,h]⟩
  ·rename_i e
   obtain ⟨p',h1,h2⟩:=lkP_mpP hf h
   exact ⟨p',h1,by simp only [lkP];rw [if_neg (fun q=>e (by rw [q,h1]))];exact h2⟩
theorem plv_up {gb:Gb} {sv:Nat→Value} {w:World} (p:Pl):plv (gbUp gb) sv w (p.mp Id.up)=plv gb sv w p:=by
 cases p<;>rfl
theorem up_inj (i j:Id) (h:Id.up i=Id.up j):i=j:=by cases h;rfl

theorem HR.up {bx:List (Id×List AV)} {pm:List (Pl×Nat)} {sv:Nat→Value} (h:HR S gb bx pm sv w):HR S (gbUp gb) (mpB Id.up bx) (mpP Id.up pm) sv w:=by
 refine ⟨h.agree,?_,?_,?_,?_,?_,?_,?_⟩
 ·intro d cs hcs hi
  obtain ⟨i,cs',rfl,h2,rfl⟩:=lkB_mpB_some up_inj hcs
  obtain ⟨g,us,T,e1,e3,e0,e4,e5,e6⟩:=h.box i cs' h2 hi
  exact ⟨g,us,T,e1,e3,by rw [mpL_length];exact e0,by rw [mpL_length];exact PRlist_up _ _ e4,e5,e6⟩
 ·intro d cs hcs hi
  obtain ⟨i,cs',rfl,h2,rfl⟩:=lkB_mpB_some up_inj hcs
  obtain ⟨g,z,ob,e1,e2,e3,e6⟩:=h.its i cs' h2 hi
  refine ⟨g,z,ob,e1,?_,e3,e6⟩
  unfold itO at e2
  split at e2
  ·exact e2
  ·exact e2
  ·cases e2
 ·intro d d' g z z' i1 i2 q1 q2
  obtain ⟨c1,hc1⟩:=Option.isSome_iff_exists.1 i1
  obtain ⟨c2,hc2⟩:=Option.isSome_iff_exists.1 i2
  obtain ⟨i,cs,rfl,h2,rfl⟩:=lkB_mpB_some up_inj hc1
  obtain ⟨j,cs',rfl,h3,rfl⟩:=lkB_mpB_some up_inj hc2
  rw [h.inj i j g z z' (by rw [h2];rfl) (by rw [h3];rfl) q1 q2]
 ·intro p k hp
  obtain ⟨q,rfl,h2⟩:=lkP_mpP up_inj hp
  rw [plv_up];exact h.own q k h2
 ·intro p q k l b hp hq h1 h2
  obtain ⟨p',rfl,p2⟩:=lkP_mpP up_inj hp
  obtain ⟨q',rfl,q2⟩:=lkP_mpP up_inj hq
  rw [plv_up] at h1 h2
  rw [h.ownd p' q' k l b p2 q2 h1 h2]
 ·intro p k b d z hp h1 hd
  obtain ⟨p',rfl,p2⟩:=lkP_mpP up_inj hp
  rw [plv_up] at h1
  obtain ⟨c1,hc1⟩:=Option.isSome_iff_exists.1 hd
  obtain ⟨i,cs,rfl,h2,rfl⟩:=lkB_mpB_some up_inj hc1
  exact h.ownb p' k b i z p2 h1 (by rw [h2];rfl)
 ·intro d off k hp
  obtain ⟨q,e,h2⟩:=lkP_mpP up_inj hp
  cases q with
  |b i o=>
   simp only [Pl.mp,Pl.b.injEq] at e
   obtain ⟨rfl,rfl⟩:=e
   obtain ⟨h3,h4⟩:=h.pmb i _ k h2
   refine ⟨?_,h4⟩
   rw [lkB_mpB up_inj];simpa using h3
  |s t=>cases e
  |t t i=>cases e

def wkz (v u:AV):Prop:=v=u∨nz v=u
def wkzL (v u:List AV):Prop:=v=u∨nzL v=u
def obx (d:Nat) (σ:St) (i:Id) (cs:List AV):Prop:=match lkB σ.bx (i.inn d) with
 |some c=>wkzL c (mpL (Id.inn d) cs)
 |none=>False
def pmOut (d:Nat) (rs:List AR) (ob:List (Id×List AV)) (σ:St):Pl×Nat→Prop
 |(.s t,k)=>t=0∧(match rs with |[.t s]=>lkP σ.pm (.s s)=some k∨lk σ.e s= .nils|_=>False)
 |(.t t i,k)=>t=0∧2≤rs.length∧(match rs[i]? with |some (.t s)=>lkP σ.pm (.s s)=some k∨lk σ.e s= .nils|_=>False)
 |(.b i o,k)=>(lkB ob i).isSome=true∧(lkP σ.pm (.b (i.inn d) o)=some k∨nilAt σ (.b (i.inn d) o))
def rsOne:List AR→Prop
 |[]=>True
 | .t s::r=>(∀x∈r,x≠ .t s)∧rsOne r
 |_::r=>rsOne r
structure OutOk (d:Nat) (rs:List AR) (O:Out) (σ:St):Prop where
 r:match resA σ rs with |some vs=>wkz (oneA vs) (O.r.mp (Id.inn d))|none=>False
 ids: ∀i∈O.r.ids,idOk d O.bx i
 bx: ∀p∈O.bx,(p.1.inn d).isIt=false∧obx d σ p.1 p.2
 bi: ∀p∈O.bx,∀i∈idsL p.2,idOk d O.bx i
 pm: ∀p∈O.pm,pmOut d rs O.bx σ p
 nd:O.pm=[]∨rsOne rs
inductive Frzs:St→St→Prop
 |z (σ:St):Frzs σ σ
 |s {σ τ:St} (s:Nat) (b:Id) (n sz:Nat) (rows:List (List AV)):FrzOk σ s b n sz rows→sz<KB→Frzs (frzStP σ s b sz rows) τ→Frzs σ τ
 |t {σ τ:St} (s:Nat) (b:Id) (n sz:Nat) (rows:List (List AV)) (tl:List AV):FrzOk2 σ s b n sz rows tl→sz<KB→Frzs (frzStP σ s b sz rows) τ→Frzs σ τ
def postH (d:Nat) (rs:List AR) (O:Out):AE→St→Prop
 | .x _,_=>False
 |_,σ=> ∃τ,Frzs σ τ∧OutOk d rs O τ
theorem Rel.frzs {σ τ:St} (hf:Frzs σ τ): ∀ {S:Mem} {gb:Gb},Rel F S gb σ a w→ ∃S' gb',Rel F S' gb' τ a w:=by
 induction hf with
 |z σ=>intro S gb h;exact ⟨S,gb,h⟩
 |s s b n sz rows h1 hk h2 ih=>
  intro S gb h
  obtain ⟨S',gb',h3⟩:=h.freezeP h1.two hk
  exact ih h3
 |t s b n sz rows tl h1 hk h2 ih=>
  intro S gb h
  obtain ⟨S',gb',h3⟩:=h.freezeP h1 hk
  exact ih h3
theorem rsOne_ne: ∀ {rs:List AR},rsOne rs→ ∀ {i j s:Nat},rs[i]?=some (.t s)→rs[j]?=some (.t s)→i=j
 |[],_,i,j,s,h,_=>by simp at h
 |x::r,ho,i,j,s,hi,hj=>by
  have hr:rsOne r:=by cases x<;>simp only [rsOne] at ho<;>first|exact ho.2|exact ho
  cases i with
  |zero=>
   cases j with
   |zero=>rfl
   |succ j=>
    simp at hi hj;subst hi
    simp only [rsOne] at ho
    exact absurd rfl (ho.1 _ (List.mem_of_getElem? hj))
  |succ i=>
   cases j with
   |zero=>
    simp at hi hj;subst hj
    simp only [rsOne] at ho
    exact absurd rfl (ho.1 _ (List.mem_of_getElem? hi))
   |succ j=>
    simp at hi hj
    rw [rsOne_ne hr hi hj]

theorem Rel.out (h:Rel F S gb σ a w) {d:Nat} {rs:List AR} {O:Out} (ho:OutOk d rs O σ) {vs:List AV} (hv:resA σ rs=some vs) {us:List Value} (hu:PRlist S gb vs us) (hs: ∀(i s:Nat),rs[i]?=some (AR.t s)→us[i]?=some (tv a s)) (hl:rs.length=us.length):
  let v:=if h:us.toArray.size=1 then us.toArray[0] else .tuple us.toArray
  PR S (gbOut d gb O.bx) O.r v∧HR S (gbOut d gb O.bx) O.bx O.pm (fun _=>v) w∧(∀i g z,(lkB O.bx i).isSome→gbOut d gb O.bx i=some (g,z)→F.w0.heap.size≤g∨F.M g)∧
   (∀p k g,lkP O.pm p=some k→(plv (gbOut d gb O.bx) (fun _=>v) w p).ownBlock=some g→F.w0.heap.size≤g∨F.M g):=by
 intro v
 have hval: ∀i,(lkB O.bx i).isSome=true→gbOut d gb O.bx i=gb (i.inn d):=fun i hi=>gbOut_ok (fun _=>hi)
 have hbox: ∀i cs,lkB O.bx i=some cs→ ∃c,lkB σ.bx (i.inn d)=some c∧wkzL c (mpL (Id.inn d) cs)∧(i.inn d).isIt=false∧(∀j∈idsL cs,idOk d O.bx j):=by
  intro i cs hcs
  have hm:=lkB_mem _ _ _ hcs
  obtain ⟨h1,h2⟩:=ho.bx _ hm
  simp only [obx] at h2
  split at h2
  ·rename_i c hc;exact ⟨c,hc,h2,h1,ho.bi _ hm⟩
  ·cases h2
 have hsome: ∀i,(lkB O.bx i).isSome=true→(lkB σ.bx (i.inn d)).isSome=true:=by
  intro i hi
  obtain ⟨cs,hcs⟩:=Option.isSome_iff_exists.1 hi
  obtain ⟨c,hc,_⟩:=hbox i cs hcs
  rw [hc];rfl
 have hpl: ∀p k,lkP O.pm p=some k→(∃q,lkP σ.pm q=some k∧plv (gbOut d gb O.bx) (fun _=>v) w p=plv gb (tv a) w q∧
   ((p= .s 0∧ ∃s,q= .s s∧rs=[.t s])∨(∃i s,p= .t 0 i∧q= .s s∧rs[i]?=some (.t s)∧2≤rs.length)∨(∃i o,p= .b i o∧q= .b (i.inn d) o∧(lkB O.bx i).isSome=true)))∨
   (plv (gbOut d gb O.bx) (fun _=>v) w p= .slice none 0 0∧ ∀i o,p= .b i o→(lkB O.bx i).isSome=true):=by
  intro p k hp
  have hm:=ho.pm _ (lkP_mem _ _ _ hp)
  cases p with
  |s t=>
   simp only [pmOut] at hm
   obtain ⟨rfl,hm⟩:=hm
   split at hm
   ·rename_i s
    have h1:=hs 0 s rfl
    have h2:us.length=1:=by rw [←hl];rfl
    have hvv:v=tv a s:=by
     simp only [v]
     rw [dif_pos (by simpa using h2)]
     rw [List.getElem?_eq_some_iff] at h1
     obtain ⟨_,h1⟩:=h1
     simpa using h1
    rcases hm with hm|hm
    ·exact .inl ⟨.s s,hm,by simp only [plv,hvv],.inl ⟨rfl,s,rfl,rfl⟩⟩
    ·right
     refine ⟨?_,fun i o he=>by cases he⟩
     have:=h.env s
     rw [hm] at this
     simp only [plv,hvv]
     simpa [PR] using this
   ·cases hm
  |t t i=>
   simp only [pmOut] at hm
   obtain ⟨rfl,h2,hm⟩:=hm
   split at hm
   ·rename_i s hi
    have h1:=hs i s hi
    have hvv:v= .tuple us.toArray:=by
     simp only [v]
     rw [dif_neg]
     simp;omega
    have hg:us.toArray.getD i undef=tv a s:=by
     rw [Array.getD_eq_getD_getElem?]
     simp [h1]
    rcases hm with hm|hm
    ·exact .inl ⟨.s s,hm,by simp only [plv,hvv];exact hg,.inr (.inl ⟨i,s,rfl,rfl,hi,h2⟩)⟩
    ·right
     refine ⟨?_,fun i o he=>by cases he⟩
     have:=h.env s
     rw [hm] at this
     simp only [plv,hvv]
     rw [hg]
     simpa [PR] using this
   ·cases hm
  |b i o=>
   simp only [pmOut] at hm
   obtain ⟨h1,hm⟩:=hm
   have he:plv (gbOut d gb O.bx) (fun _=>v) w (.b i o)=plv gb (tv a) w (.b (i.inn d) o):=by simp only [plv,hval i h1]
   rcases hm with hm|hm
   ·exact .inl ⟨_,hm,he,.inr (.inr ⟨i,o,rfl,rfl,h1⟩)⟩
   ·right
    refine ⟨?_,fun i' o' e=>by cases e;exact h1⟩
    rw [he]
    obtain ⟨cs,hcs⟩:=Option.isSome_iff_exists.1 h1
    obtain ⟨_,_,_,h3,_⟩:=hbox i cs hcs
    exact nilAt_plv h hm (fun d' off e=>by cases e;exact h3)
 refine ⟨?_,⟨h.hr.agree,?_,?_,?_,?_,?_,?_,?_⟩,?_,?_⟩
 ·have h1:=one_PR hu
  have h2:=ho.r
  rw [hv] at h2
  refine PR_out _ _ ho.ids ?_
  rcases h2 with h2|h2
  ·rw [←h2];exact h1
  ·rw [←h2];exact PR_nz _ _ h1
 ·intro i cs hcs hi
  obtain ⟨c,hc,hw,h3,h4⟩:=hbox i cs hcs
  obtain ⟨g,us',T,e1,e3,e0,e4,e5,e6⟩:=h.hr.box _ c hc h3
  have hlen:c.length=cs.length:=by
   rcases hw with hw|hw
   ·rw [hw,mpL_length]
   ·rw [←nzL_length,hw,mpL_length]
  refine ⟨g,us',T,by rw [hval i (by rw [hcs];rfl)];exact e1,e3,by omega,PRlist_out _ _ h4 ?_,e5,e6⟩
  rw [←hlen]
  rcases hw with hw|hw
  ·rw [←hw];exact e4
  ·rw [←hw];exact PRlist_nz _ _ e4
 ·intro i cs hcs hi
  obtain ⟨c,hc,hw,h3,h4⟩:=hbox i cs hcs
  rw [inn_it hi] at h3;cases h3
 ·intro i j g z z' i1 i2 q1 q2
  rw [hval i i1] at q1
  rw [hval j i2] at q2
  exact inn_inj (h.hr.inj _ _ g z z' (hsome i i1) (hsome j i2) q1 q2)
 ·intro p k hp
  rcases hpl p k hp with ⟨q,q1,q2,_⟩|⟨q1,_⟩
  ·rw [q2];exact h.hr.own q k q1
  ·rw [q1];exact .inl rfl
 ·intro p q k l b hp hq hb1 hb2
  have hne:O.pm≠[]:=fun e=>by rw [e] at hp;simp [lkP] at hp
  have hnd:rsOne rs:=by
   rcases ho.nd with h1|h1
   ·exact absurd h1 hne
   ·exact h1
  rcases hpl p k hp with ⟨p',p1,p2,p3⟩|⟨p1,_⟩
  ·rcases hpl q l hq with ⟨q',q1,q2,q3⟩|⟨q1,_⟩
   ·rw [p2] at hb1
    rw [q2] at hb2
    have e:=h.hr.ownd p' q' k l b p1 q1 hb1 hb2
    subst e
    rcases p3 with ⟨rfl,s,rfl,hr1⟩|⟨i,s,rfl,rfl,hr1,hr2⟩|⟨i,o,rfl,rfl,_⟩
    ·rcases q3 with ⟨rfl,_⟩|⟨j,s',rfl,e2,_,hr3⟩|⟨j,o',rfl,e2,_⟩
     ·rfl
     ·rw [hr1] at hr3;simp at hr3
     ·cases e2
    ·rcases q3 with ⟨rfl,s',e2,hr3⟩|⟨j,s',rfl,e2,hr3,_⟩|⟨j,o',rfl,e2,_⟩
     ·rw [hr3] at hr2;simp at hr2
     ·cases e2;rw [rsOne_ne hnd hr1 hr3]
     ·cases e2
    ·rcases q3 with ⟨rfl,s',e2,hr3⟩|⟨j,s',rfl,e2,hr3,_⟩|⟨j,o',rfl,e2,_⟩
     ·cases e2
     ·cases e2
     ·simp only [Pl.b.injEq] at e2
      rw [inn_inj e2.1,e2.2]
   ·rw [q1] at hb2;simp [Value.ownBlock] at hb2
  ·rw [p1] at hb1;simp [Value.ownBlock] at hb1
 ·intro p k b i z hp hb hi
  rcases hpl p k hp with ⟨q,q1,q2,_⟩|⟨q1,_⟩
  ·rw [q2] at hb
   rw [hval i hi]
   exact h.hr.ownb q k b _ z q1 hb (hsome i hi)
  ·rw [q1] at hb;simp [Value.ownBlock] at hb
 ·intro i o k hp
  have hi:(lkB O.bx i).isSome=true:=by
   rcases hpl _ k hp with ⟨q,q1,q2,q3⟩|⟨_,q1⟩
   ·rcases q3 with ⟨e,_⟩|⟨_,_,e,_⟩|⟨i',o',e,_,h1⟩
    ·cases e
    ·cases e
    ·cases e;exact h1
   ·exact q1 i o rfl
  refine ⟨hi,?_⟩
  obtain ⟨cs,hcs⟩:=Option.isSome_iff_exists.1 hi
  obtain ⟨_,_,_,h3,_⟩:=hbox i cs hcs
  cases hit:i.isIt with
  |false=>rfl
  |true=>rw [inn_it hit] at h3;cases h3
 ·intro i g z hi hq
  rw [hval i hi] at hq
  exact h.newb _ g z (hsome i hi) hq
 ·intro p k g hp hg
  rcases hpl p k hp with ⟨q,q1,q2,_⟩|⟨q1,_⟩
  ·rw [q2] at hg;exact h.newo q k g q1 hg
  ·rw [q1] at hg;simp [Value.ownBlock] at hg

theorem mRs_length: ∀ {rs:List AR} {qs:List ResultVar} {σ:St} {vs:List AV},resA σ rs=some vs→vs.length=rs.length
 |[],qs,σ,vs,h=>by simp only [resA,Option.some.injEq] at h;subst h;rfl
 | .t s::r,qs,σ,vs,h=>by
  simp only [resA] at h
  split at h
  ·rename_i vs' hv
   simp only [Option.some.injEq] at h;subst h
   simp only [List.length_cons,mRs_length (qs:=qs) hv]
  ·cases h
 | .cs s::r,qs,σ,vs,h=>by
  simp only [resA] at h
  split at h
  ·rename_i v vs' _ hv
   simp only [Option.some.injEq] at h;subst h
   simp only [List.length_cons,mRs_length (qs:=qs) hv]
  ·cases h
 | .ca s n::r,qs,σ,vs,h=>by
  simp only [resA] at h
  split at h
  ·rename_i v vs' _ hv
   simp only [Option.some.injEq] at h;subst h
   simp only [List.length_cons,mRs_length (qs:=qs) hv]
  ·cases h

theorem fun_soundH {GL:List (Nat×List Value)} {dr:Array Oper→List (List Nat)→List AOp→Bool} {f:Nat} {fn:Func} {af:AF} (hf:P.funcs[f]?=some fn) (hm:mF P GL dr fn af=true) (hd:DrawsOk P GL af.N dr) {d:Nat} {I:In} {O:Out} (hl:I.vs.length=af.np)
  (hw:wpA (Spec P GL) af.c (postH d af.rs O) (inSt I)):Spec P GL f d I O:=by
 simp only [mF,Bool.and_eq_true,bne_iff_ne,beq_iff_eq] at hm
 obtain ⟨⟨⟨⟨⟨h1,h2⟩,h3⟩,h4⟩,h5⟩,h6⟩:=hm
 split at h6<;>(try cases h6)
 rename_i c hb
 have h4:=Nat.le_of_ble_eq_true h4
 intro S gb w vs hvs hhr hglo hnw
 have hlen:vs.length=I.vs.length:=hvs.length.symm
 unfold Does
 have hcall:(callFunc f vs.toArray).run P w= .ok (.enter f vs.toArray) w:=by
  simp [callFunc,hf,hb,h1]
 rw [hcall]
 refine calls_of_wp hf hb ?_
 let F:Fr:=⟨S,w,MS I gb (fun t=>vs.getD t undef) w,gb,af.N,GL,[]⟩
 have hsv:tv {tmps:=vs.toArray++Array.replicate (fn.ntmps - vs.toArray.size) undef,defers:=[]}=fun t=>vs.getD t undef:=by
  funext t;exact tv_init
 have hup:=hhr.up
 have hrel:Rel F S (gbUp gb) (inSt I) {tmps:=vs.toArray++Array.replicate (fn.ntmps - vs.toArray.size) undef,defers:=[]} w:=by
  refine ⟨rfl,?_,Bw.refl _ _,fun _ _ _ _=>rfl,Mem.le.refl _,?_,by rw [hsv];exact hup,?_,?_,?_,fun d=>rfl,hglo⟩
  ·show (vs.toArray++Array.replicate (fn.ntmps - vs.toArray.size) undef).size=af.N
   simp;omega
  ·intro t
   have:=(lk_initE (PRlist_up _ _ hvs) 0 t).2 t (by omega)
   rw [tv_init]
   exact this
  ·intro i g z hi hq
   obtain ⟨c1,hc1⟩:=Option.isSome_iff_exists.1 hi
   obtain ⟨j,cs,rfl,hj,_⟩:=lkB_mpB_some up_inj hc1
   exact .inr (.inl ⟨j,z,by rw [hj];rfl,hq⟩)
  ·intro p k g hp hg
   obtain ⟨q,rfl,hq⟩:=lkP_mpP up_inj hp
   rw [hsv,plv_up] at hg
   exact .inr (.inr ⟨q,k,hq,hg⟩)
  ·intro i hi
   cases i<;>simp [gbUp,Id.isUp] at hi ⊢
 refine code_sound (F:=F) hd h6 (Q:=postH d af.rs O) ?_ hrel hw
 intro e S0' gb0' σ0 a' w' hr0 hq0
 have fin: ∀σ0,Rel F S0' gb0' σ0 a' w'→(∃τ,Frzs σ0 τ∧OutOk d af.rs O τ)→a'.defers=[]∧ ∃v,(results fn a'.tmps).run P w'= .ok v w'∧(∃u,Ending.returned v= .returned u∧ ∃S'' gb'',PostR d I O S gb (fun t=>vs.getD t undef) w S'' gb'' u w'):=by
  rintro σ0 hr0 ⟨τ,hfz,hok⟩
  obtain ⟨S',gb',hr⟩:=hr0.frzs hfz
  refine ⟨hr.defers,?_⟩
  have hr':=hok.r
  split at hr'
  ·rename_i vs' hv
   obtain ⟨us,hrun,g2,g3⟩:=res_run (P:=P) hr h5 hv
   obtain ⟨o1,o2,o3,o4⟩:=hr.out hok hv g2 g3 (by rw [←g2.length];exact (mRs_length (qs:=[]) hv).symm)
   refine ⟨_,hrun,_,rfl,S',gbOut d gb' O.bx,hr.bw,hr.ext,hr.le,?_,?_,o1,o2,o3,o4⟩
   ·intro i hi
    have:gbOut d gb' O.bx i=gb' (i.inn d):=gbOut_ok (fun e=>by rw [hi] at e;cases e)
    rw [this,inn_notNw hi]
    exact hr.up i
   ·intro i hi hne
    simp only [gbOut] at hne
    split at hne
    ·exact absurd rfl hne
    ·rename_i hno
     cases hs:(lkB O.bx i).isSome with
     |true=>rfl
     |false=>exact absurd ⟨hi,hs⟩ hno
  ·cases hr'
 cases e
 ·exact fin _ hr0 hq0
 ·exact hq0.elim
 ·exact fin _ hr0 hq0
theorem fun_spH {P:Program} {GL:List (Nat×List Value)} {dr:Array Oper→List (List Nat)→List AOp→Bool} {f:Nat} {fn:Func} {af:AF} (hf:P.funcs[f]?=some fn) (hm:mF P GL dr fn af=true) (hd:DrawsOk P GL af.N dr) {d:Nat} {I:In} {O:Out} (hl:I.vs.length=af.np)
  (hw:wpA (SpH P GL) af.c (postH d af.rs O) (inSt I)):SpH P GL f d I O:=by
 rw [sph_eq] at hw ⊢;exact fun_soundH hf hm hd hl hw

def onH (S:Nat→Nat→In→Out→Prop) (f d:Nat) (xs:List X) (K:St→Prop) (σ:St):Prop:=wpC S f d xs K σ
@[simp] theorem wp1_ce {S:Nat→Nat→In→Out→Prop} {d f xs} {K:St→Prop} {σ:St}:wp1 S (.ce d f xs) K σ=onH S f d xs K σ:=by rw [wp1];rfl
def onD (S:Nat→Nat→In→Out→Prop) (d:Nat) (xs:List X) (K:St→Prop) (σ:St):AV→Prop
 | .fn f caps=>onH S f d (xs++caps.map X.c) K σ
 |_=>False
@[simp] theorem wp1_cd {S:Nat→Nat→In→Out→Prop} {d x xs} {K:St→Prop} {σ:St}:wp1 S (.cd d x xs) K σ=onD S d xs K σ (σ.v x):=by
 rw [wp1];unfold onD onH;cases σ.v x<;>rfl
@[simp] theorem onD_fn {S:Nat→Nat→In→Out→Prop} {d xs f caps} {K:St→Prop} {σ:St}:onD S d xs K σ (.fn f caps)=onH S f d (xs++caps.map X.c) K σ:=rfl
theorem onH_mk {P:Program} {GL:List (Nat×List Value)} {K:St→Prop} {σ:St} {f d:Nat} {xs:List X} (I:In) (O:Out) (h:SpH P GL f d I O) (hc:CallOk d σ xs I O) (hk:K (callSt d σ xs I O)):onH (SpH P GL) f d xs K σ:=⟨I,O,h,hc,hk⟩
theorem onQ_mk {P:Program} {GL:List (Nat×List Value)} {K:St→Prop} {σ:St} {f d:Nat} {xs:List X} {fr:List Nat} (I:In) (O:Out) (h:SpH P GL f d I O) (hc:CallOk d σ xs I O) (hq:CqOk fr I O) (hk:K (callSt d σ xs I O)) (hn:fr.contains d=false:=by decide):onQ (SpH P GL) f d xs fr K σ:=⟨I,O,h,hc,⟨hq,hn⟩,hk⟩
theorem postH_n {d:Nat} {rs:List AR} {O:Out} {σ:St} (h:OutOk d rs O σ):postH d rs O .n σ:=⟨σ,.z σ,h⟩
theorem postH_r {d:Nat} {rs:List AR} {O:Out} {σ:St} (h:OutOk d rs O σ):postH d rs O .r σ:=⟨σ,.z σ,h⟩
@[simp] theorem inn_up {d i}:(Id.up i).inn d= .up (.up i):=rfl
@[simp] theorem inn_n {d k}:(Id.n k).inn d= .up (.n k):=rfl
@[simp] theorem inn_ix {d i k}:(Id.ix i k).inn d= .up (.ix i k):=rfl
@[simp] theorem inn_itr {d k}:(Id.it k).inn d= .up (.it k):=rfl
@[simp] theorem inn_nw {d d' i}:(Id.nw d' i).inn d=if d'=d∧i.isUp=false then i else .up (.nw d' i):=rfl
@[simp] theorem nw_up {d i}:(Id.up i).isNw d=false:=rfl
@[simp] theorem nw_n {d k}:(Id.n k).isNw d=false:=rfl
@[simp] theorem nw_ix {d i k}:(Id.ix i k).isNw d=false:=rfl
@[simp] theorem nw_itr {d k}:(Id.it k).isNw d=false:=rfl
@[simp] theorem nw_nw {d d' i}:(Id.nw d' i).isNw d=(d'==d&&!i.isUp):=rfl
attribute [simp] AV.mp mpL mpB mpP Pl.mp inSt nz nzL rmBs dlBs dlXs retP callSt pmIn pmOne pmOut obx wkz wkzL idOk rsOne frzSt frzStP St.puto
theorem SpH.noPm {P:Program} {GL:List (Nat×List Value)} {f d:Nat} {I:In} {r:AV} {bx:List (Id×List AV)} {pm:List (Pl×Nat)} (h:SpH P GL f d I ⟨r,bx,pm⟩):SpH P GL f d I ⟨r,bx,[]⟩:=by
 rw [sph_eq] at h ⊢
 intro S gb w vs hvs hhr hglo hnw
 have:=h S gb w vs hvs hhr hglo hnw
 have hm: ∀v w',(∃S' gb',PostR d I ⟨r,bx,pm⟩ S gb (fun t=>vs.getD t undef) w S' gb' v w')→ ∃S' gb',PostR d I ⟨r,bx,[]⟩ S gb (fun t=>vs.getD t undef) w S' gb' v w':=by
  rintro v w' ⟨S',gb',q⟩
  refine ⟨S',gb',q.bw,q.ext,q.le,q.same,q.nw,q.r,⟨q.hr.agree,q.hr.box,q.hr.its,q.hr.inj,?_,?_,?_,?_⟩,q.newb,?_⟩
  ·intro p k hk;simp [lkP] at hk
  ·intro p q k l b hk;simp [lkP] at hk
  ·intro p k b d z hk;simp [lkP] at hk
  ·intro d off k hk;simp [lkP] at hk
  ·intro p k g hk;simp [lkP] at hk
 unfold Does at this ⊢
 split at this
 ·exact hm _ _ this
 ·exact this.mono (fun e w' ⟨v,h1,h2⟩=>⟨v,h1,hm _ _ h2⟩)
 ·exact this
theorem Sp.of_h {P:Program} {GL:List (Nat×List Value)} {f:Nat} {l:List AV} {r:AV} (h: ∀d,SpH P GL f d ⟨l,[],[]⟩ ⟨r,[],[]⟩):Sp P GL f l r:=by unfold Sp;exact h
theorem Sp.h {P:Program} {GL:List (Nat×List Value)} {f d:Nat} {l:List AV} {r:AV} (h:Sp P GL f l r):SpH P GL f d ⟨l,[],[]⟩ ⟨r,[],[]⟩:=by unfold Sp at h;exact h d
end Go.Ai
namespace Go.Ai
open Go.RowKit
variable {P:Program} {F:Fr} {S:Mem} {gb:Gb} {σ:St} {a:Act} {w:World}

abbrev thrown (v:Value):List PanicEntry:=[{v,recovered:=false}]
def DoesP (P:Program) (f:FuncId) (vs:Array Value) (w:World) (R:Value→World→Prop):Prop:=
 match (callFunc f vs).run P w with
 | .ok (.enter f' as') w'=>Calls P f' as' w' fun e w''=> ∃v,e= .panicked (thrown v)∧R v w''
 |_=>False
def SpecP (P:Program) (GL:List (Nat×List Value)) (f d:Nat) (I:In) (O:Out):Prop:=
 ∀(S:Mem) (gb:Gb) (w:World) (vs:List Value),PRlist S gb I.vs vs→HR S gb I.bx I.pm (fun t=>vs.getD t undef) w→
  (∀i us,GL.lookup i=some us→ ∀(o:Nat) (u:Value),us[o]?=some u→S i o=some u∧u.oneCell'=true)→(∀i,i.isNw d=true→gb i=none)→
  DoesP P f vs.toArray w fun v w'=> ∃S' gb',PostR d I O S gb (fun t=>vs.getD t undef) w S' gb' v w'

inductive AP where
 |ce (d f:Nat) (xs:List X)
 |cd (d:Nat) (x:X) (xs:List X)
 |pn (d:Nat) (x:X)
inductive AC2 where
 |c (a:AC)
 |rp (l:List AOp) (o:AP) (l':List AOp)
 |sq (a b:AC2)
 |cd (x:X) (a b:AC2)
 |bl (i:Nat) (a:AC2)
 |lp (a:AC2)
 |sc (a:AC2)

section
variable (S:Nat→Nat→In→Out→Prop) (SP:Nat→Nat→In→Out→Prop) (R:AV→St→Prop)
def callP (d:Nat) (σ:St) (xs:List X) (I:In) (O:Out):St:=⟨(d,.undef)::(callSt d σ xs I O).e,(callSt d σ xs I O).bx,dlS (callSt d σ xs I O).pm d⟩
def wpCP (f d:Nat) (xs:List X) (σ:St):Prop:= ∃I O,SP f d I O∧CallOk d σ xs I O∧O.r.ids=[]∧R O.r (callP d σ xs I O)
def wpo:AP→(St→Prop)→St→Prop
 | .ce d f xs,K,σ=>wpC S f d xs K σ∨wpCP SP R f d xs σ
 | .cd d x xs,K,σ=>match σ.v x with
  | .fn f caps=>wpC S f d (xs++caps.map X.c) K σ∨wpCP SP R f d (xs++caps.map X.c) σ
  |_=>False
 | .pn _ x,_,σ=>match σ.v x with
  | .ifc T v=>v.ids=[]∧R (.ifc T v) σ
  |_=>False
def wpA2:AC2→(AE→St→Prop)→St→Prop
 | .c a,Q,σ=>wpA S a Q σ
 | .rp l o l',Q,σ=>wpL S l (wpo S SP R o (wpL S l' (Q .n))) σ
 | .sq a b,Q,σ=>wpA2 a (AE.sq (wpA2 b Q) Q) σ
 | .cd x a b,Q,σ=>match σ.v x with
  | .bool t=>if t=true then wpA2 a Q σ else wpA2 b Q σ
  |_=>False
 | .bl i a,Q,σ=>wpA2 a (AE.bl i Q) σ
 | .lp a,Q,σ=> ∃n,itA (wpA2 a) Q n σ
 | .sc a,Q,σ=>wpA2 a Q σ
end
theorem wpA_mono {S:Nat→Nat→In→Out→Prop}: ∀ {c:AC} {Q Q':AE→St→Prop} {σ:St},(∀e σ,Q e σ→Q' e σ)→wpA S c Q σ→wpA S c Q' σ:=by
 intro c
 have m1: ∀ {o:AOp} {K K':St→Prop} {σ:St},(∀σ,K σ→K' σ)→wp1 S o K σ→wp1 S o K' σ:=fun hk h=>wp1_mono hk h
 have mL: ∀ {l:List AOp} {K K':St→Prop} {σ:St},(∀σ,K σ→K' σ)→wpL S l K σ→wpL S l K' σ:=by
  intro l
  induction l with
  |nil=>intro K K' σ hk h;exact hk _ h
  |cons o r ih=>intro K K' σ hk h;exact m1 (fun σ h=>ih hk h) h
 have mD: ∀ {us:List (List Nat)} {l:List AOp} {j:Nat} {h:List (Nat×Bx)} {K K':St→Prop} {σ:St},(∀σ,K σ→K' σ)→wpLd S us l j h K σ→wpLd S us l j h K' σ:=by
  intro us
  induction us with
  |nil=>intro l j h K K' σ hk hw;cases l with
   |nil=>exact hk _ hw
   |cons=>exact hw.elim
  |cons u us ih=>intro l j h K K' σ hk hw;cases l with
   |nil=>exact hw.elim
   |cons o r=>exact ⟨hw.1,m1 (fun σ h=>kpK_iff.2 ⟨(kpK_iff.1 h).1,ih hk (kpK_iff.1 h).2⟩) hw.2⟩
 have sqm: ∀ {B B':St→Prop} {Q Q':AE→St→Prop},(∀σ,B σ→B' σ)→(∀e σ,Q e σ→Q' e σ)→ ∀e σ,AE.sq B Q e σ→AE.sq B' Q' e σ:=by
  intro B B' Q Q' hb hq e σ h
  cases e
  ·exact hb _ h
  ·exact hq _ _ h
  ·exact hq _ _ h
 induction c with
 |sk=>intro Q Q' σ hq h;exact hq _ _ h
 |rg l=>intro Q Q' σ hq h;exact mL (fun σ h=>hq _ _ h) h
 |rd us l=>intro Q Q' σ hq h;exact mD (fun σ h=>hq _ _ h) h
 |sq a b iha ihb=>intro Q Q' σ hq h;exact iha (sqm (fun σ h=>ihb hq h) hq) h
 |cd x a b iha ihb=>
  intro Q Q' σ hq h
  unfold wpA at h ⊢
  split at h
  ·rename_i t ht
   split at h
   ·rename_i e;rw [if_pos e];exact iha hq h
   ·rename_i e;rw [if_neg e];exact ihb hq h
  ·cases h
 |bl i a ih=>
  intro Q Q' σ hq h
  refine ih (fun e σ h=>?_) h
  cases e
  ·exact hq _ _ h
  ·rename_i j
   unfold AE.bl at h ⊢
   by_cases e:j=i
   ·simp only [if_pos e] at h ⊢;exact hq _ _ h
   ·simp only [if_neg e] at h ⊢;exact hq _ _ h
  ·exact hq _ _ h
 |lp a ih=>
  intro Q Q' σ hq h
  obtain ⟨n,hn⟩:=h
  refine ⟨n,?_⟩
  induction n generalizing σ with
  |zero=>exact hn
  |succ n ihn=>
   obtain ⟨τ,hτ,hb⟩:=hn
   exact ⟨τ,hτ,ih (sqm (fun σ h=>ihn h) hq) hb⟩
 |ex i=>intro Q Q' σ hq h;exact hq _ _ h
 |rt=>intro Q Q' σ hq h;exact hq _ _ h
 |sc a ih=>intro Q Q' σ hq h;exact ih hq h
 |lb=>intro Q Q' σ hq h;exact hq _ _ h
 |no=>intro Q Q' σ hq h;exact h
 |pa us l p=>intro Q Q' σ hq h;exact mD (fun σ h=>pendW_mono (fun σ h=>mL (fun σ h=>hq _ _ h) h) h) h
 |pb us l p=>intro Q Q' σ hq h;exact mD (fun σ h=>pendW_mono (fun σ h=>mL (fun σ h=>hq _ _ h) h) h) h
 |nb s d=>intro Q Q' σ hq h;exact ⟨mL (fun σ h=>hq _ _ h) h.1,mL (fun σ h=>hq _ _ h) h.2⟩
 |fz s l=>intro Q Q' σ hq h;obtain ⟨b,n,sz,rows,tl,q1,q2,q3⟩:=h;exact ⟨b,n,sz,rows,tl,q1,q2,mL (fun σ h=>hq _ _ h) q3⟩

theorem wpL_mono {S:Nat→Nat→In→Out→Prop}: ∀ {l:List AOp} {K K':St→Prop} {σ:St},(∀σ,K σ→K' σ)→wpL S l K σ→wpL S l K' σ:=by
 intro l
 induction l with
 |nil=>intro K K' σ hk h;exact hk _ h
 |cons o r ih=>intro K K' σ hk h;exact wp1_mono (fun σ h=>ih hk h) h
theorem wpo_mono {S SP:Nat→Nat→In→Out→Prop} {R:AV→St→Prop} {K K':St→Prop} (hk: ∀σ,K σ→K' σ): ∀ {o:AP} {σ:St},wpo S SP R o K σ→wpo S SP R o K' σ:=by
 intro o σ h
 cases o with
 |ce d f xs=>
  rcases h with ⟨I,O,h1,h2,h3⟩|h
  ·exact .inl ⟨I,O,h1,h2,hk _ h3⟩
  ·exact .inr h
 |cd d x xs=>
  simp only [wpo] at h ⊢
  split at h
  ·rcases h with ⟨I,O,h1,h2,h3⟩|h
   ·exact .inl ⟨I,O,h1,h2,hk _ h3⟩
   ·exact .inr h
  ·cases h
 |pn d x=>exact h
theorem sq_mono {B B':St→Prop} {Q Q':AE→St→Prop} (hb: ∀σ,B σ→B' σ) (hq: ∀e σ,Q e σ→Q' e σ): ∀e σ,AE.sq B Q e σ→AE.sq B' Q' e σ:=by
 intro e σ h
 cases e
 ·exact hb _ h
 ·exact hq _ _ h
 ·exact hq _ _ h
theorem wpA2_mono {S SP:Nat→Nat→In→Out→Prop} {R:AV→St→Prop}: ∀ {c:AC2} {Q Q':AE→St→Prop} {σ:St},(∀e σ,Q e σ→Q' e σ)→wpA2 S SP R c Q σ→wpA2 S SP R c Q' σ:=by
 intro c
 induction c with
 |c a=>intro Q Q' σ hq h;exact wpA_mono hq h
 |rp l o l'=>intro Q Q' σ hq h;exact wpL_mono (fun σ h=>wpo_mono (fun σ h=>wpL_mono (fun σ h=>hq _ _ h) h) h) h
 |sq a b iha ihb=>intro Q Q' σ hq h;exact iha (sq_mono (fun σ h=>ihb hq h) hq) h
 |cd x a b iha ihb=>
  intro Q Q' σ hq h
  unfold wpA2 at h ⊢
  split at h
  ·rename_i t ht
   split at h
   ·rename_i e;rw [if_pos e];exact iha hq h
   ·rename_i e;rw [if_neg e];exact ihb hq h
  ·cases h
 |bl i a ih=>
  intro Q Q' σ hq h
  refine ih (fun e σ h=>?_) h
  cases e
  ·exact hq _ _ h
  ·rename_i j
   unfold AE.bl at h ⊢
   by_cases e:j=i
   ·simp only [if_pos e] at h ⊢;exact hq _ _ h
   ·simp only [if_neg e] at h ⊢;exact hq _ _ h
  ·exact hq _ _ h
 |lp a ih=>
  intro Q Q' σ hq h
  obtain ⟨n,hn⟩:=h
  refine ⟨n,?_⟩
  induction n generalizing σ with
  |zero=>exact hn
  |succ n ihn=>
   obtain ⟨τ,hτ,hb⟩:=hn
   exact ⟨τ,hτ,ih (sq_mono (fun σ h=>ihn h) hq) hb⟩
 |sc a ih=>intro Q Q' σ hq h;exact ih hq h
theorem wp_lp2 {S SP:Nat→Nat→In→Out→Prop} {R:AV→St→Prop} {α:Type} {c:AC2} {Q:AE→St→Prop} (st:α→St) (I:α→Prop) (μ:α→Nat)
  (step: ∀x,I x→wpA2 S SP R c (AE.sq (lpQ st I μ x) Q) (st x)) {σ:St} (x:α) (hx:I x) (hw:Weak σ (st x)):wpA2 S SP R (.lp c) Q σ:=by
 have key: ∀n x,μ x<n→I x→ ∀σ,WeakR σ (st x)→itA (wpA2 S SP R c) Q n σ:=by
  intro n
  induction n with
  |zero=>intro x h;omega
  |succ n ih=>
   intro x hn hx σ hw
   refine ⟨st x,hw,wpA2_mono ?_ (step x hx)⟩
   intro e σ' h
   cases e
   ·obtain ⟨y,hy,hlt,hwy⟩:=h
    exact ih y (by omega) hy σ' hwy
   ·exact h
   ·exact h
 exact ⟨μ x+1,key _ x (by omega) hx σ (.inl hw)⟩
theorem wp_lpk2 {S SP:Nat→Nat→In→Out→Prop} {R:AV→St→Prop} {α:Type} {c:AC2} {Q:AE→St→Prop} (st:α→St) (I:α→Prop) (μ:α→Nat)
  (step: ∀(K:St→Prop) (x:α),(∀(y:α) (σ':St),I y→μ y<μ x→Weak σ' (st y)→K σ')→I x→wpA2 S SP R c (AE.sq K Q) (st x)) {σ:St} (x:α) (hx:I x) (hw:Weak σ (st x)):wpA2 S SP R (.lp c) Q σ:=
 wp_lp2 st I μ (fun x hx=>step (lpQ st I μ x) x (fun y σ' h1 h2 h3=>lpQ_mk y h1 h2 h3) hx) x hx hw

def mAP (P:Program) (GL:List (Nat×List Value)) (N:Nat) (o:Oper):AP→Bool
 | .ce d f xs=>o.guard.isNone&&mt1 P GL N o (.ce d f xs)
 | .cd d x xs=>o.guard.isNone&&mt1 P GL N o (.cd d x xs)
 | .pn _ x=>o.guard.isNone&&(match o.op with | .panic y=>mX GL x y|_=>false)
def mts3 (P:Program) (GL:List (Nat×List Value)) (N:Nat) (ops:Array Oper) (os:List Oper) (l:List AOp) (p:AP) (l':List AOp):Bool:=match os.drop l.length with
 |o::r=>mts P GL N ops (os.take l.length) l&&mAP P GL N o p&&mts P GL N ops r l'
 |[]=>false
def mC2 (P:Program) (GL:List (Nat×List Value)) (N:Nat) (dr:Array Oper→List (List Nat)→List AOp→Bool):Code→AC2→Bool
 |c,.c a=>mC P GL N dr c a
 | .region _ ops false,.rp l o l'=>mts3 P GL N ops ops.toList l o l'
 | .seq x y,.sq x' y'=>mC2 P GL N dr x x'&&mC2 P GL N dr y y'
 | .cond c x y,.cd c' x' y'=>mX GL c' c&&mC2 P GL N dr x x'&&mC2 P GL N dr y y'
 | .block i x,.bl j x'=>i==j&&mC2 P GL N dr x x'
 | .loop x,.lp x'=>mC2 P GL N dr x x'
 | .scope x,.sc x'=>mC2 P GL N dr x x'
 |_,_=>false
theorem Rel.unput {e:List (Nat×AV)} {bx:List (Id×List AV)} {pm:List (Pl×Nat)} {d:Nat} {u:Value} (hd:d<F.N) (h:Rel F S gb ⟨e,bx,pm⟩ (a.put (some d) u) w):Rel F S gb ⟨(d,.undef)::e,bx,dlS pm d⟩ a w:=by
 have hs:a.tmps.size=F.N:=by have:=h.size;simpa [Act.put] using this
 have hd':d<a.tmps.size:=by rw [hs];exact hd
 have hat: ∀p k,lkP (dlS pm d) p=some k→p.at d=false∧lkP pm p=some k:=by
  intro p k hk
  rw [lkP_dlS] at hk
  split at hk
  ·cases hk
  ·rename_i hne;exact ⟨by simpa using hne,hk⟩
 refine ⟨h.defers,hs,h.bw,h.ext,h.le,?_,⟨h.hr.agree,h.hr.box,h.hr.its,h.hr.inj,?_,?_,?_,?_⟩,h.newb,?_,h.dom,h.up,h.glo⟩
 ·intro t
  simp only [lk]
  split
  ·simp [PR]
  ·rename_i ne
   have:=h.env t
   rwa [tv_put hd',if_neg ne] at this
 ·intro p k hk
  obtain ⟨h1,h2⟩:=hat p k hk
  have:=h.hr.own p k h2
  rwa [plv_put hd' h1] at this
 ·intro p q k l b hk hl h1 h2
  obtain ⟨p1,p2⟩:=hat p k hk
  obtain ⟨q1,q2⟩:=hat q l hl
  rw [←plv_put (u:=u) hd' p1] at h1
  rw [←plv_put (u:=u) hd' q1] at h2
  exact h.hr.ownd p q k l b p2 q2 h1 h2
 ·intro p k b d' z hk h1
  obtain ⟨p1,p2⟩:=hat p k hk
  rw [←plv_put (u:=u) hd' p1] at h1
  exact h.hr.ownb p k b d' z p2 h1
 ·intro e off k hk;exact h.hr.pmb e off k (hat _ k hk).2
 ·intro p k g hk hg
  obtain ⟨p1,p2⟩:=hat p k hk
  rw [←plv_put (u:=u) hd' p1] at hg
  exact h.newo p k g p2 hg
theorem callP_sound (h:Rel F S gb σ a w) {o:Oper} {d f:Nat} (h2:d<F.N) (h1:o.dst=some d) {xs:List X} {vs:List Value} (hl:PRlist S gb (xs.map σ.v) vs) (hsl: ∀(i t:Nat),xs[i]?=some (X.s t)→vs[i]?=some (tv a t))
  (hrun:(execOp a.eval o).run P w=(callFunc f vs.toArray).run P w) {R:AV→St→Prop} (hw:wpCP (SpecP P F.GL) R f d xs σ) {K':Act→World→Prop} {Q:Exit→Act→World→Prop}
  (hR: ∀v u S gb σ a w,Rel F S gb σ a w→R v σ→PR S gb v u→v.ids=[]→Q (.panic (thrown u)) a w):o.wp P a w K' Q:=by
 obtain ⟨I,O,hspec,hc,hi,hr⟩:=hw
 have hent:=call_entry h hc hl hsl
 have hvs:PRlist S gb I.vs vs:=wkL_PR hc.vs hl
 have hglo: ∀i us,F.GL.lookup i=some us→ ∀(o:Nat) (u:Value),us[o]?=some u→S i o=some u∧u.oneCell'=true:=fun i us hi o u hu=>⟨h.le _ _ _ (h.glo i us hi o u hu).1,(h.glo i us hi o u hu).2⟩
 have hgn: ∀i,i.isNw d=true→gb i=none:=by
  intro i hi
  cases hg:gb i with
  |none=>rfl
  |some x=>
   rcases h.dom i (by rw [hg];simp) with h1|h1
   ·obtain ⟨cs,hcs⟩:=Option.isSome_iff_exists.1 h1
    have:=hc.free _ (lkB_mem _ _ _ hcs)
    simp only at this
    rw [this] at hi;cases hi
   ·cases i<;>simp [Id.isUp,Id.isNw] at h1 hi
 have hd:=hspec S gb w vs hvs hent hglo hgn
 unfold Oper.wp
 rw [hrun]
 unfold DoesP at hd
 split at hd
 ·rename_i f' as' w' he
  rw [he]
  simp only [Oper.upon_enter]
  refine hd.mono ?_
  rintro e w'' ⟨u,rfl,S',gb',hp⟩
  exact hR O.r u S' gb' _ a w'' ((h.call h2 hc hl hsl hp).unput h2) hr hp.r hi
 ·exact hd.elim
theorem opP_sound (h:Rel F S gb σ a w) {o:Oper} {p:AP} (hm:mAP P F.GL F.N o p=true) {R:AV→St→Prop} {K:St→Prop} (hw:wpo (Spec P F.GL) (SpecP P F.GL) R p K σ) {K':Act→World→Prop} {Q:Exit→Act→World→Prop}
  (hK: ∀S gb σ a w,Rel F S gb σ a w→K σ→K' a w) (hR: ∀v u S gb σ a w,Rel F S gb σ a w→R v σ→PR S gb v u→v.ids=[]→Q (.panic (thrown u)) a w):o.guard=none∧o.wp P a w K' Q:=by
 cases p with
 |ce d f xs=>
  simp only [mAP,Bool.and_eq_true,Option.isNone_iff_eq_none] at hm
  refine ⟨hm.1,?_⟩
  rcases hw with hw|hw
  ·exact op1_sound h hm.2 (ao:= .ce d f xs) (K:=K) (by simpa only [wp1] using hw) hK
  ·have hm:=hm.2
   simp only [mt1,Bool.and_eq_true,slotOk_iff] at hm
   obtain ⟨⟨h1,h2⟩,hm⟩:=hm
   split at hm<;>(try cases hm)
   rename_i f' as ts hop
   simp only [Bool.and_eq_true,beq_iff_eq] at hm
   obtain ⟨rfl,hxs⟩:=hm
   refine callP_sound h h2 h1 (mXs_sound h hxs) (fun i t hi=>mXs_slot hxs hi) ?_ hw hR
   have harr:(List.map a.eval as.toList).toArray=as.map a.eval:=by
    apply Array.ext';simp
   rw [harr]
   unfold execOp
   simp [hop,resolve,Act.eval,Deferred.ofValue,invoke]
 |cd d x xs=>
  simp only [mAP,Bool.and_eq_true,Option.isNone_iff_eq_none] at hm
  refine ⟨hm.1,?_⟩
  simp only [wpo] at hw
  split at hw
  ·rename_i f caps hv
   rcases hw with hw|hw
   ·exact op1_sound h hm.2 (ao:= .cd d x xs) (K:=K) (by simp only [wp1,hv];exact hw) hK
   ·have hm:=hm.2
    simp only [mt1,Bool.and_eq_true,slotOk_iff] at hm
    obtain ⟨⟨h1,h2⟩,hm⟩:=hm
    split at hm<;>(try cases hm)
    rename_i f' as ts hop
    simp only [Bool.and_eq_true] at hm
    obtain ⟨hx,hxs⟩:=hm
    have hx:=mX_sound h hx
    rw [hv] at hx
    simp only [PR] at hx
    obtain ⟨us,hx,hcaps⟩:=hx
    have hl:=mXs_sound h hxs
    have hall:PRlist S gb ((xs++caps.map X.c).map σ.v) (List.map a.eval as.toList++us.toList):=by
     rw [List.map_append]
     refine hl.append ?_
     have:(List.map σ.v (caps.map X.c))=caps:=by
      rw [List.map_map]
      exact (List.map_congr_left (fun c _=>rfl)).trans (List.map_id _)
     rw [this];exact hcaps
    have hlen:(List.map a.eval as.toList).length=xs.length:=by
     have:=hl.length
     simpa using this.symm
    refine callP_sound h h2 h1 hall (fun i t hi=>?_) ?_ hw hR
    ·rw [List.getElem?_append] at hi
     split at hi
     ·rename_i hlt
      rw [List.getElem?_append_left (by omega)]
      exact mXs_slot hxs hi
     ·rw [List.getElem?_map] at hi
      cases hq:caps[i - xs.length]? with
      |none=>rw [hq] at hi;cases hi
      |some c=>rw [hq] at hi;cases hi
    ·have harr:(List.map a.eval as.toList++us.toList).toArray=as.map a.eval++us:=by
      apply Array.ext';simp
     rw [harr]
     unfold execOp
     simp [hop,resolve,hx,Deferred.ofValue,invoke]
  ·cases hw
 |pn d x=>
  simp only [mAP,Bool.and_eq_true,Option.isNone_iff_eq_none] at hm
  obtain ⟨hg,hm⟩:=hm
  refine ⟨hg,?_⟩
  split at hm<;>(try cases hm)
  rename_i y hop
  have hx:=mX_sound h hm
  simp only [wpo] at hw
  split at hw
  ·rename_i T v hv
   obtain ⟨hi,hr⟩:=hw
   rw [hv] at hx
   have hx':=hx
   simp only [PR] at hx
   obtain ⟨u,hu,_⟩:=hx
   unfold Oper.wp execOp
   simp only [hop]
   rw [hu] at hx' ⊢
   simp [Instr.panic,goPanic]
   exact hR _ _ S gb σ a w h hr hx' (by simpa [AV.ids] using hi)
  ·cases hw
theorem list_sound_app {ops:Array Oper} {rest:List Oper} {K:St→Prop} {Q:Exit→Act→World→Prop} (hQ: ∀S gb σ a w,Rel F S gb σ a w→K σ→wpList P ops Q rest a w):
  ∀ {l:List Oper} {al:List AOp},mts P F.GL F.N ops l al=true→ ∀ {S:Mem} {gb:Gb} {σ:St} {a:Act} {w:World},Rel F S gb σ a w→wpL (Spec P F.GL) al K σ→wpList P ops Q (l++rest) a w
 |[],al,hm,S,gb,σ,a,w,h,hw=>by
  cases al<;>simp [mts] at hm
  exact hQ _ _ _ _ _ h hw
 |o::r,al,hm,S,gb,σ,a,w,h,hw=>by
  cases al with
  |nil=>simp [mts] at hm
  |cons ao s=>
   simp only [mts,Bool.and_eq_true] at hm
   simp only [wpL] at hw
   have:=opg_sound h hm.1 hw (K':=wpList P ops Q (r++rest)) (Q:=Q) (fun S gb σ a w h' hk=>list_sound_app hQ hm.2 h' hk)
   rw [List.cons_append]
   simp only [wpList]
   split
   ·rename_i hc;rw [if_pos hc] at this;exact .inl this
   ·rename_i hc;rw [if_neg hc] at this;exact this
theorem list3_sound {ops:Array Oper} {os:List Oper} {l:List AOp} {p:AP} {l':List AOp} (hm:mts3 P F.GL F.N ops os l p l'=true) {R:AV→St→Prop} {K:St→Prop} {Q:Exit→Act→World→Prop} (hQ: ∀S gb σ a w,Rel F S gb σ a w→K σ→Q .normal a w)
  (hR: ∀v u S gb σ a w,Rel F S gb σ a w→R v σ→PR S gb v u→v.ids=[]→Q (.panic (thrown u)) a w) (h:Rel F S gb σ a w) (hw:wpL (Spec P F.GL) l (wpo (Spec P F.GL) (SpecP P F.GL) R p (wpL (Spec P F.GL) l' K)) σ):wpList P ops Q os a w:=by
 unfold mts3 at hm
 split at hm
 ·rename_i o r hd
  simp only [Bool.and_eq_true] at hm
  have e:os=os.take l.length++o::r:=by rw [←hd,List.take_append_drop]
  rw [e]
  refine list_sound_app (K:=wpo (Spec P F.GL) (SpecP P F.GL) R p (wpL (Spec P F.GL) l' K)) ?_ hm.1.1 h hw
  intro S gb σ a w h hw
  obtain ⟨hg,hwp⟩:=opP_sound (Q:=Q) (K':=wpList P ops Q r) h hm.1.2 hw (fun S gb σ a w h hk=>list_sound hQ hm.2 h hk) hR
  simp only [wpList]
  rw [if_pos (by simp [Region.wanted,hg])]
  exact .inl hwp
 ·cases hm
theorem code2_sound {dr:Array Oper→List (List Nat)→List AOp→Bool} (hd:DrawsOk P F.GL F.N dr) {R:AV→St→Prop}: ∀ {c:Code} {ac:AC2},mC2 P F.GL F.N dr c ac=true→ ∀ {Q:AE→St→Prop} {Q':Exit→Act→World→Prop},(∀e S gb σ a w,Rel F S gb σ a w→Q e σ→Q' (toE e) a w)→
  (∀v u S gb σ a w,Rel F S gb σ a w→R v σ→PR S gb v u→v.ids=[]→Q' (.panic (thrown u)) a w)→
  ∀ {S:Mem} {gb:Gb} {σ:St} {a:Act} {w:World},Rel F S gb σ a w→wpA2 (Spec P F.GL) (SpecP P F.GL) R ac Q σ→c.wp P Q' a w:=by
 intro c
 have plain: ∀(c:Code) {ac:AC2} {a':AC},ac= .c a'→mC2 P F.GL F.N dr c ac=true→ ∀ {Q:AE→St→Prop} {Q':Exit→Act→World→Prop},(∀e S gb σ a w,Rel F S gb σ a w→Q e σ→Q' (toE e) a w)→
   ∀ {S:Mem} {gb:Gb} {σ:St} {a:Act} {w:World},Rel F S gb σ a w→wpA2 (Spec P F.GL) (SpecP P F.GL) R ac Q σ→c.wp P Q' a w:=by
  intro c ac a' e hm Q Q' hQ S gb σ a w h hw
  subst e
  have hm':mC P F.GL F.N dr c a'=true:=by cases c<;>simpa only [mC2] using hm
  exact code_sound hd hm' hQ h hw
 induction c with
 |region id ops draw=>
  intro ac hm Q Q' hQ hR S gb σ a w h hw
  cases ac
  case c a'=>exact plain _ rfl hm hQ h hw
  case rp l o l'=>
   cases draw<;>simp [mC2] at hm
   exact wp_region_list (list3_sound hm (fun S gb σ a w h' hk=>hQ .n _ _ _ _ _ h' hk) hR h hw)
  all_goals (cases draw<;>simp [mC2] at hm)
 |seq x y ihx ihy=>
  intro ac hm Q Q' hQ hR S gb σ a w h hw
  cases ac
  case c a'=>exact plain _ rfl hm hQ h hw
  case sq x' y'=>
   simp only [mC2,Bool.and_eq_true] at hm
   refine wp_seq (ihx hm.1 (Q:=AE.sq (wpA2 (Spec P F.GL) (SpecP P F.GL) R y' Q) Q) ?_ ?_ h hw)
   ·intro e S gb σ a w h' hq
    cases e
    ·exact ihy hm.2 hQ hR h' hq
    ·exact hQ (.x _) _ _ _ _ _ h' hq
    ·exact hQ .r _ _ _ _ _ h' hq
   ·exact hR
  all_goals simp [mC2] at hm
 |cond c x y ihx ihy=>
  intro ac hm Q Q' hQ hR S gb σ a w h hw
  cases ac
  case c a'=>exact plain _ rfl hm hQ h hw
  case cd c' x' y'=>
   simp only [mC2,Bool.and_eq_true] at hm
   obtain ⟨⟨hc,hx⟩,hy⟩:=hm
   have hv:=mX_sound h hc
   simp only [wpA2] at hw
   split at hw
   ·rename_i t ht
    rw [ht] at hv
    simp only [PR] at hv
    refine wp_cond hv ?_
    cases t
    ·exact ihy hy hQ hR h (by simpa using hw)
    ·exact ihx hx hQ hR h (by simpa using hw)
   ·cases hw
  all_goals simp [mC2] at hm
 |block i x ih=>
  intro ac hm Q Q' hQ hR S gb σ a w h hw
  cases ac
  case c a'=>exact plain _ rfl hm hQ h hw
  case bl j x'=>
   simp only [mC2,Bool.and_eq_true,beq_iff_eq] at hm
   obtain ⟨rfl,hx⟩:=hm
   refine wp_block (ih hx (Q:=AE.bl i Q) ?_ ?_ h hw)
   ·intro e S gb σ a w h' hq
    cases e
    ·exact hQ .n _ _ _ _ _ h' hq
    ·rename_i j
     simp only [toE,Exit.inBlock]
     simp only [AE.bl] at hq
     split at hq
     ·rename_i e;rw [if_pos e];exact hQ .n _ _ _ _ _ h' hq
     ·rename_i e;rw [if_neg e];exact hQ (.x _) _ _ _ _ _ h' hq
    ·exact hQ .r _ _ _ _ _ h' hq
   ·exact hR
  all_goals simp [mC2] at hm
 |loop x ih=>
  intro ac hm Q Q' hQ hR S gb σ a w h hw
  cases ac
  case c a'=>exact plain _ rfl hm hQ h hw
  case lp x'=>
   simp only [mC2] at hm
   simp only [wpA2] at hw
   obtain ⟨n,hn⟩:=hw
   intro b k cs
   have key: ∀n S gb σ a w,Rel F S gb σ a w→itA (wpA2 (Spec P F.GL) (SpecP P F.GL) R x') Q n σ→ ∃e a' w',Q' e a' w'∧Arrives P (lone (b.at a (.code x:: .inLoop x::k)) cs w) b k cs e a' w':=by
    intro n
    induction n with
    |zero=>intro S gb σ a w h hn;exact hn.elim
    |succ n ihn=>
     intro S gb σ a w h hn
     obtain ⟨τ,hτ,hb⟩:=hn
     obtain ⟨gb',h'⟩:=h.weakR hτ
     obtain ⟨e,a₁,w₁,hq,harr⟩:=ih hm (Q:=AE.sq (itA (wpA2 (Spec P F.GL) (SpecP P F.GL) R x') Q n) Q) (Q':=Exit.then (fun a w=> ∃S gb σ,Rel F S gb σ a w∧itA (wpA2 (Spec P F.GL) (SpecP P F.GL) R x') Q n σ) Q') (by
      intro e S gb σ a w h'' hq
      cases e
      ·exact ⟨_,_,_,h'',hq⟩
      ·exact hQ (.x _) _ _ _ _ _ h'' hq
      ·exact hQ .r _ _ _ _ _ h'' hq) hR h' hb b (.inLoop x::k) cs
     cases e with
     |normal=>
      obtain ⟨S1,gb1,σ1,h1,hi1⟩:=hq
      obtain ⟨e₂,a₂,w₂,hq₂,harr₂⟩:=ihn _ _ _ _ _ h1 hi1
      exact ⟨e₂,a₂,w₂,hq₂,.of_steps (Steps.trans harr (.one step_inLoop)) harr₂⟩
     |exit id=>exact ⟨_,a₁,w₁,hq,.pass (x:= .inLoop x) rfl (fun _ _=> .inl (by simp)) harr⟩
     |goto l=>exact ⟨_,a₁,w₁,hq,.pass (x:= .inLoop x) rfl (fun _ _=> .inl (by simp)) harr⟩
     |ret=>exact ⟨_,a₁,w₁,hq,.pass (x:= .inLoop x) rfl (fun _ _=> .inl (by simp)) harr⟩
     |panic ch=>exact ⟨_,a₁,w₁,hq,.pass (x:= .inLoop x) rfl (fun _ _=> .inl (by simp)) harr⟩
     |outgrown=>exact ⟨_,a₁,w₁,hq,.pass (x:= .inLoop x) rfl (fun _ _=> .inl (by simp)) harr⟩
   obtain ⟨e,a',w',hq,harr⟩:=key n _ _ _ _ _ h hn
   exact ⟨e,a',w',hq,.of_steps (.one step_loop) harr⟩
  all_goals simp [mC2] at hm
 |scope x ih=>
  intro ac hm Q Q' hQ hR S gb σ a w h hw
  cases ac
  case c a'=>exact plain _ rfl hm hQ h hw
  case sc x'=>
   simp only [mC2] at hm
   refine wp_scope_straight (ih hm (Q:=Q) ?_ ?_ h hw)
   ·intro e S gb σ a w h' hq
    cases e<;>exact hQ _ _ _ _ _ _ h' hq
   ·exact hR
  all_goals simp [mC2] at hm
 |_=>
  intro ac hm Q Q' hQ hR S gb σ a w h hw
  cases ac
  case c a'=>exact plain _ rfl hm hQ h hw
  all_goals simp [mC2] at hm

structure AF2 where
 c:AC2
 rs:List AR
 np:Nat
 N:Nat
def mF2 (P:Program) (GL:List (Nat×List Value)) (dr:Array Oper→List (List Nat)→List AOp→Bool) (fn:Func) (f:AF2):Bool:=
 fn.name != "runtime.NumGoroutine"&&fn.params.size+fn.nfree==f.np&&fn.ntmps==f.N&&Nat.ble f.np f.N&&mRs P f.rs fn.results.toList&&(match fn.body with |some c=>mC2 P GL f.N dr c f.c|none=>false)
@[irreducible] def SpT (P:Program) (GL:List (Nat×List Value)) (f d:Nat) (I:In) (O:Out):Prop:=SpecP P GL f d I O
theorem spt_eq (P:Program) (GL:List (Nat×List Value)):SpT P GL=SpecP P GL:=by funext f d I O;unfold SpT;rfl
def postT (d:Nat) (O:Out) (v:AV) (σ:St):Prop:=v=O.r∧(∀p∈O.pm,∃b o,p.1= .b b o)∧OutOk d [] ⟨.tup [],O.bx,O.pm⟩ σ
theorem HR.svB {bx:List (Id×List AV)} {pm:List (Pl×Nat)} {sv sv':Nat→Value} (h:HR S gb bx pm sv w) (hp: ∀p k,lkP pm p=some k→ ∃b o,p= .b b o):HR S gb bx pm sv' w:=by
 have e: ∀p k,lkP pm p=some k→plv gb sv' w p=plv gb sv w p:=by
  intro p k hk
  obtain ⟨b,o,rfl⟩:=hp p k hk
  rfl
 refine ⟨h.agree,h.box,h.its,h.inj,?_,?_,?_,h.pmb⟩
 ·intro p k hk;rw [e p k hk];exact h.own p k hk
 ·intro p q k l b hk hl h1 h2
  rw [e p k hk] at h1
  rw [e q l hl] at h2
  exact h.ownd p q k l b hk hl h1 h2
 ·intro p k b d z hk h1
  rw [e p k hk] at h1
  exact h.ownb p k b d z hk h1
theorem fun_soundP {GL:List (Nat×List Value)} {dr:Array Oper→List (List Nat)→List AOp→Bool} {f:Nat} {fn:Func} {af:AF2} (hf:P.funcs[f]?=some fn) (hm:mF2 P GL dr fn af=true) (hd:DrawsOk P GL af.N dr) {d:Nat} {I:In} {O:Out} (hl:I.vs.length=af.np)
  (hw:wpA2 (Spec P GL) (SpecP P GL) (postT d O) af.c (fun _ _=>False) (inSt I)):SpecP P GL f d I O:=by
 simp only [mF2,Bool.and_eq_true,bne_iff_ne,beq_iff_eq] at hm
 obtain ⟨⟨⟨⟨⟨h1,h2⟩,h3⟩,h4⟩,h5⟩,h6⟩:=hm
 split at h6<;>(try cases h6)
 rename_i c hb
 have h4:=Nat.le_of_ble_eq_true h4
 intro S gb w vs hvs hhr hglo hnw
 have hlen:vs.length=I.vs.length:=hvs.length.symm
 unfold DoesP
 have hcall:(callFunc f vs.toArray).run P w= .ok (.enter f vs.toArray) w:=by
  simp [callFunc,hf,hb,h1]
 rw [hcall]
 refine calls_of_wp hf hb ?_
 let F:Fr:=⟨S,w,MS I gb (fun t=>vs.getD t undef) w,gb,af.N,GL,[]⟩
 have hsv:tv {tmps:=vs.toArray++Array.replicate (fn.ntmps - vs.toArray.size) undef,defers:=[]}=fun t=>vs.getD t undef:=by
  funext t;exact tv_init
 have hup:=hhr.up
 have hrel:Rel F S (gbUp gb) (inSt I) {tmps:=vs.toArray++Array.replicate (fn.ntmps - vs.toArray.size) undef,defers:=[]} w:=by
  refine ⟨rfl,?_,Bw.refl _ _,fun _ _ _ _=>rfl,Mem.le.refl _,?_,by rw [hsv];exact hup,?_,?_,?_,fun d=>rfl,hglo⟩
  ·show (vs.toArray++Array.replicate (fn.ntmps - vs.toArray.size) undef).size=af.N
   simp;omega
  ·intro t
   have:=(lk_initE (PRlist_up _ _ hvs) 0 t).2 t (by omega)
   rw [tv_init]
   exact this
  ·intro i g z hi hq
   obtain ⟨c1,hc1⟩:=Option.isSome_iff_exists.1 hi
   obtain ⟨j,cs,rfl,hj,_⟩:=lkB_mpB_some up_inj hc1
   exact .inr (.inl ⟨j,z,by rw [hj];rfl,hq⟩)
  ·intro p k g hp hg
   obtain ⟨q,rfl,hq⟩:=lkP_mpP up_inj hp
   rw [hsv,plv_up] at hg
   exact .inr (.inr ⟨q,k,hq,hg⟩)
  ·intro i hi
   cases i<;>simp [gbUp,Id.isUp] at hi ⊢
 refine code2_sound (F:=F) hd h6 (Q:=fun _ _=>False) (R:=postT d O) (fun _ _ _ _ _ _ _ hq=>hq.elim) ?_ hrel hw
 rintro v u S' gb' σ' a' w' hr ⟨rfl,hpm,hok⟩ hp hi
 have hv:resA σ' []=some []:=rfl
 obtain ⟨o1,o2,o3,o4⟩:=hr.out hok hv (us:=[]) (by simp [PRlist]) (fun i s hi=>by simp at hi) rfl
 refine ⟨hr.defers,u,rfl,S',gbOut d gb' O.bx,hr.bw,hr.ext,hr.le,?_,?_,PR.noids _ _ hi hp,o2.svB (fun p k hk=>hpm _ (lkP_mem _ _ _ hk)),o3,?_⟩
 ·intro i hi
  have:gbOut d gb' O.bx i=gb' (i.inn d):=gbOut_ok (fun e=>by rw [hi] at e;cases e)
  rw [this,inn_notNw hi]
  exact hr.up i
 ·intro i hi hne
  simp only [gbOut] at hne
  split at hne
  ·exact absurd rfl hne
  ·rename_i hno
   cases hs:(lkB O.bx i).isSome with
   |true=>rfl
   |false=>exact absurd ⟨hi,hs⟩ hno
 ·intro p k g hk hg
  obtain ⟨b,o,e⟩:=hpm _ (lkP_mem _ _ _ hk)
  simp only at e
  subst e
  exact o4 _ k g hk hg
theorem fun_soundR {GL:List (Nat×List Value)} {dr:Array Oper→List (List Nat)→List AOp→Bool} {f:Nat} {fn:Func} {af:AF2} (hf:P.funcs[f]?=some fn) (hm:mF2 P GL dr fn af=true) (hd:DrawsOk P GL af.N dr) {d:Nat} {I:In} {O:Out} (hl:I.vs.length=af.np)
  (hw:wpA2 (Spec P GL) (SpecP P GL) (fun _ _=>False) af.c (postH d af.rs O) (inSt I)):Spec P GL f d I O:=by
 simp only [mF2,Bool.and_eq_true,bne_iff_ne,beq_iff_eq] at hm
 obtain ⟨⟨⟨⟨⟨h1,h2⟩,h3⟩,h4⟩,h5⟩,h6⟩:=hm
 split at h6<;>(try cases h6)
 rename_i c hb
 have h4:=Nat.le_of_ble_eq_true h4
 intro S gb w vs hvs hhr hglo hnw
 have hlen:vs.length=I.vs.length:=hvs.length.symm
 unfold Does
 have hcall:(callFunc f vs.toArray).run P w= .ok (.enter f vs.toArray) w:=by
  simp [callFunc,hf,hb,h1]
 rw [hcall]
 refine calls_of_wp hf hb ?_
 let F:Fr:=⟨S,w,MS I gb (fun t=>vs.getD t undef) w,gb,af.N,GL,[]⟩
 have hsv:tv {tmps:=vs.toArray++Array.replicate (fn.ntmps - vs.toArray.size) undef,defers:=[]}=fun t=>vs.getD t undef:=by
  funext t;exact tv_init
 have hup:=hhr.up
 have hrel:Rel F S (gbUp gb) (inSt I) {tmps:=vs.toArray++Array.replicate (fn.ntmps - vs.toArray.size) undef,defers:=[]} w:=by
  refine ⟨rfl,?_,Bw.refl _ _,fun _ _ _ _=>rfl,Mem.le.refl _,?_,by rw [hsv];exact hup,?_,?_,?_,fun d=>rfl,hglo⟩
  ·show (vs.toArray++Array.replicate (fn.ntmps - vs.toArray.size) undef).size=af.N
   simp;omega
  ·intro t
   have:=(lk_initE (PRlist_up _ _ hvs) 0 t).2 t (by omega)
   rw [tv_init]
   exact this
  ·intro i g z hi hq
   obtain ⟨c1,hc1⟩:=Option.isSome_iff_exists.1 hi
   obtain ⟨j,cs,rfl,hj,_⟩:=lkB_mpB_some up_inj hc1
   exact .inr (.inl ⟨j,z,by rw [hj];rfl,hq⟩)
  ·intro p k g hp hg
   obtain ⟨q,rfl,hq⟩:=lkP_mpP up_inj hp
   rw [hsv,plv_up] at hg
   exact .inr (.inr ⟨q,k,hq,hg⟩)
  ·intro i hi
   cases i<;>simp [gbUp,Id.isUp] at hi ⊢
 refine code2_sound (F:=F) hd h6 (Q:=postH d af.rs O) (R:=fun _ _=>False) ?_ (fun _ _ _ _ _ _ _ _ hq=>hq.elim) hrel hw
 intro e S0' gb0' σ0 a' w' hr0 hq0
 have fin: ∀σ0,Rel F S0' gb0' σ0 a' w'→(∃τ,Frzs σ0 τ∧OutOk d af.rs O τ)→a'.defers=[]∧ ∃v,(results fn a'.tmps).run P w'= .ok v w'∧(∃u,Ending.returned v= .returned u∧ ∃S'' gb'',PostR d I O S gb (fun t=>vs.getD t undef) w S'' gb'' u w'):=by
  rintro σ0 hr0 ⟨τ,hfz,hok⟩
  obtain ⟨S',gb',hr⟩:=hr0.frzs hfz
  refine ⟨hr.defers,?_⟩
  have hr':=hok.r
  split at hr'
  ·rename_i vs' hv
   obtain ⟨us,hrun,g2,g3⟩:=res_run (P:=P) hr h5 hv
   obtain ⟨o1,o2,o3,o4⟩:=hr.out hok hv g2 g3 (by rw [←g2.length];exact (mRs_length (qs:=[]) hv).symm)
   refine ⟨_,hrun,_,rfl,S',gbOut d gb' O.bx,hr.bw,hr.ext,hr.le,?_,?_,o1,o2,o3,o4⟩
   ·intro i hi
    have:gbOut d gb' O.bx i=gb' (i.inn d):=gbOut_ok (fun e=>by rw [hi] at e;cases e)
    rw [this,inn_notNw hi]
    exact hr.up i
   ·intro i hi hne
    simp only [gbOut] at hne
    split at hne
    ·exact absurd rfl hne
    ·rename_i hno
     cases hs:(lkB O.bx i).isSome with
     |true=>rfl
     |false=>exact absurd ⟨hi,hs⟩ hno
  ·cases hr'
 cases e
 ·exact fin _ hr0 hq0
 ·exact hq0.elim
 ·exact fin _ hr0 hq0
theorem fun_spT {P:Program} {GL:List (Nat×List Value)} {dr:Array Oper→List (List Nat)→List AOp→Bool} {f:Nat} {fn:Func} {af:AF2} (hf:P.funcs[f]?=some fn) (hm:mF2 P GL dr fn af=true) (hd:DrawsOk P GL af.N dr) {d:Nat} {I:In} {O:Out} (hl:I.vs.length=af.np)
  (hw:wpA2 (SpH P GL) (SpT P GL) (postT d O) af.c (fun _ _=>False) (inSt I)):SpT P GL f d I O:=by
 rw [sph_eq,spt_eq] at hw;rw [spt_eq];exact fun_soundP hf hm hd hl hw
theorem fun_spR {P:Program} {GL:List (Nat×List Value)} {dr:Array Oper→List (List Nat)→List AOp→Bool} {f:Nat} {fn:Func} {af:AF2} (hf:P.funcs[f]?=some fn) (hm:mF2 P GL dr fn af=true) (hd:DrawsOk P GL af.N dr) {d:Nat} {I:In} {O:Out} (hl:I.vs.length=af.np)
  (hw:wpA2 (SpH P GL) (SpT P GL) (fun _ _=>False) af.c (postH d af.rs O) (inSt I)):SpH P GL f d I O:=by
 rw [sph_eq,spt_eq] at hw;rw [sph_eq];exact fun_soundR hf hm hd hl hw
section
variable {S SP:Nat→Nat→In→Out→Prop} {R:AV→St→Prop} {Q:AE→St→Prop} {σ:St} {K:St→Prop}
@[simp] theorem wpA2_c {a}:wpA2 S SP R (.c a) Q σ=wpA S a Q σ:=rfl
@[simp] theorem wpA2_rp {l o l'}:wpA2 S SP R (.rp l o l') Q σ=wpL S l (wpo S SP R o (wpL S l' (Q .n))) σ:=rfl
@[simp] theorem wpA2_sq {a b}:wpA2 S SP R (.sq a b) Q σ=wpA2 S SP R a (AE.sq (wpA2 S SP R b Q) Q) σ:=rfl
@[simp] theorem wpA2_bl {i a}:wpA2 S SP R (.bl i a) Q σ=wpA2 S SP R a (AE.bl i Q) σ:=rfl
@[simp] theorem wpA2_sc {a}:wpA2 S SP R (.sc a) Q σ=wpA2 S SP R a Q σ:=rfl
@[simp] theorem wpA2_cd {x a b}:wpA2 S SP R (.cd x a b) Q σ=onB (wpA2 S SP R a Q) (wpA2 S SP R b Q) σ (σ.v x):=rfl
def onP (S SP:Nat→Nat→In→Out→Prop) (R:AV→St→Prop) (f d:Nat) (xs:List X) (K:St→Prop) (σ:St):Prop:=wpC S f d xs K σ∨wpCP SP R f d xs σ
def onPd (S SP:Nat→Nat→In→Out→Prop) (R:AV→St→Prop) (d:Nat) (xs:List X) (K:St→Prop) (σ:St):AV→Prop
 | .fn f caps=>onP S SP R f d (xs++caps.map X.c) K σ
 |_=>False
def onT (R:AV→St→Prop) (σ:St):AV→Prop
 | .ifc T v=>v.ids=[]∧R (.ifc T v) σ
 |_=>False
@[simp] theorem wpo_ce {d f xs}:wpo S SP R (.ce d f xs) K σ=onP S SP R f d xs K σ:=rfl
@[simp] theorem wpo_cd {d x xs}:wpo S SP R (.cd d x xs) K σ=onPd S SP R d xs K σ (σ.v x):=by
 simp only [wpo];unfold onPd onP;cases σ.v x<;>rfl
@[simp] theorem onPd_fn {d xs f caps}:onPd S SP R d xs K σ (.fn f caps)=onP S SP R f d (xs++caps.map X.c) K σ:=rfl
@[simp] theorem wpo_pn {d x}:wpo S SP R (.pn d x) K σ=onT R σ (σ.v x):=by
 simp only [wpo];unfold onT;cases σ.v x<;>rfl
@[simp] theorem onT_ifc {T v}:onT R σ (.ifc T v)=(v.ids=[]∧R (.ifc T v) σ):=rfl
end
theorem onP_h {P:Program} {GL:List (Nat×List Value)} {SP:Nat→Nat→In→Out→Prop} {R:AV→St→Prop} {K:St→Prop} {σ:St} {f d:Nat} {xs:List X} (I:In) (O:Out) (h:SpH P GL f d I O) (hc:CallOk d σ xs I O) (hk:K (callSt d σ xs I O)):onP (SpH P GL) SP R f d xs K σ:= .inl ⟨I,O,h,hc,hk⟩
theorem onP_t {P:Program} {GL:List (Nat×List Value)} {S:Nat→Nat→In→Out→Prop} {R:AV→St→Prop} {K:St→Prop} {σ:St} {f d:Nat} {xs:List X} (I:In) (O:Out) (h:SpT P GL f d I O) (hc:CallOk d σ xs I O) (hi:O.r.ids=[]) (hk:R O.r (callP d σ xs I O)):onP S (SpT P GL) R f d xs K σ:= .inr ⟨I,O,h,hc,hi,hk⟩
attribute [simp] callP
end Go.Ai
namespace Go.Ai
open Go.RowKit
variable {P:Program} {F:Fr} {S:Mem} {gb:Gb} {σ:St} {a:Act} {w:World}

theorem Rel.post {GL:List (Nat×List Value)} {N:Nat} {df:List Deferred} {d:Nat} {I:In} {O:Out} {gb0:Gb} {S0:Mem} {w0:World} {sv:Nat→Value} {rs:List AR}
    (hr:Rel ⟨S0,w0,MS I gb0 sv w0,gb0,N,GL,df⟩ S gb σ a w) (hok:OutOk d rs O σ) {vs':List AV} (hv:resA σ rs=some vs') {us:List Value} (g2:PRlist S gb vs' us) (g3: ∀(i s:Nat),rs[i]?=some (AR.t s)→us[i]?=some (tv a s)):
    PostR d I O S0 gb0 sv w0 S (gbOut d gb O.bx) (if h:us.toArray.size=1 then us.toArray[0] else .tuple us.toArray) w:=by
  obtain ⟨o1,o2,o3,o4⟩:=hr.out hok hv g2 g3 (by rw [←g2.length];exact (mRs_length (qs:=[]) hv).symm)
  refine ⟨hr.bw,hr.ext,hr.le,?_,?_,o1,o2,o3,o4⟩
  · intro i hi
    have:gbOut d gb O.bx i=gb (i.inn d):=gbOut_ok (fun e=>by rw [hi] at e;cases e)
    rw [this,inn_notNw hi]
    exact hr.up i
  · intro i hi hne
    simp only [gbOut] at hne
    split at hne
    · exact absurd rfl hne
    · rename_i hno
      cases hs:(lkB O.bx i).isSome with
      |true=>rfl
      |false=>exact absurd ⟨hi,hs⟩ hno
theorem Rel.ret {GL:List (Nat×List Value)} {N:Nat} {df:List Deferred} {d:Nat} {I:In} {O:Out} {gb0:Gb} {S0:Mem} {w0:World} {sv:Nat→Value} {rs:List AR} {fn:Func}
    (hr:Rel ⟨S0,w0,MS I gb0 sv w0,gb0,N,GL,df⟩ S gb σ a w) (hp: ∃τ,Frzs σ τ∧OutOk d rs O τ) (h5:mRs P rs fn.results.toList=true):
    ∃v S'' gb'',(results fn a.tmps).run P w= .ok v w∧PostR d I O S0 gb0 sv w0 S'' gb'' v w:=by
  obtain ⟨τ,hfz,hok⟩:=hp
  obtain ⟨S',gb',hr'⟩:=hr.frzs hfz
  have hx:=hok.r
  split at hx
  · rename_i vs' hv
    obtain ⟨us,hrun,g2,g3⟩:=res_run (P:=P) hr' h5 hv
    exact ⟨_,S',_,hrun,hr'.post hok hv g2 g3⟩
  · cases hx
theorem Rel.init {GL:List (Nat×List Value)} {N:Nat} {df:List Deferred} {I:In} {tmps:Array Value} {sv:Nat→Value} (hN:tmps.size=N) (hsv:tv {tmps:=tmps,defers:=df}=sv) (hvs:PRlist S gb I.vs ((List.range I.vs.length).map sv))
    (hhr:HR S gb I.bx I.pm sv w) (hglo: ∀i us,GL.lookup i=some us→ ∀(o:Nat) (u:Value),us[o]?=some u→S i o=some u∧u.oneCell'=true):
    Rel ⟨S,w,MS I gb sv w,gb,N,GL,df⟩ S (gbUp gb) (inSt I) {tmps:=tmps,defers:=df} w:=by
  have hup:=hhr.up
  refine ⟨rfl,hN,Bw.refl _ _,fun _ _ _ _=>rfl,Mem.le.refl _,?_,by rw [hsv];exact hup,?_,?_,?_,fun d=>rfl,hglo⟩
  · intro t
    have h1:=(lk_initE (PRlist_up _ _ hvs) 0 t).2 t (by omega)
    rw [hsv]
    by_cases ht:t<I.vs.length
    · have e:((List.range I.vs.length).map sv).getD t undef=sv t:=by simp [ht]
      rw [e] at h1
      exact h1
    · have e:lk (initE 0 (mpL Id.up I.vs)) t= .undef:=by
        have: ∀(l:List AV) (i:Nat),i+l.length≤t→lk (initE i l) t= .undef:=by
          intro l
          induction l with
          |nil=>intro i h;rfl
          |cons c r ih=>
            intro i h
            simp only [List.length_cons] at h
            simp only [initE,lk]
            rw [if_neg (by omega)]
            exact ih (i+1) (by omega)
        exact this _ 0 (by rw [mpL_length];omega)
      show PR S (gbUp gb) (lk (initE 0 (mpL Id.up I.vs)) t) _
      rw [e]
      simp [PR]
  · intro i g z hi hq
    obtain ⟨c1,hc1⟩:=Option.isSome_iff_exists.1 hi
    obtain ⟨j,cs,rfl,hj,_⟩:=lkB_mpB_some up_inj hc1
    exact .inr (.inl ⟨j,z,by rw [hj];rfl,hq⟩)
  · intro p k g hp hg
    obtain ⟨q,rfl,hq⟩:=lkP_mpP up_inj hp
    rw [hsv,plv_up] at hg
    exact .inr (.inr ⟨q,k,hq,hg⟩)
  · intro i hi
    cases i<;>simp [gbUp,Id.isUp] at hi ⊢

def SpecD (P:Program) (GL:List (Nat×List Value)) (f d:Nat) (I:In) (v:AV) (O:Out):Prop:=
  ∀(S:Mem) (gb:Gb) (w:World) (vs:List Value) (u:Value),PRlist S gb I.vs vs→HR S gb I.bx I.pm (fun t=>vs.getD t undef) w→
    (∀i us,GL.lookup i=some us→ ∀(o:Nat) (u:Value),us[o]?=some u→S i o=some u∧u.oneCell'=true)→(∀i,i.isNw d=true→gb i=none)→PR S gb v u→
    (callFunc f vs.toArray).run P w= .ok (.enter f vs.toArray) w∧
    (v= .nili→CallsD P f vs.toArray .returning w fun e u' w'=> ∃x,e= .returned x∧u'= .returning∧ ∃S' gb',PostR d I O S gb (fun t=>vs.getD t undef) w S' gb' x w')∧
    ((∃T y,v= .ifc T y)→CallsD P f vs.toArray (.panicking (thrown u)) w fun e u' w'=> ∃x,e= .returned x∧u'= .panicking [{v:=u,recovered:=true}]∧ ∃S' gb',PostR d I O S gb (fun t=>vs.getD t undef) w S' gb' x w')
@[irreducible] def SpD (P:Program) (GL:List (Nat×List Value)) (f d:Nat) (I:In) (v:AV) (O:Out):Prop:=SpecD P GL f d I v O
theorem spd_eq (P:Program) (GL:List (Nat×List Value)):SpD P GL=SpecD P GL:=by funext f d I v O;unfold SpD;rfl
structure AFD where
  r:Nat
  l:List AOp
  c:AC
  np:Nat
  N:Nat
def mFD (P:Program) (GL:List (Nat×List Value)) (dr:Array Oper→List (List Nat)→List AOp→Bool) (fn:Func) (f:AFD):Bool:=
  fn.name != "runtime.NumGoroutine"&&fn.params.size+fn.nfree==f.np&&fn.ntmps==f.N&&Nat.ble f.np f.N&&mRs P [] fn.results.toList&&Nat.blt f.r f.N&&
  (match fn.body with
   |some (.seq (.region _ ops false) c)=>(match ops.toList with
      |o::r=>o.guard.isNone&&o.dst==some f.r&&(match o.op with | .call {callee:= .builtin .recover,args:=as,argTypes:=_}=>as.toList.isEmpty|_=>false)&&mts P GL f.N ops r f.l&&mC P GL f.N dr c f.c
      |[]=>false)
   |_=>false)
theorem opsS_sound {ops:Array Oper} {K:St→Prop} {Q:Exit→Act→List Frame→World→Prop} {cs:List Frame} (hQ: ∀S gb σ a w,Rel F S gb σ a w→K σ→Q .normal a cs w):
    ∀ {l:List Oper} {al:List AOp} (k:Nat),(∀j,l[j]?=ops[k+j]?)→mts P F.GL F.N ops l al=true→ ∀ {S:Mem} {gb:Gb} {σ:St} {a:Act} {w:World},Rel F S gb σ a w→wpL (Spec P F.GL) al K σ→wpOpsS P ops Q (List.range' k l.length) a cs w
  |[],al,k,hk,hm,S,gb,σ,a,w,h,hw=>by
    cases al<;>simp [mts] at hm
    exact hQ _ _ _ _ _ h hw
  |o::r,al,k,hk,hm,S,gb,σ,a,w,h,hw=>by
    cases al with
    |nil=>simp [mts] at hm
    |cons ao s=>
      simp only [mts,Bool.and_eq_true] at hm
      simp only [wpL] at hw
      have hr:=opg_sound h hm.1 hw (K':=fun a w=>wpOpsS P ops Q (List.range' (k+1) r.length) a cs w) (Q:=fun e a w=>Q e a cs w)
        (fun S gb σ a w h' hk'=>opsS_sound hQ (k+1) (fun j=>by have:=hk (j+1);rw [List.getElem?_cons_succ] at this;rw [this];congr 1;omega) hm.2 h' hk')
      have ho:ops[k]?=some o:=by have:=hk 0;simpa using this.symm
      rw [List.length_cons,List.range'_succ]
      simp only [wpOpsS,ho]
      split
      · rename_i hc
        rw [if_pos hc] at hr
        unfold Oper.wp at hr
        split
        · rename_i w' he
          rw [he] at hr
          exact hr.elim
        · exact hr
      · rename_i hc
        rw [if_neg hc] at hr
        exact hr
theorem recover_run {o:Oper} {a:Act} {as:Array Operand} {ts:Array TypeId} (h:o.op= .call {callee:= .builtin .recover,args:=as,argTypes:=ts}) (hs:as.toList=[]):(execOp a.eval o).run P w= .ok .recover w:=by
  have:as= #[]:=by apply Array.ext';simpa using hs
  subst this
  unfold execOp
  simp [h,resolve,Deferred.ofValue,invoke,builtin]

theorem fun_soundDef {GL:List (Nat×List Value)} {dr:Array Oper→List (List Nat)→List AOp→Bool} {f:Nat} {fn:Func} {af:AFD} (hf:P.funcs[f]?=some fn) (hm:mFD P GL dr fn af=true) (hd:DrawsOk P GL af.N dr) {d:Nat} {I:In} {v:AV} {O:Out} (hl:I.vs.length=af.np) (hi:v.ids=[])
    (hw:wpL (Spec P GL) af.l (wpA (Spec P GL) af.c (postH d [] O)) ((inSt I).put af.r v)):SpecD P GL f d I v O:=by
  simp only [mFD,Bool.and_eq_true,bne_iff_ne,beq_iff_eq] at hm
  obtain ⟨⟨⟨⟨⟨⟨h1,h2⟩,h3⟩,h4⟩,h5⟩,hrN⟩,h6⟩:=hm
  have hrN:af.r<af.N:=by simpa using hrN
  split at h6<;>(try cases h6)
  rename_i id ops c hb
  split at h6<;>(try cases h6)
  rename_i o r hops
  simp only [Bool.and_eq_true,beq_iff_eq,Option.isNone_iff_eq_none] at h6
  obtain ⟨⟨⟨⟨hg,hdst⟩,hrec⟩,hmr⟩,hmc⟩:=h6
  have h4:=Nat.le_of_ble_eq_true h4
  intro S gb w vs u hvs hhr hglo hnw hpu
  have hlen:vs.length=I.vs.length:=hvs.length.symm
  have hcall:(callFunc f vs.toArray).run P w= .ok (.enter f vs.toArray) w:=by
    simp [callFunc,hf,hb,h1]
  let F:Fr:=⟨S,w,MS I gb (fun t=>vs.getD t undef) w,gb,af.N,GL,[]⟩
  have hrel:Rel F S (gbUp gb) (inSt I) {tmps:=vs.toArray++Array.replicate (fn.ntmps - vs.toArray.size) undef,defers:=[]} w:=by
    refine Rel.init (by simp;omega) (by funext t;exact tv_init) ?_ hhr hglo
    have e:(List.range I.vs.length).map (fun t=>vs.getD t undef)=vs:=by
      apply List.ext_getElem
      · simp [hlen]
      · intro n h1 h2
        simp
        rw [List.getElem?_eq_getElem h2]
        rfl
    rw [e]
    exact hvs
  have hrel:=hrel.put (d:=af.r) (v:=v) (u:=u) hrN (PR.noids _ _ hi hpu)
  have hrecop:(execOp ({tmps:=vs.toArray++Array.replicate (fn.ntmps - vs.toArray.size) undef,defers:=[]}:Act).eval o).run P w= .ok .recover w:=by
    split at hrec<;>(try cases hrec)
    rename_i as ts hop
    exact recover_run hop (by simpa using hrec)
  have ho:ops[0]?=some o:=by rw [←Array.getElem?_toList,hops];rfl
  have hsz:ops.size=r.length+1:=by rw [←Array.length_toList,hops,List.length_cons]
  have rest: ∀(c₀:Frame) (cs:List Frame) (u':FrameMode) (R:Ending→FrameMode→World→Prop),(∀x w' S' gb',PostR d I O S gb (fun t=>vs.getD t undef) w S' gb' x w'→R (.returned x) u' w')→
      wpOpsS P ops (Exit.thenS (c.wpS P (bodyPostS P fn c₀ cs R)) (bodyPostS P fn c₀ cs R)) (List.range' 1 r.length) (({tmps:=vs.toArray++Array.replicate (fn.ntmps - vs.toArray.size) undef,defers:=[]}:Act).put o.dst u) ({c₀ with mode:=u'}::cs) w:=by
    intro c₀ cs u' R hR
    rw [hdst]
    refine opsS_sound (F:=F) (K:=wpA (Spec P GL) af.c (postH d [] O)) ?_ 1 (fun j=>by rw [←Array.getElem?_toList,hops,Nat.add_comm,List.getElem?_cons_succ]) hmr hrel hw
    intro S1 gb1 σ1 a1 w1 hr1 hw1
    refine wpS_of_wp ?_
    refine code_sound (F:=F) hd hmc (Q:=postH d [] O) ?_ hr1 hw1
    intro e S2 gb2 σ2 a2 w2 hr2 hq
    have fin:(∃τ,Frzs σ2 τ∧OutOk d [] O τ)→a2.defers=[]∧ ∃u'',({c₀ with mode:=u'}::cs:List Frame)={c₀ with mode:=u''}::cs∧ ∃v,(results fn a2.tmps).run P w2= .ok v w2∧R (.returned v) u'' w2:=by
      intro hp
      obtain ⟨x,S'',gb'',g1,g2⟩:=Rel.ret (fn:=fn) hr2 hp h5
      exact ⟨hr2.defers,u',rfl,x,g1,hR x w2 S'' gb'' g2⟩
    cases e
    · exact fin hq
    · exact hq.elim
    · exact fin hq
  have run: ∀(c₀:Frame) (cs:List Frame) (u':FrameMode) (R:Ending→FrameMode→World→Prop),(match recoverD (c₀::cs) with |some (x,cs')=>x=u∧cs'={c₀ with mode:=u'}::cs|none=>u= .nilIface∧{c₀ with mode:=u'}=c₀)→
      (∀x w' S' gb',PostR d I O S gb (fun t=>vs.getD t undef) w S' gb' x w'→R (.returned x) u' w')→
      (Code.seq (.region id ops false) c).wpS P (bodyPostS P fn c₀ cs R) {tmps:=vs.toArray++Array.replicate (fn.ntmps - vs.toArray.size) undef,defers:=[]} (c₀::cs) w:=by
    intro c₀ cs u' R hrc hR
    refine wpS_seq (wpS_region ?_)
    have hrg:List.range ops.size=0::List.range' 1 r.length:=by rw [hsz,List.range_eq_range',List.range'_succ]
    rw [hrg]
    simp only [wpOpsS,ho]
    rw [if_pos (by simp [Region.wanted,hg]),hrecop]
    have hrest:=rest c₀ cs u' R hR
    split at hrc
    · rename_i x cs' he
      obtain ⟨rfl,rfl⟩:=hrc
      simp only [he]
      exact hrest
    · rename_i he
      obtain ⟨rfl,hc⟩:=hrc
      simp only [he]
      rw [hc] at hrest
      exact hrest
  refine ⟨hcall,?_,?_⟩
  · rintro rfl
    simp only [PR] at hpu
    refine callsD_of_wpS hf hb fun c₀ cs hmode=>run c₀ cs .returning _ ?_ fun x w' S' gb' hp=>⟨x,rfl,rfl,S',gb',hp⟩
    simp only [recoverD,hmode]
    exact ⟨hpu,by cases c₀;simp at hmode;subst hmode;rfl⟩
  · rintro ⟨T,y,rfl⟩
    refine callsD_of_wpS hf hb fun c₀ cs hmode=>run c₀ cs (.panicking [{v:=u,recovered:=true}]) _ ?_ fun x w' S' gb' hp=>⟨x,rfl,rfl,S',gb',hp⟩
    simp only [recoverD,hmode,thrown]
    exact ⟨trivial,trivial⟩

inductive ACD where
  |df (l:List AOp) (x:X) (c:AC2)
  |sq (a:AC) (r:ACD)
structure AFX where
  c:ACD
  rs:List AR
  np:Nat
  N:Nat
def mCD (P:Program) (GL:List (Nat×List Value)) (N:Nat) (dr:Array Oper→List (List Nat)→List AOp→Bool):Code→ACD→Bool
  | .seq a b,.sq a' r=>mC P GL N dr a a'&&mCD P GL N dr b r
  | .seq (.region _ ops false) c,.df l x c'=>(match ops.toList.drop l.length with
      |[o]=>mts P GL N ops (ops.toList.take l.length) l&&o.guard.isNone&&o.dst.isNone&&(match o.op with | .defer {callee:= .value y,args:=as,argTypes:=_}=>as.toList.isEmpty&&mX GL x y|_=>false)
      |_=>false)&&mC2 P GL N dr c c'
  |_,_=>false
def mFX (P:Program) (GL:List (Nat×List Value)) (dr:Array Oper→List (List Nat)→List AOp→Bool) (fn:Func) (f:AFX):Bool:=
  fn.name != "runtime.NumGoroutine"&&fn.params.size+fn.nfree==f.np&&fn.ntmps==f.N&&Nat.ble f.np f.N&&mRs P f.rs fn.results.toList&&(match fn.body with |some c=>mCD P GL f.N dr c f.c|none=>false)
section
variable (S SP:Nat→Nat→In→Out→Prop) (SD:Nat→Nat→In→AV→Out→Prop) (N sl dm d:Nat) (rs:List AR) (O:Out)
def leftD (M:Out) (g:Nat) (caps:List AV) (v:AV) (τ:St):Prop:=
  ∃I2 O2,SD g dm I2 v O2∧CallOk dm τ ((mpL Id.up caps).map X.c) I2 O2∧postH sl rs M .r (callP dm τ ((mpL Id.up caps).map X.c) I2 O2)
def wpDf:ACD→St→Prop
  | .sq a r,σ=>wpA S a (fun e σ'=>match e with | .n=>wpDf r σ'| .r=>postH d rs O .r σ'| .x _=>False) σ
  | .df l x c2,σ=>wpL S l (fun σ'=>match σ'.v x with
    | .fn g caps=> ∃I M,I.vs.length=N∧CallOk sl σ' ((List.range N).map X.s) I M∧postH d [.t sl] O .r (callSt sl σ' ((List.range N).map X.s) I M)∧
        wpA2 S SP (fun v τ=>(∃T y,v= .ifc T y)∧leftD SD sl dm rs M g caps v τ) c2 (fun e τ=>match e with | .x _=>False|_=>leftD SD sl dm rs M g caps .nili τ) (inSt I)
    |_=>False) σ
end
theorem list_of_arr (a:Act):(List.range a.tmps.size).map (tv a)=a.tmps.toList:=by
  apply List.ext_getElem
  · simp
  · intro n h1 h2
    have h3:n<a.tmps.size:=by simpa using h2
    simp [tv,h3]
theorem PRlist_tv (h:Rel F S gb σ a w): ∀(l:List Nat),PRlist S gb ((l.map X.s).map σ.v) (l.map (tv a))
  |[]=>by simp [PRlist]
  |t::l=>by
    simp only [List.map_cons,PRlist]
    exact ⟨_,_,rfl,h.env t,PRlist_tv h l⟩
theorem fun_soundX {GL:List (Nat×List Value)} {dr:Array Oper→List (List Nat)→List AOp→Bool} {f:Nat} {fn:Func} {af:AFX} (hf:P.funcs[f]?=some fn) (hm:mFX P GL dr fn af=true) (hd:DrawsOk P GL af.N dr) {sl dm d:Nat} (hsl:sl<af.N) (hdm:dm<af.N) {I0:In} {O:Out} (hl:I0.vs.length=af.np)
    (hw:wpDf (Spec P GL) (SpecP P GL) (SpecD P GL) af.N sl dm d af.rs O af.c (inSt I0)):Spec P GL f d I0 O:=by
  simp only [mFX,Bool.and_eq_true,bne_iff_ne,beq_iff_eq] at hm
  obtain ⟨⟨⟨⟨⟨h1,h2⟩,h3⟩,h4⟩,h5⟩,h6⟩:=hm
  split at h6<;>(try cases h6)
  rename_i c hb
  have h4:=Nat.le_of_ble_eq_true h4
  intro S0 gb0 w0 vs hvs hhr hglo hnw
  have hlen:vs.length=I0.vs.length:=hvs.length.symm
  unfold Does
  have hcall:(callFunc f vs.toArray).run P w0= .ok (.enter f vs.toArray) w0:=by
    simp [callFunc,hf,hb,h1]
  rw [hcall]
  refine calls_of_wp_defers hf hb ?_
  let F:Fr:=⟨S0,w0,MS I0 gb0 (fun t=>vs.getD t undef) w0,gb0,af.N,GL,[]⟩
  have hrel:Rel F S0 (gbUp gb0) (inSt I0) {tmps:=vs.toArray++Array.replicate (fn.ntmps - vs.toArray.size) undef,defers:=[]} w0:=by
    refine Rel.init (by simp;omega) (by funext t;exact tv_init) ?_ hhr hglo
    have e:(List.range I0.vs.length).map (fun t=>vs.getD t undef)=vs:=by
      apply List.ext_getElem
      · simp [hlen]
      · intro n h1 h2
        simp
        rw [List.getElem?_eq_getElem h2]
        rfl
    rw [e]
    exact hvs
  generalize ({tmps:=vs.toArray++Array.replicate (fn.ntmps - vs.toArray.size) undef,defers:=[]}:Act)=a0 at hrel ⊢
  generalize inSt I0=σ0 at hrel hw
  obtain ⟨R,hR⟩: ∃R:Ending→World→Prop,R=fun e w'=> ∃v,e= .returned v∧ ∃S' gb',PostR d I0 O S0 gb0 (fun t=>vs.getD t undef) w0 S' gb' v w':=⟨_,rfl⟩
  rw [←hR]
  have leave: ∀ {S gb σ a w},Rel F S gb σ a w→postH d af.rs O .r σ→Leaves P fn a.tmps R a.defers .returning w:=by
    intro S gb σ a w hr hp
    obtain ⟨x,S'',gb'',g1,g2⟩:=Rel.ret (fn:=fn) hr hp h5
    rw [hr.defers]
    exact ⟨x,g1,by rw [hR];exact ⟨x,rfl,S'',gb'',g2⟩⟩
  have mid: ∀ {c2:Code} {c2':AC2} {g:Nat} {caps:List AV} {us:Array Value} {S gb σ a w},mC2 P GL af.N dr c2 c2'=true→Rel F S gb σ a w→PRlist S gb caps us.toList→
      (∃I M,I.vs.length=af.N∧CallOk sl σ ((List.range af.N).map X.s) I M∧postH d [.t sl] O .r (callSt sl σ ((List.range af.N).map X.s) I M)∧
        wpA2 (Spec P GL) (SpecP P GL) (fun v τ=>(∃T y,v= .ifc T y)∧leftD (SpecD P GL) sl dm af.rs M g caps v τ) c2' (fun e τ=>match e with | .x _=>False|_=>leftD (SpecD P GL) sl dm af.rs M g caps .nili τ) (inSt I))→
      c2.wp P (bodyPostD P fn R) {a with defers:={target:= .fn (.func g) us,args:= #[]}::a.defers} w:=by
    intro c2 c2' g caps us S gb σ a w hm2 hr hcaps hmid
    obtain ⟨I,M,hIl,hc,hpost,hw2⟩:=hmid
    have hsz:a.tmps.size=af.N:=hr.size
    have hl2:PRlist S gb (((List.range af.N).map X.s).map σ.v) a.tmps.toList:=by
      rw [←list_of_arr a,hsz]
      exact PRlist_tv hr _
    have hslot: ∀(i t:Nat),((List.range af.N).map X.s)[i]?=some (X.s t)→a.tmps.toList[i]?=some (tv a t):=by
      intro i t hi
      rw [List.getElem?_map] at hi
      cases hq:(List.range af.N)[i]? with
      |none=>rw [hq] at hi;cases hi
      |some j=>
        rw [hq] at hi
        simp only [Option.map_some,Option.some.injEq,X.s.injEq] at hi
        subst hi
        have hj:=List.getElem?_eq_some_iff.1 hq
        obtain ⟨hj1,hj2⟩:=hj
        simp only [List.length_range] at hj1
        simp only [List.getElem_range] at hj2
        subst hj2
        have:i<a.tmps.size:=by omega
        simp [tv,this]
    have hent:=call_entry hr hc hl2 hslot
    have hvs2:PRlist S gb I.vs a.tmps.toList:=wkL_PR hc.vs hl2
    have hglo2: ∀i us,GL.lookup i=some us→ ∀(o:Nat) (u:Value),us[o]?=some u→S i o=some u∧u.oneCell'=true:=fun i us hi o u hu=>⟨hr.le _ _ _ (hr.glo i us hi o u hu).1,(hr.glo i us hi o u hu).2⟩
    have hsv:(fun t=>a.tmps.toList.getD t undef)=tv a:=by
      funext t
      simp [tv,Array.getD_eq_getD_getElem?,List.getD_eq_getElem?_getD]
    have hdf:a.defers=[]:=hr.defers
    rw [hdf]
    let F2:Fr:=⟨S,w,MS I gb (fun t=>a.tmps.toList.getD t undef) w,gb,af.N,GL,[{target:= .fn (.func g) us,args:= #[]}]⟩
    have hrel2:Rel F2 S (gbUp gb) (inSt I) {a with defers:=[{target:= .fn (.func g) us,args:= #[]}]} w:=by
      refine Rel.init hsz (by rw [hsv];rfl) ?_ hent hglo2
      rw [hIl,hsv,←hsz,list_of_arr a]
      exact hvs2
    have fin: ∀ {v:AV} {u:Value} {S' gb' τ a' w'},Rel F2 S' gb' τ a' w'→leftD (SpecD P GL) sl dm af.rs M g caps v τ→PR S' gb' v u→
        ∃args,(invoke (.fn (.func g) us) #[]).run P w'= .ok (.enter g args) w'∧
          (v= .nili→CallsD P g args .returning w' fun e u' w''=> ∃x,e= .returned x∧u'= .returning∧ ∃y,(results fn a'.tmps).run P w''= .ok y w''∧R (.returned y) w'')∧
          ((∃T y,v= .ifc T y)→CallsD P g args (.panicking (thrown u)) w' fun e u' w''=> ∃x,e= .returned x∧u'= .panicking [{v:=u,recovered:=true}]∧ ∃y,(results fn a'.tmps).run P w''= .ok y w''∧R (.returned y) w''):=by
      intro v u S' gb' τ a' w' hr' hleft hpu
      obtain ⟨I2,O2,hspec,hc2,hp2⟩:=hleft
      have hle:(gbUp gb).le gb':=by
        intro i x hi
        cases i with
        |up j=>rw [hr'.up j];exact hi
        |_=>cases hi
      have hl3:PRlist S' gb' (((mpL Id.up caps).map X.c).map τ.v) us.toList:=by
        have e:((mpL Id.up caps).map X.c).map τ.v=mpL Id.up caps:=by
          rw [List.map_map]
          exact (List.map_congr_left (fun c _=>rfl)).trans (List.map_id _)
        rw [e]
        exact PRlist.mono hr'.le hle _ _ (PRlist_up _ _ hcaps)
      have hslot3: ∀(i t:Nat),((mpL Id.up caps).map X.c)[i]?=some (X.s t)→us.toList[i]?=some (tv a' t):=by
        intro i t hi
        rw [List.getElem?_map] at hi
        cases hq:(mpL Id.up caps)[i]? with
        |none=>rw [hq] at hi;cases hi
        |some j=>rw [hq] at hi;cases hi
      have hent3:=call_entry hr' hc2 hl3 hslot3
      have hvs3:PRlist S' gb' I2.vs us.toList:=wkL_PR hc2.vs hl3
      have hglo3: ∀i us,GL.lookup i=some us→ ∀(o:Nat) (u:Value),us[o]?=some u→S' i o=some u∧u.oneCell'=true:=fun i us hi o u hu=>⟨hr'.le _ _ _ (hr'.glo i us hi o u hu).1,(hr'.glo i us hi o u hu).2⟩
      have hgn: ∀i,i.isNw dm=true→gb' i=none:=by
        intro i hi
        cases hg:gb' i with
        |none=>rfl
        |some x=>
          rcases hr'.dom i (by rw [hg];simp) with h1|h1
          · obtain ⟨cs,hcs⟩:=Option.isSome_iff_exists.1 h1
            have:=hc2.free _ (lkB_mem _ _ _ hcs)
            simp only at this
            rw [this] at hi;cases hi
          · cases i<;>simp [Id.isUp,Id.isNw] at h1 hi
      obtain ⟨hrun,hn,hy⟩:=hspec S' gb' w' us.toList u hvs3 hent3 hglo3 hgn hpu
      have done: ∀ {x S'' gb'' w''},PostR dm I2 O2 S' gb' (fun t=>us.toList.getD t undef) w' S'' gb'' x w''→ ∃y,(results fn a'.tmps).run P w''= .ok y w''∧R (.returned y) w'':=by
        intro x S'' gb'' w'' hp
        have hr3:=(hr'.call hdm hc2 hl3 hslot3 hp).unput hdm
        obtain ⟨y,S3,gb3,g1,g2⟩:=Rel.ret (fn:=fn) hr3 hp2 h5
        refine ⟨y,g1,?_⟩
        have hr4:=hr.call hsl hc hl2 hslot g2
        obtain ⟨τ4,hfz,hok⟩:=hpost
        obtain ⟨S5,gb5,hr5⟩:=hr4.frzs hfz
        have hv:resA τ4 [.t sl]=some [lk τ4.e sl]:=rfl
        have hpo:=hr5.post (us:=[tv (a.put (some sl) y) sl]) hok hv (by simp only [PRlist];exact ⟨_,_,rfl,hr5.env sl,rfl⟩) (fun i s hi=>by
          cases i with
          |zero=>simp at hi;subst hi;rfl
          |succ i=>simp at hi)
        have ey:tv (a.put (some sl) y) sl=y:=by rw [tv_put (by rw [hsz];exact hsl),if_pos rfl]
        rw [hR]
        rw [ey] at hpo
        exact ⟨y,rfl,S5,_,hpo⟩
      refine ⟨us.toList.toArray,?_,fun e=>(hn e).mono fun e u' w'' ⟨x,h1,h2,S'',gb'',hp⟩=>⟨x,h1,h2,done hp⟩,fun e=>(hy e).mono fun e u' w'' ⟨x,h1,h2,S'',gb'',hp⟩=>⟨x,h1,h2,done hp⟩⟩
      rw [show us.toList.toArray=us from rfl] at hrun ⊢
      simp only [invoke]
      simpa using hrun
    refine code2_sound (F:=F2) hd hm2 (Q:=fun e τ=>match e with | .x _=>False|_=>leftD (SpecD P GL) sl dm af.rs M g caps .nili τ) (R:=fun v τ=>(∃T y,v= .ifc T y)∧leftD (SpecD P GL) sl dm af.rs M g caps v τ) ?_ ?_ hrel2 hw2
    · intro e S' gb' τ a' w' hr' hq
      have key:leftD (SpecD P GL) sl dm af.rs M g caps .nili τ→Leaves P fn a'.tmps R a'.defers .returning w':=by
        intro hq
        obtain ⟨args,hi,hn,_⟩:=fin (u:= .nilIface) hr' hq (by simp [PR])
        rw [hr'.defers]
        refine leaves_cons (by simp) hi ((hn rfl).mono ?_)
        rintro e u' w'' ⟨x,rfl,rfl,y,h1,h2⟩
        exact ⟨y,h1,h2⟩
      cases e
      · exact key hq
      · exact hq.elim
      · exact key hq
    · intro v u S' gb' τ a' w' hr' hq hpu hi
      show Leaves P fn a'.tmps R a'.defers (.panicking (thrown u)) w'
      obtain ⟨hv,hq⟩:=hq
      obtain ⟨args,hinv,hn,hy⟩:=fin hr' hq hpu
      rw [hr'.defers]
      refine leaves_cons (by simp) hinv ((hy hv).mono ?_)
      rintro e u' w'' ⟨x,rfl,rfl,y,h1,h2⟩
      exact ⟨y,h1,h2⟩
  have main: ∀ {acd:ACD} {c:Code},mCD P GL af.N dr c acd=true→ ∀ {S gb σ a w},Rel F S gb σ a w→wpDf (Spec P GL) (SpecP P GL) (SpecD P GL) af.N sl dm d af.rs O acd σ→c.wp P (bodyPostD P fn R) a w:=by
    intro acd
    induction acd with
    |sq a' r ih=>
      intro c hm S gb σ a w hr hw
      cases c
      case seq ca cb=>
        simp only [mCD,Bool.and_eq_true] at hm
        obtain ⟨hma,hmb⟩:=hm
        refine wp_seq (code_sound (F:=F) hd hma (Q:=fun e σ'=>match e with | .n=>wpDf (Spec P GL) (SpecP P GL) (SpecD P GL) af.N sl dm d af.rs O r σ'| .r=>postH d af.rs O .r σ'| .x _=>False) ?_ hr hw)
        intro e S1 gb1 σ1 a1 w1 hr1 hq
        cases e
        · exact ih hmb hr1 hq
        · exact hq.elim
        · exact leave hr1 hq
      all_goals simp [mCD] at hm
    |df l x c2'=>
      intro c hm S gb σ a w hr hw
      unfold mCD at hm
      split at hm
      · rename_i e;cases e
      · rename_i id ops c2 l' x' c2'' e
        cases e
        simp only [Bool.and_eq_true] at hm
        obtain ⟨hm1,hm2⟩:=hm
        split at hm1
        · rename_i o hdrop
          simp only [Bool.and_eq_true,Option.isNone_iff_eq_none] at hm1
          obtain ⟨⟨⟨hml,hg⟩,hdst⟩,hop⟩:=hm1
          refine wp_seq (wp_region_list ?_)
          have e:ops.toList=ops.toList.take l.length++[o]:=by rw [←hdrop,List.take_append_drop]
          rw [e]
          refine list_sound_app (F:=F) ?_ hml hr hw
          intro S1 gb1 σ1 a1 w1 hr1 hk
          split at hop<;>(try cases hop)
          rename_i y as ts hop'
          simp only [Bool.and_eq_true] at hop
          obtain ⟨has,hx⟩:=hop
          have hx:=mX_sound hr1 hx
          have has:as= #[]:=by apply Array.ext';simpa using has
          subst has
          split at hk
          · rename_i g caps hv
            rw [hv] at hx
            simp only [PR] at hx
            obtain ⟨us,hx,hcaps⟩:=hx
            simp only [wpList]
            rw [if_pos (by simp [Region.wanted,hg])]
            refine .inl ?_
            have hrun:(execOp a1.eval o).run P w1= .ok (.defer {target:= .fn (.func g) us,args:= #[]}) w1:=by
              unfold execOp
              simp [hop',resolve,hx,Deferred.ofValue]
            unfold Oper.wp
            rw [hrun,Oper.upon_defer,hdst]
            exact mid hm2 hr1 hcaps hk
          · cases hk
        · cases hm1
      · cases hm
  exact main h6 hrel hw
theorem fun_spX {P:Program} {GL:List (Nat×List Value)} {dr:Array Oper→List (List Nat)→List AOp→Bool} {f:Nat} {fn:Func} {af:AFX} (hf:P.funcs[f]?=some fn) (hm:mFX P GL dr fn af=true) (hd:DrawsOk P GL af.N dr) {sl dm d:Nat} (hsl:sl<af.N) (hdm:dm<af.N) {I:In} {O:Out} (hl:I.vs.length=af.np)
    (hw:wpDf (SpH P GL) (SpT P GL) (SpD P GL) af.N sl dm d af.rs O af.c (inSt I)):SpH P GL f d I O:=by
  rw [sph_eq,spt_eq,spd_eq] at hw;rw [sph_eq];exact fun_soundX hf hm hd hsl hdm hl hw
theorem fun_spD {P:Program} {GL:List (Nat×List Value)} {dr:Array Oper→List (List Nat)→List AOp→Bool} {f:Nat} {fn:Func} {af:AFD} (hf:P.funcs[f]?=some fn) (hm:mFD P GL dr fn af=true) (hd:DrawsOk P GL af.N dr) {d:Nat} {I:In} {v:AV} {O:Out} (hl:I.vs.length=af.np) (hi:v.ids=[])
    (hw:wpL (SpH P GL) af.l (wpA (SpH P GL) af.c (postH d [] O)) ((inSt I).put af.r v)):SpD P GL f d I v O:=by
  rw [sph_eq] at hw;rw [spd_eq];exact fun_soundDef hf hm hd hl hi hw
end Go.Ai
