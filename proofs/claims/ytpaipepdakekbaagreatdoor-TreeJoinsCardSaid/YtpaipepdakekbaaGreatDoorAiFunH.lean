/- AiFunH: a part of the proof: the rules, or what functions compute. Conditions: as each theorem says. -/
import Derived.Test.YtpaipepdakekbaaGreatDoorAiFrz
set_option linter.unusedSimpArgs false
set_option linter.unusedVariables false
namespace Go.Ai
open Go.RowKit
variable {P:Program} {F:Fr} {S:Mem} {gb:Gb} {σ:St} {a:Act} {w:World}

mutual
def nz:AV→AV
 | .nils=> .sl []
 | .fn g cs=> .fn g (nzL cs)
 | .agg cs=> .agg (nzL cs)
 | .tup cs=> .tup (nzL cs)
 |v=>v
def nzL:List AV→List AV
 |[]=>[]
 |v::r=>nz v::nzL r
end
def inSt (I:In):St:=⟨initE 0 (mpL Id.up I.vs),mpB Id.up I.bx,mpP Id.up I.pm⟩

mutual
theorem mp_noids {f:Id→Id}: ∀ {v:AV},v.ids=[]→v.mp f=v
 | .ptr _ _,h=>by simp [AV.ids] at h
 | .ms _ _ _ _,h=>by simp [AV.ids] at h
 | .itp _,h=>by simp [AV.ids] at h
 | .mref _,h=>by simp [AV.ids] at h
 | .nilT _ _ _,h=>by simp [AV.ids] at h
 | .mpv _,_=>rfl
 | .fn g cs,h=>by simp only [AV.mp];rw [mpL_noids (by simpa [AV.ids] using h)]
 | .agg cs,h=>by simp only [AV.mp];rw [mpL_noids (by simpa [AV.ids] using h)]
 | .tup cs,h=>by simp only [AV.mp];rw [mpL_noids (by simpa [AV.ids] using h)]
 | .undef,_=>rfl
 | .int _ _,_=>rfl
 | .bool _,_=>rfl
 | .str _,_=>rfl
 | .nils,_=>rfl
 | .sl _,_=>rfl
 | .pin _,_=>rfl
 | .itr _ _,_=>rfl
 | .nilp,_=>rfl
 | .ifc _ v,h=>by simp only [AV.mp];rw [mp_noids (v:=v) (by simpa [AV.ids] using h)]
 | .nili,_=>rfl
theorem mpL_noids {f:Id→Id}: ∀ {l:List AV},idsL l=[]→mpL f l=l
 |[],_=>rfl
 |v::r,h=>by
  simp only [idsL,List.append_eq_nil_iff] at h
  simp only [mpL]
  rw [mp_noids h.1,mpL_noids h.2]
end
mutual
theorem PR_up {S:Mem} {gb:Gb}: ∀(v:AV) (u:Value),PR S gb v u→PR S (gbUp gb) (v.mp Id.up) u
 | .ptr d o,u,h=>by simpa only [AV.mp,PR,gbUp,Id.isIt] using h
 | .ms d o n sz,u,h=>by simpa only [AV.mp,PR,gbUp,Id.isIt] using h
 | .itp _,u,_=>by simp [AV.mp,PR]
 | .mref d,u,h=>by simpa only [AV.mp,PR,gbUp,Id.isIt] using h
 | .nilT d _ _,u,h=>by simpa only [AV.mp,PR,gbUp] using h
 | .mpv _,_,h=>by simp only [PR] at h
 | .fn g cs,u,h=>by
  simp only [AV.mp,PR] at h ⊢
  obtain ⟨us,h1,h2⟩:=h
  exact ⟨us,h1,PRlist_up _ _ h2⟩
 | .agg cs,u,h=>by
  simp only [AV.mp,PR] at h ⊢
  obtain ⟨us,h1,h0,h2⟩:=h
  exact ⟨us,h1,h0,PRlist_up _ _ h2⟩
 | .tup cs,u,h=>by
  simp only [AV.mp,PR] at h ⊢
  obtain ⟨us,h1,h2⟩:=h
  exact ⟨us,h1,PRlist_up _ _ h2⟩
 | .undef,_,_=>by simp only [AV.mp,PR]
 | .int _ _,_,h=>by simpa only [AV.mp,PR] using h
 | .bool _,_,h=>by simpa only [AV.mp,PR] using h
 | .str _,_,h=>by simpa only [AV.mp,PR] using h
 | .nils,_,h=>by simpa only [AV.mp,PR] using h
 | .sl _,_,h=>by simpa only [AV.mp,PR] using h
 | .pin _,_,h=>by simpa only [AV.mp,PR] using h
 | .itr _ _,_,h=>by simp only [PR] at h
 | .nilp,_,h=>by simpa only [AV.mp,PR] using h
 | .ifc _ v,u,h=>by
  simp only [AV.mp,PR] at h ⊢
  obtain ⟨us,h1,h2⟩:=h
  exact ⟨us,h1,PR_up v _ h2⟩
 | .nili,_,h=>by simpa only [AV.mp,PR] using h
theorem PRlist_up {S:Mem} {gb:Gb}: ∀(l:List AV) (us:List Value),PRlist S gb l us→PRlist S (gbUp gb) (mpL Id.up l) us
 |[],us,h=>by simpa only [mpL,PRlist] using h
 |v::r,us,h=>by
  simp only [mpL,PRlist] at h ⊢
  obtain ⟨u,us',h1,h2,h3⟩:=h
  exact ⟨u,us',h1,PR_up v u h2,PRlist_up r us' h3⟩
end
mutual
theorem PR_nz {S:Mem} {gb:Gb}: ∀(v:AV) (u:Value),PR S gb v u→PR S gb (nz v) u
 | .nils,u,h=>by simp only [nz,PR] at h ⊢;exact .inl ⟨h,trivial⟩
 | .fn g cs,u,h=>by
  simp only [nz,PR] at h ⊢
  obtain ⟨us,h1,h2⟩:=h
  exact ⟨us,h1,PRlist_nz _ _ h2⟩
 | .agg cs,u,h=>by
  simp only [nz,PR] at h ⊢
  obtain ⟨us,h1,h0,h2⟩:=h
  exact ⟨us,h1,h0,PRlist_nz _ _ h2⟩
 | .tup cs,u,h=>by
  simp only [nz,PR] at h ⊢
  obtain ⟨us,h1,h2⟩:=h
  exact ⟨us,h1,PRlist_nz _ _ h2⟩
 | .ptr _ _,_,h=>h
 | .ms _ _ _ _,_,h=>h
 | .itp _,_,h=>h
 | .mref _,_,h=>h
 | .nilT _ _ _,_,h=>h
 | .mpv _,_,h=>h
 | .undef,_,h=>h
 | .int _ _,_,h=>h
 | .bool _,_,h=>h
 | .str _,_,h=>h
 | .sl _,_,h=>h
 | .pin _,_,h=>h
 | .itr _ _,_,h=>h
 | .nilp,_,h=>h
 | .ifc _ _,_,h=>h
 | .nili,_,h=>h
theorem PRlist_nz {S:Mem} {gb:Gb}: ∀(l:List AV) (us:List Value),PRlist S gb l us→PRlist S gb (nzL l) us
 |[],us,h=>h
 |v::r,us,h=>by
  simp only [nzL,PRlist] at h ⊢
  obtain ⟨u,us',h1,h2,h3⟩:=h
  exact ⟨u,us',h1,PR_nz v u h2,PRlist_nz r us' h3⟩
end
theorem nzL_length: ∀(l:List AV),(nzL l).length=l.length
 |[]=>rfl
 |v::r=>by simp only [nzL,List.length_cons,nzL_length r]
theorem mpL_length {f:Id→Id}: ∀(l:List AV),(mpL f l).length=l.length
 |[]=>rfl
 |v::r=>by simp only [mpL,List.length_cons,mpL_length r]

def gbOut (d:Nat) (gbc:Gb) (ob:List (Id×List AV)):Gb:=fun i=>if i.isNw d=true∧(lkB ob i).isSome=false then none else gbc (i.inn d)
def idOk (d:Nat) (ob:List (Id×List AV)) (i:Id):Prop:=i.isIt=false∧(i.isNw d=true→(lkB ob i).isSome=true)
theorem gbOut_ok {d:Nat} {gbc:Gb} {ob:List (Id×List AV)} {i:Id} (h:i.isNw d=true→(lkB ob i).isSome=true):gbOut d gbc ob i=gbc (i.inn d):=by
 unfold gbOut
 rw [if_neg]
 rintro ⟨h1,h2⟩
 rw [h h1] at h2;cases h2
theorem isIt_inn {d:Nat} {i:Id}:(i.inn d).isIt=i.isIt:=by
 cases i<;>simp only [Id.inn]<;>(try split)<;>simp_all [Id.isIt]
mutual
theorem PR_out {S:Mem} {d:Nat} {gbc:Gb} {ob:List (Id×List AV)}: ∀(v:AV) (u:Value),(∀i∈v.ids,idOk d ob i)→PR S gbc (v.mp (Id.inn d)) u→PR S (gbOut d gbc ob) v u
 | .ptr i o,u,hi,h=>by
  obtain ⟨h1,h2⟩:=hi i (by simp [AV.ids])
  simp only [AV.mp,PR] at h ⊢
  obtain ⟨g,z,e1,e2,e3⟩:=h
  exact ⟨g,z,by rw [gbOut_ok h2];exact e1,h1,e3⟩
 | .ms i o n sz,u,hi,h=>by
  obtain ⟨h1,h2⟩:=hi i (by simp [AV.ids])
  simp only [AV.mp,PR] at h ⊢
  obtain ⟨g,z,cap,e1,e2,e3⟩:=h
  exact ⟨g,z,cap,by rw [gbOut_ok h2];exact e1,h1,e3⟩
 | .itp k,u,hi,_=>by
  have:=(hi (.it k) (by simp [AV.ids])).1
  simp [Id.isIt] at this
 | .mref i,u,hi,h=>by
  have h1:=(hi i (by simp [AV.ids])).1
  simp only [AV.mp,PR] at h
  obtain ⟨g,z,_,e2,_⟩:=h
  rw [isIt_inn,h1] at e2;cases e2
 | .mpv _,_,_,h=>by simp only [AV.mp,PR] at h
 | .nilT i _ _,u,hi,h=>by
  obtain ⟨h1,h2⟩:=hi i (by simp [AV.ids])
  simp only [AV.mp,PR] at h ⊢
  obtain ⟨e0,g,e1⟩:=h
  exact ⟨e0,g,by rw [gbOut_ok h2];exact e1⟩
 | .fn g cs,u,hi,h=>by
  simp only [AV.mp,PR] at h ⊢
  obtain ⟨us,h1,h2⟩:=h
  exact ⟨us,h1,PRlist_out _ _ (by simpa [AV.ids] using hi) h2⟩
 | .agg cs,u,hi,h=>by
  simp only [AV.mp,PR] at h ⊢
  obtain ⟨us,h1,h0,h2⟩:=h
  exact ⟨us,h1,h0,PRlist_out _ _ (by simpa [AV.ids] using hi) h2⟩
 | .tup cs,u,hi,h=>by
  simp only [AV.mp,PR] at h ⊢
  obtain ⟨us,h1,h2⟩:=h
  exact ⟨us,h1,PRlist_out _ _ (by simpa [AV.ids] using hi) h2⟩
 | .undef,_,_,_=>by simp only [AV.mp,PR]
 | .int _ _,_,_,h=>by simpa only [AV.mp,PR] using h
 | .bool _,_,_,h=>by simpa only [AV.mp,PR] using h
 | .str _,_,_,h=>by simpa only [AV.mp,PR] using h
 | .nils,_,_,h=>by simpa only [AV.mp,PR] using h
 | .sl _,_,_,h=>by simpa only [AV.mp,PR] using h
 | .pin _,_,_,h=>by simpa only [AV.mp,PR] using h
 | .itr _ _,_,_,h=>by simp only [AV.mp,PR] at h
 | .nilp,_,_,h=>by simpa only [AV.mp,PR] using h
 | .nili,_,_,h=>by simpa only [AV.mp,PR] using h
 | .ifc _ v,u,hi,h=>by
  simp only [AV.mp,PR] at h ⊢
  obtain ⟨us,h1,h2⟩:=h
  exact ⟨us,h1,PR_out v _ (by simpa [AV.ids] using hi) h2⟩
theorem PRlist_out {S:Mem} {d:Nat} {gbc:Gb} {ob:List (Id×List AV)}: ∀(l:List AV) (us:List Value),(∀i∈idsL l,idOk d ob i)→PRlist S gbc (mpL (Id.inn d) l) us→PRlist S (gbOut d gbc ob) l us
 |[],us,_,h=>by simpa only [mpL,PRlist] using h
 |v::r,us,hi,h=>by
  simp only [mpL,PRlist] at h ⊢
  obtain ⟨u,us',h1,h2,h3⟩:=h
  exact ⟨u,us',h1,PR_out v u (fun i hm=>hi i (by simp [idsL,hm])) h2,PRlist_out r us' (fun i hm=>hi i (by simp [idsL,hm])) h3⟩
end
theorem inn_inj {d:Nat} {i j:Id} (h:i.inn d=j.inn d):i=j:=by
 cases i<;>cases j<;>simp only [Id.inn] at h<;>(try split at h)<;>(try split at h)<;>simp_all [Id.isUp]
 all_goals (first|(subst h;simp_all [Id.isUp])|skip)
theorem inn_it {d:Nat} {i:Id} (h:i.isIt=true):(i.inn d).isIt=true:=by
 rw [isIt_inn];exact h
theorem inn_notNw {d:Nat} {i:Id} (h:i.isNw d=false):i.inn d= .up i:=by
 cases i with
 |nw d' j=>
  simp only [Id.inn]
  rw [if_neg]
  rintro ⟨rfl,h2⟩
  cases j<;>simp_all [Id.isNw,Id.isUp]
 |_=>rfl
theorem lkB_mpB {f:Id→Id} (hf: ∀i j,f i=f j→i=j): ∀(l:List (Id×List AV)) (i:Id),lkB (mpB f l) (f i)=(lkB l i).map (mpL f)
 |[],i=>rfl
 |(d,cs)::r,i=>by
  simp only [mpB,lkB]
  by_cases e:d=i
  ·subst e;simp
  ·rw [if_neg (fun q=>e (hf _ _ q)),if_neg e,lkB_mpB hf r i]
theorem lkB_mpB_some {f:Id→Id} (hf: ∀i j,f i=f j→i=j): ∀ {l:List (Id×List AV)} {j:Id} {cs:List AV},lkB (mpB f l) j=some cs→ ∃i cs',j=f i∧lkB l i=some cs'∧cs=mpL f cs'
 |[],j,cs,h=>by simp [mpB,lkB] at h
 |(d,c)::r,j,cs,h=>by
  simp only [mpB,lkB] at h
  split at h
  ·rename_i e;simp only [Option.some.injEq] at h
   exact ⟨d,c,e.symm,by simp [lkB],h.symm⟩
  ·rename_i e
   obtain ⟨i,cs',h1,h2,h3⟩:=lkB_mpB_some hf h
   exact ⟨i,cs',h1,by simp only [lkB];rw [if_neg (fun q=>e (by rw [q,h1]))];exact h2,h3⟩
theorem lkP_mpP {f:Id→Id} (hf: ∀i j,f i=f j→i=j): ∀ {l:List (Pl×Nat)} {q:Pl} {k:Nat},lkP (mpP f l) q=some k→ ∃p,q=p.mp f∧lkP l p=some k
 |[],q,k,h=>by simp [mpP,lkP] at h
 |(p,k')::r,q,k,h=>by
  simp only [mpP,lkP] at h
  split at h
  ·rename_i e;simp only [Option.some.injEq] at h;exact ⟨p,e.symm,by simp [lkP,h]⟩
  ·rename_i e
   obtain ⟨p',h1,h2⟩:=lkP_mpP hf h
   exact ⟨p',h1,by simp only [lkP];rw [if_neg (fun q=>e (by rw [q,h1]))];exact h2⟩
theorem plv_up {gb:Gb} {sv:Nat→Value} {w:World} (p:Pl):plv (gbUp gb) sv w (p.mp Id.up)=plv gb sv w p:=by
 cases p<;>rfl
theorem up_inj (i j:Id) (h:Id.up i=Id.up j):i=j:=by cases h;rfl

theorem HR.up {bx:List (Id×List AV)} {pm:List (Pl×Nat)} {sv:Nat→Value} (h:HR S gb bx pm sv w):HR S (gbUp gb) (mpB Id.up bx) (mpP Id.up pm) sv w:=by
 refine ⟨h.agree,?_,?_,?_,?_,?_,?_,?_⟩
 ·intro d cs hcs hi
  obtain ⟨i,cs',rfl,h2,rfl⟩:=lkB_mpB_some up_inj hcs
  obtain ⟨g,us,T,e1,e3,e0,e4,e5,e6⟩:=h.box i cs' h2 hi
  exact ⟨g,us,T,e1,e3,by rw [mpL_length];exact e0,by rw [mpL_length];exact PRlist_up _ _ e4,e5,e6⟩
 ·intro d cs hcs hi
  obtain ⟨i,cs',rfl,h2,rfl⟩:=lkB_mpB_some up_inj hcs
  obtain ⟨g,z,ob,e1,e2,e3,e6⟩:=h.its i cs' h2 hi
  refine ⟨g,z,ob,e1,?_,e3,e6⟩
  unfold itO at e2
  split at e2
  ·exact e2
  ·exact e2
  ·cases e2
 ·intro d d' g z z' i1 i2 q1 q2
  obtain ⟨c1,hc1⟩:=Option.isSome_iff_exists.1 i1
  obtain ⟨c2,hc2⟩:=Option.isSome_iff_exists.1 i2
  obtain ⟨i,cs,rfl,h2,rfl⟩:=lkB_mpB_some up_inj hc1
  obtain ⟨j,cs',rfl,h3,rfl⟩:=lkB_mpB_some up_inj hc2
  rw [h.inj i j g z z' (by rw [h2];rfl) (by rw [h3];rfl) q1 q2]
 ·intro p k hp
  obtain ⟨q,rfl,h2⟩:=lkP_mpP up_inj hp
  rw [plv_up];exact h.own q k h2
 ·intro p q k l b hp hq h1 h2
  obtain ⟨p',rfl,p2⟩:=lkP_mpP up_inj hp
  obtain ⟨q',rfl,q2⟩:=lkP_mpP up_inj hq
  rw [plv_up] at h1 h2
  rw [h.ownd p' q' k l b p2 q2 h1 h2]
 ·intro p k b d z hp h1 hd
  obtain ⟨p',rfl,p2⟩:=lkP_mpP up_inj hp
  rw [plv_up] at h1
  obtain ⟨c1,hc1⟩:=Option.isSome_iff_exists.1 hd
  obtain ⟨i,cs,rfl,h2,rfl⟩:=lkB_mpB_some up_inj hc1
  exact h.ownb p' k b i z p2 h1 (by rw [h2];rfl)
 ·intro d off k hp
  obtain ⟨q,e,h2⟩:=lkP_mpP up_inj hp
  cases q with
  |b i o=>
   simp only [Pl.mp,Pl.b.injEq] at e
   obtain ⟨rfl,rfl⟩:=e
   obtain ⟨h3,h4⟩:=h.pmb i _ k h2
   refine ⟨?_,h4⟩
   rw [lkB_mpB up_inj];simpa using h3
  |s t=>cases e
  |t t i=>cases e

def wkz (v u:AV):Prop:=v=u∨nz v=u
def wkzL (v u:List AV):Prop:=v=u∨nzL v=u
def obx (d:Nat) (σ:St) (i:Id) (cs:List AV):Prop:=match lkB σ.bx (i.inn d) with
 |some c=>wkzL c (mpL (Id.inn d) cs)
 |none=>False
def pmOut (d:Nat) (rs:List AR) (ob:List (Id×List AV)) (σ:St):Pl×Nat→Prop
 |(.s t,k)=>t=0∧(match rs with |[.t s]=>lkP σ.pm (.s s)=some k∨lk σ.e s= .nils|_=>False)
 |(.t t i,k)=>t=0∧2≤rs.length∧(match rs[i]? with |some (.t s)=>lkP σ.pm (.s s)=some k∨lk σ.e s= .nils|_=>False)
 |(.b i o,k)=>(lkB ob i).isSome=true∧(lkP σ.pm (.b (i.inn d) o)=some k∨nilAt σ (.b (i.inn d) o))
def rsOne:List AR→Prop
 |[]=>True
 | .t s::r=>(∀x∈r,x≠ .t s)∧rsOne r
 |_::r=>rsOne r
structure OutOk (d:Nat) (rs:List AR) (O:Out) (σ:St):Prop where
 r:match resA σ rs with |some vs=>wkz (oneA vs) (O.r.mp (Id.inn d))|none=>False
 ids: ∀i∈O.r.ids,idOk d O.bx i
 bx: ∀p∈O.bx,(p.1.inn d).isIt=false∧obx d σ p.1 p.2
 bi: ∀p∈O.bx,∀i∈idsL p.2,idOk d O.bx i
 pm: ∀p∈O.pm,pmOut d rs O.bx σ p
 nd:O.pm=[]∨rsOne rs
inductive Frzs:St→St→Prop
 |z (σ:St):Frzs σ σ
 |s {σ τ:St} (s:Nat) (b:Id) (n sz:Nat) (rows:List (List AV)):FrzOk σ s b n sz rows→sz<KB→Frzs (frzStP σ s b sz rows) τ→Frzs σ τ
 |t {σ τ:St} (s:Nat) (b:Id) (n sz:Nat) (rows:List (List AV)) (tl:List AV):FrzOk2 σ s b n sz rows tl→sz<KB→Frzs (frzStP σ s b sz rows) τ→Frzs σ τ
def postH (d:Nat) (rs:List AR) (O:Out):AE→St→Prop
 | .x _,_=>False
 |_,σ=> ∃τ,Frzs σ τ∧OutOk d rs O τ
theorem Rel.frzs {σ τ:St} (hf:Frzs σ τ): ∀ {S:Mem} {gb:Gb},Rel F S gb σ a w→ ∃S' gb',Rel F S' gb' τ a w:=by
 induction hf with
 |z σ=>intro S gb h;exact ⟨S,gb,h⟩
 |s s b n sz rows h1 hk h2 ih=>
  intro S gb h
  obtain ⟨S',gb',h3⟩:=h.freezeP h1.two hk
  exact ih h3
 |t s b n sz rows tl h1 hk h2 ih=>
  intro S gb h
  obtain ⟨S',gb',h3⟩:=h.freezeP h1 hk
  exact ih h3
theorem rsOne_ne: ∀ {rs:List AR},rsOne rs→ ∀ {i j s:Nat},rs[i]?=some (.t s)→rs[j]?=some (.t s)→i=j
 |[],_,i,j,s,h,_=>by simp at h
 |x::r,ho,i,j,s,hi,hj=>by
  have hr:rsOne r:=by cases x<;>simp only [rsOne] at ho<;>first|exact ho.2|exact ho
  cases i with
  |zero=>
   cases j with
   |zero=>rfl
   |succ j=>
    simp at hi hj;subst hi
    simp only [rsOne] at ho
    exact absurd rfl (ho.1 _ (List.mem_of_getElem? hj))
  |succ i=>
   cases j with
   |zero=>
    simp at hi hj;subst hj
    simp only [rsOne] at ho
    exact absurd rfl (ho.1 _ (List.mem_of_getElem? hi))
   |succ j=>
    simp at hi hj
    rw [rsOne_ne hr hi hj]

theorem Rel.out (h:Rel F S gb σ a w) {d:Nat} {rs:List AR} {O:Out} (ho:OutOk d rs O σ) {vs:List AV} (hv:resA σ rs=some vs) {us:List Value} (hu:PRlist S gb vs us) (hs: ∀(i s:Nat),rs[i]?=some (AR.t s)→us[i]?=some (tv a s)) (hl:rs.length=us.length):
  let v:=if h:us.toArray.size=1 then us.toArray[0] else .tuple us.toArray
  PR S (gbOut d gb O.bx) O.r v∧HR S (gbOut d gb O.bx) O.bx O.pm (fun _=>v) w∧(∀i g z,(lkB O.bx i).isSome→gbOut d gb O.bx i=some (g,z)→F.w0.heap.size≤g∨F.M g)∧
   (∀p k g,lkP O.pm p=some k→(plv (gbOut d gb O.bx) (fun _=>v) w p).ownBlock=some g→F.w0.heap.size≤g∨F.M g):=by
 intro v
 have hval: ∀i,(lkB O.bx i).isSome=true→gbOut d gb O.bx i=gb (i.inn d):=fun i hi=>gbOut_ok (fun _=>hi)
 have hbox: ∀i cs,lkB O.bx i=some cs→ ∃c,lkB σ.bx (i.inn d)=some c∧wkzL c (mpL (Id.inn d) cs)∧(i.inn d).isIt=false∧(∀j∈idsL cs,idOk d O.bx j):=by
  intro i cs hcs
  have hm:=lkB_mem _ _ _ hcs
  obtain ⟨h1,h2⟩:=ho.bx _ hm
  simp only [obx] at h2
  split at h2
  ·rename_i c hc;exact ⟨c,hc,h2,h1,ho.bi _ hm⟩
  ·cases h2
 have hsome: ∀i,(lkB O.bx i).isSome=true→(lkB σ.bx (i.inn d)).isSome=true:=by
  intro i hi
  obtain ⟨cs,hcs⟩:=Option.isSome_iff_exists.1 hi
  obtain ⟨c,hc,_⟩:=hbox i cs hcs
  rw [hc];rfl
 have hpl: ∀p k,lkP O.pm p=some k→(∃q,lkP σ.pm q=some k∧plv (gbOut d gb O.bx) (fun _=>v) w p=plv gb (tv a) w q∧
   ((p= .s 0∧ ∃s,q= .s s∧rs=[.t s])∨(∃i s,p= .t 0 i∧q= .s s∧rs[i]?=some (.t s)∧2≤rs.length)∨(∃i o,p= .b i o∧q= .b (i.inn d) o∧(lkB O.bx i).isSome=true)))∨
   (plv (gbOut d gb O.bx) (fun _=>v) w p= .slice none 0 0∧ ∀i o,p= .b i o→(lkB O.bx i).isSome=true):=by
  intro p k hp
  have hm:=ho.pm _ (lkP_mem _ _ _ hp)
  cases p with
  |s t=>
   simp only [pmOut] at hm
   obtain ⟨rfl,hm⟩:=hm
   split at hm
   ·rename_i s
    have h1:=hs 0 s rfl
    have h2:us.length=1:=by rw [←hl];rfl
    have hvv:v=tv a s:=by
     simp only [v]
     rw [dif_pos (by simpa using h2)]
     rw [List.getElem?_eq_some_iff] at h1
     obtain ⟨_,h1⟩:=h1
     simpa using h1
    rcases hm with hm|hm
    ·exact .inl ⟨.s s,hm,by simp only [plv,hvv],.inl ⟨rfl,s,rfl,rfl⟩⟩
    ·right
     refine ⟨?_,fun i o he=>by cases he⟩
     have:=h.env s
     rw [hm] at this
     simp only [plv,hvv]
     simpa [PR] using this
   ·cases hm
  |t t i=>
   simp only [pmOut] at hm
   obtain ⟨rfl,h2,hm⟩:=hm
   split at hm
   ·rename_i s hi
    have h1:=hs i s hi
    have hvv:v= .tuple us.toArray:=by
     simp only [v]
     rw [dif_neg]
     simp;omega
    have hg:us.toArray.getD i undef=tv a s:=by
     rw [Array.getD_eq_getD_getElem?]
     simp [h1]
    rcases hm with hm|hm
    ·exact .inl ⟨.s s,hm,by simp only [plv,hvv];exact hg,.inr (.inl ⟨i,s,rfl,rfl,hi,h2⟩)⟩
    ·right
     refine ⟨?_,fun i o he=>by cases he⟩
     have:=h.env s
     rw [hm] at this
     simp only [plv,hvv]
     rw [hg]
     simpa [PR] using this
   ·cases hm
  |b i o=>
   simp only [pmOut] at hm
   obtain ⟨h1,hm⟩:=hm
   have he:plv (gbOut d gb O.bx) (fun _=>v) w (.b i o)=plv gb (tv a) w (.b (i.inn d) o):=by simp only [plv,hval i h1]
   rcases hm with hm|hm
   ·exact .inl ⟨_,hm,he,.inr (.inr ⟨i,o,rfl,rfl,h1⟩)⟩
   ·right
    refine ⟨?_,fun i' o' e=>by cases e;exact h1⟩
    rw [he]
    obtain ⟨cs,hcs⟩:=Option.isSome_iff_exists.1 h1
    obtain ⟨_,_,_,h3,_⟩:=hbox i cs hcs
    exact nilAt_plv h hm (fun d' off e=>by cases e;exact h3)
 refine ⟨?_,⟨h.hr.agree,?_,?_,?_,?_,?_,?_,?_⟩,?_,?_⟩
 ·have h1:=one_PR hu
  have h2:=ho.r
  rw [hv] at h2
  refine PR_out _ _ ho.ids ?_
  rcases h2 with h2|h2
  ·rw [←h2];exact h1
  ·rw [←h2];exact PR_nz _ _ h1
 ·intro i cs hcs hi
  obtain ⟨c,hc,hw,h3,h4⟩:=hbox i cs hcs
  obtain ⟨g,us',T,e1,e3,e0,e4,e5,e6⟩:=h.hr.box _ c hc h3
  have hlen:c.length=cs.length:=by
   rcases hw with hw|hw
   ·rw [hw,mpL_length]
   ·rw [←nzL_length,hw,mpL_length]
  refine ⟨g,us',T,by rw [hval i (by rw [hcs];rfl)];exact e1,e3,by omega,PRlist_out _ _ h4 ?_,e5,e6⟩
  rw [←hlen]
  rcases hw with hw|hw
  ·rw [←hw];exact e4
  ·rw [←hw];exact PRlist_nz _ _ e4
 ·intro i cs hcs hi
  obtain ⟨c,hc,hw,h3,h4⟩:=hbox i cs hcs
  rw [inn_it hi] at h3;cases h3
 ·intro i j g z z' i1 i2 q1 q2
  rw [hval i i1] at q1
  rw [hval j i2] at q2
  exact inn_inj (h.hr.inj _ _ g z z' (hsome i i1) (hsome j i2) q1 q2)
 ·intro p k hp
  rcases hpl p k hp with ⟨q,q1,q2,_⟩|⟨q1,_⟩
  ·rw [q2];exact h.hr.own q k q1
  ·rw [q1];exact .inl rfl
 ·intro p q k l b hp hq hb1 hb2
  have hne:O.pm≠[]:=fun e=>by rw [e] at hp;simp [lkP] at hp
  have hnd:rsOne rs:=by
   rcases ho.nd with h1|h1
   ·exact absurd h1 hne
   ·exact h1
  rcases hpl p k hp with ⟨p',p1,p2,p3⟩|⟨p1,_⟩
  ·rcases hpl q l hq with ⟨q',q1,q2,q3⟩|⟨q1,_⟩
   ·rw [p2] at hb1
    rw [q2] at hb2
    have e:=h.hr.ownd p' q' k l b p1 q1 hb1 hb2
    subst e
    rcases p3 with ⟨rfl,s,rfl,hr1⟩|⟨i,s,rfl,rfl,hr1,hr2⟩|⟨i,o,rfl,rfl,_⟩
    ·rcases q3 with ⟨rfl,_⟩|⟨j,s',rfl,e2,_,hr3⟩|⟨j,o',rfl,e2,_⟩
     ·rfl
     ·rw [hr1] at hr3;simp at hr3
     ·cases e2
    ·rcases q3 with ⟨rfl,s',e2,hr3⟩|⟨j,s',rfl,e2,hr3,_⟩|⟨j,o',rfl,e2,_⟩
     ·rw [hr3] at hr2;simp at hr2
     ·cases e2;rw [rsOne_ne hnd hr1 hr3]
     ·cases e2
    ·rcases q3 with ⟨rfl,s',e2,hr3⟩|⟨j,s',rfl,e2,hr3,_⟩|⟨j,o',rfl,e2,_⟩
     ·cases e2
     ·cases e2
     ·simp only [Pl.b.injEq] at e2
      rw [inn_inj e2.1,e2.2]
   ·rw [q1] at hb2;simp [Value.ownBlock] at hb2
  ·rw [p1] at hb1;simp [Value.ownBlock] at hb1
 ·intro p k b i z hp hb hi
  rcases hpl p k hp with ⟨q,q1,q2,_⟩|⟨q1,_⟩
  ·rw [q2] at hb
   rw [hval i hi]
   exact h.hr.ownb q k b _ z q1 hb (hsome i hi)
  ·rw [q1] at hb;simp [Value.ownBlock] at hb
 ·intro i o k hp
  have hi:(lkB O.bx i).isSome=true:=by
   rcases hpl _ k hp with ⟨q,q1,q2,q3⟩|⟨_,q1⟩
   ·rcases q3 with ⟨e,_⟩|⟨_,_,e,_⟩|⟨i',o',e,_,h1⟩
    ·cases e
    ·cases e
    ·cases e;exact h1
   ·exact q1 i o rfl
  refine ⟨hi,?_⟩
  obtain ⟨cs,hcs⟩:=Option.isSome_iff_exists.1 hi
  obtain ⟨_,_,_,h3,_⟩:=hbox i cs hcs
  cases hit:i.isIt with
  |false=>rfl
  |true=>rw [inn_it hit] at h3;cases h3
 ·intro i g z hi hq
  rw [hval i hi] at hq
  exact h.newb _ g z (hsome i hi) hq
 ·intro p k g hp hg
  rcases hpl p k hp with ⟨q,q1,q2,_⟩|⟨q1,_⟩
  ·rw [q2] at hg;exact h.newo q k g q1 hg
  ·rw [q1] at hg;simp [Value.ownBlock] at hg

theorem mRs_length: ∀ {rs:List AR} {qs:List ResultVar} {σ:St} {vs:List AV},resA σ rs=some vs→vs.length=rs.length
 |[],qs,σ,vs,h=>by simp only [resA,Option.some.injEq] at h;subst h;rfl
 | .t s::r,qs,σ,vs,h=>by
  simp only [resA] at h
  split at h
  ·rename_i vs' hv
   simp only [Option.some.injEq] at h;subst h
   simp only [List.length_cons,mRs_length (qs:=qs) hv]
  ·cases h
 | .cs s::r,qs,σ,vs,h=>by
  simp only [resA] at h
  split at h
  ·rename_i v vs' _ hv
   simp only [Option.some.injEq] at h;subst h
   simp only [List.length_cons,mRs_length (qs:=qs) hv]
  ·cases h
 | .ca s n::r,qs,σ,vs,h=>by
  simp only [resA] at h
  split at h
  ·rename_i v vs' _ hv
   simp only [Option.some.injEq] at h;subst h
   simp only [List.length_cons,mRs_length (qs:=qs) hv]
  ·cases h

theorem fun_soundH {GL:List (Nat×List Value)} {dr:Array Oper→List (List Nat)→List AOp→Bool} {f:Nat} {fn:Func} {af:AF} (hf:P.funcs[f]?=some fn) (hm:mF P GL dr fn af=true) (hd:DrawsOk P GL af.N dr) {d:Nat} {I:In} {O:Out} (hl:I.vs.length=af.np)
  (hw:wpA (Spec P GL) af.c (postH d af.rs O) (inSt I)):Spec P GL f d I O:=by
 simp only [mF,Bool.and_eq_true,bne_iff_ne,beq_iff_eq] at hm
 obtain ⟨⟨⟨⟨⟨h1,h2⟩,h3⟩,h4⟩,h5⟩,h6⟩:=hm
 split at h6<;>(try cases h6)
 rename_i c hb
 have h4:=Nat.le_of_ble_eq_true h4
 intro S gb w vs hvs hhr hglo hnw
 have hlen:vs.length=I.vs.length:=hvs.length.symm
 unfold Does
 have hcall:(callFunc f vs.toArray).run P w= .ok (.enter f vs.toArray) w:=by
  simp [callFunc,hf,hb,h1]
 rw [hcall]
 refine calls_of_wp hf hb ?_
 let F:Fr:=⟨S,w,MS I gb (fun t=>vs.getD t undef) w,gb,af.N,GL,[]⟩
 have hsv:tv {tmps:=vs.toArray++Array.replicate (fn.ntmps - vs.toArray.size) undef,defers:=[]}=fun t=>vs.getD t undef:=by
  funext t;exact tv_init
 have hup:=hhr.up
 have hrel:Rel F S (gbUp gb) (inSt I) {tmps:=vs.toArray++Array.replicate (fn.ntmps - vs.toArray.size) undef,defers:=[]} w:=by
  refine ⟨rfl,?_,Bw.refl _ _,fun _ _ _ _=>rfl,Mem.le.refl _,?_,by rw [hsv];exact hup,?_,?_,?_,fun d=>rfl,hglo⟩
  ·show (vs.toArray++Array.replicate (fn.ntmps - vs.toArray.size) undef).size=af.N
   simp;omega
  ·intro t
   have:=(lk_initE (PRlist_up _ _ hvs) 0 t).2 t (by omega)
   rw [tv_init]
   exact this
  ·intro i g z hi hq
   obtain ⟨c1,hc1⟩:=Option.isSome_iff_exists.1 hi
   obtain ⟨j,cs,rfl,hj,_⟩:=lkB_mpB_some up_inj hc1
   exact .inr (.inl ⟨j,z,by rw [hj];rfl,hq⟩)
  ·intro p k g hp hg
   obtain ⟨q,rfl,hq⟩:=lkP_mpP up_inj hp
   rw [hsv,plv_up] at hg
   exact .inr (.inr ⟨q,k,hq,hg⟩)
  ·intro i hi
   cases i<;>simp [gbUp,Id.isUp] at hi ⊢
 refine code_sound (F:=F) hd h6 (Q:=postH d af.rs O) ?_ hrel hw
 intro e S0' gb0' σ0 a' w' hr0 hq0
 have fin: ∀σ0,Rel F S0' gb0' σ0 a' w'→(∃τ,Frzs σ0 τ∧OutOk d af.rs O τ)→a'.defers=[]∧ ∃v,(results fn a'.tmps).run P w'= .ok v w'∧(∃u,Ending.returned v= .returned u∧ ∃S'' gb'',PostR d I O S gb (fun t=>vs.getD t undef) w S'' gb'' u w'):=by
  rintro σ0 hr0 ⟨τ,hfz,hok⟩
  obtain ⟨S',gb',hr⟩:=hr0.frzs hfz
  refine ⟨hr.defers,?_⟩
  have hr':=hok.r
  split at hr'
  ·rename_i vs' hv
   obtain ⟨us,hrun,g2,g3⟩:=res_run (P:=P) hr h5 hv
   obtain ⟨o1,o2,o3,o4⟩:=hr.out hok hv g2 g3 (by rw [←g2.length];exact (mRs_length (qs:=[]) hv).symm)
   refine ⟨_,hrun,_,rfl,S',gbOut d gb' O.bx,hr.bw,hr.ext,hr.le,?_,?_,o1,o2,o3,o4⟩
   ·intro i hi
    have:gbOut d gb' O.bx i=gb' (i.inn d):=gbOut_ok (fun e=>by rw [hi] at e;cases e)
    rw [this,inn_notNw hi]
    exact hr.up i
   ·intro i hi hne
    simp only [gbOut] at hne
    split at hne
    ·exact absurd rfl hne
    ·rename_i hno
     cases hs:(lkB O.bx i).isSome with
     |true=>rfl
     |false=>exact absurd ⟨hi,hs⟩ hno
  ·cases hr'
 cases e
 ·exact fin _ hr0 hq0
 ·exact hq0.elim
 ·exact fin _ hr0 hq0
theorem fun_spH {P:Program} {GL:List (Nat×List Value)} {dr:Array Oper→List (List Nat)→List AOp→Bool} {f:Nat} {fn:Func} {af:AF} (hf:P.funcs[f]?=some fn) (hm:mF P GL dr fn af=true) (hd:DrawsOk P GL af.N dr) {d:Nat} {I:In} {O:Out} (hl:I.vs.length=af.np)
  (hw:wpA (SpH P GL) af.c (postH d af.rs O) (inSt I)):SpH P GL f d I O:=by
 rw [sph_eq] at hw ⊢;exact fun_soundH hf hm hd hl hw

def onH (S:Nat→Nat→In→Out→Prop) (f d:Nat) (xs:List X) (K:St→Prop) (σ:St):Prop:=wpC S f d xs K σ
@[simp] theorem wp1_ce {S:Nat→Nat→In→Out→Prop} {d f xs} {K:St→Prop} {σ:St}:wp1 S (.ce d f xs) K σ=onH S f d xs K σ:=by rw [wp1];rfl
def onD (S:Nat→Nat→In→Out→Prop) (d:Nat) (xs:List X) (K:St→Prop) (σ:St):AV→Prop
 | .fn f caps=>onH S f d (xs++caps.map X.c) K σ
 |_=>False
@[simp] theorem wp1_cd {S:Nat→Nat→In→Out→Prop} {d x xs} {K:St→Prop} {σ:St}:wp1 S (.cd d x xs) K σ=onD S d xs K σ (σ.v x):=by
 rw [wp1];unfold onD onH;cases σ.v x<;>rfl
@[simp] theorem onD_fn {S:Nat→Nat→In→Out→Prop} {d xs f caps} {K:St→Prop} {σ:St}:onD S d xs K σ (.fn f caps)=onH S f d (xs++caps.map X.c) K σ:=rfl
theorem onH_mk {P:Program} {GL:List (Nat×List Value)} {K:St→Prop} {σ:St} {f d:Nat} {xs:List X} (I:In) (O:Out) (h:SpH P GL f d I O) (hc:CallOk d σ xs I O) (hk:K (callSt d σ xs I O)):onH (SpH P GL) f d xs K σ:=⟨I,O,h,hc,hk⟩
theorem onQ_mk {P:Program} {GL:List (Nat×List Value)} {K:St→Prop} {σ:St} {f d:Nat} {xs:List X} {fr:List Nat} (I:In) (O:Out) (h:SpH P GL f d I O) (hc:CallOk d σ xs I O) (hq:CqOk fr I O) (hk:K (callSt d σ xs I O)) (hn:fr.contains d=false:=by decide):onQ (SpH P GL) f d xs fr K σ:=⟨I,O,h,hc,⟨hq,hn⟩,hk⟩
theorem postH_n {d:Nat} {rs:List AR} {O:Out} {σ:St} (h:OutOk d rs O σ):postH d rs O .n σ:=⟨σ,.z σ,h⟩
theorem postH_r {d:Nat} {rs:List AR} {O:Out} {σ:St} (h:OutOk d rs O σ):postH d rs O .r σ:=⟨σ,.z σ,h⟩
@[simp] theorem inn_up {d i}:(Id.up i).inn d= .up (.up i):=rfl
@[simp] theorem inn_n {d k}:(Id.n k).inn d= .up (.n k):=rfl
@[simp] theorem inn_ix {d i k}:(Id.ix i k).inn d= .up (.ix i k):=rfl
@[simp] theorem inn_itr {d k}:(Id.it k).inn d= .up (.it k):=rfl
@[simp] theorem inn_nw {d d' i}:(Id.nw d' i).inn d=if d'=d∧i.isUp=false then i else .up (.nw d' i):=rfl
@[simp] theorem nw_up {d i}:(Id.up i).isNw d=false:=rfl
@[simp] theorem nw_n {d k}:(Id.n k).isNw d=false:=rfl
@[simp] theorem nw_ix {d i k}:(Id.ix i k).isNw d=false:=rfl
@[simp] theorem nw_itr {d k}:(Id.it k).isNw d=false:=rfl
@[simp] theorem nw_nw {d d' i}:(Id.nw d' i).isNw d=(d'==d&&!i.isUp):=rfl
attribute [simp] AV.mp mpL mpB mpP Pl.mp inSt nz nzL rmBs dlBs dlXs retP callSt pmIn pmOne pmOut obx wkz wkzL idOk rsOne frzSt frzStP St.puto
theorem SpH.noPm {P:Program} {GL:List (Nat×List Value)} {f d:Nat} {I:In} {r:AV} {bx:List (Id×List AV)} {pm:List (Pl×Nat)} (h:SpH P GL f d I ⟨r,bx,pm⟩):SpH P GL f d I ⟨r,bx,[]⟩:=by
 rw [sph_eq] at h ⊢
 intro S gb w vs hvs hhr hglo hnw
 have:=h S gb w vs hvs hhr hglo hnw
 have hm: ∀v w',(∃S' gb',PostR d I ⟨r,bx,pm⟩ S gb (fun t=>vs.getD t undef) w S' gb' v w')→ ∃S' gb',PostR d I ⟨r,bx,[]⟩ S gb (fun t=>vs.getD t undef) w S' gb' v w':=by
  rintro v w' ⟨S',gb',q⟩
  refine ⟨S',gb',q.bw,q.ext,q.le,q.same,q.nw,q.r,⟨q.hr.agree,q.hr.box,q.hr.its,q.hr.inj,?_,?_,?_,?_⟩,q.newb,?_⟩
  ·intro p k hk;simp [lkP] at hk
  ·intro p q k l b hk;simp [lkP] at hk
  ·intro p k b d z hk;simp [lkP] at hk
  ·intro d off k hk;simp [lkP] at hk
  ·intro p k g hk;simp [lkP] at hk
 unfold Does at this ⊢
 split at this
 ·exact hm _ _ this
 ·exact this.mono (fun e w' ⟨v,h1,h2⟩=>⟨v,h1,hm _ _ h2⟩)
 ·exact this
theorem Sp.of_h {P:Program} {GL:List (Nat×List Value)} {f:Nat} {l:List AV} {r:AV} (h: ∀d,SpH P GL f d ⟨l,[],[]⟩ ⟨r,[],[]⟩):Sp P GL f l r:=by unfold Sp;exact h
theorem Sp.h {P:Program} {GL:List (Nat×List Value)} {f d:Nat} {l:List AV} {r:AV} (h:Sp P GL f l r):SpH P GL f d ⟨l,[],[]⟩ ⟨r,[],[]⟩:=by unfold Sp at h;exact h d
end Go.Ai
