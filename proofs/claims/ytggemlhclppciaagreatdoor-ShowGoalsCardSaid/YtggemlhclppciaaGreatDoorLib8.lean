/- Lib8: a part of the proof: the rules, or what functions compute. Conditions: as each theorem says. -/
import Derived.Test.YtggemlhclppciaaGreatDoorLib7
import Derived.Recover
import Derived.RangeFuncFrom
import Derived.RangeFuncLeaves
import Derived.RangeFuncCalls
import Derived.OrdersIn
set_option linter.unusedSimpArgs false
set_option linter.unusedVariables false
namespace Go.Ai
open Go.RowKit
variable {P:Program} {F:Fr} {S:Mem} {gb:Gb} {σ:St} {a:Act} {w:World}

mutual
def nz:AV→AV
 | .nils=> .sl []
 | .fn g cs=> .fn g (nzL cs)
 | .agg cs=> .agg (nzL cs)
 | .tup cs=> .tup (nzL cs)
 |v=>v
def nzL:List AV→List AV
 |[]=>[]
 |v::r=>nz v::nzL r
end
def inSt (I:In):St:=⟨initE 0 (mpL Id.up I.vs),mpB Id.up I.bx,mpP Id.up I.pm⟩

mutual
theorem mp_noids {f:Id→Id}: ∀ {v:AV},v.ids=[]→v.mp f=v
 | .ptr _ _,h=>by simp [AV.ids] at h
 | .ms _ _ _ _,h=>by simp [AV.ids] at h
 | .itp _,h=>by simp [AV.ids] at h
 | .mref _,h=>by simp [AV.ids] at h
 | .nilT _ _ _,h=>by simp [AV.ids] at h
 | .mpv _,_=>rfl
 | .fn g cs,h=>by simp only [AV.mp];rw [mpL_noids (by simpa [AV.ids] using h)]
 | .agg cs,h=>by simp only [AV.mp];rw [mpL_noids (by simpa [AV.ids] using h)]
 | .tup cs,h=>by simp only [AV.mp];rw [mpL_noids (by simpa [AV.ids] using h)]
 | .undef,_=>rfl
 | .int _ _,_=>rfl
 | .bool _,_=>rfl
 | .str _,_=>rfl
 | .nils,_=>rfl
 | .sl _,_=>rfl
 | .pin _,_=>rfl
 | .itr _ _,_=>rfl
 | .nilp,_=>rfl
 | .ifc _ v,h=>by simp only [AV.mp];rw [mp_noids (v:=v) (by simpa [AV.ids] using h)]
 | .nili,_=>rfl
 | .yv _,_=>rfl
theorem mpL_noids {f:Id→Id}: ∀ {l:List AV},idsL l=[]→mpL f l=l
 |[],_=>rfl
 |v::r,h=>by
  simp only [idsL,List.append_eq_nil_iff] at h
  simp only [mpL]
  rw [mp_noids h.1,mpL_noids h.2]
end
mutual
theorem PR_up {S:Mem} {gb:Gb}: ∀(v:AV) (u:Value),PR S gb v u→PR S (gbUp gb) (v.mp Id.up) u
 | .ptr d o,u,h=>by simpa only [AV.mp,PR,gbUp,Id.isIt] using h
 | .ms d o n sz,u,h=>by simpa only [AV.mp,PR,gbUp,Id.isIt] using h
 | .itp _,u,_=>by simp [AV.mp,PR]
 | .mref d,u,h=>by simpa only [AV.mp,PR,gbUp,Id.isIt] using h
 | .nilT d _ _,u,h=>by simpa only [AV.mp,PR,gbUp] using h
 | .mpv _,_,h=>by simp only [PR] at h
 | .fn g cs,u,h=>by
  simp only [AV.mp,PR] at h ⊢
  obtain ⟨us,h1,h2⟩:=h
  exact ⟨us,h1,PRlist_up _ _ h2⟩
 | .agg cs,u,h=>by
  simp only [AV.mp,PR] at h ⊢
  obtain ⟨us,h1,h0,h2⟩:=h
  exact ⟨us,h1,h0,PRlist_up _ _ h2⟩
 | .tup cs,u,h=>by
  simp only [AV.mp,PR] at h ⊢
  obtain ⟨us,h1,h2⟩:=h
  exact ⟨us,h1,PRlist_up _ _ h2⟩
 | .undef,_,_=>by simp only [AV.mp,PR]
 | .int _ _,_,h=>by simpa only [AV.mp,PR] using h
 | .bool _,_,h=>by simpa only [AV.mp,PR] using h
 | .str _,_,h=>by simpa only [AV.mp,PR] using h
 | .nils,_,h=>by simpa only [AV.mp,PR] using h
 | .sl _,_,h=>by simpa only [AV.mp,PR] using h
 | .pin _,_,h=>by simpa only [AV.mp,PR] using h
 | .itr _ _,_,h=>by simp only [PR] at h
 | .nilp,_,h=>by simpa only [AV.mp,PR] using h
 | .ifc _ v,u,h=>by
  simp only [AV.mp,PR] at h ⊢
  obtain ⟨us,h1,h2⟩:=h
  exact ⟨us,h1,PR_up v _ h2⟩
 | .nili,_,h=>by simpa only [AV.mp,PR] using h
 | .yv _,_,h=>by simpa only [AV.mp,PR] using h
theorem PRlist_up {S:Mem} {gb:Gb}: ∀(l:List AV) (us:List Value),PRlist S gb l us→PRlist S (gbUp gb) (mpL Id.up l) us
 |[],us,h=>by simpa only [mpL,PRlist] using h
 |v::r,us,h=>by
  simp only [mpL,PRlist] at h ⊢
  obtain ⟨u,us',h1,h2,h3⟩:=h
  exact ⟨u,us',h1,PR_up v u h2,PRlist_up r us' h3⟩
end
mutual
theorem PR_nz {S:Mem} {gb:Gb}: ∀(v:AV) (u:Value),PR S gb v u→PR S gb (nz v) u
 | .nils,u,h=>by simp only [nz,PR] at h ⊢;exact .inl ⟨h,trivial⟩
 | .fn g cs,u,h=>by
  simp only [nz,PR] at h ⊢
  obtain ⟨us,h1,h2⟩:=h
  exact ⟨us,h1,PRlist_nz _ _ h2⟩
 | .agg cs,u,h=>by
  simp only [nz,PR] at h ⊢
  obtain ⟨us,h1,h0,h2⟩:=h
  exact ⟨us,h1,h0,PRlist_nz _ _ h2⟩
 | .tup cs,u,h=>by
  simp only [nz,PR] at h ⊢
  obtain ⟨us,h1,h2⟩:=h
  exact ⟨us,h1,PRlist_nz _ _ h2⟩
 | .ptr _ _,_,h=>h
 | .ms _ _ _ _,_,h=>h
 | .itp _,_,h=>h
 | .mref _,_,h=>h
 | .nilT _ _ _,_,h=>h
 | .mpv _,_,h=>h
 | .undef,_,h=>h
 | .int _ _,_,h=>h
 | .bool _,_,h=>h
 | .str _,_,h=>h
 | .sl _,_,h=>h
 | .pin _,_,h=>h
 | .itr _ _,_,h=>h
 | .nilp,_,h=>h
 | .ifc _ _,_,h=>h
 | .nili,_,h=>h
 | .yv _,_,h=>h
theorem PRlist_nz {S:Mem} {gb:Gb}: ∀(l:List AV) (us:List Value),PRlist S gb l us→PRlist S gb (nzL l) us
 |[],us,h=>h
 |v::r,us,h=>by
  simp only [nzL,PRlist] at h ⊢
  obtain ⟨u,us',h1,h2,h3⟩:=h
  exact ⟨u,us',h1,PR_nz v u h2,PRlist_nz r us' h3⟩
end
theorem nzL_length: ∀(l:List AV),(nzL l).length=l.length
 |[]=>rfl
 |v::r=>by simp only [nzL,List.length_cons,nzL_length r]
theorem mpL_length {f:Id→Id}: ∀(l:List AV),(mpL f l).length=l.length
 |[]=>rfl
 |v::r=>by simp only [mpL,List.length_cons,mpL_length r]

def gbOut (d:Nat) (gbc:Gb) (ob:List (Id×List AV)):Gb:=fun i=>if i.isNw d=true∧(lkB ob i).isSome=false then none else gbc (i.inn d)
def idOk (d:Nat) (ob:List (Id×List AV)) (i:Id):Prop:=i.isIt=false∧(i.isNw d=true→(lkB ob i).isSome=true)
theorem gbOut_ok {d:Nat} {gbc:Gb} {ob:List (Id×List AV)} {i:Id} (h:i.isNw d=true→(lkB ob i).isSome=true):gbOut d gbc ob i=gbc (i.inn d):=by
 unfold gbOut
 rw [if_neg]
 rintro ⟨h1,h2⟩
 rw [h h1] at h2;cases h2
theorem isIt_inn {d:Nat} {i:Id}:(i.inn d).isIt=i.isIt:=by
 cases i<;>simp only [Id.inn]<;>(try split)<;>simp_all [Id.isIt]
mutual
theorem PR_out {S:Mem} {d:Nat} {gbc:Gb} {ob:List (Id×List AV)}: ∀(v:AV) (u:Value),(∀i∈v.ids,idOk d ob i)→PR S gbc (v.mp (Id.inn d)) u→PR S (gbOut d gbc ob) v u
 | .ptr i o,u,hi,h=>by
  obtain ⟨h1,h2⟩:=hi i (by simp [AV.ids])
  simp only [AV.mp,PR] at h ⊢
  obtain ⟨g,z,e1,e2,e3⟩:=h
  exact ⟨g,z,by rw [gbOut_ok h2];exact e1,h1,e3⟩
 | .ms i o n sz,u,hi,h=>by
  obtain ⟨h1,h2⟩:=hi i (by simp [AV.ids])
  simp only [AV.mp,PR] at h ⊢
  obtain ⟨g,z,cap,e1,e2,e3⟩:=h
  exact ⟨g,z,cap,by rw [gbOut_ok h2];exact e1,h1,e3⟩
 | .itp k,u,hi,_=>by
  have:=(hi (.it k) (by simp [AV.ids])).1
  simp [Id.isIt] at this
 | .mref i,u,hi,h=>by
  have h1:=(hi i (by simp [AV.ids])).1
  simp only [AV.mp,PR] at h
  obtain ⟨g,z,_,e2,_⟩:=h
  rw [isIt_inn,h1] at e2;cases e2
 | .mpv _,_,_,h=>by simp only [AV.mp,PR] at h
 | .nilT i _ _,u,hi,h=>by
  obtain ⟨h1,h2⟩:=hi i (by simp [AV.ids])
  simp only [AV.mp,PR] at h ⊢
  obtain ⟨e0,g,e1⟩:=h
  exact ⟨e0,g,by rw [gbOut_ok h2];exact e1⟩
 | .fn g cs,u,hi,h=>by
  simp only [AV.mp,PR] at h ⊢
  obtain ⟨us,h1,h2⟩:=h
  exact ⟨us,h1,PRlist_out _ _ (by simpa [AV.ids] using hi) h2⟩
 | .agg cs,u,hi,h=>by
  simp only [AV.mp,PR] at h ⊢
  obtain ⟨us,h1,h0,h2⟩:=h
  exact ⟨us,h1,h0,PRlist_out _ _ (by simpa [AV.ids] using hi) h2⟩
 | .tup cs,u,hi,h=>by
  simp only [AV.mp,PR] at h ⊢
  obtain ⟨us,h1,h2⟩:=h
  exact ⟨us,h1,PRlist_out _ _ (by simpa [AV.ids] using hi) h2⟩
 | .undef,_,_,_=>by simp only [AV.mp,PR]
 | .int _ _,_,_,h=>by simpa only [AV.mp,PR] using h
 | .bool _,_,_,h=>by simpa only [AV.mp,PR] using h
 | .str _,_,_,h=>by simpa only [AV.mp,PR] using h
 | .nils,_,_,h=>by simpa only [AV.mp,PR] using h
 | .sl _,_,_,h=>by simpa only [AV.mp,PR] using h
 | .pin _,_,_,h=>by simpa only [AV.mp,PR] using h
 | .itr _ _,_,_,h=>by simp only [AV.mp,PR] at h
 | .nilp,_,_,h=>by simpa only [AV.mp,PR] using h
 | .nili,_,_,h=>by simpa only [AV.mp,PR] using h
 | .yv _,_,_,h=>by simpa only [AV.mp,PR] using h
 | .ifc _ v,u,hi,h=>by
  simp only [AV.mp,PR] at h ⊢
  obtain ⟨us,h1,h2⟩:=h
  exact ⟨us,h1,PR_out v _ (by simpa [AV.ids] using hi) h2⟩
theorem PRlist_out {S:Mem} {d:Nat} {gbc:Gb} {ob:List (Id×List AV)}: ∀(l:List AV) (us:List Value),(∀i∈idsL l,idOk d ob i)→PRlist S gbc (mpL (Id.inn d) l) us→PRlist S (gbOut d gbc ob) l us
 |[],us,_,h=>by simpa only [mpL,PRlist] using h
 |v::r,us,hi,h=>by
  simp only [mpL,PRlist] at h ⊢
  obtain ⟨u,us',h1,h2,h3⟩:=h
  exact ⟨u,us',h1,PR_out v u (fun i hm=>hi i (by simp [idsL,hm])) h2,PRlist_out r us' (fun i hm=>hi i (by simp [idsL,hm])) h3⟩
end
theorem inn_inj {d:Nat} {i j:Id} (h:i.inn d=j.inn d):i=j:=by
 cases i<;>cases j<;>simp only [Id.inn] at h<;>(try split at h)<;>(try split at h)<;>simp_all [Id.isUp]
 all_goals (first|(subst h;simp_all [Id.isUp])|skip)
theorem inn_it {d:Nat} {i:Id} (h:i.isIt=true):(i.inn d).isIt=true:=by
 rw [isIt_inn];exact h
theorem inn_notNw {d:Nat} {i:Id} (h:i.isNw d=false):i.inn d= .up i:=by
 cases i with
 |nw d' j=>
  simp only [Id.inn]
  rw [if_neg]
  rintro ⟨rfl,h2⟩
  cases j<;>simp_all [Id.isNw,Id.isUp]
 |_=>rfl
theorem lkB_mpB {f:Id→Id} (hf: ∀i j,f i=f j→i=j): ∀(l:List (Id×List AV)) (i:Id),lkB (mpB f l) (f i)=(lkB l i).map (mpL f)
 |[],i=>rfl
 |(d,cs)::r,i=>by
  simp only [mpB,lkB]
  by_cases e:d=i
  ·subst e;simp
  ·rw [if_neg (fun q=>e (hf _ _ q)),if_neg e,lkB_mpB hf r i]
theorem lkB_mpB_some {f:Id→Id} (hf: ∀i j,f i=f j→i=j): ∀ {l:List (Id×List AV)} {j:Id} {cs:List AV},lkB (mpB f l) j=some cs→ ∃i cs',j=f i∧lkB l i=some cs'∧cs=mpL f cs'
 |[],j,cs,h=>by simp [mpB,lkB] at h
 |(d,c)::r,j,cs,h=>by
  simp only [mpB,lkB] at h
  split at h
  ·rename_i e;simp only [Option.some.injEq] at h
   exact ⟨d,c,e.symm,by simp [lkB],h.symm⟩
  ·rename_i e
   obtain ⟨i,cs',h1,h2,h3⟩:=lkB_mpB_some hf h
   exact ⟨i,cs',h1,by simp only [lkB];rw [if_neg (fun q=>e (by rw [q,h1]))];exact h2,h3⟩
theorem lkP_mpP {f:Id→Id} (hf: ∀i j,f i=f j→i=j): ∀ {l:List (Pl×Nat)} {q:Pl} {k:Nat},lkP (mpP f l) q=some k→ ∃p,q=p.mp f∧lkP l p=some k
 |[],q,k,h=>by simp [mpP,lkP] at h
 |(p,k')::r,q,k,h=>by
  simp only [mpP,lkP] at h
  split at h
  ·rename_i e;simp only [Option.some.injEq] at h;exact ⟨p,e.symm,by simp [lkP,h]⟩
  ·rename_i e
   obtain ⟨p',h1,h2⟩:=lkP_mpP hf h
   exact ⟨p',h1,by simp only [lkP];rw [if_neg (fun q=>e (by rw [q,h1]))];exact h2⟩
theorem plv_up {gb:Gb} {sv:Nat→Value} {w:World} (p:Pl):plv (gbUp gb) sv w (p.mp Id.up)=plv gb sv w p:=by
 cases p<;>rfl
theorem up_inj (i j:Id) (h:Id.up i=Id.up j):i=j:=by cases h;rfl

theorem HR.up {bx:List (Id×List AV)} {pm:List (Pl×Nat)} {sv:Nat→Value} (h:HR S gb bx pm sv w):HR S (gbUp gb) (mpB Id.up bx) (mpP Id.up pm) sv w:=by
 refine ⟨h.agree,?_,?_,?_,?_,?_,?_,?_⟩
 ·intro d cs hcs hi
  obtain ⟨i,cs',rfl,h2,rfl⟩:=lkB_mpB_some up_inj hcs
  obtain ⟨g,us,T,e1,e3,e0,e4,e5,e6⟩:=h.box i cs' h2 hi
  exact ⟨g,us,T,e1,e3,by rw [mpL_length];exact e0,by rw [mpL_length];exact PRlist_up _ _ e4,e5,e6⟩
 ·intro d cs hcs hi
  obtain ⟨i,cs',rfl,h2,rfl⟩:=lkB_mpB_some up_inj hcs
  obtain ⟨g,z,ob,e1,e2,e3,e6⟩:=h.its i cs' h2 hi
  refine ⟨g,z,ob,e1,?_,e3,e6⟩
  unfold itO at e2
  split at e2
  ·exact e2
  ·exact e2
  ·cases e2
 ·intro d d' g z z' i1 i2 q1 q2
  obtain ⟨c1,hc1⟩:=Option.isSome_iff_exists.1 i1
  obtain ⟨c2,hc2⟩:=Option.isSome_iff_exists.1 i2
  obtain ⟨i,cs,rfl,h2,rfl⟩:=lkB_mpB_some up_inj hc1
  obtain ⟨j,cs',rfl,h3,rfl⟩:=lkB_mpB_some up_inj hc2
  rw [h.inj i j g z z' (by rw [h2];rfl) (by rw [h3];rfl) q1 q2]
 ·intro p k hp
  obtain ⟨q,rfl,h2⟩:=lkP_mpP up_inj hp
  rw [plv_up];exact h.own q k h2
 ·intro p q k l b hp hq h1 h2
  obtain ⟨p',rfl,p2⟩:=lkP_mpP up_inj hp
  obtain ⟨q',rfl,q2⟩:=lkP_mpP up_inj hq
  rw [plv_up] at h1 h2
  rw [h.ownd p' q' k l b p2 q2 h1 h2]
 ·intro p k b d z hp h1 hd
  obtain ⟨p',rfl,p2⟩:=lkP_mpP up_inj hp
  rw [plv_up] at h1
  obtain ⟨c1,hc1⟩:=Option.isSome_iff_exists.1 hd
  obtain ⟨i,cs,rfl,h2,rfl⟩:=lkB_mpB_some up_inj hc1
  exact h.ownb p' k b i z p2 h1 (by rw [h2];rfl)
 ·intro d off k hp
  obtain ⟨q,e,h2⟩:=lkP_mpP up_inj hp
  cases q with
  |b i o=>
   simp only [Pl.mp,Pl.b.injEq] at e
   obtain ⟨rfl,rfl⟩:=e
   obtain ⟨h3,h4⟩:=h.pmb i _ k h2
   refine ⟨?_,h4⟩
   rw [lkB_mpB up_inj];simpa using h3
  |s t=>cases e
  |t t i=>cases e

def wkz (v u:AV):Prop:=v=u∨nz v=u
def wkzL (v u:List AV):Prop:=v=u∨nzL v=u
def obx (d:Nat) (σ:St) (i:Id) (cs:List AV):Prop:=match lkB σ.bx (i.inn d) with
 |some c=>wkzL c (mpL (Id.inn d) cs)
 |none=>False
def pmOut (d:Nat) (rs:List AR) (ob:List (Id×List AV)) (σ:St):Pl×Nat→Prop
 |(.s t,k)=>t=0∧(match rs with |[.t s]=>lkP σ.pm (.s s)=some k∨lk σ.e s= .nils|_=>False)
 |(.t t i,k)=>t=0∧2≤rs.length∧(match rs[i]? with |some (.t s)=>lkP σ.pm (.s s)=some k∨lk σ.e s= .nils|_=>False)
 |(.b i o,k)=>(lkB ob i).isSome=true∧(lkP σ.pm (.b (i.inn d) o)=some k∨nilAt σ (.b (i.inn d) o))
def rsOne:List AR→Prop
 |[]=>True
 | .t s::r=>(∀x∈r,x≠ .t s)∧rsOne r
 |_::r=>rsOne r
structure OutOk (d:Nat) (rs:List AR) (O:Out) (σ:St):Prop where
 r:match resA σ rs with |some vs=>wkz (oneA vs) (O.r.mp (Id.inn d))|none=>False
 ids: ∀i∈O.r.ids,idOk d O.bx i
 bx: ∀p∈O.bx,(p.1.inn d).isIt=false∧obx d σ p.1 p.2
 bi: ∀p∈O.bx,∀i∈idsL p.2,idOk d O.bx i
 pm: ∀p∈O.pm,pmOut d rs O.bx σ p
 nd:O.pm=[]∨rsOne rs
inductive Frzs:St→St→Prop
 |z (σ:St):Frzs σ σ
 |s {σ τ:St} (s:Nat) (b:Id) (n sz:Nat) (rows:List (List AV)):FrzOk σ s b n sz rows→sz<KB→Frzs (frzStP σ s b sz rows) τ→Frzs σ τ
 |t {σ τ:St} (s:Nat) (b:Id) (n sz:Nat) (rows:List (List AV)) (tl:List AV):FrzOk2 σ s b n sz rows tl→sz<KB→Frzs (frzStP σ s b sz rows) τ→Frzs σ τ
def postH (d:Nat) (rs:List AR) (O:Out):AE→St→Prop
 | .x _,_=>False
 |_,σ=> ∃τ,Frzs σ τ∧OutOk d rs O τ
theorem Rel.frzs {σ τ:St} (hf:Frzs σ τ): ∀ {S:Mem} {gb:Gb},Rel F S gb σ a w→ ∃S' gb',Rel F S' gb' τ a w:=by
 induction hf with
 |z σ=>intro S gb h;exact ⟨S,gb,h⟩
 |s s b n sz rows h1 hk h2 ih=>
  intro S gb h
  obtain ⟨S',gb',h3⟩:=h.freezeP h1.two hk
  exact ih h3
 |t s b n sz rows tl h1 hk h2 ih=>
  intro S gb h
  obtain ⟨S',gb',h3⟩:=h.freezeP h1 hk
  exact ih h3
theorem rsOne_ne: ∀ {rs:List AR},rsOne rs→ ∀ {i j s:Nat},rs[i]?=some (.t s)→rs[j]?=some (.t s)→i=j
 |[],_,i,j,s,h,_=>by simp at h
 |x::r,ho,i,j,s,hi,hj=>by
  have hr:rsOne r:=by cases x<;>simp only [rsOne] at ho<;>first|exact ho.2|exact ho
  cases i with
  |zero=>
   cases j with
   |zero=>rfl
   |succ j=>
    simp at hi hj;subst hi
    simp only [rsOne] at ho
    exact absurd rfl (ho.1 _ (List.mem_of_getElem? hj))
  |succ i=>
   cases j with
   |zero=>
    simp at hi hj;subst hj
    simp only [rsOne] at ho
    exact absurd rfl (ho.1 _ (List.mem_of_getElem? hi))
   |succ j=>
    simp at hi hj
    rw [rsOne_ne hr hi hj]

theorem Rel.out (h:Rel F S gb σ a w) {d:Nat} {rs:List AR} {O:Out} (ho:OutOk d rs O σ) {vs:List AV} (hv:resA σ rs=some vs) {us:List Value} (hu:PRlist S gb vs us) (hs: ∀(i s:Nat),rs[i]?=some (AR.t s)→us[i]?=some (tv a s)) (hl:rs.length=us.length):
  let v:=if h:us.toArray.size=1 then us.toArray[0] else .tuple us.toArray
  PR S (gbOut d gb O.bx) O.r v∧HR S (gbOut d gb O.bx) O.bx O.pm (fun _=>v) w∧(∀i g z,(lkB O.bx i).isSome→gbOut d gb O.bx i=some (g,z)→F.w0.heap.size≤g∨F.M g)∧
   (∀p k g,lkP O.pm p=some k→(plv (gbOut d gb O.bx) (fun _=>v) w p).ownBlock=some g→F.w0.heap.size≤g∨F.M g):=by
 intro v
 have hval: ∀i,(lkB O.bx i).isSome=true→gbOut d gb O.bx i=gb (i.inn d):=fun i hi=>gbOut_ok (fun _=>hi)
 have hbox: ∀i cs,lkB O.bx i=some cs→ ∃c,lkB σ.bx (i.inn d)=some c∧wkzL c (mpL (Id.inn d) cs)∧(i.inn d).isIt=false∧(∀j∈idsL cs,idOk d O.bx j):=by
  intro i cs hcs
  have hm:=lkB_mem _ _ _ hcs
  obtain ⟨h1,h2⟩:=ho.bx _ hm
  simp only [obx] at h2
  split at h2
  ·rename_i c hc;exact ⟨c,hc,h2,h1,ho.bi _ hm⟩
  ·cases h2
 have hsome: ∀i,(lkB O.bx i).isSome=true→(lkB σ.bx (i.inn d)).isSome=true:=by
  intro i hi
  obtain ⟨cs,hcs⟩:=Option.isSome_iff_exists.1 hi
  obtain ⟨c,hc,_⟩:=hbox i cs hcs
  rw [hc];rfl
 have hpl: ∀p k,lkP O.pm p=some k→(∃q,lkP σ.pm q=some k∧plv (gbOut d gb O.bx) (fun _=>v) w p=plv gb (tv a) w q∧
   ((p= .s 0∧ ∃s,q= .s s∧rs=[.t s])∨(∃i s,p= .t 0 i∧q= .s s∧rs[i]?=some (.t s)∧2≤rs.length)∨(∃i o,p= .b i o∧q= .b (i.inn d) o∧(lkB O.bx i).isSome=true)))∨
   (plv (gbOut d gb O.bx) (fun _=>v) w p= .slice none 0 0∧ ∀i o,p= .b i o→(lkB O.bx i).isSome=true):=by
  intro p k hp
  have hm:=ho.pm _ (lkP_mem _ _ _ hp)
  cases p with
  |s t=>
   simp only [pmOut] at hm
   obtain ⟨rfl,hm⟩:=hm
   split at hm
   ·rename_i s
    have h1:=hs 0 s rfl
    have h2:us.length=1:=by rw [←hl];rfl
    have hvv:v=tv a s:=by
     simp only [v]
     rw [dif_pos (by simpa using h2)]
     rw [List.getElem?_eq_some_iff] at h1
     obtain ⟨_,h1⟩:=h1
     simpa using h1
    rcases hm with hm|hm
    ·exact .inl ⟨.s s,hm,by simp only [plv,hvv],.inl ⟨rfl,s,rfl,rfl⟩⟩
    ·right
     refine ⟨?_,fun i o he=>by cases he⟩
     have:=h.env s
     rw [hm] at this
     simp only [plv,hvv]
     simpa [PR] using this
   ·cases hm
  |t t i=>
   simp only [pmOut] at hm
   obtain ⟨rfl,h2,hm⟩:=hm
   split at hm
   ·rename_i s hi
    have h1:=hs i s hi
    have hvv:v= .tuple us.toArray:=by
     simp only [v]
     rw [dif_neg]
     simp;omega
    have hg:us.toArray.getD i undef=tv a s:=by
     rw [Array.getD_eq_getD_getElem?]
     simp [h1]
    rcases hm with hm|hm
    ·exact .inl ⟨.s s,hm,by simp only [plv,hvv];exact hg,.inr (.inl ⟨i,s,rfl,rfl,hi,h2⟩)⟩
    ·right
     refine ⟨?_,fun i o he=>by cases he⟩
     have:=h.env s
     rw [hm] at this
     simp only [plv,hvv]
     rw [hg]
     simpa [PR] using this
   ·cases hm
  |b i o=>
   simp only [pmOut] at hm
   obtain ⟨h1,hm⟩:=hm
   have he:plv (gbOut d gb O.bx) (fun _=>v) w (.b i o)=plv gb (tv a) w (.b (i.inn d) o):=by simp only [plv,hval i h1]
   rcases hm with hm|hm
   ·exact .inl ⟨_,hm,he,.inr (.inr ⟨i,o,rfl,rfl,h1⟩)⟩
   ·right
    refine ⟨?_,fun i' o' e=>by cases e;exact h1⟩
    rw [he]
    obtain ⟨cs,hcs⟩:=Option.isSome_iff_exists.1 h1
    obtain ⟨_,_,_,h3,_⟩:=hbox i cs hcs
    exact nilAt_plv h hm (fun d' off e=>by cases e;exact h3)
 refine ⟨?_,⟨h.hr.agree,?_,?_,?_,?_,?_,?_,?_⟩,?_,?_⟩
 ·have h1:=one_PR hu
  have h2:=ho.r
  rw [hv] at h2
  refine PR_out _ _ ho.ids ?_
  rcases h2 with h2|h2
  ·rw [←h2];exact h1
  ·rw [←h2];exact PR_nz _ _ h1
 ·intro i cs hcs hi
  obtain ⟨c,hc,hw,h3,h4⟩:=hbox i cs hcs
  obtain ⟨g,us',T,e1,e3,e0,e4,e5,e6⟩:=h.hr.box _ c hc h3
  have hlen:c.length=cs.length:=by
   rcases hw with hw|hw
   ·rw [hw,mpL_length]
   ·rw [←nzL_length,hw,mpL_length]
  refine ⟨g,us',T,by rw [hval i (by rw [hcs];rfl)];exact e1,e3,by omega,PRlist_out _ _ h4 ?_,e5,e6⟩
  rw [←hlen]
  rcases hw with hw|hw
  ·rw [←hw];exact e4
  ·rw [←hw];exact PRlist_nz _ _ e4
 ·intro i cs hcs hi
  obtain ⟨c,hc,hw,h3,h4⟩:=hbox i cs hcs
  rw [inn_it hi] at h3;cases h3
 ·intro i j g z z' i1 i2 q1 q2
  rw [hval i i1] at q1
  rw [hval j i2] at q2
  exact inn_inj (h.hr.inj _ _ g z z' (hsome i i1) (hsome j i2) q1 q2)
 ·intro p k hp
  rcases hpl p k hp with ⟨q,q1,q2,_⟩|⟨q1,_⟩
  ·rw [q2];exact h.hr.own q k q1
  ·rw [q1];exact .inl rfl
 ·intro p q k l b hp hq hb1 hb2
  have hne:O.pm≠[]:=fun e=>by rw [e] at hp;simp [lkP] at hp
  have hnd:rsOne rs:=by
   rcases ho.nd with h1|h1
   ·exact absurd h1 hne
   ·exact h1
  rcases hpl p k hp with ⟨p',p1,p2,p3⟩|⟨p1,_⟩
  ·rcases hpl q l hq with ⟨q',q1,q2,q3⟩|⟨q1,_⟩
   ·rw [p2] at hb1
    rw [q2] at hb2
    have e:=h.hr.ownd p' q' k l b p1 q1 hb1 hb2
    subst e
    rcases p3 with ⟨rfl,s,rfl,hr1⟩|⟨i,s,rfl,rfl,hr1,hr2⟩|⟨i,o,rfl,rfl,_⟩
    ·rcases q3 with ⟨rfl,_⟩|⟨j,s',rfl,e2,_,hr3⟩|⟨j,o',rfl,e2,_⟩
     ·rfl
     ·rw [hr1] at hr3;simp at hr3
     ·cases e2
    ·rcases q3 with ⟨rfl,s',e2,hr3⟩|⟨j,s',rfl,e2,hr3,_⟩|⟨j,o',rfl,e2,_⟩
     ·rw [hr3] at hr2;simp at hr2
     ·cases e2;rw [rsOne_ne hnd hr1 hr3]
     ·cases e2
    ·rcases q3 with ⟨rfl,s',e2,hr3⟩|⟨j,s',rfl,e2,hr3,_⟩|⟨j,o',rfl,e2,_⟩
     ·cases e2
     ·cases e2
     ·simp only [Pl.b.injEq] at e2
      rw [inn_inj e2.1,e2.2]
   ·rw [q1] at hb2;simp [Value.ownBlock] at hb2
  ·rw [p1] at hb1;simp [Value.ownBlock] at hb1
 ·intro p k b i z hp hb hi
  rcases hpl p k hp with ⟨q,q1,q2,_⟩|⟨q1,_⟩
  ·rw [q2] at hb
   rw [hval i hi]
   exact h.hr.ownb q k b _ z q1 hb (hsome i hi)
  ·rw [q1] at hb;simp [Value.ownBlock] at hb
 ·intro i o k hp
  have hi:(lkB O.bx i).isSome=true:=by
   rcases hpl _ k hp with ⟨q,q1,q2,q3⟩|⟨_,q1⟩
   ·rcases q3 with ⟨e,_⟩|⟨_,_,e,_⟩|⟨i',o',e,_,h1⟩
    ·cases e
    ·cases e
    ·cases e;exact h1
   ·exact q1 i o rfl
  refine ⟨hi,?_⟩
  obtain ⟨cs,hcs⟩:=Option.isSome_iff_exists.1 hi
  obtain ⟨_,_,_,h3,_⟩:=hbox i cs hcs
  cases hit:i.isIt with
  |false=>rfl
  |true=>rw [inn_it hit] at h3;cases h3
 ·intro i g z hi hq
  rw [hval i hi] at hq
  exact h.newb _ g z (hsome i hi) hq
 ·intro p k g hp hg
  rcases hpl p k hp with ⟨q,q1,q2,_⟩|⟨q1,_⟩
  ·rw [q2] at hg;exact h.newo q k g q1 hg
  ·rw [q1] at hg;simp [Value.ownBlock] at hg

theorem mRs_length: ∀ {rs:List AR} {qs:List ResultVar} {σ:St} {vs:List AV},resA σ rs=some vs→vs.length=rs.length
 |[],qs,σ,vs,h=>by simp only [resA,Option.some.injEq] at h;subst h;rfl
 | .t s::r,qs,σ,vs,h=>by
  simp only [resA] at h
  split at h
  ·rename_i vs' hv
   simp only [Option.some.injEq] at h;subst h
   simp only [List.length_cons,mRs_length (qs:=qs) hv]
  ·cases h
 | .cs s::r,qs,σ,vs,h=>by
  simp only [resA] at h
  split at h
  ·rename_i v vs' _ hv
   simp only [Option.some.injEq] at h;subst h
   simp only [List.length_cons,mRs_length (qs:=qs) hv]
  ·cases h
 | .ca s n::r,qs,σ,vs,h=>by
  simp only [resA] at h
  split at h
  ·rename_i v vs' _ hv
   simp only [Option.some.injEq] at h;subst h
   simp only [List.length_cons,mRs_length (qs:=qs) hv]
  ·cases h

theorem fun_soundH {GL:List (Nat×List Value)} {dr:Array Oper→List (List Nat)→List AOp→Bool} {f:Nat} {fn:Func} {af:AF} (hf:P.funcs[f]?=some fn) (hm:mF P GL dr fn af=true) (hd:DrawsOk P GL af.N dr) {d:Nat} {I:In} {O:Out} (hl:I.vs.length=af.np)
  (hw:wpA (Spec P GL) af.c (postH d af.rs O) (inSt I)):Spec P GL f d I O:=by
 simp only [mF,Bool.and_eq_true,bne_iff_ne,beq_iff_eq] at hm
 obtain ⟨⟨⟨⟨⟨h1,h2⟩,h3⟩,h4⟩,h5⟩,h6⟩:=hm
 split at h6<;>(try cases h6)
 rename_i c hb
 have h4:=Nat.le_of_ble_eq_true h4
 intro S gb w vs hvs hhr hglo hnw
 have hlen:vs.length=I.vs.length:=hvs.length.symm
 unfold Does
 have hcall:(callFunc f vs.toArray).run P w= .ok (.enter f vs.toArray) w:=by
  simp [callFunc,hf,hb,h1]
 rw [hcall]
 refine calls_of_wp hf hb ?_
 let F:Fr:=⟨S,w,MS I gb (fun t=>vs.getD t undef) w,gb,af.N,GL,[]⟩
 have hsv:tv {tmps:=vs.toArray++Array.replicate (fn.ntmps - vs.toArray.size) undef,defers:=[]}=fun t=>vs.getD t undef:=by
  funext t;exact tv_init
 have hup:=hhr.up
 have hrel:Rel F S (gbUp gb) (inSt I) {tmps:=vs.toArray++Array.replicate (fn.ntmps - vs.toArray.size) undef,defers:=[]} w:=by
  refine ⟨rfl,?_,Bw.refl _ _,fun _ _ _ _=>rfl,Mem.le.refl _,?_,by rw [hsv];exact hup,?_,?_,?_,fun d=>rfl,hglo⟩
  ·show (vs.toArray++Array.replicate (fn.ntmps - vs.toArray.size) undef).size=af.N
   simp;omega
  ·intro t
   have:=(lk_initE (PRlist_up _ _ hvs) 0 t).2 t (by omega)
   rw [tv_init]
   exact this
  ·intro i g z hi hq
   obtain ⟨c1,hc1⟩:=Option.isSome_iff_exists.1 hi
   obtain ⟨j,cs,rfl,hj,_⟩:=lkB_mpB_some up_inj hc1
   exact .inr (.inl ⟨j,z,by rw [hj];rfl,hq⟩)
  ·intro p k g hp hg
   obtain ⟨q,rfl,hq⟩:=lkP_mpP up_inj hp
   rw [hsv,plv_up] at hg
   exact .inr (.inr ⟨q,k,hq,hg⟩)
  ·intro i hi
   cases i<;>simp [gbUp,Id.isUp] at hi ⊢
 refine code_sound (F:=F) hd h6 (Q:=postH d af.rs O) ?_ hrel hw
 intro e S0' gb0' σ0 a' w' hr0 hq0
 have fin: ∀σ0,Rel F S0' gb0' σ0 a' w'→(∃τ,Frzs σ0 τ∧OutOk d af.rs O τ)→a'.defers=[]∧ ∃v,(results fn a'.tmps).run P w'= .ok v w'∧(∃u,Ending.returned v= .returned u∧ ∃S'' gb'',PostR d I O S gb (fun t=>vs.getD t undef) w S'' gb'' u w'):=by
  rintro σ0 hr0 ⟨τ,hfz,hok⟩
  obtain ⟨S',gb',hr⟩:=hr0.frzs hfz
  refine ⟨hr.defers,?_⟩
  have hr':=hok.r
  split at hr'
  ·rename_i vs' hv
   obtain ⟨us,hrun,g2,g3⟩:=res_run (P:=P) hr h5 hv
   obtain ⟨o1,o2,o3,o4⟩:=hr.out hok hv g2 g3 (by rw [←g2.length];exact (mRs_length (qs:=[]) hv).symm)
   refine ⟨_,hrun,_,rfl,S',gbOut d gb' O.bx,hr.bw,hr.ext,hr.le,?_,?_,o1,o2,o3,o4⟩
   ·intro i hi
    have:gbOut d gb' O.bx i=gb' (i.inn d):=gbOut_ok (fun e=>by rw [hi] at e;cases e)
    rw [this,inn_notNw hi]
    exact hr.up i
   ·intro i hi hne
    simp only [gbOut] at hne
    split at hne
    ·exact absurd rfl hne
    ·rename_i hno
     cases hs:(lkB O.bx i).isSome with
     |true=>rfl
     |false=>exact absurd ⟨hi,hs⟩ hno
  ·cases hr'
 cases e
 ·exact fin _ hr0 hq0
 ·exact hq0.elim
 ·exact fin _ hr0 hq0
theorem fun_spH {P:Program} {GL:List (Nat×List Value)} {dr:Array Oper→List (List Nat)→List AOp→Bool} {f:Nat} {fn:Func} {af:AF} (hf:P.funcs[f]?=some fn) (hm:mF P GL dr fn af=true) (hd:DrawsOk P GL af.N dr) {d:Nat} {I:In} {O:Out} (hl:I.vs.length=af.np)
  (hw:wpA (SpH P GL) af.c (postH d af.rs O) (inSt I)):SpH P GL f d I O:=by
 rw [sph_eq] at hw ⊢;exact fun_soundH hf hm hd hl hw

def onH (S:Nat→Nat→In→Out→Prop) (f d:Nat) (xs:List X) (K:St→Prop) (σ:St):Prop:=wpC S f d xs K σ
@[simp] theorem wp1_ce {S:Nat→Nat→In→Out→Prop} {d f xs} {K:St→Prop} {σ:St}:wp1 S (.ce d f xs) K σ=onH S f d xs K σ:=by rw [wp1];rfl
def onD (S:Nat→Nat→In→Out→Prop) (d:Nat) (xs:List X) (K:St→Prop) (σ:St):AV→Prop
 | .fn f caps=>onH S f d (xs++caps.map X.c) K σ
 |_=>False
@[simp] theorem wp1_cd {S:Nat→Nat→In→Out→Prop} {d x xs} {K:St→Prop} {σ:St}:wp1 S (.cd d x xs) K σ=onD S d xs K σ (σ.v x):=by
 rw [wp1];unfold onD onH;cases σ.v x<;>rfl
@[simp] theorem onD_fn {S:Nat→Nat→In→Out→Prop} {d xs f caps} {K:St→Prop} {σ:St}:onD S d xs K σ (.fn f caps)=onH S f d (xs++caps.map X.c) K σ:=rfl
theorem onH_mk {P:Program} {GL:List (Nat×List Value)} {K:St→Prop} {σ:St} {f d:Nat} {xs:List X} (I:In) (O:Out) (h:SpH P GL f d I O) (hc:CallOk d σ xs I O) (hk:K (callSt d σ xs I O)):onH (SpH P GL) f d xs K σ:=⟨I,O,h,hc,hk⟩
theorem postH_n {d:Nat} {rs:List AR} {O:Out} {σ:St} (h:OutOk d rs O σ):postH d rs O .n σ:=⟨σ,.z σ,h⟩
theorem postH_r {d:Nat} {rs:List AR} {O:Out} {σ:St} (h:OutOk d rs O σ):postH d rs O .r σ:=⟨σ,.z σ,h⟩
@[simp] theorem inn_up {d i}:(Id.up i).inn d= .up (.up i):=rfl
@[simp] theorem inn_n {d k}:(Id.n k).inn d= .up (.n k):=rfl
@[simp] theorem inn_ix {d i k}:(Id.ix i k).inn d= .up (.ix i k):=rfl
@[simp] theorem inn_itr {d k}:(Id.it k).inn d= .up (.it k):=rfl
@[simp] theorem inn_nw {d d' i}:(Id.nw d' i).inn d=if d'=d∧i.isUp=false then i else .up (.nw d' i):=rfl
@[simp] theorem nw_up {d i}:(Id.up i).isNw d=false:=rfl
@[simp] theorem nw_n {d k}:(Id.n k).isNw d=false:=rfl
@[simp] theorem nw_ix {d i k}:(Id.ix i k).isNw d=false:=rfl
@[simp] theorem nw_itr {d k}:(Id.it k).isNw d=false:=rfl
@[simp] theorem nw_nw {d d' i}:(Id.nw d' i).isNw d=(d'==d&&!i.isUp):=rfl
attribute [simp] AV.mp mpL mpB mpP Pl.mp inSt nz nzL rmBs dlBs dlXs retP callSt pmIn pmOne pmOut obx wkz wkzL idOk rsOne frzSt frzStP St.puto
theorem SpH.noPm {P:Program} {GL:List (Nat×List Value)} {f d:Nat} {I:In} {r:AV} {bx:List (Id×List AV)} {pm:List (Pl×Nat)} (h:SpH P GL f d I ⟨r,bx,pm⟩):SpH P GL f d I ⟨r,bx,[]⟩:=by
 rw [sph_eq] at h ⊢
 intro S gb w vs hvs hhr hglo hnw
 have:=h S gb w vs hvs hhr hglo hnw
 have hm: ∀v w',(∃S' gb',PostR d I ⟨r,bx,pm⟩ S gb (fun t=>vs.getD t undef) w S' gb' v w')→ ∃S' gb',PostR d I ⟨r,bx,[]⟩ S gb (fun t=>vs.getD t undef) w S' gb' v w':=by
  rintro v w' ⟨S',gb',q⟩
  refine ⟨S',gb',q.bw,q.ext,q.le,q.same,q.nw,q.r,⟨q.hr.agree,q.hr.box,q.hr.its,q.hr.inj,?_,?_,?_,?_⟩,q.newb,?_⟩
  ·intro p k hk;simp [lkP] at hk
  ·intro p q k l b hk;simp [lkP] at hk
  ·intro p k b d z hk;simp [lkP] at hk
  ·intro d off k hk;simp [lkP] at hk
  ·intro p k g hk;simp [lkP] at hk
 unfold Does at this ⊢
 split at this
 ·exact hm _ _ this
 ·exact this.mono (fun e w' ⟨v,h1,h2⟩=>⟨v,h1,hm _ _ h2⟩)
 ·exact this
theorem Sp.of_h {P:Program} {GL:List (Nat×List Value)} {f:Nat} {l:List AV} {r:AV} (h: ∀d,SpH P GL f d ⟨l,[],[]⟩ ⟨r,[],[]⟩):Sp P GL f l r:=by unfold Sp;exact h
theorem Sp.h {P:Program} {GL:List (Nat×List Value)} {f d:Nat} {l:List AV} {r:AV} (h:Sp P GL f l r):SpH P GL f d ⟨l,[],[]⟩ ⟨r,[],[]⟩:=by unfold Sp at h;exact h d
end Go.Ai
namespace Go.Ai
open Go.RowKit
variable {P:Program} {F:Fr} {S:Mem} {gb:Gb} {σ:St} {a:Act} {w:World}

abbrev thrown (v:Value):List PanicEntry:=[{v,recovered:=false}]
def DoesP (P:Program) (f:FuncId) (vs:Array Value) (w:World) (R:Value→World→Prop):Prop:=
 match (callFunc f vs).run P w with
 | .ok (.enter f' as') w'=>Calls P f' as' w' fun e w''=> ∃v,e= .panicked (thrown v)∧R v w''
 |_=>False
def SpecP (P:Program) (GL:List (Nat×List Value)) (f d:Nat) (I:In) (O:Out):Prop:=
 ∀(S:Mem) (gb:Gb) (w:World) (vs:List Value),PRlist S gb I.vs vs→HR S gb I.bx I.pm (fun t=>vs.getD t undef) w→
  (∀i us,GL.lookup i=some us→ ∀(o:Nat) (u:Value),us[o]?=some u→S i o=some u∧u.oneCell'=true)→(∀i,i.isNw d=true→gb i=none)→
  DoesP P f vs.toArray w fun v w'=> ∃S' gb',PostR d I O S gb (fun t=>vs.getD t undef) w S' gb' v w'

inductive AP where
 |ce (d f:Nat) (xs:List X)
 |cd (d:Nat) (x:X) (xs:List X)
 |pn (d:Nat) (x:X)
inductive AC2 where
 |c (a:AC)
 |rp (l:List AOp) (o:AP) (l':List AOp)
 |sq (a b:AC2)
 |cd (x:X) (a b:AC2)
 |bl (i:Nat) (a:AC2)
 |lp (a:AC2)
 |sc (a:AC2)

section
variable (S:Nat→Nat→In→Out→Prop) (SP:Nat→Nat→In→Out→Prop) (R:AV→St→Prop)
def callP (d:Nat) (σ:St) (xs:List X) (I:In) (O:Out):St:=⟨(d,.undef)::(callSt d σ xs I O).e,(callSt d σ xs I O).bx,dlS (callSt d σ xs I O).pm d⟩
def wpCP (f d:Nat) (xs:List X) (σ:St):Prop:= ∃I O,SP f d I O∧CallOk d σ xs I O∧O.r.ids=[]∧R O.r (callP d σ xs I O)
def wpo:AP→(St→Prop)→St→Prop
 | .ce d f xs,K,σ=>wpC S f d xs K σ∨wpCP SP R f d xs σ
 | .cd d x xs,K,σ=>match σ.v x with
  | .fn f caps=>wpC S f d (xs++caps.map X.c) K σ∨wpCP SP R f d (xs++caps.map X.c) σ
  |_=>False
 | .pn _ x,_,σ=>match σ.v x with
  | .ifc T v=>v.ids=[]∧R (.ifc T v) σ
  |_=>False
def wpA2:AC2→(AE→St→Prop)→St→Prop
 | .c a,Q,σ=>wpA S a Q σ
 | .rp l o l',Q,σ=>wpL S l (wpo S SP R o (wpL S l' (Q .n))) σ
 | .sq a b,Q,σ=>wpA2 a (AE.sq (wpA2 b Q) Q) σ
 | .cd x a b,Q,σ=>match σ.v x with
  | .bool t=>if t=true then wpA2 a Q σ else wpA2 b Q σ
  |_=>False
 | .bl i a,Q,σ=>wpA2 a (AE.bl i Q) σ
 | .lp a,Q,σ=> ∃n,itA (wpA2 a) Q n σ
 | .sc a,Q,σ=>wpA2 a Q σ
end
theorem wpA_mono {S:Nat→Nat→In→Out→Prop}: ∀ {c:AC} {Q Q':AE→St→Prop} {σ:St},(∀e σ,Q e σ→Q' e σ)→wpA S c Q σ→wpA S c Q' σ:=by
 intro c
 have m1: ∀ {o:AOp} {K K':St→Prop} {σ:St},(∀σ,K σ→K' σ)→wp1 S o K σ→wp1 S o K' σ:=fun hk h=>wp1_mono hk h
 have mL: ∀ {l:List AOp} {K K':St→Prop} {σ:St},(∀σ,K σ→K' σ)→wpL S l K σ→wpL S l K' σ:=by
  intro l
  induction l with
  |nil=>intro K K' σ hk h;exact hk _ h
  |cons o r ih=>intro K K' σ hk h;exact m1 (fun σ h=>ih hk h) h
 have mD: ∀ {us:List (List Nat)} {l:List AOp} {j:Nat} {h:List (Nat×Bx)} {K K':St→Prop} {σ:St},(∀σ,K σ→K' σ)→wpLd S us l j h K σ→wpLd S us l j h K' σ:=by
  intro us
  induction us with
  |nil=>intro l j h K K' σ hk hw;cases l with
   |nil=>exact hk _ hw
   |cons=>exact hw.elim
  |cons u us ih=>intro l j h K K' σ hk hw;cases l with
   |nil=>exact hw.elim
   |cons o r=>exact ⟨hw.1,m1 (fun σ h=>kpK_iff.2 ⟨(kpK_iff.1 h).1,ih hk (kpK_iff.1 h).2⟩) hw.2⟩
 have sqm: ∀ {B B':St→Prop} {Q Q':AE→St→Prop},(∀σ,B σ→B' σ)→(∀e σ,Q e σ→Q' e σ)→ ∀e σ,AE.sq B Q e σ→AE.sq B' Q' e σ:=by
  intro B B' Q Q' hb hq e σ h
  cases e
  ·exact hb _ h
  ·exact hq _ _ h
  ·exact hq _ _ h
 induction c with
 |sk=>intro Q Q' σ hq h;exact hq _ _ h
 |rg l=>intro Q Q' σ hq h;exact mL (fun σ h=>hq _ _ h) h
 |rd us l=>intro Q Q' σ hq h;exact mD (fun σ h=>hq _ _ h) h
 |sq a b iha ihb=>intro Q Q' σ hq h;exact iha (sqm (fun σ h=>ihb hq h) hq) h
 |cd x a b iha ihb=>
  intro Q Q' σ hq h
  unfold wpA at h ⊢
  split at h
  ·rename_i t ht
   split at h
   ·rename_i e;rw [if_pos e];exact iha hq h
   ·rename_i e;rw [if_neg e];exact ihb hq h
  ·cases h
 |bl i a ih=>
  intro Q Q' σ hq h
  refine ih (fun e σ h=>?_) h
  cases e
  ·exact hq _ _ h
  ·rename_i j
   unfold AE.bl at h ⊢
   by_cases e:j=i
   ·simp only [if_pos e] at h ⊢;exact hq _ _ h
   ·simp only [if_neg e] at h ⊢;exact hq _ _ h
  ·exact hq _ _ h
 |lp a ih=>
  intro Q Q' σ hq h
  obtain ⟨n,hn⟩:=h
  refine ⟨n,?_⟩
  induction n generalizing σ with
  |zero=>exact hn
  |succ n ihn=>
   obtain ⟨τ,hτ,hb⟩:=hn
   exact ⟨τ,hτ,ih (sqm (fun σ h=>ihn h) hq) hb⟩
 |ex i=>intro Q Q' σ hq h;exact hq _ _ h
 |rt=>intro Q Q' σ hq h;exact hq _ _ h
 |sc a ih=>intro Q Q' σ hq h;exact ih hq h
 |lb=>intro Q Q' σ hq h;exact hq _ _ h
 |no=>intro Q Q' σ hq h;exact h
 |pa us l p=>intro Q Q' σ hq h;exact mD (fun σ h=>pendW_mono (fun σ h=>mL (fun σ h=>hq _ _ h) h) h) h
 |pb us l p=>intro Q Q' σ hq h;exact mD (fun σ h=>pendW_mono (fun σ h=>mL (fun σ h=>hq _ _ h) h) h) h
 |nb s d=>intro Q Q' σ hq h;exact ⟨mL (fun σ h=>hq _ _ h) h.1,mL (fun σ h=>hq _ _ h) h.2⟩
 |fz s l=>intro Q Q' σ hq h;obtain ⟨b,n,sz,rows,tl,q1,q2,q3⟩:=h;exact ⟨b,n,sz,rows,tl,q1,q2,mL (fun σ h=>hq _ _ h) q3⟩

structure AF2 where
 c:AC2
 rs:List AR
 np:Nat
 N:Nat
@[irreducible] def SpT (P:Program) (GL:List (Nat×List Value)) (f d:Nat) (I:In) (O:Out):Prop:=SpecP P GL f d I O
theorem spt_eq (P:Program) (GL:List (Nat×List Value)):SpT P GL=SpecP P GL:=by funext f d I O;unfold SpT;rfl
section
variable {S SP:Nat→Nat→In→Out→Prop} {R:AV→St→Prop} {Q:AE→St→Prop} {σ:St} {K:St→Prop}
@[simp] theorem wpA2_c {a}:wpA2 S SP R (.c a) Q σ=wpA S a Q σ:=rfl
@[simp] theorem wpA2_rp {l o l'}:wpA2 S SP R (.rp l o l') Q σ=wpL S l (wpo S SP R o (wpL S l' (Q .n))) σ:=rfl
@[simp] theorem wpA2_sq {a b}:wpA2 S SP R (.sq a b) Q σ=wpA2 S SP R a (AE.sq (wpA2 S SP R b Q) Q) σ:=rfl
@[simp] theorem wpA2_bl {i a}:wpA2 S SP R (.bl i a) Q σ=wpA2 S SP R a (AE.bl i Q) σ:=rfl
@[simp] theorem wpA2_sc {a}:wpA2 S SP R (.sc a) Q σ=wpA2 S SP R a Q σ:=rfl
@[simp] theorem wpA2_cd {x a b}:wpA2 S SP R (.cd x a b) Q σ=onB (wpA2 S SP R a Q) (wpA2 S SP R b Q) σ (σ.v x):=rfl
def onP (S SP:Nat→Nat→In→Out→Prop) (R:AV→St→Prop) (f d:Nat) (xs:List X) (K:St→Prop) (σ:St):Prop:=wpC S f d xs K σ∨wpCP SP R f d xs σ
def onPd (S SP:Nat→Nat→In→Out→Prop) (R:AV→St→Prop) (d:Nat) (xs:List X) (K:St→Prop) (σ:St):AV→Prop
 | .fn f caps=>onP S SP R f d (xs++caps.map X.c) K σ
 |_=>False
def onT (R:AV→St→Prop) (σ:St):AV→Prop
 | .ifc T v=>v.ids=[]∧R (.ifc T v) σ
 |_=>False
@[simp] theorem wpo_ce {d f xs}:wpo S SP R (.ce d f xs) K σ=onP S SP R f d xs K σ:=rfl
@[simp] theorem wpo_cd {d x xs}:wpo S SP R (.cd d x xs) K σ=onPd S SP R d xs K σ (σ.v x):=by
 simp only [wpo];unfold onPd onP;cases σ.v x<;>rfl
@[simp] theorem onPd_fn {d xs f caps}:onPd S SP R d xs K σ (.fn f caps)=onP S SP R f d (xs++caps.map X.c) K σ:=rfl
@[simp] theorem wpo_pn {d x}:wpo S SP R (.pn d x) K σ=onT R σ (σ.v x):=by
 simp only [wpo];unfold onT;cases σ.v x<;>rfl
@[simp] theorem onT_ifc {T v}:onT R σ (.ifc T v)=(v.ids=[]∧R (.ifc T v) σ):=rfl
end
attribute [simp] callP
end Go.Ai
namespace Go.Ai
open Go.RowKit
variable {P:Program} {F:Fr} {S:Mem} {gb:Gb} {σ:St} {a:Act} {w:World}

theorem Rel.post {GL:List (Nat×List Value)} {N:Nat} {df:List Deferred} {d:Nat} {I:In} {O:Out} {gb0:Gb} {S0:Mem} {w0:World} {sv:Nat→Value} {rs:List AR}
  (hr:Rel ⟨S0,w0,MS I gb0 sv w0,gb0,N,GL,df⟩ S gb σ a w) (hok:OutOk d rs O σ) {vs':List AV} (hv:resA σ rs=some vs') {us:List Value} (g2:PRlist S gb vs' us) (g3: ∀(i s:Nat),rs[i]?=some (AR.t s)→us[i]?=some (tv a s)):
  PostR d I O S0 gb0 sv w0 S (gbOut d gb O.bx) (if h:us.toArray.size=1 then us.toArray[0] else .tuple us.toArray) w:=by
 obtain ⟨o1,o2,o3,o4⟩:=hr.out hok hv g2 g3 (by rw [←g2.length];exact (mRs_length (qs:=[]) hv).symm)
 refine ⟨hr.bw,hr.ext,hr.le,?_,?_,o1,o2,o3,o4⟩
 ·intro i hi
  have:gbOut d gb O.bx i=gb (i.inn d):=gbOut_ok (fun e=>by rw [hi] at e;cases e)
  rw [this,inn_notNw hi]
  exact hr.up i
 ·intro i hi hne
  simp only [gbOut] at hne
  split at hne
  ·exact absurd rfl hne
  ·rename_i hno
   cases hs:(lkB O.bx i).isSome with
   |true=>rfl
   |false=>exact absurd ⟨hi,hs⟩ hno
theorem Rel.ret {GL:List (Nat×List Value)} {N:Nat} {df:List Deferred} {d:Nat} {I:In} {O:Out} {gb0:Gb} {S0:Mem} {w0:World} {sv:Nat→Value} {rs:List AR} {fn:Func}
  (hr:Rel ⟨S0,w0,MS I gb0 sv w0,gb0,N,GL,df⟩ S gb σ a w) (hp: ∃τ,Frzs σ τ∧OutOk d rs O τ) (h5:mRs P rs fn.results.toList=true):
  ∃v S'' gb'',(results fn a.tmps).run P w= .ok v w∧PostR d I O S0 gb0 sv w0 S'' gb'' v w:=by
 obtain ⟨τ,hfz,hok⟩:=hp
 obtain ⟨S',gb',hr'⟩:=hr.frzs hfz
 have hx:=hok.r
 split at hx
 ·rename_i vs' hv
  obtain ⟨us,hrun,g2,g3⟩:=res_run (P:=P) hr' h5 hv
  exact ⟨_,S',_,hrun,hr'.post hok hv g2 g3⟩
 ·cases hx
def SpecD (P:Program) (GL:List (Nat×List Value)) (f d:Nat) (I:In) (v:AV) (O:Out):Prop:=
 ∀(S:Mem) (gb:Gb) (w:World) (vs:List Value) (u:Value),PRlist S gb I.vs vs→HR S gb I.bx I.pm (fun t=>vs.getD t undef) w→
  (∀i us,GL.lookup i=some us→ ∀(o:Nat) (u:Value),us[o]?=some u→S i o=some u∧u.oneCell'=true)→(∀i,i.isNw d=true→gb i=none)→PR S gb v u→
  (callFunc f vs.toArray).run P w= .ok (.enter f vs.toArray) w∧
  (v= .nili→CallsD P f vs.toArray .returning w fun e u' w'=> ∃x,e= .returned x∧u'= .returning∧ ∃S' gb',PostR d I O S gb (fun t=>vs.getD t undef) w S' gb' x w')∧
  ((∃T y,v= .ifc T y)→CallsD P f vs.toArray (.panicking (thrown u)) w fun e u' w'=> ∃x,e= .returned x∧u'= .panicking [{v:=u,recovered:=true}]∧ ∃S' gb',PostR d I O S gb (fun t=>vs.getD t undef) w S' gb' x w')
@[irreducible] def SpD (P:Program) (GL:List (Nat×List Value)) (f d:Nat) (I:In) (v:AV) (O:Out):Prop:=SpecD P GL f d I v O
theorem spd_eq (P:Program) (GL:List (Nat×List Value)):SpD P GL=SpecD P GL:=by funext f d I v O;unfold SpD;rfl
structure AFD where
 r:Nat
 l:List AOp
 c:AC
 np:Nat
 N:Nat
inductive ACD where
 |df (l:List AOp) (x:X) (c:AC2)
 |sq (a:AC) (r:ACD)
structure AFX where
 c:ACD
 rs:List AR
 np:Nat
 N:Nat
section
variable (S SP:Nat→Nat→In→Out→Prop) (SD:Nat→Nat→In→AV→Out→Prop) (N sl dm d:Nat) (rs:List AR) (O:Out)
end
end Go.Ai
namespace Go.Ai
open Go.RowKit
variable {P:Program} {F:Fr} {S:Mem} {gb:Gb} {σ:St} {a:Act} {w:World}
abbrev rnd (l:Nat):Fence:=Fence.wide.inRound l
def noDef (o:Oper):Bool:=match o.op with | .defer _=>false|_=>true
theorem rowsIn_rnd {l n:Nat} {row:String} {args:Array Value} {R:Value→World→Prop} (h:Rows P row args w R):RowsIn (rnd l) n P row args w R:=by
 intro c cs _
 obtain ⟨v,w',r,s⟩:=h c cs
 exact ⟨v,w',r,stepsIn_wide.2 s⟩
theorem op_rnd {l n:Nat} {o:Oper} {K:Act→World→Prop} {Q:Exit→Act→World→Prop} (hd:noDef o=true) (h:o.wp P a w K Q):o.wpIn (rnd l) n P a w K Q:=by
 refine ⟨fun _ _=>trivial,?_⟩
 have he:o.semAt (rnd l).round a.eval=execOp a.eval o:=Oper.semAt_eq _ _ _ (fun c hc=>by unfold noDef at hd;rw [hc] at hd;cases hd)
 rw [he]
 unfold Oper.wp Oper.upon at h
 unfold Oper.uponIn
 have hdep:((rnd l).depth.isSome=true→1≤n):=fun h=>by cases h
 generalize (execOp a.eval o).run P w=r at h ⊢
 split at h
 ·exact h
 ·exact h
 ·exact h
 ·exact ⟨hdep,callsIn_wide.2 h⟩
 ·exact ⟨hdep,rowsIn_rnd h⟩
 ·exact h
 ·exact h.elim
theorem ops_rnd {l n:Nat} {ops:Array Oper} {Q:Exit→Act→World→Prop} (hd: ∀(i:Nat) (o:Oper),ops[i]?=some o→noDef o=true) (hQ: ∀a w,¬Q .outgrown a w): ∀(is:List Nat) (a:Act) (w:World),wpOps P ops Q is a w→wpOpsIn (rnd l) n P ops Q is a w
 |[],a,w,h=>by simpa [wpOps,wpOpsIn] using h
 |i::r,a,w,h=>by
  simp only [wpOps] at h
  simp only [wpOpsIn]
  cases ho:ops[i]? with
  |none=>
   rw [ho] at h
   exact ops_rnd hd hQ r a w h
  |some o=>
   rw [ho] at h
   dsimp only at h ⊢
   split
   ·rename_i hw
    rw [if_pos hw] at h
    rcases h with h|⟨_,a₀,w₀,hq⟩
    ·have:=op_rnd (l:=l) (n:=n) (hd i o ho) h
     exact Oper.wpIn_mono (fun a w hh=>ops_rnd hd hQ r a w hh) this
    ·exact absurd hq (hQ _ _)
   ·rename_i hw
    rw [if_neg hw] at h
    exact ⟨fun _ _=>trivial,ops_rnd hd hQ r _ _ h⟩
def rdOk:Code→Bool
 | .skip=>true
 | .region _ ops _=>ops.toList.all noDef
 | .seq x y=>rdOk x&&rdOk y
 | .cond _ x y=>rdOk x&&rdOk y
 | .block _ x=>rdOk x
 | .loop x=>rdOk x
 | .exit _=>true
 | .ret=>true
 |_=>false
theorem noDef_at {ops:Array Oper} (h:ops.toList.all noDef=true) (i:Nat) (o:Oper) (ho:ops[i]?=some o):noDef o=true:=
 List.all_eq_true.1 h o (by rw [←Array.getElem?_toList] at ho;exact List.mem_of_getElem? ho)
theorem code_rnd {l n:Nat} {dr:Array Oper→List (List Nat)→List AOp→Bool} (hmix:P.follows .mixedOrders=true) (hd:DrawsAny P F.GL F.N dr): ∀ {c:Code} {ac:AC},rdOk c=true→mC P F.GL F.N dr c ac=true→ ∀ {Q:AE→St→Prop} {Q':Exit→Act→World→Prop},(∀a w,¬Q' .outgrown a w)→(∀e S gb σ a w,Rel F S gb σ a w→Q e σ→Q' (toE e) a w)→
  ∀ {S:Mem} {gb:Gb} {σ:St} {a:Act} {w:World},Rel F S gb σ a w→wpA (Spec P F.GL) ac Q σ→c.wpIn (rnd l) n P Q' a w:=by
 intro c
 induction c with
 |skip=>
  intro ac hk hm Q Q' hO hQ S gb σ a w h hw
  cases ac<;>simp [mC] at hm
  exact wpIn_skip (hQ .n _ _ _ _ _ h hw)
 |region id ops draw=>
  intro ac hk hm Q Q' hO hQ S gb σ a w h hw
  cases ac
  case rg l=>
   cases draw<;>simp [mC] at hm
   refine wpIn_region (ops_rnd (noDef_at hk) hO _ _ _ ?_)
   rw [List.range_eq_range',←Array.length_toList,wpOps_eq_wpList ops.toList 0 (by simp)]
   exact list_sound (fun S gb σ a w h' hk=>hQ .n _ _ _ _ _ h' hk) hm h hw
  case rd us l=>
   cases draw<;>simp [mC] at hm
   refine wpIn_region_draw fun t=>ops_rnd (noDef_at hk) hO _ _ _ ?_
   simp only [Region.schedule,hmix,Bool.true_or,if_true]
   exact wpAny_sound ops.size t _ a _ (hd.rd F rfl rfl ops us l hm.1 hm.2 (Q .n) Q' (fun S gb σ a w h' hk=>hQ .n _ _ _ _ _ h' hk) h hw)
  case pa us l p=>
   cases draw<;>simp [mC] at hm
   refine wpIn_region_draw fun t=>ops_rnd (noDef_at hk) hO _ _ _ ?_
   simp only [Region.schedule,hmix,Bool.true_or,if_true]
   exact wpAny_sound ops.size t _ a _ (hd.pa F rfl rfl ops us l p hm.1 hm.2 (Q .n) Q' (fun S gb σ a w h' hk=>hQ .n _ _ _ _ _ h' hk) h hw)
  case nb s d=>
   cases draw<;>simp [mC] at hm
   refine wpIn_region_draw fun t=>ops_rnd (noDef_at hk) hO _ _ _ ?_
   simp only [Region.schedule,hmix,Bool.true_or,if_true]
   exact wpAny_sound ops.size t _ a _ (hd.nb F rfl rfl ops s d hm (Q .n) Q' (fun S gb σ a w h' hk=>hQ .n _ _ _ _ _ h' hk) h hw.1 hw.2)
  case fz s l=>
   cases draw<;>simp [mC] at hm
   simp only [wpA] at hw
   obtain ⟨b,n,sz,rows,tl,hf,hz,hw⟩:=hw
   obtain ⟨S',gb',h'⟩:=h.freezeP hf hz
   refine wpIn_region (ops_rnd (noDef_at hk) hO _ _ _ ?_)
   rw [List.range_eq_range',←Array.length_toList,wpOps_eq_wpList ops.toList 0 (by simp)]
   exact list_sound (fun S gb σ a w h' hk=>hQ .n _ _ _ _ _ h' hk) hm h' hw
  all_goals (cases draw<;>simp [mC] at hm)
 |seq x y ihx ihy=>
  intro ac hk hm Q Q' hO hQ S gb σ a w h hw
  simp only [rdOk,Bool.and_eq_true] at hk
  cases ac
  case sq x' y'=>
   simp [mC] at hm
   refine wpIn_seq (ihx hk.1 hm.1 (Q:=AE.sq (wpA (Spec P F.GL) y' Q) Q) (Q':=Exit.then (y.wpIn (rnd l) n P Q') Q') hO ?_ h hw)
   intro e S gb σ a w h' hq
   cases e
   ·exact ihy hk.2 hm.2 hO hQ h' hq
   ·exact hQ (.x _) _ _ _ _ _ h' hq
   ·exact hQ .r _ _ _ _ _ h' hq
  case pb us l' p=>
   simp only [mC] at hm
   split at hm<;>(try cases hm)
   rename_i id ops id2 ops2
   simp only [Bool.and_eq_true] at hm
   refine wpIn_seq (wpIn_region_draw fun t=>ops_rnd (Q:=Exit.then (Code.wpIn (rnd l) n P (Code.region id2 ops2 false) Q') Q') (noDef_at hk.1) (fun a w q=>hO a w q) _ _ _ ?_)
   simp only [Region.schedule,hmix,Bool.true_or,if_true]
   refine wpAny_sound ops.size t _ a _ (hd.pb F rfl rfl ops ops2 us l' p hm.1 hm.2 (Q .n) Q' _ (fun S gb σ a w h' hk=>hQ .n _ _ _ _ _ h' hk) (fun a w hq=>?_) h hw)
   refine wpIn_region (ops_rnd (noDef_at hk.2) hO _ _ _ ?_)
   rw [List.range_eq_range',←Array.length_toList,wpOps_eq_wpList ops2.toList 0 (by simp)]
   exact hq
  all_goals simp [mC] at hm
 |cond c x y ihx ihy=>
  intro ac hk hm Q Q' hO hQ S gb σ a w h hw
  cases ac<;>simp [mC] at hm
  simp only [rdOk,Bool.and_eq_true] at hk
  rename_i c' x' y'
  obtain ⟨⟨hc,hx⟩,hy⟩:=hm
  have hv:=mX_sound h hc
  simp only [wpA] at hw
  split at hw
  ·rename_i t ht
   rw [ht] at hv
   simp only [PR] at hv
   refine wpIn_cond hv ?_
   cases t
   ·exact ihy hk.2 hy hO hQ h (by simpa using hw)
   ·exact ihx hk.1 hx hO hQ h (by simpa using hw)
  ·cases hw
 |block i x ih=>
  intro ac hk hm Q Q' hO hQ S gb σ a w h hw
  cases ac<;>simp [mC] at hm
  rename_i j x'
  obtain ⟨rfl,hx⟩:=hm
  refine wpIn_block (ih hk hx (Q:=AE.bl i Q) (Q':=Exit.inBlock i Q') hO ?_ h hw)
  intro e S gb σ a w h' hq
  cases e
  ·exact hQ .n _ _ _ _ _ h' hq
  ·rename_i j
   simp only [toE,Exit.inBlock]
   simp only [AE.bl] at hq
   split at hq
   ·rename_i e;rw [if_pos e];exact hQ .n _ _ _ _ _ h' hq
   ·rename_i e;rw [if_neg e];exact hQ (.x _) _ _ _ _ _ h' hq
  ·exact hQ .r _ _ _ _ _ h' hq
 |loop x ih=>
  intro ac hk hm Q Q' hO hQ S gb σ a w h hw
  cases ac<;>simp [mC] at hm
  rename_i x'
  simp only [wpA] at hw
  obtain ⟨n',hn⟩:=hw
  intro b k cs hro hb hr
  have key: ∀n' S gb σ a w,Rel F S gb σ a w→itA (wpA (Spec P F.GL) x') Q n' σ→ ∃e a' w',Q' e a' w'∧ArrivesIn (Machine.fenced P (rnd l)) P (lone (b.atR a (.code x:: .inLoop x::k)) cs w) b k cs e a' w':=by
   intro n'
   induction n' with
   |zero=>intro S gb σ a w h hn;exact hn.elim
   |succ n' ihn=>
    intro S gb σ a w h hn
    obtain ⟨τ,hτ,hbb⟩:=hn
    obtain ⟨gb',h'⟩:=h.weakR hτ
    obtain ⟨e,a₁,w₁,hq,harr⟩:=ih hk hm (Q:=AE.sq (itA (wpA (Spec P F.GL) x') Q n') Q) (Q':=Exit.then (fun a w=> ∃S gb σ,Rel F S gb σ a w∧itA (wpA (Spec P F.GL) x') Q n' σ) Q') hO (by
     intro e S gb σ a w h'' hq
     cases e
     ·exact ⟨_,_,_,h'',hq⟩
     ·exact hQ (.x _) _ _ _ _ _ h'' hq
     ·exact hQ .r _ _ _ _ _ h'' hq) h' hbb b (.inLoop x::k) cs hro hb hr
    cases e with
    |normal=>
     obtain ⟨S1,gb1,σ1,h1,hi1⟩:=hq
     obtain ⟨e₂,a₂,w₂,hq₂,harr₂⟩:=ihn _ _ _ _ _ h1 hi1
     exact ⟨e₂,a₂,w₂,hq₂,.of_steps (StepsIn.trans harr (.one (fenced_calm hb hr rfl) stepR_inLoop)) harr₂⟩
    |exit id=>exact ⟨_,a₁,w₁,hq,.pass (x:= .inLoop x) rfl (fun _ _=> .inl (by simp)) harr⟩
    |goto l=>exact ⟨_,a₁,w₁,hq,.pass (x:= .inLoop x) rfl (fun _ _=> .inl (by simp)) harr⟩
    |ret=>exact ⟨_,a₁,w₁,hq,.pass (x:= .inLoop x) rfl (fun _ _=> .inl (by simp)) harr⟩
    |panic ch=>exact ⟨_,a₁,w₁,hq,.pass (x:= .inLoop x) rfl (fun _ _=> .inl (by simp)) harr⟩
    |outgrown=>exact ⟨_,a₁,w₁,hq,.pass (x:= .inLoop x) rfl (fun _ _=> .inl (by simp)) harr⟩
  obtain ⟨e,a',w',hq,harr⟩:=key n' _ _ _ _ _ h hn
  exact ⟨e,a',w',hq,.of_steps (.one (fenced_calm hb hr rfl) stepR_loop) harr⟩
 |exit i=>
  intro ac hk hm Q Q' hO hQ S gb σ a w h hw
  cases ac<;>simp [mC] at hm
  subst hm
  exact wpIn_exit (hQ (.x _) _ _ _ _ _ h hw)
 |ret=>
  intro ac hk hm Q Q' hO hQ S gb σ a w h hw
  cases ac<;>simp [mC] at hm
  exact wpIn_ret (hQ .r _ _ _ _ _ h hw)
 |_=>intro ac hk;cases hk
end Go.Ai
namespace Go.Ai
open Go.RowKit
variable {P:Program} {F:Fr} {S:Mem} {gb:Gb} {σ:St} {a:Act} {w:World}
theorem plv_abide {bx:List (Id×List AV)} {pm:List (Pl×Nat)} {sv:Nat→Value} (h:HR S gb bx pm sv w) (hit: ∀d,(lkB bx d).isSome→d.isIt=false) {w':World} {row:Option Nat} (hg:w.grownBy w' row)
  (hr: ∀r,row=some r→ ∃o:Obj,w.heap[r]?=some o∧o.isCells=false) {p:Pl} {k:Nat} (hp:lkP pm p=some k):plv gb sv w' p=plv gb sv w p:=by
 cases p with
 |s t=>rfl
 |t t i=>rfl
 |b d off=>
  obtain ⟨h1,h2⟩:=h.pmb d off k hp
  obtain ⟨cs,hcs⟩:=Option.isSome_iff_exists.1 h1
  obtain ⟨g,us,T,e1,e3,_⟩:=h.box d cs hcs h2
  simp only [plv,e1]
  rw [World.cell?_of_block (a:=⟨g,off,none⟩) (grownBy_keeps_cells hg hr e3 rfl)]
theorem HR.abide {bx:List (Id×List AV)} {pm:List (Pl×Nat)} {sv:Nat→Value} (h:HR S gb bx pm sv w) (hit: ∀d,(lkB bx d).isSome→d.isIt=false) {w':World} {row:Option Nat} (hg:w.grownBy w' row)
  (hr: ∀r,row=some r→ ∃o:Obj,w.heap[r]?=some o∧o.isCells=false):HR S gb bx pm sv w':=by
 have hpl:=fun {p k}=>plv_abide h hit hg hr (p:=p) (k:=k)
 refine ⟨fun g o v e=>cell_kept (h.agree g o v e) hg hr,?_,?_,h.inj,?_,?_,?_,h.pmb⟩
 ·intro d cs hcs hi
  obtain ⟨g,us,T,e1,e3,e4,e5⟩:=h.box d cs hcs hi
  exact ⟨g,us,T,e1,(grownBy_keeps_cells hg hr e3 rfl).trans e3,e4,e5⟩
 ·intro d cs hcs hi
  have:=hit d (by rw [hcs];rfl)
  rw [hi] at this;cases this
 ·intro p k hp
  rw [hpl hp]
  have ho:=h.own p k hp
  refine ho.mono (fun g hgb=>?_) (fun _ _ _ e=>e)
  rcases ho with e|⟨_,g',n,cap,cur,T,e,h3,_⟩|⟨_,g',n,cap,cur,e,h3,_⟩
  ·rw [e] at hgb;simp [Value.ownBlock] at hgb
  ·rw [e] at hgb;simp [Value.ownBlock] at hgb;subst hgb;exact grownBy_keeps_cells hg hr h3 rfl
  ·rw [e] at hgb;simp [Value.ownBlock] at hgb;subst hgb;exact grownBy_keeps_cells hg hr h3 rfl
 ·intro p q k l b hp hq h1 h2
  rw [hpl hp] at h1
  rw [hpl hq] at h2
  exact h.ownd p q k l b hp hq h1 h2
 ·intro p k b d z hp h1
  rw [hpl hp] at h1
  exact h.ownb p k b d z hp h1
def noIt (bx:List (Id×List AV)):Prop:= ∀d,(lkB bx d).isSome→d.isIt=false
theorem Rel.abide (h:Rel F S gb σ a w) (hit:noIt σ.bx) {w':World} {row:Option Nat} (hg:w.grownBy w' row)
  (hr: ∀r,row=some r→(F.w0.heap.size≤r∨F.M r)∧ ∃o:Obj,w.heap[r]?=some o∧o.isCells=false):Rel F S gb σ a w':=by
 have hr2:=fun r e=>(hr r e).2
 refine ⟨h.defers,h.size,⟨hg.os.trans h.bw.os,hg.tape.trans h.bw.tape,hg.output.trans h.bw.output,Nat.le_trans h.bw.size hg.size,fun k hk hn=>?_⟩,h.ext,h.le,h.env,h.hr.abide hit hg hr2,h.newb,?_,h.dom,h.up,h.glo⟩
 ·refine (hg.block k (Nat.lt_of_lt_of_le hk h.bw.size) (fun e=>?_)).trans (h.bw.block k hk hn)
  rcases (hr k e.symm).1 with h1|h1
  ·omega
  ·exact hn h1
 ·intro p k g hp hq
  rw [plv_abide h.hr hit hg hr2 hp] at hq
  exact h.newo p k g hp hq
theorem put_put {d:Nat} (hd:d<a.tmps.size) (v:Value):(a.put (some d) v).put (some d) (tv a d)=a:=by
 obtain ⟨tm,df⟩:=a
 have e:(tm.setIfInBounds d v).setIfInBounds d (tm.getD d undef)=tm:=by
  apply Array.ext
  ·simp
  ·intro i h1 h2
   by_cases e:d=i
   ·subst e;simp [Array.getD_eq_getD_getElem?,h2]
   ·rw [Array.getElem_setIfInBounds_ne (h:=e),Array.getElem_setIfInBounds_ne (h:=e)]
    simpa using h2
 show Act.mk ((tm.setIfInBounds d v).setIfInBounds d (tm.getD d undef)) df=Act.mk tm df
 rw [e]
theorem Rel.unputR {d:Nat} {v:Value} (hd:d<F.N) (h:Rel F S gb σ (a.put (some d) v) w):Rel F S gb (σ.put d .undef) a w:=by
 have hs:d<a.tmps.size:=by
  have:=h.size
  simp [Act.put] at this
  omega
 have:=h.put hd (v:= .undef) (u:=tv a d) (by simp [PR])
 rwa [put_put hs] at this
theorem Rel.widen (h:Rel F S gb σ a w) {M':Nat→Prop} (hM: ∀g,F.M g→M' g):Rel {F with M:=M'} S gb σ a w:=
 ⟨h.defers,h.size,⟨h.bw.os,h.bw.tape,h.bw.output,h.bw.size,fun k hk hn=>h.bw.block k hk (fun e=>hn (hM k e))⟩,fun g o hg hn=>h.ext g o hg (fun e=>hn (hM g e)),h.le,h.env,h.hr,
  fun d g z hd hg=>(h.newb d g z hd hg).imp id (hM g),fun p k g hp hg=>(h.newo p k g hp hg).imp id (hM g),h.dom,h.up,h.glo⟩
def MO (gb:Gb) (σ:St) (a:Act) (w:World) (g:Nat):Prop:=(∃d z,(lkB σ.bx d).isSome∧gb d=some (g,z))∨ ∃p k,lkP σ.pm p=some k∧(plv gb (tv a) w p).ownBlock=some g
def Fr.at (F:Fr) (S:Mem) (gb:Gb) (σ:St) (a:Act) (w:World) (df:List Deferred):Fr:={F with S0:=S,w0:=w,M:=MO gb σ a w,df:=df}
theorem Rel.rebase (h:Rel F S gb σ a w) (df:List Deferred):Rel (F.at S gb σ a w df) S gb σ {a with defers:=df} w:=
 ⟨rfl,h.size,Bw.refl _ _,fun _ _ _ _=>rfl,Mem.le.refl _,h.env,h.hr,fun d g z hd hg=> .inr (.inl ⟨d,z,hd,hg⟩),fun p k g hp hg=> .inr (.inr ⟨p,k,hp,hg⟩),h.dom,h.up,
  fun i us hi o u hu=>⟨h.le _ _ _ (h.glo i us hi o u hu).1,(h.glo i us hi o u hu).2⟩⟩
theorem MO.of (h:Rel F S gb σ a w) {g:Nat} (hg:MO gb σ a w g):F.w0.heap.size≤g∨F.M g:=by
 rcases hg with ⟨d,z,hd,he⟩|⟨p,k,hp,he⟩
 ·exact h.newb d g z hd he
 ·exact h.newo p k g hp he
theorem Rel.unrebase (h:Rel F S gb σ a w) {df:List Deferred} {S':Mem} {gb':Gb} {σ':St} {a':Act} {w':World} (h':Rel (F.at S gb σ a w df) S' gb' σ' a' w'):Rel {F with df:=df} S' gb' σ' a' w':=by
 have hm: ∀ {g:Nat},(F.at S gb σ a w df).w0.heap.size≤g∨(F.at S gb σ a w df).M g→F.w0.heap.size≤g∨F.M g:=by
  intro g hg
  rcases hg with hg|hg
  ·exact .inl (Nat.le_trans h.bw.size hg)
  ·exact MO.of h hg
 refine ⟨h'.defers,h'.size,h.bw.trans h'.bw (fun g hlt hg=>?_),fun g o hlt hn=>?_,Mem.le.trans h.le h'.le,h'.env,h'.hr,fun d g z hd he=>hm (h'.newb d g z hd he),fun p k g hp he=>hm (h'.newo p k g hp he),h'.dom,h'.up,h.glo⟩
 ·rcases MO.of h hg with h1|h1
  ·exact absurd h1 (Nat.not_le_of_lt hlt)
  ·exact h1
 ·have h1:=h'.ext g o (Nat.lt_of_lt_of_le hlt h.bw.size) (fun hg=>by
   rcases MO.of h hg with h1|h1
   ·exact absurd h1 (Nat.not_le_of_lt hlt)
   ·exact hn h1)
  exact h1.trans (h.ext g o hlt hn)
theorem cells_ne {w:World} {l g:Nat} {us:Array Value} {T:Nat} {p:Nat×Nat} (hl: ∃o:Obj,w.heap[l]?=some o∧o.isCells=false) (h:w.heap[g]?=some (.cells us T p)):g≠l:=by
 rintro rfl
 obtain ⟨o,h1,h2⟩:=hl
 rw [h] at h1
 cases h1
 cases h2
theorem own_ne {w:World} {l g k:Nat} {v:Value} {S:Mem} (hl: ∃o:Obj,w.heap[l]?=some o∧o.isCells=false) (h:OwnR S w k v) (hg:v.ownBlock=some g):g≠l:=by
 rcases h with e|⟨_,g',n,cap,cur,T,e,h3,_⟩|⟨_,g',n,cap,cur,e,h3,_⟩
 ·rw [e] at hg;simp [Value.ownBlock] at hg
 ·rw [e] at hg;simp [Value.ownBlock] at hg;subst hg;exact cells_ne hl h3
 ·rw [e] at hg;simp [Value.ownBlock] at hg;subst hg;exact cells_ne hl h3
theorem HR.box_ne {bx:List (Id×List AV)} {pm:List (Pl×Nat)} {sv:Nat→Value} (h:HR S gb bx pm sv w) (hit:noIt bx) {l:Nat} (hl: ∃o:Obj,w.heap[l]?=some o∧o.isCells=false) {d:Id} {g:Nat} {z:BZ} (hd:(lkB bx d).isSome) (hg:gb d=some (g,z)):g≠l:=by
 obtain ⟨cs,hcs⟩:=Option.isSome_iff_exists.1 hd
 obtain ⟨g',us,T,e1,e3,_⟩:=h.box d cs hcs (hit d hd)
 rw [hg] at e1
 cases e1
 exact cells_ne hl e3
theorem MO.ne (h:HR S gb σ.bx σ.pm (tv a) w) (hit:noIt σ.bx) {l:Nat} (hl: ∃o:Obj,w.heap[l]?=some o∧o.isCells=false): ¬MO gb σ a w l:=by
 rintro (⟨d,z,hd,he⟩|⟨p,k,hp,he⟩)
 ·exact h.box_ne hit hl hd he rfl
 ·exact own_ne hl (h.own p k hp) he rfl
theorem agree_none {bx:List (Id×List AV)} {pm:List (Pl×Nat)} {sv:Nat→Value} (h:HR S gb bx pm sv w) {l:Nat} (hl: ∃o:Obj,w.heap[l]?=some o∧o.isCells=false) (o:Nat):S l o=none:=by
 cases hs:S l o with
 |none=>rfl
 |some v=>
  obtain ⟨ob,h1,h2⟩:=cells_of_cell (h.agree l o v hs)
  obtain ⟨ob',h3,h4⟩:=hl
  rw [h3] at h1
  cases h1
  rw [h4] at h2
  cases h2
theorem Rel.narrow {l:Nat} (h:Rel {F with M:=fun g=>F.M g∨g=l} S gb σ a w) (hit:noIt σ.bx) (hs:w.heap[l]?=F.w0.heap[l]?) (hl: ∃o:Obj,w.heap[l]?=some o∧o.isCells=false) (hS: ∀o,F.S0 l o=none):Rel F S gb σ a w:=by
 refine ⟨h.defers,h.size,⟨h.bw.os,h.bw.tape,h.bw.output,h.bw.size,fun k hk hn=>?_⟩,fun g o hg hn=>?_,h.le,h.env,h.hr,fun d g z hd he=>?_,fun p k g hp he=>?_,h.dom,h.up,h.glo⟩
 ·by_cases e:k=l
  ·rw [e];exact hs
  ·exact h.bw.block k hk (fun h1=>h1.elim hn e)
 ·by_cases e:g=l
  ·rw [e,hS];exact agree_none h.hr hl o
  ·exact h.ext g o hg (fun h1=>h1.elim hn e)
 ·rcases h.newb d g z hd he with h1|h1|h1
  ·exact .inl h1
  ·exact .inr h1
  ·exact absurd h1 (h.hr.box_ne hit hl hd he)
 ·rcases h.newo p k g hp he with h1|h1|h1
  ·exact .inl h1
  ·exact .inr h1
  ·exact absurd h1 (own_ne hl (h.hr.own p k hp) he)
end Go.Ai
namespace Go.Ai
open Go.RowKit
variable {P:Program} {F:Fr} {S:Mem} {gb:Gb} {σ:St} {a:Act} {w:World}
def zipE:List Nat→List AV→List (Nat×AV)
 |t::r,v::s=>(t,v)::zipE r s
 |_,_=>[]
theorem lk_mid {p:Nat} {v:AV} {B:List (Nat×AV)}: ∀ {r:List Nat} {s:List AV},p∉r→ ∀t,lk (zipE r s++(p,v)::B) t=if p=t then v else lk (zipE r s++B) t
 |[],s,_,t=>by simp [zipE,lk]
 |q::r,[],_,t=>by simp [zipE,lk]
 |q::r,u::s,h,t=>by
  simp only [List.mem_cons,not_or] at h
  simp only [zipE,List.cons_append,lk,lk_mid h.2]
  by_cases e1:q=t
  ·rw [if_pos e1,if_pos e1,if_neg (fun e=>h.1 (e.trans e1.symm))]
  ·rw [if_neg e1,if_neg e1]
theorem env_zip {g:Gb} {B:List (Nat×AV)}: ∀ {ps:List Nat} {x:List AV} {us:List Value} {tm:Array Value},(∀t,PR S g (lk B t) (tm.getD t undef))→ps.Nodup→(∀t∈ps,t<tm.size)→PRlist S g x us→ps.length=x.length→
  ∀t,PR S g (lk (zipE ps x++B) t) (((ps.zip us).foldl (fun t (q:Nat×Value)=>t.setIfInBounds q.1 q.2) tm).getD t undef)
 |[],x,us,tm,h,_,_,_,_=>by simpa [zipE] using h
 |p::r,[],us,tm,h,_,_,_,hl=>by simp at hl
 |p::r,v::s,us,tm,h,hn,hs,hx,hl=>by
  simp only [PRlist] at hx
  obtain ⟨u,us',rfl,hu,hx⟩:=hx
  simp only [List.nodup_cons] at hn
  have ih:=env_zip (B:=(p,v)::B) (ps:=r) (x:=s) (us:=us') (tm:=tm.setIfInBounds p u) (fun t=>by
   rw [getD_set (hs p (by simp))]
   simp only [lk]
   split
   ·exact hu
   ·exact h t) hn.2 (fun t ht=>by rw [Array.size_setIfInBounds];exact hs t (by simp [ht])) hx (by simpa using hl)
  intro t
  have:=ih t
  rw [lk_mid hn.1] at this
  simpa only [zipE,List.cons_append,lk,List.zip_cons_cons,List.foldl_cons] using this
theorem fold_size: ∀(l:List (Nat×Value)) (tm:Array Value),(l.foldl (fun t (q:Nat×Value)=>t.setIfInBounds q.1 q.2) tm).size=tm.size
 |[],_=>rfl
 |q::l,tm=>by rw [List.foldl_cons,fold_size l,Array.size_setIfInBounds]
theorem env_rd {f:Nat→AV}: ∀ {rd:List Nat} {vs:List AV},wkL (rd.map f) vs→(∀t,PR S gb (f t) (tv a t))→ ∀t,PR S (gbUp gb) (lk (zipE rd (mpL Id.up vs)) t) (tv a t)
 |[],vs,_,_,t=>by simp [zipE,lk,PR]
 |p::r,[],h,_,t=>by simp [wkL] at h
 |p::r,v::s,h,he,t=>by
  simp only [List.map_cons,wkL] at h
  simp only [mpL,zipE,lk]
  split
  ·rename_i e
   subst e
   exact PR_up _ _ (wk_PR h.1 (he p))
  ·exact env_rd h.2 he t
structure RdIn (d:Nat) (σ:St) (rd:List Nat) (I:In):Prop where
 ok:CallOk d σ (rd.map X.s) I ⟨.tup [],I.bx,[]⟩
 pm: ∀p∈I.pm,p.1.isB=true
 it:noIt I.bx
def rdSt (ps rd:List Nat) (x:List AV) (I:In):St:=⟨zipE ps x++zipE rd (mpL Id.up I.vs),mpB Id.up I.bx,mpP Id.up I.pm⟩
def normE (d:Nat):List (Nat×AV)→List (Nat×AV)
 |(t,.undef)::r=>if t=d then (t,.undef)::r else (d,.undef)::(t,.undef)::r
 |e=>(d,.undef)::e
theorem lk_normE (d:Nat) (e:List (Nat×AV)) (t:Nat):lk (normE d e) t=if d=t then .undef else lk e t:=by
 unfold normE
 split
 ·rename_i t' r
  split
  ·rename_i h;subst h
   simp only [lk]
   split<;>rfl
  ·simp only [lk]
 ·simp only [lk]
def rdNorm (d:Nat) (σ:St):St:=⟨normE d σ.e,σ.bx,dlS σ.pm d⟩
def rdOut (d:Nat) (σ:St) (rd:List Nat) (I:In) (O:Out):St:=⟨normE d σ.e,O.bx++rmBs σ.bx I.bx,dlS (retP d O.pm++dlS (dlXs (rd.map X.s) (dlBs σ.pm I.bx) I.pm) d) d⟩
theorem Rel.congrE (h:Rel F S gb σ a w) {e:List (Nat×AV)} (he: ∀t,lk e t=lk σ.e t):Rel F S gb ⟨e,σ.bx,σ.pm⟩ a w:=
 ⟨h.defers,h.size,h.bw,h.ext,h.le,fun t=>by rw [he];exact h.env t,h.hr,h.newb,h.newo,h.dom,h.up,h.glo⟩
theorem put_same {d:Nat} (hd:d<a.tmps.size):a.put (some d) (tv a d)=a:=by
 obtain ⟨tm,df⟩:=a
 have e:tm.setIfInBounds d (tm.getD d undef)=tm:=by
  apply Array.ext
  ·simp
  ·intro i h1 h2
   by_cases e:d=i
   ·subst e;simp [Array.getD_eq_getD_getElem?,h2]
   ·rw [Array.getElem_setIfInBounds_ne (h:=e)]
 show Act.mk (tm.setIfInBounds d (tm.getD d undef)) df=Act.mk tm df
 rw [e]
theorem Rel.norm {d:Nat} (hd:d<F.N) (h:Rel F S gb σ a w):Rel F S gb (rdNorm d σ) a w:=by
 have hs:d<a.tmps.size:=by rw [h.size];exact hd
 have:=h.put hd (v:= .undef) (u:=tv a d) (by simp [PR])
 have ha:=put_same hs
 rw [ha] at this
 exact this.congrE (fun t=>by rw [lk_normE];simp only [St.put,lk])
theorem plv_isB {sv sv':Nat→Value} {p:Pl} (h:p.isB=true):plv gb sv w p=plv gb sv' w p:=by
 cases p<;>simp [Pl.isB] at h<;>rfl
theorem HR.anySv {bx:List (Id×List AV)} {pm:List (Pl×Nat)} {sv sv':Nat→Value} (h:HR S gb bx pm sv w) (hb: ∀p k,lkP pm p=some k→p.isB=true):HR S gb bx pm sv' w:=by
 refine ⟨h.agree,h.box,h.its,h.inj,fun p k hp=>?_,fun p q k l b hp hq h1 h2=>?_,fun p k b d z hp h1=>?_,h.pmb⟩
 ·rw [plv_isB (hb p k hp) (sv':=sv)];exact h.own p k hp
 ·rw [plv_isB (hb p k hp) (sv':=sv)] at h1
  rw [plv_isB (hb q l hq) (sv':=sv)] at h2
  exact h.ownd p q k l b hp hq h1 h2
 ·rw [plv_isB (hb p k hp) (sv':=sv)] at h1
  exact h.ownb p k b d z hp h1
abbrev rdSv (rd:List Nat) (a:Act):Nat→Value:=fun t=>(rd.map (tv a)).getD t undef
theorem rd_vs (h:Rel F S gb σ a w): ∀rd:List Nat,PRlist S gb ((rd.map X.s).map σ.v) (rd.map (tv a))
 |[]=>by simp [PRlist]
 |t::r=>by
  simp only [List.map_cons,PRlist]
  exact ⟨_,_,rfl,h.env t,rd_vs h r⟩
theorem rd_sl {rd:List Nat} (i t:Nat) (h:(rd.map X.s)[i]?=some (X.s t)):(rd.map (tv a))[i]?=some (tv a t):=by
 simp only [List.getElem?_map,Option.map_eq_some_iff] at h ⊢
 obtain ⟨x,h1,h2⟩:=h
 cases h2
 exact ⟨_,h1,rfl⟩
abbrev rdFr (F:Fr) (S:Mem) (gb:Gb) (a:Act) (w:World) (rd:List Nat) (I:In):Fr:=⟨S,w,MS I gb (rdSv rd a) w,gb,F.N,F.GL,[]⟩
theorem round_entry (h:Rel F S gb σ a w) {d:Nat} {rd:List Nat} {I:In} (hi:RdIn d σ rd I) {ps:List Nat} {x:List AV} {us:List Value} (hx:PRlist S gb0 x us) (hps:ps.Nodup) (hl:ps.length=x.length) (hN: ∀t∈ps,t<F.N):
  Rel (rdFr F S gb a w rd I) S (gbUp gb) (rdSt ps rd x I) {tmps:=(ps.zip us).foldl (fun t (q:Nat×Value)=>t.setIfInBounds q.1 q.2) a.tmps,defers:=[]} w:=by
 have hhr:=call_entry h hi.ok (rd_vs h rd) (rd_sl (a:=a))
 have hup:=hhr.up
 have hpmB: ∀p k,lkP (mpP Id.up I.pm) p=some k→p.isB=true:=by
  intro p k hp
  obtain ⟨q,rfl,hq⟩:=lkP_mpP up_inj hp
  have:=hi.pm _ (lkP_mem _ _ _ hq)
  cases q<;>simp [Pl.isB,Pl.mp] at this ⊢
 refine ⟨rfl,?_,Bw.refl _ _,fun _ _ _ _=>rfl,Mem.le.refl _,?_,hup.anySv hpmB,?_,?_,?_,fun d=>rfl,fun i us hi o u hu=>⟨h.le _ _ _ (h.glo i us hi o u hu).1,(h.glo i us hi o u hu).2⟩⟩
 ·show (Array.size _)=F.N
  rw [fold_size];exact h.size
 ·have he:wkL (rd.map fun t=>lk σ.e t) I.vs:=by
   have:=hi.ok.vs
   rwa [List.map_map] at this
  refine env_zip (B:=zipE rd (mpL Id.up I.vs)) (env_rd he h.env) hps (fun t ht=>by rw [h.size];exact hN t ht) (PRlist.mono (Mem.le.refl S) (gb0_le _) _ _ hx) hl
 ·intro i g z hi hq
  obtain ⟨c1,hc1⟩:=Option.isSome_iff_exists.1 hi
  obtain ⟨j,cs,rfl,hj,_⟩:=lkB_mpB_some up_inj hc1
  exact .inr (.inl ⟨j,z,by rw [hj];rfl,hq⟩)
 ·intro p k g hp hg
  have hB:=hpmB p k hp
  obtain ⟨q,rfl,hq⟩:=lkP_mpP up_inj hp
  rw [plv_isB hB (sv':=rdSv rd a),plv_up] at hg
  exact .inr (.inr ⟨q,k,hq,hg⟩)
 ·intro i hi
  cases i<;>simp [gbUp,Id.isUp] at hi ⊢
theorem round_exit (h:Rel F S gb σ a w) {d:Nat} (hd:d<F.N) {rd:List Nat} {I:In} {O:Out} (hc:CallOk d σ (rd.map X.s) I O) {S':Mem} {gb':Gb} {σ':St} {a':Act} {w':World} (hr0:Rel (rdFr F S gb a w rd I) S' gb' σ' a' w') (hq: ∃τ,Frzs σ' τ∧OutOk d [] O τ):
  ∃S'' gb'',S.le S''∧Rel F S'' gb'' (rdOut d σ rd I O) a w':=by
 obtain ⟨τ,hfz,hok⟩:=hq
 obtain ⟨S',gb',hr⟩:=hr0.frzs hfz
 have hv:resA τ []=some []:=rfl
 obtain ⟨o1,o2,o3,o4⟩:=hr.out hok hv (us:=[]) (by simp [PRlist]) (by simp) rfl
 have hp:PostR d I O S gb (fun t=>(rd.map (tv a)).getD t undef) w S' (gbOut d gb' O.bx) (.tuple #[]) w':=by
  refine ⟨hr.bw,hr.ext,hr.le,?_,?_,o1,o2,o3,o4⟩
  ·intro i hi
   have:gbOut d gb' O.bx i=gb' (i.inn d):=gbOut_ok (fun e=>by rw [hi] at e;cases e)
   rw [this,inn_notNw hi]
   exact hr.up i
  ·intro i hi hne
   simp only [gbOut] at hne
   split at hne
   ·exact absurd rfl hne
   ·rename_i hno
    cases hs:(lkB O.bx i).isSome with
    |true=>rfl
    |false=>exact absurd ⟨hi,hs⟩ hno
 have hu:=(h.call hd hc (rd_vs h rd) (rd_sl (a:=a)) hp).unputR hd
 exact ⟨S',_,hp.le,hu.congrE (fun t=>by
  rw [lk_normE]
  simp only [St.put,callSt,lk]
  split<;>rfl)⟩
end Go.Ai
namespace Go.Ai
open Go.RowKit
variable {P:Program} {F:Fr} {S:Mem} {gb:Gb} {σ:St} {a:Act} {w:World}
def jmp:AE→Option Code
 | .n=>none
 | .r=>some .ret
 | .x i=>some (.exit i)
def rdPost (d:Nat) (σ:St) (rd:List Nat) (I:In) (K:AE→St→Prop):AE→St→Prop:=fun e σ'=>
 ∃O,(∃τ,Frzs σ' τ∧OutOk d [] O τ)∧CallOk d σ (rd.map X.s) I O∧(∀p∈σ'.bx,p.1.isIt=false)∧K e (rdOut d σ rd I O)
def wpRd (Sp:Nat→Nat→In→Out→Prop) (d:Nat) (ps rd:List Nat) (asg bd:AC) (x:List AV) (K:AE→St→Prop) (σ:St):Prop:=
 ∃I,RdIn d σ rd I∧wpA Sp asg (fun e τ=>e= .n∧(∀p∈τ.bx,p.1.isIt=false)∧wpA Sp bd (rdPost d σ rd I K) τ) (rdSt ps rd x I)
theorem noIt_of {bx:List (Id×List AV)} (h: ∀p∈bx,p.1.isIt=false):noIt bx:=fun d hd=>by
 obtain ⟨cs,hcs⟩:=Option.isSome_iff_exists.1 hd
 exact h _ (lkB_mem _ _ _ hcs)
theorem noIt_out (hit:noIt σ.bx) {d:Nat} {rd:List Nat} {I:In} {O:Out} {τ:St} (ho:OutOk d [] O τ):noIt (rdOut d σ rd I O).bx:=by
 intro i hi
 simp only [rdOut,lkB_app] at hi
 split at hi
 ·rename_i c hc
  have h1:=(ho.bx _ (lkB_mem _ _ _ hc)).1
  cases hq:i.isIt with
  |false=>rfl
  |true=>rw [inn_it hq] at h1;cases h1
 ·rw [lkB_rmBs] at hi
  split at hi
  ·cases hi
  ·exact hit i hi
theorem putObj_grown2 (W:World) (l:Nat) (o o':Obj):(W.putObj l o).grownBy (W.putObj l o') (some l):=
 ⟨rfl,rfl,rfl,by simp,fun k _ hk=>by rw [World.putObj_heap_other (fun e=>hk (by rw [e])),World.putObj_heap_other (fun e=>hk (by rw [e]))]⟩
theorem round_in {n l:Nat} {dr:Array Oper→List (List Nat)→List AOp→Bool} (hmix:P.follows .mixedOrders=true) (hda:DrawsAny P F.GL F.N dr) {asg bd:Code} {aasg abd:AC} (ok1:rdOk asg=true) (ok2:rdOk bd=true) (m1:mC P F.GL F.N dr asg aasg=true) (m2:mC P F.GL F.N dr bd abd=true)
  (h₀:Rel F S gb σ a w) (hit:noIt σ.bx) {d:Nat} (hd:d<F.N) {rd ps:List Nat} {x:List AV} {us:List Value} (hx:PRlist S gb0 x us) (hps:ps.Nodup) (hl:ps.length=x.length) (hN: ∀t∈ps,t<F.N)
  {rec:Loop} (hst:rec.state= .ready) (hrec:w.heap[l]?=some (.loop rec)) (hlF:F.w0.heap.size≤l) (hpe:rec.pending=none) {K:AE→St→Prop} (hw:wpRd (Spec P F.GL) d ps rd aasg abd x K σ) {fn:FuncId} {R:Ending→World→Prop}
  (hK: ∀(e:AE) (S':Mem) (gb':Gb) (σ':St) (W:World),S.le S'→Rel F S' gb' σ' a W→noIt σ'.bx→K e σ'→W.heap[l]?=some (.loop {rec with state:=if (jmp e).isNone then .ready else .done,pending:=jmp e})→
   (∀(k:Nat) (o:Obj),k≠l→w.heap[k]?=some o→o.isCells=false→W.heap[k]?=some o)→w.heap.size≤W.heap.size→(∀g,MO gb' σ' a W g→w.heap.size≤g∨MO gb σ a w g)→
   (∀g o,g<w.heap.size→ ¬MO gb σ a w g→S' g o=S g o)→(∀g,g<w.heap.size→ ¬MO gb σ a w g→g≠l→W.heap[g]?=w.heap[g]?)→R (.returned (.bool (jmp e).isNone)) W):
  RoundIn Fence.wide n P l fn ((ps.zip us).foldl (fun t (q:Nat×Value)=>t.setIfInBounds q.1 q.2) a.tmps) asg bd w R:=by
 obtain ⟨I,hI,hw⟩:=hw
 have h:=h₀.rebase a.defers
 have ha:({a with defers:=a.defers}:Act)=a:=rfl
 rw [ha] at h
 have hlt:l<w.heap.size:=(Array.getElem?_eq_some_iff.1 hrec).1
 have hnc: ∃o:Obj,w.heap[l]?=some o∧o.isCells=false:=⟨_,hrec,rfl⟩
 have hE:=round_entry h hI hx hps hl hN
 have hhr:=call_entry h hI.ok (rd_vs h rd) (rd_sl (a:=a))
 have hms: ∀k o,w.heap[k]?=some o→o.isCells=false→ ¬MS I gb (rdSv rd a) w k:=by
  rintro k o ho hc (⟨d',z,hd',he⟩|⟨p,q,hp,he⟩)
  ·exact hhr.box_ne hI.it ⟨o,ho,hc⟩ hd' he rfl
  ·exact own_ne ⟨o,ho,hc⟩ (hhr.own p q hp) he rfl
 refine roundIn_of_wpIn trivial ?_
 refine code_rnd (l:=l) (n:=n) (F:=rdFr F S gb a w rd I) hmix hda ok1 m1 (Q:=fun e τ=>e= .n∧(∀p∈τ.bx,p.1.isIt=false)∧wpA (Spec P F.GL) abd (rdPost d σ rd I K) τ) (fun _ _ hf=>hf) ?_ hE hw
 rintro e S2 gb2 σ2 a2 w2 hr2 ⟨rfl,hit2,hw2⟩
 have hit2:=noIt_of hit2
 have hrec2:w2.heap[l]?=some (.loop rec):=(hr2.bw.block l hlt (hms l _ hrec rfl)).trans hrec
 refine ⟨_,run_beginRound hrec2 hst,?_⟩
 have hlt2:l<w2.heap.size:=(Array.getElem?_eq_some_iff.1 hrec2).1
 obtain ⟨F',hF'⟩: ∃F':Fr,F'={rdFr F S gb a w rd I with M:=fun g=>(rdFr F S gb a w rd I).M g∨g=l}:=⟨_,rfl⟩
 have hr2':Rel F' S2 gb2 σ2 a2 w2:=by rw [hF'];exact hr2.widen (fun g hg=> .inl hg)
 obtain ⟨w3,hw3⟩: ∃w3,w3=w2.putObj l (.loop {rec with state:= .busy}):=⟨_,rfl⟩
 have hg3:w2.grownBy w3 (some l):=by rw [hw3];exact grownBy_putObj' w2 l _
 have hr3:Rel F' S2 gb2 σ2 a2 w3:=hr2'.abide hit2 hg3 (fun r e=>by cases e;exact ⟨.inr (by rw [hF'];exact .inr rfl),_,hrec2,rfl⟩)
 have hb3:w3.heap[l]?=some (.loop {rec with state:= .busy}):=by rw [hw3];exact World.putObj_heap_same hlt2
 have hrb:=hr3.rebase []
 have ha2:({a2 with defers:=[]}:Act)=a2:=by
  have:=hr2.defers
  obtain ⟨t,df⟩:=a2
  simp only at this
  subst this
  rfl
 rw [ha2] at hrb
 rw [←hw3]
 have hGL:(F'.at S2 gb2 σ2 a2 w3 []).GL=F.GL:=by rw [hF'];rfl
 have hNN:(F'.at S2 gb2 σ2 a2 w3 []).N=F.N:=by rw [hF'];rfl
 refine code_rnd (l:=l) (n:=n) (F:=F'.at S2 gb2 σ2 a2 w3 []) hmix (by rw [hGL,hNN];exact hda) ok2 (by rw [hGL,hNN];exact m2) (Q:=rdPost d σ rd I K) (fun _ _ hf=>hf) ?_ hrb (by rw [hGL];exact hw2)
 rintro e S4 gb4 σ4 a4 w4 hr4 ⟨O,hq,hc,hit4,hk⟩
 have hit4:=noIt_of hit4
 have hb4:w4.heap[l]?=some (.loop {rec with state:= .busy}):=by
  refine (hr4.bw.block l (Array.getElem?_eq_some_iff.1 hb3).1 ?_).trans hb3
  exact MO.ne hr3.hr hit2 ⟨_,hb3,rfl⟩
 have hlt4:l<w4.heap.size:=(Array.getElem?_eq_some_iff.1 hb4).1
 have hr4':=hr3.unrebase hr4
 have hdf:{F' with df:=([]:List Deferred)}=F':=by rw [hF']
 rw [hdf] at hr4'
 have hr5:Rel F' S4 gb4 σ4 a4 (w4.putObj l (.loop rec)):=hr4'.abide hit4 (grownBy_putObj' w4 l _) (fun r e=>by cases e;exact ⟨.inr (by rw [hF'];exact .inr rfl),_,hb4,rfl⟩)
 have h5:(w4.putObj l (.loop rec)).heap[l]?=some (.loop rec):=World.putObj_heap_same hlt4
 rw [hF'] at hr5
 have hr6:=hr5.narrow hit4 (h5.trans hrec.symm) ⟨_,h5,rfl⟩ (fun o=>agree_none h₀.hr hnc o)
 obtain ⟨S7,gb7,hS7,hr7⟩:=round_exit h hd hc hr6 hq
 obtain ⟨τ,_,hok⟩:=hq
 have hit7:=noIt_out hit (rd:=rd) (I:=I) hok
 have fin: ∀jump:Option Code,jump=jmp e→ ∃v w',(Instr.endRound l jump).run P w4= .ok v w'∧R (.returned v) w':=by
  rintro jump rfl
  have hu:=h₀.unrebase hr7
  have hdf':{F with df:=a.defers}=F:=by rw [h₀.defers]
  rw [hdf'] at hu
  have hg7:=putObj_grown2 w4 l (.loop rec) (.loop {rec with state:=if (jmp e).isNone then .ready else .done,pending:=jmp e})
  have hab:=hu.abide hit7 hg7 (fun r e=>by cases e;exact ⟨.inl hlF,_,h5,rfl⟩)
  refine ⟨_,_,run_endRound _ hb4,hK e S7 gb7 _ _ hS7 hab hit7 hk (World.putObj_heap_same hlt4) (fun k o hkl ho hoc=>?_) ?_ (fun g hg=>?_) (fun g o hg hn=>hr7.ext g o hg hn) (fun g hg hn hgl=>?_)⟩
  ·rw [World.putObj_heap_other hkl]
   have hk5:(w4.putObj l (.loop rec)).heap[k]?=some o:=(hr6.bw.block k (Array.getElem?_eq_some_iff.1 ho).1 (hms k o ho hoc)).trans ho
   rwa [World.putObj_heap_other hkl] at hk5
  ·refine Nat.le_trans (show w.heap.size≤_ from hr7.bw.size) ?_
   simp [World.putObj]
  ·have hg2:MO gb7 (rdOut d σ rd I O) a (w4.putObj l (.loop rec)) g:=by
    rcases hg with hg|⟨p,k,hp,he⟩
    ·exact .inl hg
    ·refine .inr ⟨p,k,hp,?_⟩
     rwa [plv_abide hu.hr hit7 hg7 (fun r e=>by cases e;exact ⟨_,h5,rfl⟩) hp] at he
   exact MO.of hr7 hg2
  ·rw [World.putObj_heap_other hgl]
   have:=hr7.bw.block g hg hn
   rwa [World.putObj_heap_other hgl] at this
 cases e with
 |n=>exact fin none rfl
 |r=>exact fin (some .ret) rfl
 |x i=>exact fin (some (.exit i)) rfl
end Go.Ai
namespace Go.Ai
open Go.RowKit
variable {P:Program} {F:Fr} {S:Mem} {gb:Gb} {σ:St} {a:Act} {w:World}
def Agrees (S:Mem) (W:World):Prop:= ∀g o v,S g o=some v→W.cell? ⟨g,o,none⟩=some v
structure Mv (T T':Nat→Prop) (S S':Mem) (W W':World):Prop where
 bw:Bw T W W'
 le:S.le S'
 agr:Agrees S' W'
 new: ∀g o,g<W.heap.size→ ¬T g→S' g o=S g o
 sub: ∀g,T' g→T g∨(W.heap.size≤g∧g<W'.heap.size)
 no: ∀g,T' g→ ∀o,S' g o=none
structure Tells (P:Program) (l:Nat) (xs:List (List AV)) (J:Nat→(Nat→Prop)→Mem→World→Prop) (Jx:(Nat→Prop)→Mem→World→Prop):Prop where
 move: ∀k T T' S S' W W',J k T S W→Mv T T' S S' W W'→J k T' S' W'
 moveX: ∀T T' S S' W W',Jx T S W→Mv T T' S S' W W'→Jx T' S' W'
 round: ∀k T S W x (u:Array Value),xs[k]?=some x→PRlist S gb0 x u.toList→J k T S W→YieldAt Fence.wide 0 P l u W fun e W'=>W.heap.size≤W'.heap.size∧W'.os=W.os∧W'.tape=W.tape∧W'.output=W.output∧(∀g,T g→W'.heap[g]?=W.heap[g]?)∧
   ∃S':Mem,S.le S'∧Agrees S' W'∧(∀g,T g→ ∀o,S' g o=none)∧((e= .returned (.bool true)∧J (k+1) T S' W')∨(e= .returned (.bool false)∧Jx T S' W'))
def IterOk (P:Program) (gf:Nat) (lb:Array Value) (xs:List (List AV)) (S:Mem) (gb:Gb) (bxs:List (Id×List AV)):Prop:=
 ∀(l:Nat) (J:Nat→(Nat→Prop)→Mem→World→Prop) (Jx:(Nat→Prop)→Mem→World→Prop),Tells P l xs J Jx→
  ∀W,J 0 (fun _=>False) S W→HR S gb bxs [] (fun _=>undef) W→
   CallsIn Fence.wide 0 P gf (#[.func (.yield l) #[] #[]]++lb) W fun e W'=>(∃v,e= .returned v)∧((∃T S',J xs.length T S' W')∨ ∃T S',Jx T S' W')
def wpRs (Sp:Nat→Nat→In→Out→Prop) (d:Nat) (ps rd:List Nat) (asg bd:AC):List (List AV)→(AE→St→Prop)→St→Prop
 |[],K,σ=>K .n σ
 |x::r,K,σ=>wpRd Sp d ps rd asg bd x (fun e τ=>match e with | .n=>wpRs Sp d ps rd asg bd r K τ|e=>K e τ) σ
structure RJ (F:Fr) (S0:Mem) (a:Act) (n0:Nat) (Q:St→Prop) (rec:Loop) (l D:Nat) (T:Nat→Prop) (W:World) (S:Mem) (gb:Gb) (σ:St):Prop where
 rel:Rel F S gb σ a W
 le:S0.le S
 it:noIt σ.bx
 q:Q σ
 rc:W.heap[l]?=some (.loop rec)
 df:W.heap[D]?=some (.deferred (some []))
 t: ∀g,T g→n0≤g∧g<W.heap.size∧ ¬MO gb σ a W g∧(∀o,S g o=none)
theorem RJ.move {S0 S':Mem} {n0:Nat} {Q:St→Prop} {rec:Loop} {l D:Nat} {T T':Nat→Prop} {W:World} (h:RJ F S0 a n0 Q rec l D T W S gb σ) (hF:F.w0.heap.size≤n0) (hl:l<n0) (hD:D<n0) (hn:n0≤W.heap.size) {W':World} (hm:Mv T T' S S' W W'):
  RJ F S0 a n0 Q rec l D T' W' S' gb σ:=by
 have hb:=hm.bw
 have hT: ∀g,g<n0→ ¬T g:=fun g hg ht=>by have:=(h.t g ht).1;omega
 have hB: ∀d g z,(lkB σ.bx d).isSome→gb d=some (g,z)→g<W.heap.size∧ ¬T g:=fun d g z hd hg=>
  ⟨HR.gblt h.rel.hr hd hg,fun ht=>(h.t g ht).2.2.1 (.inl ⟨d,z,hd,hg⟩)⟩
 have hO: ∀p k g,lkP σ.pm p=some k→(plv gb (tv a) W p).ownBlock=some g→g<W.heap.size∧ ¬T g:=fun p k g hp hg=>
  ⟨(h.rel.hr.own p k hp).lt hg,fun ht=>(h.t g ht).2.2.1 (.inr ⟨p,k,hp,hg⟩)⟩
 have hpl: ∀p k,lkP σ.pm p=some k→plv gb (tv a) W' p=plv gb (tv a) W p:=by
  intro p k hp
  cases p with
  |s t=>rfl
  |t t i=>rfl
  |b d off=>
   obtain ⟨h1,h2⟩:=h.rel.hr.pmb d off k hp
   simp only [plv]
   cases hg:gb d with
   |none=>rfl
   |some q=>
    obtain ⟨g,z⟩:=q
    dsimp only
    rw [World.cell?_of_block (a:=⟨g,off,none⟩) (hb.block g (hB d g z h1 hg).1 (hB d g z h1 hg).2)]
 have hr:HR S' gb σ.bx σ.pm (tv a) W':=by
  refine ⟨hm.agr,?_,?_,h.rel.hr.inj,?_,?_,?_,h.rel.hr.pmb⟩
  ·intro d cs hcs hi
   obtain ⟨g,us,T',e1,e3,e0,e4,e5,e6⟩:=h.rel.hr.box d cs hcs hi
   obtain ⟨q1,q2⟩:=hB d g _ (by rw [hcs];rfl) e1
   exact ⟨g,us,T',e1,(hb.block g q1 q2).trans e3,e0,PRlist.mono hm.le (Gb.le.refl _) _ _ e4,e5,fun o=>(hm.new g o q1 q2).trans (e6 o)⟩
  ·intro d cs hcs hi
   have:=h.it d (by rw [hcs];rfl)
   rw [hi] at this;cases this
  ·intro p k hp
   rw [hpl p k hp]
   exact (h.rel.hr.own p k hp).mono (fun g hg=>hb.block g (hO p k g hp hg).1 (hO p k g hp hg).2) (fun g o hg e=>(hm.new g o (hO p k g hp hg).1 (hO p k g hp hg).2).trans e)
  ·intro p q k l b hp hq h1 h2
   rw [hpl p k hp] at h1
   rw [hpl q l hq] at h2
   exact h.rel.hr.ownd p q k l b hp hq h1 h2
  ·intro p k b d z hp h1
   rw [hpl p k hp] at h1
   exact h.rel.hr.ownb p k b d z hp h1
 have hmo: ∀g,MO gb σ a W' g→MO gb σ a W g:=by
  rintro g (hg|⟨p,k,hp,he⟩)
  ·exact .inl hg
  ·exact .inr ⟨p,k,hp,by rwa [hpl p k hp] at he⟩
 have hlt: ∀ {k:Nat},k<F.w0.heap.size→k<W.heap.size∧ ¬T k:=fun {k} hk=>⟨Nat.lt_of_lt_of_le hk h.rel.bw.size,hT k (by omega)⟩
 refine ⟨⟨h.rel.defers,h.rel.size,⟨hb.os.trans h.rel.bw.os,hb.tape.trans h.rel.bw.tape,hb.output.trans h.rel.bw.output,Nat.le_trans h.rel.bw.size hb.size,fun k hk hnM=>?_⟩,fun g o hg hnM=>?_,Mem.le.trans h.rel.le hm.le,fun t=>PR.mono hm.le (Gb.le.refl _) _ _ (h.rel.env t),hr,h.rel.newb,?_,h.rel.dom,h.rel.up,h.rel.glo⟩,Mem.le.trans h.le hm.le,h.it,h.q,?_,?_,?_⟩
 ·exact (hb.block k (hlt hk).1 (hlt hk).2).trans (h.rel.bw.block k hk hnM)
 ·exact (hm.new g o (hlt hg).1 (hlt hg).2).trans (h.rel.ext g o hg hnM)
 ·intro p k g hp hg
  rw [hpl p k hp] at hg
  exact h.rel.newo p k g hp hg
 ·exact (hb.block l (by omega) (hT l hl)).trans h.rc
 ·exact (hb.block D (by omega) (hT D hD)).trans h.df
 ·intro g hg
  rcases hm.sub g hg with ht|⟨h1,h2⟩
  ·obtain ⟨t1,t2,t3,t4⟩:=h.t g ht
   exact ⟨t1,Nat.lt_of_lt_of_le t2 hb.size,fun hm=>t3 (hmo g hm),hm.no g hg⟩
  ·refine ⟨by omega,h2,fun hq=>?_,hm.no g hg⟩
   rcases hmo g hq with ⟨d,z,hd,hg⟩|⟨p,k,hp,hg⟩
   ·have:=HR.gblt h.rel.hr hd hg
    omega
   ·have:=(h.rel.hr.own p k hp).lt hg
    omega
theorem HR.boxes {bx:List (Id×List AV)} {pm:List (Pl×Nat)} {sv sv':Nat→Value} (h:HR S gb bx pm sv w) {bxs:List (Id×List AV)} (hbx: ∀d cs,lkB bxs d=some cs→wkB bx d cs):HR S gb bxs [] sv' w:=by
 obtain ⟨w1,w2,w3⟩:=h.weaker (bx':=bxs) hbx
 exact ⟨h.agree,w1,w2,fun e e' g z z' i1 i2=>h.inj e e' g z z' (w3 e i1) (w3 e' i2),(fun p k hp=>by cases hp),(fun p q k l b hp=>by cases hp),(fun p k b d z hp=>by cases hp),(fun d off k hp=>by cases hp)⟩
theorem fold_arr (pa:Array Nat) (us:Array Value) (tm:Array Value):(pa.zip us).foldl (fun t (q:Nat×Value)=>t.setIfInBounds q.1 q.2) tm=(pa.toList.zip us.toList).foldl (fun t (q:Nat×Value)=>t.setIfInBounds q.1 q.2) tm:=by
 rw [←Array.toList_zip,Array.foldl_toList]
theorem rf_sound {dr:Array Oper→List (List Nat)→List AOp→Bool} (hmix:P.follows .mixedOrders=true) (hda:DrawsAny P F.GL F.N dr) {asg bd:Code} {aasg abd:AC} (ok1:rdOk asg=true) (ok2:rdOk bd=true) (m1:mC P F.GL F.N dr asg aasg=true) (m2:mC P F.GL F.N dr bd abd=true)
  (h:Rel F S gb σ a w) (hit:noIt σ.bx) {d:Nat} (hd:d<F.N) {rd:List Nat} {pa:Array Nat} (hps:pa.toList.Nodup) (hN: ∀t∈pa.toList,t<F.N)
  {g:Operand} {gf:Nat} {lb:Array Value} (hg:a.eval g= .func (.func gf) #[] lb) (eg: ∀args w,(callFunc gf args).run P w= .ok (.enter gf args) w)
  {xs:List (List AV)} (hlen: ∀x∈xs,pa.toList.length=x.length) {bxs:List (Id×List AV)} (hbx: ∀d cs,lkB bxs d=some cs→wkB σ.bx d cs) (hI:IterOk P gf lb xs S gb bxs)
  {K:AE→St→Prop} (hw:wpRs (Spec P F.GL) d pa.toList rd aasg abd xs K σ) {Q':Exit→Act→World→Prop}
  (hQ: ∀(e:AE) (D:Nat) (S':Mem) (gb':Gb) (σ':St) (W:World),Rel F S' gb' σ' a W→noIt σ'.bx→K e σ'→W.heap[D]?=some (.deferred (some []))→F.w0.heap.size≤D→Q' (toE e) {a with defers:={target:= .collected D,args:= #[]}::a.defers} W):
  (Code.rangeFunc g pa asg bd).wpIn Fence.wide 0 P Q' a w:=by
 refine wpIn_rangeFunc ?_
 intro fn hfn
 obtain ⟨rec,hrec⟩: ∃rec:Loop,rec={state:= .ready,pending:=none,fn,tmps:=a.tmps,params:=pa,assign:=asg,body:=bd,defers:=w.heap.size}:=⟨_,rfl⟩
 obtain ⟨W1,hW1⟩: ∃W1,(w.alloc (.deferred (some []))).alloc (.loop rec)=W1:=⟨_,rfl⟩
 obtain ⟨l,hl⟩: ∃l,l=w.heap.size+1:=⟨_,rfl⟩
 obtain ⟨D,hD⟩: ∃D,D=w.heap.size:=⟨_,rfl⟩
 obtain ⟨n0,hn0⟩: ∃n0,n0=w.heap.size+2:=⟨_,rfl⟩
 have hsz1:W1.heap.size=n0:=by rw [←hW1,hn0];simp [World.size_alloc]
 have hL1:W1.heap[l]?=some (.loop rec):=by
  rw [←hW1,hl];have:=World.alloc_heap_new (w.alloc (.deferred (some []))) (.loop rec);rwa [World.size_alloc] at this
 have hK1:W1.heap[D]?=some (.deferred (some [])):=by
  rw [←hW1,hD];exact (Below.heap_alloc _ _ _ (by simp)).trans (World.alloc_heap_new w _)
 have hR1:Rel F S gb σ a W1:=by
  rw [←hW1]
  exact (h.abide hit (World.grownBy_alloc w _ none) (fun r e=>by cases e)).abide hit (World.grownBy_alloc _ _ none) (fun r e=>by cases e)
 have hFn:F.w0.heap.size≤w.heap.size:=h.bw.size
 refine ⟨l,[{target:= .collected D,args:= #[]}],W1,{target:= .fn (.func gf) lb,args:= #[.func (.yield l) #[] #[]]},W1,gf,#[.func (.yield l) #[] #[]]++lb,W1,?_,?_,fun _ _=>trivial,?_,(fun h=>by cases h),?_⟩
 ·rw [←hW1,hrec,hl,hD];exact run_enterLoop_outer _ _ _ _ _
 ·simp only [resolve,hg]
  simp [go_sem]
 ·simp [invoke,go_sem,eg]
 refine (hI l (fun k T S' W=>n0≤W.heap.size∧ ∃gb' σ',RJ F S a n0 (fun τ=>wpRs (Spec P F.GL) d pa.toList rd aasg abd (xs.drop k) K τ) rec l D T W S' gb' σ')
  (fun T S' W=>n0≤W.heap.size∧ ∃e gb' σ',e≠ .n∧RJ F S a n0 (K e) {rec with state:= .done,pending:=jmp e} l D T W S' gb' σ') ⟨?_,?_,?_⟩ W1 ⟨by omega,gb,σ,hR1,Mem.le.refl _,hit,hw,hL1,hK1,fun g hg=>hg.elim⟩ (HR.boxes hR1.hr hbx)).mono ?_
 ·rintro k T T' S1 S2 W W' ⟨hn,gb',σ',rj⟩ hb
  exact ⟨Nat.le_trans hn hb.bw.size,gb',σ',rj.move (by omega) (by omega) (by omega) hn hb⟩
 ·rintro T T' S1 S2 W W' ⟨hn,e,gb',σ',he,rj⟩ hb
  exact ⟨Nat.le_trans hn hb.bw.size,e,gb',σ',he,rj.move (by omega) (by omega) (by omega) hn hb⟩
 ·rintro k T S' W x u hx hxu ⟨hn,gb',σ',rj⟩
  obtain ⟨hk,hxe⟩:=List.getElem?_eq_some_iff.1 hx
  have hxm:x∈xs:=List.mem_of_getElem? hx
  have hxl:=hlen x hxm
  have hq:=rj.q
  rw [List.drop_eq_getElem_cons hk,hxe] at hq
  simp only [wpRs] at hq
  have husz:u.size=rec.params.size:=by
   have:=hxu.length
   have hpp:rec.params=pa:=by rw [hrec]
   rw [hpp]
   simp only [Array.length_toList] at this hxl
   omega
  refine ⟨_,_,_,_,run_yield rj.rc husz,?_⟩
  have hfold:((rec.params.zip u).foldl (fun (tmps:Array Value) (q:Nat×Value)=>tmps.setIfInBounds q.1 q.2) rec.tmps)=(pa.toList.zip u.toList).foldl (fun t (q:Nat×Value)=>t.setIfInBounds q.1 q.2) a.tmps:=by
   rw [hrec];exact fold_arr pa u a.tmps
  have hA:rec.assign=asg:=by rw [hrec]
  have hB:rec.body=bd:=by rw [hrec]
  have:=round_in (n:=0) (l:=l) (fn:=rec.fn) hmix hda ok1 ok2 m1 m2 rj.rel rj.it hd (rd:=rd) hxu hps hxl hN (rec:=rec) (by rw [hrec]) rj.rc (by omega) (by rw [hrec]) hq
   (R:=fun e W'=>W.heap.size≤W'.heap.size∧W'.os=W.os∧W'.tape=W.tape∧W'.output=W.output∧(∀g,T g→W'.heap[g]?=W.heap[g]?)∧
    ∃S2:Mem,S'.le S2∧Agrees S2 W'∧(∀g,T g→ ∀o,S2 g o=none)∧
    ((e= .returned (.bool true)∧(n0≤W'.heap.size∧ ∃gb' σ',RJ F S a n0 (fun τ=>wpRs (Spec P F.GL) d pa.toList rd aasg abd (xs.drop (k+1)) K τ) rec l D T W' S2 gb' σ'))∨
     (e= .returned (.bool false)∧(n0≤W'.heap.size∧ ∃e gb' σ',e≠ .n∧RJ F S a n0 (K e) {rec with state:= .done,pending:=jmp e} l D T W' S2 gb' σ')))) ?_
  ·rw [←hfold,←hA,←hB] at this
   exact this
  intro e S2 gb2 σ2 W2 hle hrel hit2 hk2 hrc2 hoth hsz hmo hext hblk
  have ht2: ∀g,T g→n0≤g∧g<W2.heap.size∧ ¬MO gb2 σ2 a W2 g∧(∀o,S2 g o=none):=by
   intro g hg
   obtain ⟨t1,t2,t3,t4⟩:=rj.t g hg
   refine ⟨t1,by omega,fun hm=>?_,fun o=>(hext g o t2 t3).trans (t4 o)⟩
   rcases hmo g hm with h1|h1
   ·omega
   ·exact t3 h1
  have hdf2:W2.heap[D]?=some (.deferred (some [])):=hoth D _ (by omega) rj.df rfl
  refine ⟨hsz,hrel.bw.os.trans rj.rel.bw.os.symm,hrel.bw.tape.trans rj.rel.bw.tape.symm,hrel.bw.output.trans rj.rel.bw.output.symm,fun g hg=>?_,S2,hle,hrel.hr.agree,fun g hg=>(ht2 g hg).2.2.2,?_⟩
  ·obtain ⟨t1,t2,t3,t4⟩:=rj.t g hg
   exact hblk g t2 t3 (by omega)
  ·have hle2:=Mem.le.trans rj.le hle
   cases e with
   |n=>
    have hrr:({rec with state:= .ready,pending:=none}:Loop)=rec:=by rw [hrec]
    simp only [jmp,Option.isNone_none,if_true] at hrc2
    rw [hrr] at hrc2
    exact .inl ⟨rfl,by omega,gb2,σ2,hrel,hle2,hit2,hk2,hrc2,hdf2,ht2⟩
   |r=>exact .inr ⟨rfl,by omega,.r,gb2,σ2,by simp,hrel,hle2,hit2,hk2,hrc2,hdf2,ht2⟩
   |x i=>exact .inr ⟨rfl,by omega,.x i,gb2,σ2,by simp,hrel,hle2,hit2,hk2,hrc2,hdf2,ht2⟩
 ·rintro e W2 ⟨⟨v,rfl⟩,(⟨T,S',hn,gb',σ',rj⟩|⟨T,S',hn,e,gb',σ',he,rj⟩)⟩
  ·have hend:=run_endLoop (P:=P) rj.rc (by rw [hrec];simp)
   have hpn:rec.pending=none:=by rw [hrec]
   rw [hpn] at hend
   refine ⟨none,_,hend,?_⟩
   have hq:=rj.q
   rw [List.drop_length] at hq
   exact hQ .n D S' gb' σ' _ (rj.rel.abide rj.it (grownBy_putObj' W2 l _) (fun r e=>by cases e;exact ⟨.inl (by omega),_,rj.rc,rfl⟩)) rj.it hq ((World.putObj_heap_other (by omega)).trans rj.df) (by omega)
  ·have hend:=run_endLoop (P:=P) rj.rc (by simp)
   have fin: ∀o,Q' (toE e) {a with defers:={target:= .collected D,args:= #[]}::a.defers} (W2.putObj l (.loop o)):=fun o=>
    hQ e D S' gb' σ' _ (rj.rel.abide rj.it (grownBy_putObj' W2 l _) (fun r e=>by cases e;exact ⟨.inl (by omega),_,rj.rc,rfl⟩)) rj.it rj.q ((World.putObj_heap_other (by omega)).trans rj.df) (by omega)
   cases e with
   |n=>exact absurd rfl he
   |r=>exact ⟨some .ret,_,hend,wpIn_ret (fin _)⟩
   |x i=>exact ⟨some (.exit i),_,hend,wpIn_exit (fin _)⟩
end Go.Ai
namespace Go.Ai
open Go.RowKit
variable {P:Program} {F:Fr} {S:Mem} {gb:Gb} {σ:St} {a:Act} {w:World}
inductive ACF where
 |c (a:AC)
 |rf (d:Nat) (g:X) (ps rd:List Nat) (asg bd:AC)
 |sq (x y:ACF)
 |bl (i:Nat) (x:ACF)
def IterS (P:Program) (GL:List (Nat×List Value)) (gf:Nat) (caps:List AV) (bxs:List (Id×List AV)) (xs:List (List AV)):Prop:=
 (∀args w,(callFunc gf args).run P w= .ok (.enter gf args) w)∧
 ∀(S:Mem) (gb:Gb) (us:List Value),PRlist S gb caps us→(∀i us,GL.lookup i=some us→ ∀(o:Nat) (u:Value),us[o]?=some u→S i o=some u∧u.oneCell'=true)→IterOk P gf us.toArray xs S gb bxs
def wpF (Sp:Nat→Nat→In→Out→Prop) (It:Nat→List AV→List (Id×List AV)→List (List AV)→Prop):ACF→(AE→St→Prop)→St→Prop
 | .c a,Q,σ=>wpA Sp a Q σ
 | .rf d g ps rd asg bd,Q,σ=>(∀p∈σ.bx,p.1.isIt=false)∧ ∃gf caps bxs xs,σ.v g= .fn gf caps∧(∀d cs,lkB bxs d=some cs→wkB σ.bx d cs)∧It gf caps bxs xs∧(∀x∈xs,ps.length=x.length)∧wpRs Sp d ps rd asg bd xs Q (rdNorm d σ)
 | .sq x y,Q,σ=>wpF Sp It x (AE.sq (wpF Sp It y Q) Q) σ
 | .bl i x,Q,σ=>wpF Sp It x (AE.bl i Q) σ
def mCF (P:Program) (GL:List (Nat×List Value)) (N:Nat) (dr:Array Oper→List (List Nat)→List AOp→Bool):Code→ACF→Bool
 |c,.c a=>mC P GL N dr c a
 | .seq x y,.sq x' y'=>mCF P GL N dr x x'&&mCF P GL N dr y y'
 | .block i x,.bl j x'=>i==j&&mCF P GL N dr x x'
 | .rangeFunc g pa asg bd,.rf d g' ps rd aasg abd=>mX GL g' g&&pa.toList==ps&&decide ps.Nodup&&ps.all (fun t=>Nat.blt t N)&&Nat.blt d N&&rdOk asg&&rdOk bd&&mC P GL N dr asg aasg&&mC P GL N dr bd abd
 |_,_=>false
structure Ext (F F2:Fr):Prop where
 N:F2.N=F.N
 GL:F2.GL=F.GL
 w0:F.w0.heap.size≤F2.w0.heap.size
 back: ∀df {S gb σ a w},Rel {F2 with df:=df} S gb σ a w→Rel {F with df:=df} S gb σ a w
 marks: ∀m∈F2.df,∃D,m=⟨.collected D,#[]⟩∧F.w0.heap.size≤D∧D<F2.w0.heap.size∧F2.w0.heap[D]?=some (.deferred (some []))∧ ¬F2.M D
 nodup:F2.df.Nodup
theorem code_F {dr:Array Oper→List (List Nat)→List AOp→Bool} (hmix:P.follows .mixedOrders=true) (hda:DrawsAny P F.GL F.N dr) (hdo:DrawsOk P F.GL F.N dr): ∀ {ac:ACF} {c:Code},mCF P F.GL F.N dr c ac=true→ ∀ {Q:AE→St→Prop} {Q':Exit→Act→World→Prop},
  (∀e F2 S gb σ a w,Ext F F2→Rel F2 S gb σ a w→Q e σ→Q' (toE e) a w)→ ∀ {F2:Fr} {S:Mem} {gb:Gb} {σ:St} {a:Act} {w:World},Ext F F2→Rel F2 S gb σ a w→wpF (Spec P F.GL) (IterS P F.GL) ac Q σ→c.wpIn Fence.wide 0 P Q' a w:=by
 intro ac
 induction ac with
 |c ac=>
  intro c hm Q Q' hQ F2 S gb σ a w hE h hw
  have hm:mC P F.GL F.N dr c ac=true:=by cases c<;>exact hm
  refine wpIn_wide.2 (code_sound (F:=F2) (dr:=dr) (by rw [hE.GL,hE.N];exact hdo) (by rw [hE.GL,hE.N];exact hm) (Q:=Q) (fun e S gb σ a w hr hq=>hQ e F2 S gb σ a w hE hr hq) h (by rw [hE.GL];exact hw))
 |rf d g ps rd aasg abd=>
  intro c hm Q Q' hQ F2 S gb σ a w hE h hw
  cases c<;>simp only [mCF,Bool.and_eq_true,Bool.false_eq_true,beq_iff_eq,decide_eq_true_eq,List.all_eq_true] at hm
  rename_i g' pa asg bd
  obtain ⟨⟨⟨⟨⟨⟨⟨⟨h1,h2⟩,h3⟩,h4⟩,h5⟩,h6⟩,h7⟩,h8⟩,h9⟩:=hm
  subst h2
  obtain ⟨hit,gf,caps,bxs,xs,hv,hbx,⟨eg,hIt⟩,hlen,hw⟩:=hw
  have hit:=noIt_of hit
  have hpr:=mX_sound h (y:=g') (by rw [hE.GL];exact h1)
  rw [hv] at hpr
  simp only [PR] at hpr
  obtain ⟨us,hev,hus⟩:=hpr
  have hI:=hIt S gb us.toList hus (fun i us hi o u hu=>by
   have:=h.glo i us (by rw [hE.GL];exact hi) o u hu
   exact ⟨h.le _ _ _ this.1,this.2⟩)
  refine rf_sound (F:=F2) (dr:=dr) hmix (by rw [hE.GL,hE.N];exact hda) h6 h7 (by rw [hE.GL,hE.N];exact h8) (by rw [hE.GL,hE.N];exact h9) (h.norm (d:=d) (by rw [hE.N];exact (Nat.blt_eq▸h5))) hit (by rw [hE.N];exact (Nat.blt_eq▸h5)) (rd:=rd) h3 (fun t ht=>by rw [hE.N];exact (Nat.blt_eq▸h4 t ht)) hev eg hlen (bxs:=bxs) hbx (by simpa using hI) (K:=Q) (by rw [hE.GL];exact hw) ?_
  intro e D S' gb' σ' W hrel hit' hq hD hDF
  have hDn: ∃o:Obj,W.heap[D]?=some o∧o.isCells=false:=⟨_,hD,rfl⟩
  refine hQ e (F2.at S' gb' σ' a W ({target:= .collected D,args:= #[]}::a.defers)) S' gb' σ' _ W ⟨hE.N,hE.GL,Nat.le_trans hE.w0 hrel.bw.size,fun df {S gb σ a w} hr=>hE.back df (hrel.unrebase (df:=df) hr),?_,?_⟩ (hrel.rebase _) hq
  ·intro m hm
   have hm:m∈({target:= .collected D,args:= #[]}:Deferred)::a.defers:=hm
   rcases List.mem_cons.1 hm with rfl|hm
   ·exact ⟨D,rfl,Nat.le_trans hE.w0 hDF,(Array.getElem?_eq_some_iff.1 hD).1,hD,MO.ne hrel.hr hit' hDn⟩
   ·rw [h.defers] at hm
    obtain ⟨D',rfl,q1,q2,q3,q4⟩:=hE.marks m hm
    have q5:W.heap[D']?=some (.deferred (some [])):=(hrel.bw.block D' q2 q4).trans q3
    exact ⟨D',rfl,q1,Nat.lt_of_lt_of_le q2 hrel.bw.size,q5,MO.ne hrel.hr hit' ⟨_,q5,rfl⟩⟩
  ·show (({target:= .collected D,args:= #[]}:Deferred)::a.defers).Nodup
   rw [h.defers,List.nodup_cons]
   refine ⟨fun hm=>?_,hE.nodup⟩
   obtain ⟨D',e1,q1,q2,q3,q4⟩:=hE.marks _ hm
   have:D=D':=by cases e1;rfl
   omega
 |sq x y ihx ihy=>
  intro c hm Q Q' hQ F2 S gb σ a w hE h hw
  cases c<;>simp only [mCF,Bool.and_eq_true,Bool.false_eq_true] at hm
  rename_i cx cy
  refine wpIn_seq (ihx hm.1 (Q:=AE.sq (wpF (Spec P F.GL) (IterS P F.GL) y Q) Q) (Q':=Exit.then (cy.wpIn Fence.wide 0 P Q') Q') ?_ hE h hw)
  intro e F3 S gb σ a w hE3 h' hq
  cases e
  ·exact ihy hm.2 hQ hE3 h' hq
  ·exact hQ (.x _) _ _ _ _ _ _ hE3 h' hq
  ·exact hQ .r _ _ _ _ _ _ hE3 h' hq
 |bl i x ih=>
  intro c hm Q Q' hQ F2 S gb σ a w hE h hw
  cases c<;>simp only [mCF,Bool.and_eq_true,Bool.false_eq_true,beq_iff_eq] at hm
  obtain ⟨rfl,hx⟩:=hm
  rename_i i cx
  refine wpIn_block (ih hx (Q:=AE.bl i Q) (Q':=Exit.inBlock i Q') ?_ hE h hw)
  intro e F3 S gb σ a w hE3 h' hq
  cases e
  ·exact hQ .n _ _ _ _ _ _ hE3 h' hq
  ·rename_i j
   simp only [toE,Exit.inBlock]
   simp only [AE.bl] at hq
   split at hq
   ·rename_i e;rw [if_pos e];exact hQ .n _ _ _ _ _ _ hE3 h' hq
   ·rename_i e;rw [if_neg e];exact hQ (.x _) _ _ _ _ _ _ hE3 h' hq
  ·exact hQ .r _ _ _ _ _ _ hE3 h' hq
theorem leavesM {fn:Func} {tmps:Array Value} {R:Ending→World→Prop} {df:List Deferred} (hit:noIt σ.bx) (fin: ∀w,Rel {F with df:=df} S gb σ a w→ ∃v,(results fn tmps).run P w= .ok v w∧R (.returned v) w):
  ∀(ds:List Deferred) (w:World),Rel {F with df:=df} S gb σ a w→(∀m∈ds,∃D,m=⟨.collected D,#[]⟩∧F.w0.heap.size≤D∧w.heap[D]?=some (.deferred (some [])))→ds.Nodup→LeavesInM Fence.wide 0 P fn tmps R ds .returning w
 |[],w,h,_,_=>fin w h
 |m::ds,w,h,hm,hn=>by
  obtain ⟨D,rfl,h1,h2⟩:=hm m (by simp)
  rw [List.nodup_cons] at hn
  refine ⟨by simp,.inl ⟨D,_,rfl,run_takeDeferred h2,leavesM hit fin ds _ (h.abide hit (grownBy_putObj' w D _) (fun r e=>by cases e;exact ⟨.inl h1,_,h2,rfl⟩)) (fun m' hm'=>?_) hn.2⟩⟩
  obtain ⟨D',rfl,q1,q2⟩:=hm m' (by simp [hm'])
  refine ⟨D',rfl,q1,?_⟩
  rw [World.putObj_heap_other (fun e=>hn.1 (by rw [e] at hm';exact hm'))]
  exact q2
structure AFF where
 c:ACF
 rs:List AR
 np:Nat
 N:Nat
def mFF (P:Program) (GL:List (Nat×List Value)) (dr:Array Oper→List (List Nat)→List AOp→Bool) (fn:Func) (f:AFF):Bool:=
 fn.name != "runtime.NumGoroutine"&&fn.params.size+fn.nfree==f.np&&fn.ntmps==f.N&&Nat.ble f.np f.N&&mRs P f.rs fn.results.toList&&(match fn.body with |some c=>mCF P GL f.N dr c f.c|none=>false)
theorem fun_soundRF {GL:List (Nat×List Value)} {dr:Array Oper→List (List Nat)→List AOp→Bool} (hmix:P.follows .mixedOrders=true) {f:Nat} {fn:Func} {af:AFF} (hf:P.funcs[f]?=some fn) (hm:mFF P GL dr fn af=true) (hda:DrawsAny P GL af.N dr) (hd:DrawsOk P GL af.N dr) {d:Nat} {I:In} {O:Out} (hl:I.vs.length=af.np)
  (hw:wpF (Spec P GL) (IterS P GL) af.c (fun e σ=>(∀p∈σ.bx,p.1.isIt=false)∧postH d af.rs O e σ) (inSt I)):Spec P GL f d I O:=by
 simp only [mFF,Bool.and_eq_true,bne_iff_ne,beq_iff_eq] at hm
 obtain ⟨⟨⟨⟨⟨h1,h2⟩,h3⟩,h4⟩,h5⟩,h6⟩:=hm
 split at h6<;>(try cases h6)
 rename_i c hb
 have h4:=Nat.le_of_ble_eq_true h4
 intro S gb w vs hvs hhr hglo hnw
 have hlen:vs.length=I.vs.length:=hvs.length.symm
 unfold Does
 have hcall:(callFunc f vs.toArray).run P w= .ok (.enter f vs.toArray) w:=by
  simp [callFunc,hf,hb,h1]
 rw [hcall]
 refine callsIn_wide.1 (callsIn_of_wp_marks (n:=0) hf hb trivial ?_)
 let F:Fr:=⟨S,w,MS I gb (fun t=>vs.getD t undef) w,gb,af.N,GL,[]⟩
 have hsv:tv {tmps:=vs.toArray++Array.replicate (fn.ntmps - vs.toArray.size) undef,defers:=[]}=fun t=>vs.getD t undef:=by
  funext t;exact tv_init
 have hup:=hhr.up
 have hrel:Rel F S (gbUp gb) (inSt I) {tmps:=vs.toArray++Array.replicate (fn.ntmps - vs.toArray.size) undef,defers:=[]} w:=by
  refine ⟨rfl,?_,Bw.refl _ _,fun _ _ _ _=>rfl,Mem.le.refl _,?_,by rw [hsv];exact hup,?_,?_,?_,fun d=>rfl,hglo⟩
  ·show (vs.toArray++Array.replicate (fn.ntmps - vs.toArray.size) undef).size=af.N
   simp;omega
  ·intro t
   have:=(lk_initE (PRlist_up _ _ hvs) 0 t).2 t (by omega)
   rw [tv_init]
   exact this
  ·intro i g z hi hq
   obtain ⟨c1,hc1⟩:=Option.isSome_iff_exists.1 hi
   obtain ⟨j,cs,rfl,hj,_⟩:=lkB_mpB_some up_inj hc1
   exact .inr (.inl ⟨j,z,by rw [hj];rfl,hq⟩)
  ·intro p k g hp hg
   obtain ⟨q,rfl,hq⟩:=lkP_mpP up_inj hp
   rw [hsv,plv_up] at hg
   exact .inr (.inr ⟨q,k,hq,hg⟩)
  ·intro i hi
   cases i<;>simp [gbUp,Id.isUp] at hi ⊢
 have hE0:Ext F F:=⟨rfl,rfl,Nat.le_refl _,fun df {_ _ _ _ _} h=>h,(fun m hm=>by cases hm),List.nodup_nil⟩
 refine code_F (F:=F) hmix hda hd h6 (Q:=fun e σ=>(∀p∈σ.bx,p.1.isIt=false)∧postH d af.rs O e σ) ?_ hE0 hrel hw
 rintro e F2 S0' gb0' σ0 a' w' hE hr0 ⟨hit0,hq0⟩
 have hit0:=noIt_of hit0
 have fin:(∃τ,Frzs σ0 τ∧OutOk d af.rs O τ)→LeavesInM Fence.wide 0 P fn a'.tmps (fun e w'=> ∃u,e=Ending.returned u∧ ∃S'' gb'',PostR d I O S gb (fun t=>vs.getD t undef) w S'' gb'' u w') a'.defers .returning w':=by
  rintro ⟨τ,hfz,hok⟩
  have hb:Rel {F with df:=F2.df} S0' gb0' σ0 a' w':=hE.back F2.df hr0
  refine leavesM (F:=F) (df:=F2.df) hit0 ?_ a'.defers w' hb ?_ (by rw [hr0.defers];exact hE.nodup)
  ·intro w' hb
   obtain ⟨S',gb',hr⟩:=hb.frzs hfz
   have hr':=hok.r
   split at hr'
   ·rename_i vs' hv
    obtain ⟨us,hrun,g2,g3⟩:=res_run (P:=P) hr h5 hv
    obtain ⟨o1,o2,o3,o4⟩:=hr.out hok hv g2 g3 (by rw [←g2.length];exact (mRs_length (qs:=[]) hv).symm)
    refine ⟨_,hrun,_,rfl,S',gbOut d gb' O.bx,hr.bw,hr.ext,hr.le,?_,?_,o1,o2,o3,o4⟩
    ·intro i hi
     have:gbOut d gb' O.bx i=gb' (i.inn d):=gbOut_ok (fun e=>by rw [hi] at e;cases e)
     rw [this,inn_notNw hi]
     exact hr.up i
    ·intro i hi hne
     simp only [gbOut] at hne
     split at hne
     ·exact absurd rfl hne
     ·rename_i hno
      cases hs:(lkB O.bx i).isSome with
      |true=>rfl
      |false=>exact absurd ⟨hi,hs⟩ hno
   ·cases hr'
  ·intro m hm
   rw [hr0.defers] at hm
   obtain ⟨D,rfl,q1,q2,q3,q4⟩:=hE.marks m hm
   exact ⟨D,rfl,q1,(hr0.bw.block D q2 q4).trans q3⟩
 cases e
 ·exact fin hq0
 ·exact hq0.elim
 ·exact fin hq0
@[irreducible] def ItH (P:Program) (GL:List (Nat×List Value)) (gf:Nat) (caps:List AV) (bxs:List (Id×List AV)) (xs:List (List AV)):Prop:=IterS P GL gf caps bxs xs
theorem ith_eq (P:Program) (GL:List (Nat×List Value)):ItH P GL=IterS P GL:=by funext f d I xs;unfold ItH;rfl
def postRF (d:Nat) (rs:List AR) (O:Out):AE→St→Prop:=fun e σ=>(∀p∈σ.bx,p.1.isIt=false)∧postH d rs O e σ
theorem fun_spRF {P:Program} {GL:List (Nat×List Value)} {dr:Array Oper→List (List Nat)→List AOp→Bool} (hmix:P.follows .mixedOrders=true) {f:Nat} {fn:Func} {af:AFF} (hf:P.funcs[f]?=some fn) (hm:mFF P GL dr fn af=true) (hda:DrawsAny P GL af.N dr) (hd:DrawsOk P GL af.N dr) {d:Nat} {I:In} {O:Out} (hl:I.vs.length=af.np)
  (hw:wpF (SpH P GL) (ItH P GL) af.c (postRF d af.rs O) (inSt I)):SpH P GL f d I O:=by
 rw [sph_eq,ith_eq] at hw
 rw [sph_eq]
 exact fun_soundRF hmix hf hm hda hd hl hw
section
variable {Sp:Nat→Nat→In→Out→Prop} {It:Nat→List AV→List (Id×List AV)→List (List AV)→Prop} {Q:AE→St→Prop} {σ:St}
theorem wpF_c {a:AC}:wpF Sp It (.c a) Q σ=wpA Sp a Q σ:=rfl
theorem wpF_sq {x y:ACF}:wpF Sp It (.sq x y) Q σ=wpF Sp It x (AE.sq (wpF Sp It y Q) Q) σ:=rfl
theorem wpF_bl {i:Nat} {x:ACF}:wpF Sp It (.bl i x) Q σ=wpF Sp It x (AE.bl i Q) σ:=rfl
theorem wpRd_mono {d:Nat} {ps rd:List Nat} {asg bd:AC} {x:List AV} {K K':AE→St→Prop} {τ:St} (hk: ∀e τ',K e τ'→K' e τ') (h:wpRd Sp d ps rd asg bd x K τ):wpRd Sp d ps rd asg bd x K' τ:=by
 obtain ⟨I,hI,hw⟩:=h
 refine ⟨I,hI,wpA_mono (fun e σ h=>⟨h.1,h.2.1,wpA_mono (fun e σ h=>?_) h.2.2⟩) hw⟩
 obtain ⟨O,h1,h2,h3,h4⟩:=h
 exact ⟨O,h1,h2,h3,hk _ _ h4⟩
theorem wpRs_inv {d:Nat} {ps rd:List Nat} {asg bd:AC} (J:Nat→St→Prop): ∀(xs:List (List AV)) (k:Nat) (σ:St),J k σ→
  (∀(j:Nat) (x:List AV) (τ:St),xs[j]?=some x→J (k+j) τ→wpRd Sp d ps rd asg bd x (fun e τ'=>match e with | .n=>J (k+j+1) τ'|e=>Q e τ') τ)→(∀τ,J (k+xs.length) τ→Q .n τ)→wpRs Sp d ps rd asg bd xs Q σ
 |[],k,σ,h,_,he=>he σ h
 |x::r,k,σ,h,hs,he=>by
  refine wpRd_mono ?_ (hs 0 x σ rfl h)
  intro e τ' hk
  cases e with
  |n=>
   refine wpRs_inv J r (k+1) τ' hk (fun j y τ hj hJ=>?_) (fun τ hJ=>he τ ?_)
   ·have:=hs (j+1) y τ hj (by rw [show k+(j+1)=k+1+j from by omega];exact hJ)
    rwa [show k+(j+1)+1=k+1+j+1 from by omega] at this
   ·rw [List.length_cons,show k+(r.length+1)=k+1+r.length from by omega];exact hJ
  |r=>exact hk
  |x i=>exact hk
end
end Go.Ai
