/- Lib7: a part of the proof. Conditions: as each theorem says. -/
import Derived.Test.YtojgeamhdkphaaaGreatDoorLib6
set_option linter.unusedSimpArgs false
set_option linter.unusedVariables false
namespace Go.Ai
open Go.RowKit
variable {P:Program} {F:Fr} {S:aR} {gb:Gb} {σ:St} {a:Act} {w:World}

mutual
def nz:AV->AV
 | .nils=> .sl []
 | .fn g cs=> .fn g (GH cs)
 | .agg cs=> .agg (GH cs)
 | .tup cs=> .tup (GH cs)
 |v=>v
def GH:List AV->List AV
 |[]=>[]
 |v::r=>nz v::GH r
end
def ar (I:In):St:=⟨dD 0 (aP Id.up I.vs),aW Id.up I.bx,aY Id.up I.pm⟩

mutual
theorem jc {f:Id->Id}: ∀ {v:AV},v.ids=[]->v.mp f=v
 | .ptr _ _,h=>by simp[AV.ids] at h
 | .ms _ _ _ _,h=>by simp[AV.ids] at h
 | .itp _,h=>by simp[AV.ids] at h
 | .mref _,h=>by simp[AV.ids] at h
 | .nilT _ _ _,h=>by simp[AV.ids] at h
 | .mpv _,_=>rfl
 | .fn g cs,h=>by simp only[AV.mp];rw[aO (by simpa[AV.ids] using h)]
 | .agg cs,h=>by simp only[AV.mp];rw[aO (by simpa[AV.ids] using h)]
 | .tup cs,h=>by simp only[AV.mp];rw[aO (by simpa[AV.ids] using h)]
 | .undef,_=>rfl
 | .int _ _,_=>rfl
 | .bool _,_=>rfl
 | .str _,_=>rfl
 | .nils,_=>rfl
 | .sl _,_=>rfl
 | .pin _,_=>rfl
 | .itr _ _,_=>rfl
 | .nilp,_=>rfl
 | .ifc _ v,h=>by simp only[AV.mp];rw[jc (v:=v) (by simpa[AV.ids] using h)]
 | .nili,_=>rfl
 | .yv _,_=>rfl
theorem aO {f:Id->Id}: ∀ {l:List AV},bm l=[]->aP f l=l
 |[],_=>rfl
 |v::r,h=>by
  simp only[bm,List.append_eq_nil_iff] at h;simp only[aP];rw[jc h.1,aO h.2]
end
mutual
theorem CK {S:aR} {gb:Gb}: ∀(v:AV) (u:Value),PR S gb v u->PR S (eB gb) (v.mp Id.up) u
 | .ptr d o,u,h=>by simpa only[AV.mp,PR,eB,Id.isIt] using h
 | .ms d o n sz,u,h=>by simpa only[AV.mp,PR,eB,Id.isIt] using h
 | .itp _,u,_=>by simp[AV.mp,PR]
 | .mref d,u,h=>by simpa only[AV.mp,PR,eB,Id.isIt] using h
 | .nilT d _ _,u,h=>by simpa only[AV.mp,PR,eB] using h
 | .mpv _,_,h=>by simp only[PR] at h
 | .fn g cs,u,h=>by
  simp only[AV.mp,PR] at h ⊢;obtain ⟨us,h1,h2⟩:=h;exact ⟨us,h1,dE _ _ h2⟩
 | .agg cs,u,h=>by
  simp only[AV.mp,PR] at h ⊢;obtain ⟨us,h1,h0,h2⟩:=h;exact ⟨us,h1,h0,dE _ _ h2⟩
 | .tup cs,u,h=>by
  simp only[AV.mp,PR] at h ⊢;obtain ⟨us,h1,h2⟩:=h;exact ⟨us,h1,dE _ _ h2⟩
 | .undef,_,_=>by simp only[AV.mp,PR]
 | .int _ _,_,h=>by simpa only[AV.mp,PR] using h
 | .bool _,_,h=>by simpa only[AV.mp,PR] using h
 | .str _,_,h=>by simpa only[AV.mp,PR] using h
 | .nils,_,h=>by simpa only[AV.mp,PR] using h
 | .sl _,_,h=>by simpa only[AV.mp,PR] using h
 | .pin _,_,h=>by simpa only[AV.mp,PR] using h
 | .itr _ _,_,h=>by simp only[PR] at h
 | .nilp,_,h=>by simpa only[AV.mp,PR] using h
 | .ifc _ v,u,h=>by
  simp only[AV.mp,PR] at h ⊢;obtain ⟨us,h1,h2⟩:=h;exact ⟨us,h1,CK v _ h2⟩
 | .nili,_,h=>by simpa only[AV.mp,PR] using h
 | .yv _,_,h=>by simpa only[AV.mp,PR] using h
theorem dE {S:aR} {gb:Gb}: ∀(l:List AV) (us:List Value),aa S gb l us->aa S (eB gb) (aP Id.up l) us
 |[],us,h=>by simpa only[aP,aa] using h
 |v::r,us,h=>by
  simp only[aP,aa] at h ⊢;obtain ⟨u,us',h1,h2,h3⟩:=h;exact ⟨u,us',h1,CK v u h2,dE r us' h3⟩
end
mutual
theorem LB {S:aR} {gb:Gb}: ∀(v:AV) (u:Value),PR S gb v u->PR S gb (nz v) u
 | .nils,u,h=>by simp only[nz,PR] at h ⊢;exact .inl ⟨h,trivial⟩
 | .fn g cs,u,h=>by
  simp only[nz,PR] at h ⊢;obtain ⟨us,h1,h2⟩:=h;exact ⟨us,h1,j4 _ _ h2⟩
 | .agg cs,u,h=>by
  simp only[nz,PR] at h ⊢;obtain ⟨us,h1,h0,h2⟩:=h;exact ⟨us,h1,h0,j4 _ _ h2⟩
 | .tup cs,u,h=>by
  simp only[nz,PR] at h ⊢;obtain ⟨us,h1,h2⟩:=h;exact ⟨us,h1,j4 _ _ h2⟩
 | .ptr _ _,_,h=>h
 | .ms _ _ _ _,_,h=>h
 | .itp _,_,h=>h
 | .mref _,_,h=>h
 | .nilT _ _ _,_,h=>h
 | .mpv _,_,h=>h
 | .undef,_,h=>h
 | .int _ _,_,h=>h
 | .bool _,_,h=>h
 | .str _,_,h=>h
 | .sl _,_,h=>h
 | .pin _,_,h=>h
 | .itr _ _,_,h=>h
 | .nilp,_,h=>h
 | .ifc _ _,_,h=>h
 | .nili,_,h=>h
 | .yv _,_,h=>h
theorem j4 {S:aR} {gb:Gb}: ∀(l:List AV) (us:List Value),aa S gb l us->aa S gb (GH l) us
 |[],us,h=>h
 |v::r,us,h=>by
  simp only[GH,aa] at h ⊢;obtain ⟨u,us',h1,h2,h3⟩:=h;exact ⟨u,us',h1,LB v u h2,j4 r us' h3⟩
end
theorem rM: ∀(l:List AV),(GH l).length=l.length
 |[]=>rfl
 |v::r=>by simp only[GH,e7,rM r]
theorem go {f:Id->Id}: ∀(l:List AV),(aP f l).length=l.length
 |[]=>rfl
 |v::r=>by simp only[aP,e7,go r]

def dc (d:Nat) (gbc:Gb) (ob:List (Id×List AV)):Gb:=fun i=>if i.isNw d=true/\(aD ob i).isSome=false then none else gbc (i.inn d)
def Mn:Id->Bool
 | .it _=>false
 |_=>true
@[simp] theorem T8 {k:Nat}:Mn (.n k)=true:=rfl
@[simp] theorem R9 {i:Id}:Mn (.up i)=true:=rfl
@[simp] theorem Sa {d:Nat} {i:Id}:Mn (.nw d i)=true:=rfl
@[simp] theorem Sb {i:Id} {k:Nat}:Mn (.ix i k)=true:=rfl
@[simp] theorem Sd {i:Id} (h:i.isIt=false):Mn i=true:=by
 cases i<;>first|rfl|(simp[Id.isIt] at h)
def yR (d:Nat) (ob:List (Id×List AV)) (i:Id):Prop:=Mn i=true/\(i.isNw d=true->(aD ob i).isSome=true)
theorem eC {d:Nat} {gbc:Gb} {ob:List (Id×List AV)} {i:Id} (h:i.isNw d=true->(aD ob i).isSome=true):dc d gbc ob i=gbc (i.inn d):=by
 unfold dc;rw[if_neg];rintro ⟨h1,h2⟩;rw[h h1] at h2;cases h2
theorem jd {d:Nat} {i:Id}:(i.inn d).isIt=i.isIt:=by
 cases i<;>simp only[Id.inn]<;>(try split)<;>simp_all[Id.isIt]
mutual
theorem Bf {S:aR} {d:Nat} {gbc:Gb} {ob:List (Id×List AV)}: ∀(v:AV) (u:Value),(∀i∈v.ids,yR d ob i)->PR S gbc (v.mp (Id.inn d)) u->PR S (dc d gbc ob) v u
 | .ptr i o,u,hi,h=>by
  obtain ⟨h1,h2⟩:=hi i (by simp[AV.ids]);simp only[AV.mp,PR] at h ⊢;obtain ⟨g,z,e1,e2,e3⟩:=h;exact ⟨g,z,by rw[eC h2];exact e1,jd (d:=d)▸e2,e3⟩
 | .ms i o n sz,u,hi,h=>by
  obtain ⟨h1,h2⟩:=hi i (by simp[AV.ids]);simp only[AV.mp,PR] at h ⊢;obtain ⟨g,z,cap,e1,e2,e3⟩:=h;exact ⟨g,z,cap,by rw[eC h2];exact e1,jd (d:=d)▸e2,e3⟩
 | .itp k,u,hi,_=>by
  have:=(hi (.it k) (by simp[AV.ids])).1
  simp[Mn] at this
 | .mref i,u,hi,h=>by
  obtain ⟨h1,h2⟩:=hi i (by simp[AV.ids]);simp only[AV.mp,PR] at h ⊢;obtain ⟨g,z,e1,e2,e3⟩:=h;exact ⟨g,z,by rw[eC h2];exact e1,jd (d:=d)▸e2,e3⟩
 | .mpv _,_,_,h=>by simp only[AV.mp,PR] at h
 | .nilT i _ _,u,hi,h=>by
  obtain ⟨h1,h2⟩:=hi i (by simp[AV.ids]);simp only[AV.mp,PR] at h ⊢;obtain ⟨e0,g,e1⟩:=h;exact ⟨e0,g,by rw[eC h2];exact e1⟩
 | .fn g cs,u,hi,h=>by
  simp only[AV.mp,PR] at h ⊢;obtain ⟨us,h1,h2⟩:=h;exact ⟨us,h1,je _ _ (by simpa[AV.ids] using hi) h2⟩
 | .agg cs,u,hi,h=>by
  simp only[AV.mp,PR] at h ⊢;obtain ⟨us,h1,h0,h2⟩:=h;exact ⟨us,h1,h0,je _ _ (by simpa[AV.ids] using hi) h2⟩
 | .tup cs,u,hi,h=>by
  simp only[AV.mp,PR] at h ⊢;obtain ⟨us,h1,h2⟩:=h;exact ⟨us,h1,je _ _ (by simpa[AV.ids] using hi) h2⟩
 | .undef,_,_,_=>by simp only[AV.mp,PR]
 | .int _ _,_,_,h=>by simpa only[AV.mp,PR] using h
 | .bool _,_,_,h=>by simpa only[AV.mp,PR] using h
 | .str _,_,_,h=>by simpa only[AV.mp,PR] using h
 | .nils,_,_,h=>by simpa only[AV.mp,PR] using h
 | .sl _,_,_,h=>by simpa only[AV.mp,PR] using h
 | .pin _,_,_,h=>by simpa only[AV.mp,PR] using h
 | .itr _ _,_,_,h=>by simp only[AV.mp,PR] at h
 | .nilp,_,_,h=>by simpa only[AV.mp,PR] using h
 | .nili,_,_,h=>by simpa only[AV.mp,PR] using h
 | .yv _,_,_,h=>by simpa only[AV.mp,PR] using h
 | .ifc _ v,u,hi,h=>by
  simp only[AV.mp,PR] at h ⊢;obtain ⟨us,h1,h2⟩:=h;exact ⟨us,h1,Bf v _ (by simpa[AV.ids] using hi) h2⟩
theorem je {S:aR} {d:Nat} {gbc:Gb} {ob:List (Id×List AV)}: ∀(l:List AV) (us:List Value),(∀i∈bm l,yR d ob i)->aa S gbc (aP (Id.inn d) l) us->aa S (dc d gbc ob) l us
 |[],us,_,h=>by simpa only[aP,aa] using h
 |v::r,us,hi,h=>by
  simp only[aP,aa] at h ⊢;obtain ⟨u,us',h1,h2,h3⟩:=h;exact ⟨u,us',h1,Bf v u (fun i hm=>hi i (by simp[bm,hm])) h2,je r us' (fun i hm=>hi i (by simp[bm,hm])) h3⟩
end
theorem CL {d:Nat} {i j:Id} (h:i.inn d=j.inn d):i=j:=by
 cases i<;>cases j<;>simp only[Id.inn] at h<;>(try split at h)<;>(try split at h)<;>simp_all[Id.isUp];all_goals (first|(subst h;simp_all[Id.isUp])|skip)
theorem Mo {d:Nat} {i:Id} (h:i.isIt=true):(i.inn d).isIt=true:=by
 rw[jd];exact h
theorem ae {d:Nat} {i:Id} (h:i.isNw d=false):i.inn d= .up i:=by
 cases i with
 |nw d' j=>
  simp only[Id.inn];rw[if_neg];rintro ⟨rfl,h2⟩;cases j<;>simp_all[Id.isNw,Id.isUp]
 |_=>rfl
theorem CN {f:Id->Id} (hf: ∀i j,f i=f j->i=j): ∀(l:List (Id×List AV)) (i:Id),aD (aW f l) (f i)=(aD l i).map (aP f)
 |[],i=>rfl
 |(d,cs)::r,i=>by
  simp only[aW,aD];by_cases e:d=i
  ·subst e;simp
  ·rw[if_neg (fun q=>e (hf _ _ q)),if_neg e,CN hf r i]
theorem bL {f:Id->Id} (hf: ∀i j,f i=f j->i=j): ∀ {l:List (Id×List AV)} {j:Id} {cs:List AV},aD (aW f l) j=some cs-> ∃i cs',j=f i/\aD l i=some cs'/\cs=aP f cs'
 |[],j,cs,h=>by simp[aW,aD] at h
 |(d,c)::r,j,cs,h=>by
  simp only[aW,aD] at h;split at h
  ·rename_i e;simp only[cW] at h;exact ⟨d,c,e.symm,by simp[aD],h.symm⟩
  ·rename_i e;obtain ⟨i,cs',h1,h2,h3⟩:=bL hf h;exact ⟨i,cs',h1,by simp only[aD];rw[if_neg (fun q=>e (by rw[q,h1]))];exact h2,h3⟩
theorem eL {f:Id->Id} (hf: ∀i j,f i=f j->i=j): ∀ {l:List (Pl×Nat)} {q:Pl} {k:Nat},aH (aY f l) q=some k-> ∃p,q=p.mp f/\aH l p=some k
 |[],q,k,h=>by simp[aY,aH] at h
 |(p,k')::r,q,k,h=>by
  simp only[aY,aH] at h;split at h
  ·rename_i e;simp only[cW] at h;exact ⟨p,e.symm,by simp[aH,h]⟩
  ·rename_i e;obtain ⟨p',h1,h2⟩:=eL hf h;exact ⟨p',h1,by simp only[aH];rw[if_neg (fun q=>e (by rw[q,h1]))];exact h2⟩
theorem kK {gb:Gb} {sv:Nat->Value} {w:World} (p:Pl):ct (eB gb) sv w (p.mp Id.up)=ct gb sv w p:=by
 cases p<;>rfl
theorem cQ (i j:Id) (h:Id.up i=Id.up j):i=j:=by cases h;rfl

theorem HR.up {bx:List (Id×List AV)} {pm:List (Pl×Nat)} {sv:Nat->Value} (h:HR S gb bx pm sv w):HR S (eB gb) (aW Id.up bx) (aY Id.up pm) sv w:=by
 refine ⟨h.agree,?_,?_,?_,?_,?_,?_,?_⟩
 ·intro d cs hcs hi;obtain ⟨i,cs',rfl,h2,rfl⟩:=bL cQ hcs;obtain ⟨g,us,T,e1,e3,e0,e4,e5,e6⟩:=h.box i cs' h2 hi;exact ⟨g,us,T,e1,e3,by rw[go];exact e0,by rw[go];exact dE _ _ e4,e5,e6⟩
 ·intro d cs hcs hi;obtain ⟨i,cs',rfl,h2,rfl⟩:=bL cQ hcs;obtain ⟨g,z,ob,e1,e2,e3,e6⟩:=h.its i cs' h2 hi;refine ⟨g,z,ob,e1,?_,e3,e6⟩;unfold tG at e2;split at e2
  ·exact e2
  ·exact e2
  ·cases e2
 ·intro d d' g z z' i1 i2 q1 q2;obtain ⟨c1,hc1⟩:=jp.1 i1;obtain ⟨c2,hc2⟩:=jp.1 i2;obtain ⟨i,cs,rfl,h2,rfl⟩:=bL cQ hc1;obtain ⟨j,cs',rfl,h3,rfl⟩:=bL cQ hc2;rw[h.inj i j g z z' (by rw[h2];rfl) (by rw[h3];rfl) q1 q2]
 ·intro p k hp;obtain ⟨q,rfl,h2⟩:=eL cQ hp;rw[kK];exact h.own q k h2
 ·intro p q k l b hp hq h1 h2;obtain ⟨p',rfl,p2⟩:=eL cQ hp;obtain ⟨q',rfl,q2⟩:=eL cQ hq;rw[kK] at h1 h2;rw[h.ownd p' q' k l b p2 q2 h1 h2]
 ·intro p k b d z hp h1 hd;obtain ⟨p',rfl,p2⟩:=eL cQ hp;rw[kK] at h1;obtain ⟨c1,hc1⟩:=jp.1 hd;obtain ⟨i,cs,rfl,h2,rfl⟩:=bL cQ hc1;exact h.ownb p' k b i z p2 h1 (by rw[h2];rfl)
 ·intro d off k hp;obtain ⟨q,e,h2⟩:=eL cQ hp;cases q with
  |b i o=>
   simp only[Pl.mp,Pl.b.injEq] at e;obtain ⟨rfl,rfl⟩:=e;obtain ⟨h3,h4⟩:=h.pmb i _ k h2;refine ⟨?_,h4⟩;rw[CN cQ];simpa using h3
  |s t=>cases e
  |t t i=>cases e

def Se (v u:AV):Prop:=v=u\/nz v=u
def JX (v u:List AV):Prop:=v=u\/GH v=u
def Ny (d:Nat) (σ:St) (i:Id) (cs:List AV):Prop:=match aD σ.bx (i.inn d) with
 |some c=>JX c (aP (Id.inn d) cs)
 |none=>False
def nX (d:Nat) (rs:List AR) (ob:List (Id×List AV)) (σ:St):Pl×Nat->Prop
 |(.s t,k)=>t=0/\(match rs with |[.t s]=>aH σ.pm (.s s)=some k\/lk σ.e s= .nils|_=>False)
 |(.t t i,k)=>t=0/\2<=rs.length/\(match rs[i]? with |some (.t s)=>aH σ.pm (.s s)=some k\/lk σ.e s= .nils|_=>False)
 |(.b i o,k)=>(aD ob i).isSome=true/\(aH σ.pm (.b (i.inn d) o)=some k\/iX σ (.b (i.inn d) o))
def lL:List AR->Prop
 |[]=>True
 | .t s::r=>(∀x∈r,x≠ .t s)/\lL r
 |_::r=>lL r
structure j5 (d:Nat) (rs:List AR) (O:bO) (σ:St):Prop where
 r:match gh σ rs with |some vs=>Se (vQ vs) (O.r.mp (Id.inn d))|none=>False
 ids: ∀i∈O.r.ids,yR d O.bx i
 bx: ∀p∈O.bx,Ny d σ p.1 p.2
 bi: ∀p∈O.bx,∀i∈bm p.2,yR d O.bx i
 pm: ∀p∈O.pm,nX d rs O.bx σ p
 nd:O.pm=[]\/lL rs
inductive nY:St->St->Prop
 |z (σ:St):nY σ σ
 |s {σ τ:St} (s:Nat) (b:Id) (n sz:Nat) (rows:List (List AV)):Ct σ s b n sz rows->sz<KB->nY (lC σ s b sz rows) τ->nY σ τ
 |t {σ τ:St} (s:Nat) (b:Id) (n sz:Nat) (rows:List (List AV)) (tl:List AV):lA σ s b n sz rows tl->sz<KB->nY (lC σ s b sz rows) τ->nY σ τ
def bH (d:Nat) (rs:List AR) (O:bO):AE->St->Prop
 | .x _,_=>False
 |_,σ=> ∃τ,nY σ τ/\j5 d rs O τ
theorem aN.frzs {σ τ:St} (hf:nY σ τ): ∀ {S:aR} {gb:Gb},aN F S gb σ a w-> ∃S' gb',aN F S' gb' τ a w:=by
 induction hf with
 |z σ=>intro S gb h;exact ⟨S,gb,h⟩
 |s s b n sz rows h1 hk h2 ih=>
  intro S gb h;obtain ⟨S',gb',h3⟩:=h.freezeP h1.two hk;exact ih h3
 |t s b n sz rows tl h1 hk h2 ih=>
  intro S gb h;obtain ⟨S',gb',h3⟩:=h.freezeP h1 hk;exact ih h3
theorem yS: ∀ {rs:List AR},lL rs-> ∀ {i j s:Nat},rs[i]?=some (.t s)->rs[j]?=some (.t s)->i=j
 |[],_,i,j,s,h,_=>by simp at h
 |x::r,ho,i,j,s,hi,hj=>by
  have hr:lL r:=by cases x<;>simp only[lL] at ho<;>first|exact ho.2|exact ho
  cases i with
  |zero=>
   cases j with
   |zero=>rfl
   |succ j=>
    simp at hi hj;subst hi;simp only[lL] at ho;exact absurd rfl (ho.1 _ (List.mem_of_getElem? hj))
  |succ i=>
   cases j with
   |zero=>
    simp at hi hj;subst hj;simp only[lL] at ho;exact absurd rfl (ho.1 _ (List.mem_of_getElem? hi))
   |succ j=>
    simp at hi hj;rw[yS hr hi hj]

theorem JY {d:Nat} {c cs:List AV} {ob:Obj} (h:tG c=some ob) (hw:JX c (aP (Id.inn d) cs)):tG cs=some ob:=by
 have key: ∀l:List AV,tG l=some ob->GH l=l:=fun l h=>by
  unfold tG at h;split at h
  ·rfl
  ·rfl
  ·cases h
 have e:c=aP (Id.inn d) cs:=by
  rcases hw with e|e
  ·exact e
  ·rw[<-e,key c h]
 subst e;cases cs with
 |nil=>simp[aP,tG] at h
 |cons v r=>
  cases r with
  |cons x y=>cases v<;>simp[aP,AV.mp,tG] at h
  |nil=>cases v<;>simp_all[aP,AV.mp,tG]
theorem GI (h:aN F S gb σ a w) {i:Id} {o:Nat} (hn:iX σ (.b i o)):i.isIt=false:=by
 cases hi:i.isIt with
 |false=>rfl
 |true=>
  simp only[iX] at hn;split at hn
  ·rename_i cs hcs;obtain ⟨_,_,ob,_,e,_⟩:=h.hr.its i cs hcs hi;obtain ⟨v,rfl,hv⟩:=qE e;cases o with
   |zero=>simp at hn;exact absurd hn hv
   |succ o=>simp at hn
  ·cases hn
theorem aN.out (h:aN F S gb σ a w) {d:Nat} {rs:List AR} {O:bO} (ho:j5 d rs O σ) {vs:List AV} (hv:gh σ rs=some vs) {us:List Value} (hu:aa S gb vs us) (hs: ∀(i s:Nat),rs[i]?=some (AR.t s)->us[i]?=some (tv a s)) (hl:rs.length=us.length):
  let v:=if h:us.toArray.size=1 then us.toArray[0] else .tuple us.toArray
  PR S (dc d gb O.bx) O.r v/\HR S (dc d gb O.bx) O.bx O.pm (fun _=>v) w/\(∀i g z,(aD O.bx i).isSome->dc d gb O.bx i=some (g,z)->F.w0.heap.size<=g\/F.M g)/\
   (∀p k g,aH O.pm p=some k->(ct (dc d gb O.bx) (fun _=>v) w p).ownBlock=some g->F.w0.heap.size<=g\/F.M g):=by
 intro v;have hval: ∀i,(aD O.bx i).isSome=true->dc d gb O.bx i=gb (i.inn d):=fun i hi=>eC (fun _=>hi)
 have hbox: ∀i cs,aD O.bx i=some cs-> ∃c,aD σ.bx (i.inn d)=some c/\JX c (aP (Id.inn d) cs)/\(∀j∈bm cs,yR d O.bx j):=by
  intro i cs hcs;have hm:=cF _ _ _ hcs;have h2:=ho.bx _ hm;simp only[Ny] at h2;split at h2
  ·rename_i c hc;exact ⟨c,hc,h2,ho.bi _ hm⟩
  ·cases h2
 have hsome: ∀i,(aD O.bx i).isSome=true->(aD σ.bx (i.inn d)).isSome=true:=by
  intro i hi;obtain ⟨cs,hcs⟩:=jp.1 hi;obtain ⟨c,hc,_⟩:=hbox i cs hcs;rw[hc];rfl
 have hpl: ∀p k,aH O.pm p=some k->(∃q,aH σ.pm q=some k/\ct (dc d gb O.bx) (fun _=>v) w p=ct gb (tv a) w q/\
   ((p= .s 0/\ ∃s,q= .s s/\rs=[.t s])\/(∃i s,p= .t 0 i/\q= .s s/\rs[i]?=some (.t s)/\2<=rs.length)\/(∃i o,p= .b i o/\q= .b (i.inn d) o/\(aD O.bx i).isSome=true)))\/
   (ct (dc d gb O.bx) (fun _=>v) w p= .slice none 0 0/\ ∀i o,p= .b i o->(aD O.bx i).isSome=true/\i.isIt=false):=by
  intro p k hp;have hm:=ho.pm _ (eI _ _ _ hp);cases p with
  |s t=>
   simp only[nX] at hm;obtain ⟨rfl,hm⟩:=hm;split at hm
   ·rename_i s;have h1:=hs 0 s rfl;have h2:us.length=1:=by rw[<-hl];rfl
    have hvv:v=tv a s:=by
     simp only[v];rw[dif_pos (by simpa using h2)];rw[qZ] at h1;obtain ⟨_,h1⟩:=h1;simpa using h1
    rcases hm with hm|hm
    ·exact .inl ⟨.s s,hm,by simp only[ct,hvv],.inl ⟨rfl,s,rfl,rfl⟩⟩
    ·right;refine ⟨?_,fun i o he=>by cases he⟩
     have:=h.env s
     rw[hm] at this;simp only[ct,hvv];simpa[PR] using this
   ·cases hm
  |t t i=>
   simp only[nX] at hm;obtain ⟨rfl,h2,hm⟩:=hm;split at hm
   ·rename_i s hi;have h1:=hs i s hi;have hvv:v= .tuple us.toArray:=by
     simp only[v];rw[dif_neg];simp;omega
    have hg:us.toArray.getD i undef=tv a s:=by
     rw[kC];simp[h1]
    rcases hm with hm|hm
    ·exact .inl ⟨.s s,hm,by simp only[ct,hvv];exact hg,.inr (.inl ⟨i,s,rfl,rfl,hi,h2⟩)⟩
    ·right;refine ⟨?_,fun i o he=>by cases he⟩
     have:=h.env s
     rw[hm] at this;simp only[ct,hvv];rw[hg];simpa[PR] using this
   ·cases hm
  |b i o=>
   simp only[nX] at hm;obtain ⟨h1,hm⟩:=hm;have he:ct (dc d gb O.bx) (fun _=>v) w (.b i o)=ct gb (tv a) w (.b (i.inn d) o):=by simp only[ct,hval i h1]
   rcases hm with hm|hm
   ·exact .inl ⟨_,hm,he,.inr (.inr ⟨i,o,rfl,rfl,h1⟩)⟩
   ·right;have h3:=GI h hm;refine ⟨?_,fun i' o' e=>by cases e;exact ⟨h1,by rw[<-jd (d:=d)];exact h3⟩⟩;rw[he];exact o5 h hm (fun d' off e=>by cases e;exact h3)
 refine ⟨?_,⟨h.hr.agree,?_,?_,?_,?_,?_,?_,?_⟩,?_,?_⟩
 ·have h1:=A9 hu;have h2:=ho.r;rw[hv] at h2;refine Bf _ _ ho.ids ?_;rcases h2 with h2|h2
  ·rw[<-h2];exact h1
  ·rw[<-h2];exact LB _ _ h1
 ·intro i cs hcs hi;obtain ⟨c,hc,hw,h4⟩:=hbox i cs hcs;obtain ⟨g,us',T,e1,e3,e0,e4,e5,e6⟩:=h.hr.box _ c hc (by rw[jd];exact hi);have hlen:c.length=cs.length:=by
   rcases hw with hw|hw
   ·rw[hw,go]
   ·rw[<-rM,hw,go]
  refine ⟨g,us',T,by rw[hval i (by rw[hcs];rfl)];exact e1,e3,by omega,je _ _ h4 ?_,e5,e6⟩;rw[<-hlen];rcases hw with hw|hw
  ·rw[<-hw];exact e4
  ·rw[<-hw];exact j4 _ _ e4
 ·intro i cs hcs hi;obtain ⟨c,hc,hw,h4⟩:=hbox i cs hcs;obtain ⟨g,z,ob,e1,e2,e3,e6⟩:=h.hr.its _ c hc (Mo hi);exact ⟨g,z,ob,by rw[hval i (by rw[hcs];rfl)];exact e1,JY e2 hw,e3,e6⟩
 ·intro i j g z z' i1 i2 q1 q2;rw[hval i i1] at q1;rw[hval j i2] at q2;exact CL (h.hr.inj _ _ g z z' (hsome i i1) (hsome j i2) q1 q2)
 ·intro p k hp;rcases hpl p k hp with ⟨q,q1,q2,_⟩|⟨q1,_⟩
  ·rw[q2];exact h.hr.own q k q1
  ·rw[q1];exact .inl rfl
 ·intro p q k l b hp hq hb1 hb2;have hne:O.pm≠[]:=fun e=>by rw[e] at hp;simp[aH] at hp
  have hnd:lL rs:=by
   rcases ho.nd with h1|h1
   ·exact absurd h1 hne
   ·exact h1
  rcases hpl p k hp with ⟨p',p1,p2,p3⟩|⟨p1,_⟩
  ·rcases hpl q l hq with ⟨q',q1,q2,q3⟩|⟨q1,_⟩
   ·rw[p2] at hb1;rw[q2] at hb2;have e:=h.hr.ownd p' q' k l b p1 q1 hb1 hb2;subst e;rcases p3 with ⟨rfl,s,rfl,hr1⟩|⟨i,s,rfl,rfl,hr1,hr2⟩|⟨i,o,rfl,rfl,_⟩
    ·rcases q3 with ⟨rfl,_⟩|⟨j,s',rfl,e2,_,hr3⟩|⟨j,o',rfl,e2,_⟩
     ·rfl
     ·rw[hr1] at hr3;simp at hr3
     ·cases e2
    ·rcases q3 with ⟨rfl,s',e2,hr3⟩|⟨j,s',rfl,e2,hr3,_⟩|⟨j,o',rfl,e2,_⟩
     ·rw[hr3] at hr2;simp at hr2
     ·cases e2;rw[yS hnd hr1 hr3]
     ·cases e2
    ·rcases q3 with ⟨rfl,s',e2,hr3⟩|⟨j,s',rfl,e2,hr3,_⟩|⟨j,o',rfl,e2,_⟩
     ·cases e2
     ·cases e2
     ·simp only[Pl.b.injEq] at e2;rw[CL e2.1,e2.2]
   ·rw[q1] at hb2;simp[Value.ownBlock] at hb2
  ·rw[p1] at hb1;simp[Value.ownBlock] at hb1
 ·intro p k b i z hp hb hi;rcases hpl p k hp with ⟨q,q1,q2,_⟩|⟨q1,_⟩
  ·rw[q2] at hb;rw[hval i hi];exact h.hr.ownb q k b _ z q1 hb (hsome i hi)
  ·rw[q1] at hb;simp[Value.ownBlock] at hb
 ·intro i o k hp;rcases hpl _ k hp with ⟨q,q1,q2,q3⟩|⟨_,q1⟩
  ·rcases q3 with ⟨e,_⟩|⟨_,_,e,_⟩|⟨i',o',e,e2,h1⟩
   ·cases e
   ·cases e
   ·cases e;subst e2;have h3:=(h.hr.pmb _ _ _ q1).2;exact ⟨h1,by rw[<-jd (d:=d)];exact h3⟩
  ·exact q1 i o rfl
 ·intro i g z hi hq;rw[hval i hi] at hq;exact h.newb _ g z (hsome i hi) hq
 ·intro p k g hp hg;rcases hpl p k hp with ⟨q,q1,q2,_⟩|⟨q1,_⟩
  ·rw[q2] at hg;exact h.newo q k g q1 hg
  ·rw[q1] at hg;simp[Value.ownBlock] at hg

theorem fA: ∀ {rs:List AR} {qs:List ResultVar} {σ:St} {vs:List AV},gh σ rs=some vs->vs.length=rs.length
 |[],qs,σ,vs,h=>by simp only[gh,cW] at h;subst h;rfl
 | .t s::r,qs,σ,vs,h=>by
  simp only[gh] at h;split at h
  ·rename_i vs' hv;simp only[cW] at h;subst h;simp only[e7,fA (qs:=qs) hv]
  ·cases h
 | .cs s::r,qs,σ,vs,h=>by
  simp only[gh] at h;split at h
  ·rename_i v vs' _ hv;simp only[cW] at h;subst h;simp only[e7,fA (qs:=qs) hv]
  ·cases h
 | .ca s n::r,qs,σ,vs,h=>by
  simp only[gh] at h;split at h
  ·rename_i v vs' _ hv;simp only[cW] at h;subst h;simp only[e7,fA (qs:=qs) hv]
  ·cases h

theorem Bg {GL:List (Nat×List Value)} {dr:Array Oper->List (List Nat)->List bv->Bool} {f:Nat} {fn:Func} {af:AF} (hf:P.funcs[f]?=some fn) (hm:mF P GL dr fn af=true) (hd:b7 P GL af.N dr) {d:Nat} {I:In} {O:bO} (hl:I.vs.length=af.np)
  (hw:dK (bC P GL) af.c (bH d af.rs O) (ar I)):bC P GL f d I O:=by
 simp only[mF,aJ,bne_iff_ne,cI] at hm;obtain ⟨⟨⟨⟨⟨h1,h2⟩,h3⟩,h4⟩,h5⟩,h6⟩:=hm;split at h6<;>(try cases h6);rename_i c hb;have h4:=Nat.le_of_ble_eq_true h4;intro S gb w vs hvs hhr hglo hnw;have hlen:vs.length=I.vs.length:=hvs.length.symm;unfold lH;have hcall:(callFunc f vs.toArray).run P w= .ok (.enter f vs.toArray) w:=by
  simp[callFunc,hf,hb,h1]
 rw[hcall];refine calls_of_wp hf hb ?_
 let F:Fr:=⟨S,w,MS I gb (fun t=>vs.getD t undef) w,gb,af.N,GL,[]⟩
 have hsv:tv {tmps:=vs.toArray++Array.replicate (fn.ntmps - vs.toArray.size) undef,defers:=[]}=fun t=>vs.getD t undef:=by
  funext t;exact dP
 have hup:=hhr.up;have hrel:aN F S (eB gb) (ar I) {tmps:=vs.toArray++Array.replicate (fn.ntmps - vs.toArray.size) undef,defers:=[]} w:=by
  refine ⟨rfl,?_,Bw.refl _ _,fun _ _ _ _=>rfl,aR.le.refl _,?_,by rw[hsv];exact hup,?_,?_,?_,fun d=>rfl,hglo⟩
  ·show (vs.toArray++Array.replicate (fn.ntmps - vs.toArray.size) undef).size=af.N;simp;omega
  ·intro t
   have:=(fU (dE _ _ hvs) 0 t).2 t (by omega)
   rw[dP];exact this
  ·intro i g z hi hq;obtain ⟨c1,hc1⟩:=jp.1 hi;obtain ⟨j,cs,rfl,hj,_⟩:=bL cQ hc1;exact .inr (.inl ⟨j,z,by rw[hj];rfl,hq⟩)
  ·intro p k g hp hg;obtain ⟨q,rfl,hq⟩:=eL cQ hp;rw[hsv,kK] at hg;exact .inr (.inr ⟨q,k,hq,hg⟩)
  ·intro i hi;cases i<;>simp[eB,Id.isUp] at hi ⊢
 refine eA (F:=F) hd h6 (Q:=bH d af.rs O) ?_ hrel hw;intro e S0' gb0' σ0 a' w' hr0 hq0;have fin: ∀σ0,aN F S0' gb0' σ0 a' w'->(∃τ,nY σ0 τ/\j5 d af.rs O τ)->a'.defers=[]/\ ∃v,(results fn a'.tmps).run P w'= .ok v w'/\(∃u,Ending.returned v= .returned u/\ ∃S'' gb'',dL d I O S gb (fun t=>vs.getD t undef) w S'' gb'' u w'):=by
  rintro σ0 hr0 ⟨τ,hfz,hok⟩;obtain ⟨S',gb',hr⟩:=hr0.frzs hfz;refine ⟨hr.defers,?_⟩;have hr':=hok.r;split at hr'
  ·rename_i vs' hv;obtain ⟨us,hrun,g2,g3⟩:=kJ (P:=P) hr h5 hv;obtain ⟨o1,o2,o3,o4⟩:=hr.out hok hv g2 g3 (by rw[<-g2.length];exact (fA (qs:=[]) hv).symm);refine ⟨_,hrun,_,rfl,S',dc d gb' O.bx,hr.bw,hr.ext,hr.le,?_,?_,o1,o2,o3,o4⟩
   ·intro i hi
    have:dc d gb' O.bx i=gb' (i.inn d):=eC (fun e=>by rw[hi] at e;cases e)
    rw[this,ae hi];exact hr.up i
   ·intro i hi hne;simp only[dc] at hne;split at hne
    ·exact absurd rfl hne
    ·rename_i hno;cases hs:(aD O.bx i).isSome with
     |true=>rfl
     |false=>exact absurd ⟨hi,hs⟩ hno
  ·cases hr'
 cases e
 ·exact fin _ hr0 hq0
 ·exact hq0.elim
 ·exact fin _ hr0 hq0
theorem JZ {P:Program} {GL:List (Nat×List Value)} {dr:Array Oper->List (List Nat)->List bv->Bool} {f:Nat} {fn:Func} {af:AF} (hf:P.funcs[f]?=some fn) (hm:mF P GL dr fn af=true) (hd:b7 P GL af.N dr) {d:Nat} {I:In} {O:bO} (hl:I.vs.length=af.np)
  (hw:dK (ba P GL) af.c (bH d af.rs O) (ar I)):ba P GL f d I O:=by
 rw[fy] at hw ⊢;exact Bg hf hm hd hl hw

def LC (S:Nat->Nat->In->bO->Prop) (f d:Nat) (xs:List X) (K:St->Prop) (σ:St):Prop:=JC S f d xs K σ
@[simp] theorem Sf {S:Nat->Nat->In->bO->Prop} {d f xs} {K:St->Prop} {σ:St}:bU S (.ce d f xs) K σ=LC S f d xs K σ:=by rw[bU];rfl
def Sg (S:Nat->Nat->In->bO->Prop) (d:Nat) (xs:List X) (K:St->Prop) (σ:St):AV->Prop
 | .fn f caps=>if BM<=f then LC S (f - BM) d (caps.map X.c++xs) K σ else LC S f d (xs++caps.map X.c) K σ
 |_=>False
@[simp] theorem Sh {S:Nat->Nat->In->bO->Prop} {d x xs} {K:St->Prop} {σ:St}:bU S (.cd d x xs) K σ=Sg S d xs K σ (σ.v x):=by
 rw[bU];unfold Sg LC;cases σ.v x<;>rfl
@[simp] theorem Si {S:Nat->Nat->In->bO->Prop} {d xs f caps} {K:St->Prop} {σ:St}:Sg S d xs K σ (.fn f caps)=(if BM<=f then LC S (f - BM) d (caps.map X.c++xs) K σ else LC S f d (xs++caps.map X.c) K σ):=rfl
theorem aE {P:Program} {GL:List (Nat×List Value)} {K:St->Prop} {σ:St} {f d:Nat} {xs:List X} (I:In) (O:bO) (h:ba P GL f d I O) (hc:cO d σ xs I O) (hk:K (bB d σ xs I O)):LC (ba P GL) f d xs K σ:=⟨I,O,h,hc,hk⟩
theorem eU {P:Program} {GL:List (Nat×List Value)} {K:St->Prop} {σ:St} {f d:Nat} {xs:List X} {fr:List Nat} (I:In) (O:bO) (h:ba P GL f d I O) (hc:cO d σ xs I O) (hq:JA (mJ σ fr) I O) (hk:K (bB d σ xs I O)) (hn:fr.contains d=false:=by decide):TZ (ba P GL) f d xs fr K σ:=⟨I,O,h,hc,⟨hq,hn⟩,hk⟩
theorem bh {d:Nat} {rs:List AR} {O:bO} {σ:St} (h:j5 d rs O σ):bH d rs O .n σ:=⟨σ,.z σ,h⟩
theorem J0 {d:Nat} {rs:List AR} {O:bO} {σ:St} (h:j5 d rs O σ):bH d rs O .r σ:=⟨σ,.z σ,h⟩
theorem ah {d:Nat} {rs:List AR} {O:bO} {σ:St} (a:match gh σ rs with |some vs=>Se (vQ vs) (O.r.mp (Id.inn d)) |none=>False) (b: ∀i∈O.r.ids,yR d O.bx i) (c: ∀p∈O.bx,Ny d σ p.1 p.2) (e: ∀p∈O.bx, ∀i∈bm p.2,yR d O.bx i) (g: ∀p∈O.pm,nX d rs O.bx σ p) (h:O.pm=[]\/lL rs):bH d rs O .r σ:=J0 ⟨a,b,c,e,g,h⟩
theorem bg {P:Program} {GL:List (Nat×List Value)} {K:St->Prop} {σ:St} {f d:Nat} {xs:List X} (I:In) (O:bO) (h:ba P GL f d I O) (hk:K (bB d σ xs I O)) (hc:cO d σ xs I O:=by constructor<;>simp):LC (ba P GL) f d xs K σ:=aE I O h hc hk
@[simp] theorem Sj {d i}:(Id.up i).inn d= .up (.up i):=rfl
@[simp] theorem T9 {d k}:(Id.n k).inn d= .up (.n k):=rfl
@[simp] theorem Sk {d i k}:(Id.ix i k).inn d= .up (.ix i k):=rfl
@[simp] theorem PJ {d k}:(Id.it k).inn d= .up (.it k):=rfl
@[simp] theorem Sl {d d' i}:(Id.nw d' i).inn d=if d'=d/\i.isUp=false then i else .up (.nw d' i):=rfl
@[simp] theorem Ua {d i}:(Id.up i).isNw d=false:=rfl
@[simp] theorem Vs {d k}:(Id.n k).isNw d=false:=rfl
@[simp] theorem Ub {d i k}:(Id.ix i k).isNw d=false:=rfl
@[simp] theorem Sm {d k}:(Id.it k).isNw d=false:=rfl
@[simp] theorem Uc {d d' i}:(Id.nw d' i).isNw d=(d'==d&&!i.isUp):=rfl
attribute [simp] AV.mp aP aW aY Pl.mp ar nz GH jR lq jF lr bB re lc nX Ny Se JX yR lL iY lC St.puto
theorem ba.noPm {P:Program} {GL:List (Nat×List Value)} {f d:Nat} {I:In} {r:AV} {bx:List (Id×List AV)} {pm:List (Pl×Nat)} (h:ba P GL f d I ⟨r,bx,pm⟩):ba P GL f d I ⟨r,bx,[]⟩:=by
 rw[fy] at h ⊢;intro S gb w vs hvs hhr hglo hnw
 have:=h S gb w vs hvs hhr hglo hnw
 have hm: ∀v w',(∃S' gb',dL d I ⟨r,bx,pm⟩ S gb (fun t=>vs.getD t undef) w S' gb' v w')-> ∃S' gb',dL d I ⟨r,bx,[]⟩ S gb (fun t=>vs.getD t undef) w S' gb' v w':=by
  rintro v w' ⟨S',gb',q⟩;refine ⟨S',gb',q.bw,q.ext,q.le,q.same,q.nw,q.r,⟨q.hr.agree,q.hr.box,q.hr.its,q.hr.inj,?_,?_,?_,?_⟩,q.newb,?_⟩
  ·intro p k hk;simp[aH] at hk
  ·intro p q k l b hk;simp[aH] at hk
  ·intro p k b d z hk;simp[aH] at hk
  ·intro d off k hk;simp[aH] at hk
  ·intro p k g hk;simp[aH] at hk
 unfold lH at this ⊢;split at this
 ·exact hm _ _ this
 ·exact this.mono (fun e w' ⟨v,h1,h2⟩=>⟨v,h1,hm _ _ h2⟩)
 ·exact this
theorem Sp.of_h {P:Program} {GL:List (Nat×List Value)} {f:Nat} {l:List AV} {r:AV} (h: ∀d,ba P GL f d ⟨l,[],[]⟩ ⟨r,[],[]⟩):Sp P GL f l r:=by unfold Sp;exact h
theorem Sp.h {P:Program} {GL:List (Nat×List Value)} {f d:Nat} {l:List AV} {r:AV} (h:Sp P GL f l r):ba P GL f d ⟨l,[],[]⟩ ⟨r,[],[]⟩:=by unfold Sp at h;exact h d
end Go.Ai
namespace Go.Ai
open Go.RowKit
variable {P:Program} {F:Fr} {S:aR} {gb:Gb} {σ:St} {a:Act} {w:World}

def Mp:bv->Bool
 | .mv _ _| .pk _ _ _ _| .bi _ _ _ _| .bb _ _ _ _| .un _ _ _| .cv _ _ _| .lns _ _| .ln _ _| .fa _ _ _| .ia _ _ _ _| .iaa _ _ _ _ _| .lds _ _| .lda _ _ _| .bd _ _ _| .fls _ _ _| .fla _ _ _ _| .ixs _ _ _| .exq _ _ _| .nc _ _=>true
 |_=>false
theorem J1 {Sp:Nat->Nat->In->bO->Prop} {K:St->Prop} {o:bv} (h:Mp o=true) (hw:bU Sp o K σ): ∃d v,ev σ o=some (d,v)/\K (σ.put d v):=by
 have key:bU Sp o K σ=ld K σ (ev σ o):=by cases o<;>first|rfl|cases h
 rw[key] at hw;unfold ld at hw;split at hw
 ·rename_i d v he;exact ⟨d,v,he,hw⟩
 ·cases hw
theorem CQ {τ:St} {o:bv} (h:Mp o=true) (he: ∀t∈cz o,lk σ.e t=lk τ.e t) (hb:σ.bx=τ.bx) {d:Nat} {v:AV} (hv:ev σ o=some (d,v)):ev τ o=some (d,v):=by
 have key: ∀(σ:St),f7 (fun _ _ _ _=>False) o (· =Dl.put d v) σ↔ev σ o=some (d,v):=by
  intro σ
  have:f7 (fun _ _ _ _=>False) o (· =Dl.put d v) σ=(match ev σ o with |some (d',v')=>Dl.put d' v'=Dl.put d v|none=>False):=by
   cases o<;>first|rfl|cases h
  rw[this];cases ev σ o with
  |none=>simp
  |some p=>obtain ⟨d',v'⟩:=p;simp
 refine (key τ).1 (CE ⟨he,fun b _=>by rw[hb],fun p hp=>?_,fun b off _ h2=>?_,fun x hx=>?_⟩ ((key σ).2 hv))
 ·have:uG σ o=[]:=by cases o<;>first|rfl|cases h
  rw[this] at hp;cases hp
 ·have:fQ o≠2:=by cases o<;>first|(intro e;cases e;done)|cases h
  exact absurd h2 this
 ·cases o<;>first|(cases h;done)|skip
  all_goals (simp only[fb] at hx;first|(cases hx;done)|skip)
  all_goals (repeat' (first|(split at hx)|contradiction))
  all_goals (cases hx;trivial)
def Ed:List bv->St->Option St
 |[],σ=>some σ
 |o::r,σ=>match ev σ o with
  |some (d,v)=>Ed r (σ.put d v)
  |none=>none
theorem CR {Sp:Nat->Nat->In->bO->Prop} {K:St->Prop}: ∀ {l:List bv} {σ:St},l.all Mp=true->lu Sp l K σ-> ∃τ,Ed l σ=some τ/\K τ
 |[],σ,_,h=>⟨σ,rfl,h⟩
 |o::r,σ,hl,h=>by
  simp only[List.all_cons,aJ] at hl;simp only[lu] at h;obtain ⟨d,v,he,hk⟩:=J1 hl.1 h;obtain ⟨τ,h1,h2⟩:=CR hl.2 hk;exact ⟨τ,by simp only[Ed,he];exact h1,h2⟩
def Nz:List bv->Bool
 |[]=>true
 |o::r=>(match cG o with |some d=>!(cz o).contains d&&r.all (fun q=>cG q !=some d)|none=>false)&&r.all (fun q=>match cG q with |some d=>!(cz o).contains d|none=>false)&&Nz r
theorem Sn {o:bv} {d:Nat} {v:AV} (h:ev σ o=some (d,v)):cG o=some d:=GB h
theorem CT: ∀ {l:List bv} {σ τ:St},l.all Mp=true->Nz l=true->Ed l σ=some τ->
  τ.bx=σ.bx/\(∀p:Pl,p.isB=true->aH τ.pm p=aH σ.pm p)/\(∀t,(∀o∈l,cG o≠some t)->lk τ.e t=lk σ.e t)/\(∀o∈l,∃d,cG o=some d/\ev τ o=some (d,lk τ.e d))
 |[],σ,τ,_,_,h=>by
  cases h;exact ⟨rfl,fun _ _=>rfl,fun _ _=>rfl,fun o ho=>by cases ho⟩
 |o::r,σ,τ,hl,hs,h=>by
  simp only[List.all_cons,aJ] at hl;simp only[Nz,aJ] at hs;obtain ⟨⟨hs1,hs2⟩,hs3⟩:=hs;simp only[Ed] at h;split at h
  ·rename_i d v he;have hd:=Sn he;rw[hd] at hs1;simp only[aJ,tL,List.contains_eq_mem,decide_eq_false_iff_not,ik,bne_iff_ne,ne_eq] at hs1;obtain ⟨hs1,hs4⟩:=hs1;obtain ⟨k1,k2,k3,k4⟩:=CT hl.2 hs3 h;have hu: ∀t∈cz o,lk σ.e t=lk τ.e t:=by
    intro t ht;rw[k3 t (fun q hq e=>?_)]
    ·show _=lk ((d,v)::σ.e) t;simp only[lk];rw[if_neg (fun (e:d=t)=>hs1 (e▸ht))]
    ·have:=ik.1 hs2 q hq
     rw[e] at this;simp[ht] at this
   have hdv:lk τ.e d=v:=by
    rw[k3 d (fun q hq=>hs4 q hq)];show lk ((d,v)::σ.e) d=v;simp[lk]
   refine ⟨k1,fun p hp=>?_,fun t ht=>?_,fun q hq=>?_⟩
   ·rw[k2 p hp];show aH (gV σ.pm d) p=_;rw[gJ,if_neg (by rw[vS hp];simp)]
   ·rw[k3 t (fun q hq=>ht q (by simp[hq]))];show lk ((d,v)::σ.e) t=_;simp only[lk];rw[if_neg (fun e=>ht o (by simp) (by rw[hd,e]))]
   ·rcases nH.1 hq with rfl|hq
    ·exact ⟨d,hd,by rw[hdv];exact CQ hl.1 hu k1.symm he⟩
    ·exact k4 q hq
  ·cases h
def yT (P:Program) (GL:List (Nat×List Value)) (N:Nat) (ops:Array Oper) (l:List bv) (p:Nat×bv):Bool:=match ops[p.1]? with
 |some o=>o.guard.isNone&&Mp p.2&&(dC P GL N o p.2||(match p.2 with
  | .mv d (.c .undef)=>(match l[p.1]? with |some (.al d' z)=>d==d'&&dC P GL N o (.al d' z)|_=>false)
  |_=>false))
 |none=>false
def CU (A:List Nat) (p q:Nat×bv):Bool:=if q.1==p.1 then cG q.2==cG p.2 else
 cG q.2 !=cG p.2&&(match cG q.2 with |some t=>!(cz p.2).contains t||(Nat.blt q.1 p.1&&(A.getD p.1 0).testBit q.1)|none=>true)
def Ee (P:Program) (GL:List (Nat×List Value)) (N:Nat) (ops:Array Oper) (l:List bv) (k:Nat) (ll:List (Nat×bv)) (d f:Nat) (ys:List X):Bool:=
 let A:=Ea ops.toList []
 CG ops.toList A&&Nat.blt k ops.size&&((List.range ops.size).all fun i=>i==k||(Nat.blt k i&&(A.getD i 0).testBit k)||ll.any fun p=>p.1==i)&&
 ll.all (fun p=>yT P GL N ops l p&&ll.all (fun q=>CU A p q))&&Nz (ll.map (·.2))&&ll.all (fun q=>q.1 !=k)&&
 ll.all (fun q=>match cG q.2 with |some t=>!(ys.flatMap xs).contains t||(Nat.blt q.1 k&&(A.getD k 0).testBit q.1)|none=>false)&&
 (match ops[k]? with |some o=>o.guard.isNone&&dC P GL N o (.ce d f ys)|none=>false)
theorem Ou (h:aN F S gb σ a w) {o:Oper} {d:Nat} {z:List AV} (hm:dC P F.GL F.N o (.al d z)=true) {K:Act->World->Prop} {Q:Exit->Act->World->Prop} (hK: ∀S gb a w,aN F S gb (σ.put d .undef) a w->K a w):o.wp P a w K Q:=by
 simp only[dC,aJ,ax] at hm;obtain ⟨⟨h1,h2⟩,hm⟩:=hm;split at hm<;>(try cases hm);rename_i t hop;split at hm<;>(try cases hm);rename_i i hi;split at hm<;>(try cases hm);rename_i z' hz;refine be (u:= .pointer (some ⟨w.heap.size,0,none⟩)) (w':=w.alloc (.cells z'.cells t)) ?_ ?_
 ·unfold execOp;simp[hop,Instr.alloc,zeroValue,typeInfo,hi,hz,newVar,newRow]
 ·rw[h1];have hbl:Below w.heap.size w (w.alloc (.cells z'.cells t)):=Below.alloc (Below.refl _ _) (eR _) _;have hs:=h.step (S':=S) hbl (fun _ _ _=>rfl) (aR.le.refl _) (fun g o v hv=>by
   have hlt:g<w.heap.size:=by have:=World.block_lt_of_cell? w _ (h.hr.agree _ _ _ hv);simpa using this
   rw[World.cell?_alloc_lt]
   ·exact h.hr.agree _ _ _ hv
   ·exact hlt)
  exact hK _ _ _ _ (hs.put h2 (by simp[PR]))

theorem Mq {ops:Array Oper} {l:List bv} {k:Nat} {ll:List (Nat×bv)} {d f:Nat} {ys:List X} (hm:Ee P F.GL F.N ops l k ll d f ys=true) {σF:St} {Q:Exit->Act->World->Prop}
  (hrel:aN F S gb σ a w) (hrun:Ed (ll.map (·.2)) σ=some σF)
  (hcall: ∀(S:aR) (gb:Gb) (τ:St) (a:Act) (w:World),aN F S gb τ a w->τ.bx=σF.bx->(∀p:Pl,p.isB=true->aH τ.pm p=aH σF.pm p)->(∀t∈ys.flatMap xs,lk τ.e t=lk σF.e t)->
   ∀o,ops[k]?=some o->dC P F.GL F.N o (.ce d f ys)=true-> ∀K',o.wp P a w K' Q):
  wpAny P .any ops Q ops.size (Array.replicate ops.size false) a {w with drawn:=w.drawn+1}:=by
 simp only[Ee,aJ] at hm;generalize hA:Ea ops.toList []=A at hm;obtain ⟨⟨⟨⟨⟨⟨⟨hanc,hk⟩,hcov⟩,hll⟩,hssa⟩,hnk⟩,hys⟩,hck⟩:=hm;have hk:k<ops.size:=by simpa using hk
 have hdir: ∀(j:Nat) (o:Oper),ops[j]?=some o->(∀m∈io o,m<j)/\ ∀k,k<j->(A.getD j 0).testBit k=true->k∈io o\/ ∃m∈io o,k<m/\(A.getD m 0).testBit k=true:=by
  intro j o ho;have hj:j<ops.size:=(qC.1 ho).1
  have:=ik.1 hanc j (List.mem_range.2 (by simpa using hj))
  simp only[Array.getElem?_toList,ho,aJ,ik,AG,tL,List.contains_eq_mem,qu,List.any_eq_true,List.mem_range] at this;refine ⟨fun m hm=>by have:=this.1 m hm;simpa using this,fun k hk hb=>?_⟩;rcases this.2 k hk with (h|h)|⟨m,h1,h2,h3⟩
  ·rw[h] at hb;cases hb
  ·exact .inl h
  ·exact .inr ⟨m,h1,by simpa using h2,h3⟩
 let cl (listed:Array Bool):Prop:= ∀(j:Nat) (o:Oper),ops[j]?=some o->listed.getD j false=true-> ∀m∈io o,listed.getD m false=true
 have hclos: ∀listed,cl listed-> ∀(j:Nat) (o:Oper),ops[j]?=some o->(∀m∈io o,listed.getD m false=true)-> ∀k,k<j->(A.getD j 0).testBit k=true->listed.getD k false=true:=by
  intro listed hcl j;induction j using Nat.strongRecOn with
  |_ j ih=>
   intro o ho hd k hk hb;obtain ⟨d1,d2⟩:=hdir j o ho;rcases d2 k hk hb with h|⟨m,hm,hkm,hbm⟩
   ·exact hd k h
   ·have hmj:=d1 m hm;have hms:m<ops.size:=by have:=(qC.1 ho).1;omega
    obtain ⟨om,hom⟩: ∃om,ops[m]?=some om:=⟨ops[m],by simp[hms]⟩;exact ih m hmj om hom (hcl m om hom (hd m hm)) k hkm hbm
 have notReady: ∀listed:Array Bool,listed.size=ops.size->Region.ready .any ops listed=[]-> ∀j,j<ops.size->listed.getD j false=true:=by
  intro listed hls hr j;induction j using Nat.strongRecOn with
  |_ j ih=>
   intro hj;cases hl:listed.getD j false with
   |true=>rfl
   |false=>
    exfalso;have hmem:j∈Region.ready .any ops listed:=by
     simp only[Region.ready,List.mem_filter,List.mem_range,aJ,tL];refine ⟨hj,?_,?_⟩
     ·have:listed.getD j true=listed.getD j false:=by simp[kC,show j<listed.size by omega]
      rw[this,hl]
     ·have ho:ops[j]?=some ops[j]:=by simp[hj]
      simp only[ho,Option.map_some,Option.getD_some];rw[Array.all_eq_true_iff_forall_mem];intro e he;simp only[AG,tL];cases hbi:Region.binds .any e with
      |false=>left;rfl
      |true=>
       right;have hm:e.on∈io ops[j]:=by
        simp only[io,oY,List.mem_filter];exact ⟨e,⟨by simpa using he,hbi⟩,rfl⟩
       have:=(hdir j _ ho).1 e.on hm
       exact ih e.on this (by omega)
    rw[hr] at hmem;simp at hmem
 have hone: ∀p∈ll,yT P F.GL F.N ops l p=true/\ ∀q∈ll,CU A p q=true:=by
  intro p hp
  have:=ik.1 hll p hp
  simp only[aJ,ik] at this;exact this
 have hlg:(ll.map (·.2)).all Mp=true:=by
  refine ik.2 fun o ho=>?_
  obtain ⟨p,hp,rfl⟩:=oY.1 ho
  have:=(hone p hp).1
  unfold yT at this;split at this
  ·simp only[aJ] at this;exact this.1.2
  ·cases this
 obtain ⟨r1,r2,r3,r4⟩:=CT hlg hssa hrun;have keep: ∀(listed:Array Bool) (i m:Nat),listed.size=ops.size->i<ops.size->listed.getD m false=true->(listed.setIfInBounds i true).getD m false=true:=by
  intro listed i m hls his hm;by_cases h1:m=i
  ·subst h1;simp[kC,hls,his]
  ·simp only[kC,Array.getElem?_setIfInBounds_ne (Ne.symm h1)] at hm ⊢;exact hm
 let G (listed:Array Bool) (τ:St):Prop:=τ.bx=σF.bx/\(∀p:Pl,p.isB=true->aH τ.pm p=aH σF.pm p)/\ ∀t,(∀p∈ll,cG p.2=some t->listed.getD p.1 false=true)->lk τ.e t=lk σF.e t
 have main: ∀fuel (listed:Array Bool) a w,listed.size=ops.size->fuel+((List.range ops.size).filter fun j=>listed.getD j false).length=ops.size->listed.getD k false=false->cl listed->(∃S gb τ,aN F S gb τ a w/\G listed τ)->wpAny P .any ops Q fuel listed a w:=by
  intro fuel;induction fuel with
  |zero=>
   intro listed a w hls hcnt hkf hcl hrel';exfalso;have hlen:((List.range ops.size).filter fun j=>listed.getD j false).length=(List.range ops.size).length:=by simpa using hcnt
   have:=List.length_filter_eq_length_iff.1 hlen k (List.mem_range.2 hk)
   rw[hkf] at this;cases this
  |succ fuel ih=>
   intro listed a w hls hcnt hkf hcl hrel';refine ⟨fun hr=>?_,fun i hi=>?_⟩
   ·rw[notReady listed hls hr k hk] at hkf;cases hkf
   simp only[Region.ready,List.mem_filter,List.mem_range,aJ,tL] at hi;obtain ⟨his,hif,hib⟩:=hi;have hf:listed.getD i false=false:=by
    have:listed.getD i true=listed.getD i false:=by simp[kC,show i<listed.size by omega]
    rw[<-this];exact hif
   have ho:ops[i]?=some ops[i]:=by simp[his]
   have hd: ∀m∈io ops[i],listed.getD m false=true:=by
    intro m hm;simp only[ho,Option.map_some,Option.getD_some] at hib;rw[Array.all_eq_true_iff_forall_mem] at hib;simp only[io,oY,List.mem_filter] at hm;obtain ⟨e,⟨he,hbi⟩,rfl⟩:=hm
    have:=hib e (by simpa using he)
    simpa[hbi] using this
   obtain ⟨S,gb,τ,h,g1,g2,g3⟩:=hrel';unfold wpOp;rw[ho];simp only[];by_cases hik:i=k
   ·
    subst hik;rw[ho] at hck;simp only[aJ,Option.isNone_iff_eq_none] at hck;rw[if_pos (by simp[Region.wanted,hck.1])];refine .inl (hcall S gb τ a w h g1 g2 (fun t ht=>g3 t fun p hp e=>?_) _ ho hck.2 _)
    have:=ik.1 hys p hp
    rw[e] at this;simp only[List.contains_eq_mem,ht,decide_true,Bool.not_true,Bool.false_or,aJ] at this;exact hclos listed hcl i _ ho hd p.1 (by simpa using this.1) this.2
   ·have hil: ∃p∈ll,p.1=i:=by
     have:=ik.1 hcov i (List.mem_range.2 his)
     simp only[AG,cI,hik,false_or,aJ,List.any_eq_true] at this;rcases this with h0|⟨p,hp,e⟩
     ·rw[hclos listed hcl i _ ho hd k (by simpa using h0.1) h0.2] at hkf;cases hkf
     ·exact ⟨p,hp,e⟩
    obtain ⟨p,hp,rfl⟩:=hil;obtain ⟨h1,h2⟩:=hone p hp;unfold yT at h1;rw[ho] at h1;simp only[aJ,Option.isNone_iff_eq_none] at h1;obtain ⟨⟨hgd,hlt⟩,hmt⟩:=h1;rw[if_pos (by simp[Region.wanted,hgd])];refine .inl ?_;obtain ⟨d0,hd0,hev⟩:=r4 p.2 (oY.2 ⟨p,hp,rfl⟩);have hself:d0∉cz p.2:=by
     have: ∀(l:List bv),Nz l=true-> ∀o∈l,∀d,cG o=some d->d∉cz o:=by
      intro l;induction l with
      |nil=>intro _ o ho;cases ho
      |cons x r ihl=>
       intro hs o ho d hd;simp only[Nz,aJ] at hs;rcases nH.1 ho with rfl|ho
       ·have:=hs.1.1
        rw[hd] at this;simp only[aJ,tL,List.contains_eq_mem,decide_eq_false_iff_not] at this;exact this.1
       ·exact ihl hs.2 o ho d hd
     exact this _ hssa _ (oY.2 ⟨p,hp,rfl⟩) _ hd0
    have hu: ∀t∈cz p.2,lk σF.e t=lk τ.e t:=by
     intro t ht;refine (g3 t fun q hq e=>?_).symm
     have:=h2 q hq
     unfold CU at this;split at this
     ·rw[cI] at this;rw[this,hd0] at e;cases e;exact absurd ht hself
     ·simp only[e,aJ,List.contains_eq_mem,ht,decide_true,Bool.not_true,Bool.false_or] at this;exact hclos listed hcl p.1 _ ho hd q.1 (by simpa using this.2.1) this.2.2
    have hev':ev τ p.2=some (d0,lk σF.e d0):=CQ hlt hu g1.symm hev;have hcl':cl (listed.setIfInBounds p.1 true):=by
     intro j oj hoj hlj m hm;by_cases hji:j=p.1
     ·subst hji;rw[ho] at hoj;cases hoj;exact keep _ _ m hls his (hd m hm)
     ·have:listed.getD j false=true:=by
       simp only[kC,Array.getElem?_setIfInBounds_ne (Ne.symm hji)] at hlj ⊢;exact hlj
      exact keep _ _ m hls his (hcl j oj hoj this m hm)
    have hcnt':fuel+((List.range ops.size).filter fun j=>(listed.setIfInBounds p.1 true).getD j false).length=ops.size:=by
     have:=uJ (show ops.size<=listed.size by omega) his hf
     omega
    have hkf':(listed.setIfInBounds p.1 true).getD k false=false:=by
     simp only[kC,Array.getElem?_setIfInBounds_ne hik] at hkf ⊢;exact hkf
    have fin: ∀S gb a w,aN F S gb (τ.put d0 (lk σF.e d0)) a w->wpAny P .any ops Q fuel (listed.setIfInBounds p.1 true) a w:=by
     intro S' gb' a' w' hr;refine ih _ a' w' (by simpa using hls) hcnt' hkf' hcl' ⟨S',gb',_,hr,g1,fun q hq=>?_,fun t ht=>?_⟩
     ·rw[<-g2 q hq];show aH (gV τ.pm d0) q=_;rw[gJ,if_neg (by rw[vS hq];simp)]
     ·show lk ((d0,lk σF.e d0)::τ.e) t=_;simp only[lk];split
      ·rename_i e;rw[e]
      ·rename_i hne;refine g3 t fun q hq e=>?_
       have h5:=ht q hq e
       have:p.1≠q.1:=by
        intro h6
        have:=h2 q hq
        unfold CU at this;rw[if_pos (by simp[h6]),cI,e,hd0] at this;cases this;exact hne rfl
       simp only[kC,Array.getElem?_setIfInBounds_ne this] at h5 ⊢;exact h5
    simp only[AG] at hmt;rcases hmt with hmt|hmt
    ·obtain ⟨q1,q2,u,q3,q4⟩:=nO h hmt hev';refine be q3 ?_;rw[q1];exact fin S gb _ w (h.put q2 q4)
    ·split at hmt<;>(try cases hmt);rename_i d' hp2;split at hmt<;>(try cases hmt);rename_i d'' z hz;simp only[aJ,cI] at hmt;obtain ⟨rfl,hmt⟩:=hmt;rw[hp2] at hev' hd0;simp only[cG,cW] at hd0;subst hd0;simp only[ev,cW,jM,true_and] at hev';refine Ou h hmt (fun S' gb' a' w' hr=>fin S' gb' a' w' ?_);rw[<-hev'];exact hr
 have rep: ∀j,(Array.replicate ops.size false).getD j false=false:=by
  intro j;simp only[kC,Array.getElem?_replicate];split<;>rfl
 have none:((List.range ops.size).filter fun j=>(Array.replicate ops.size false).getD j false)=[]:=by
  simp only[List.filter_eq_nil_iff,List.mem_range];intro j hj;rw[rep j];simp
 refine main ops.size (Array.replicate ops.size false) a {w with drawn:=w.drawn+1} (by simp) (by rw[none];simp) (rep k) (fun j o ho hl=>by rw[rep j] at hl;cases hl) ⟨S,gb,σ,hrel.drew,r1.symm,fun p hp=>(r2 p hp).symm,fun t ht=>?_⟩;refine (r3 t fun o ho e=>?_).symm;obtain ⟨p,hp,rfl⟩:=oY.1 ho
 have:=ht p hp e
 rw[rep] at this;cases this
end Go.Ai
namespace Go.Ai
open Go.RowKit
variable {P:Program} {F:Fr} {S:aR} {gb:Gb} {σ:St} {a:Act} {w:World}

abbrev jI (v:Value):List PanicEntry:=[{v,recovered:=false}]
def GJ (P:Program) (f:FuncId) (vs:Array Value) (w:World) (R:Value->World->Prop):Prop:=
 match (callFunc f vs).run P w with
 | .ok (.enter f' as') w'=>Calls P f' as' w' fun e w''=> ∃v,e= .panicked (jI v)/\R v w''
 |_=>False
def fJ (P:Program) (GL:List (Nat×List Value)) (f d:Nat) (I:In) (O:bO):Prop:=
 ∀(S:aR) (gb:Gb) (w:World) (vs:List Value),aa S gb I.vs vs->HR S gb I.bx I.pm (fun t=>vs.getD t undef) w->
  (∀i us,GL.lookup i=some us-> ∀(o:Nat) (u:Value),us[o]?=some u->S i o=some u/\u.oneCell'=true)->(∀i,i.isNw d=true->gb i=none)->
  GJ P f vs.toArray w fun v w'=> ∃S' gb',dL d I O S gb (fun t=>vs.getD t undef) w S' gb' v w'

inductive AP where
 |ce (d f:Nat) (xs:List X)
 |cd (d:Nat) (x:X) (xs:List X)
 |pn (d:Nat) (x:X)
inductive lM where
 |c (a:AC)
 |rp (l:List bv) (o:AP) (l':List bv)
 |sq (a b:lM)
 |cd (x:X) (a b:lM)
 |bl (i:Nat) (a:lM)
 |lp (a:lM)
 |sc (a:lM)
 |rq (us:List (List Nat)) (l:List bv) (k:Nat) (ll:List (Nat×bv)) (d f:Nat) (ys:List X)

section
variable (S:Nat->Nat->In->bO->Prop) (SP:Nat->Nat->In->bO->Prop) (R:AV->St->Prop)
def lg (d:Nat) (σ:St) (xs:List X) (I:In) (O:bO):St:=⟨(d,.undef)::(bB d σ xs I O).e,(bB d σ xs I O).bx,gV (bB d σ xs I O).pm d⟩
def GK (f d:Nat) (xs:List X) (σ:St):Prop:= ∃I O,SP f d I O/\cO d σ xs I O/\O.r.ids=[]/\R O.r (lg d σ xs I O)
def J2 (os:List bv) (d f:Nat) (ys:List X) (σ:St):Prop:=lu S os (fun τ=> ∃I O,SP f d I O/\cO d τ ys I O/\(∀p∈I.pm,p.1.isB=true)/\O.r.ids=[]/\
 ∀τ',τ'.bx=(lg d τ ys I O).bx->(∀p:Pl,p.isB=true->aH τ'.pm p=aH (lg d τ ys I O).pm p)->R O.r τ') σ
def Bh:AP->(St->Prop)->St->Prop
 | .ce d f xs,K,σ=>JC S f d xs K σ\/GK SP R f d xs σ
 | .cd d x xs,K,σ=>match σ.v x with
  | .fn f caps=>if BM<=f then JC S (f - BM) d (caps.map X.c++xs) K σ\/GK SP R (f - BM) d (caps.map X.c++xs) σ else JC S f d (xs++caps.map X.c) K σ\/GK SP R f d (xs++caps.map X.c) σ
  |_=>False
 | .pn _ x,_,σ=>match σ.v x with
  | .ifc T v=>v.ids=[]/\R (.ifc T v) σ
  |_=>False
def bu:lM->(AE->St->Prop)->St->Prop
 | .c a,Q,σ=>dK S a Q σ
 | .rp l o l',Q,σ=>lu S l (Bh S SP R o (lu S l' (Q .n))) σ
 | .sq a b,Q,σ=>bu a (AE.sq (bu b Q) Q) σ
 | .cd x a b,Q,σ=>match σ.v x with
  | .bool t=>if t=true then bu a Q σ else bu b Q σ
  |_=>False
 | .bl i a,Q,σ=>bu a (AE.bl i Q) σ
 | .lp a,Q,σ=> ∃n,Cu (bu a) Q n σ
 | .sc a,Q,σ=>bu a Q σ
 | .rq us l _ ll d f ys,Q,σ=>jG S us l 0 [] (Q .n) σ\/J2 S SP R (ll.map (·.2)) d f ys σ
end
theorem rN {S:Nat->Nat->In->bO->Prop}: ∀ {c:AC} {Q Q':AE->St->Prop} {σ:St},(∀e σ,Q e σ->Q' e σ)->dK S c Q σ->dK S c Q' σ:=by
 intro c;have m1: ∀ {o:bv} {K K':St->Prop} {σ:St},(∀σ,K σ->K' σ)->bU S o K σ->bU S o K' σ:=fun hk h=>nW hk h
 have mL: ∀ {l:List bv} {K K':St->Prop} {σ:St},(∀σ,K σ->K' σ)->lu S l K σ->lu S l K' σ:=by
  intro l;induction l with
  |nil=>intro K K' σ hk h;exact hk _ h
  |cons o r ih=>intro K K' σ hk h;exact m1 (fun σ h=>ih hk h) h
 have mD: ∀ {us:List (List Nat)} {l:List bv} {j:Nat} {h:List (Nat×Bx)} {K K':St->Prop} {σ:St},(∀σ,K σ->K' σ)->jG S us l j h K σ->jG S us l j h K' σ:=by
  intro us;induction us with
  |nil=>intro l j h K K' σ hk hw;cases l with
   |nil=>exact hk _ hw
   |cons=>exact hw.elim
  |cons u us ih=>intro l j h K K' σ hk hw;cases l with
   |nil=>exact hw.elim
   |cons o r=>exact ⟨hw.1,m1 (fun σ h=>ef.2 ⟨(ef.1 h).1,ih hk (ef.1 h).2⟩) hw.2⟩
 have sqm: ∀ {B B':St->Prop} {Q Q':AE->St->Prop},(∀σ,B σ->B' σ)->(∀e σ,Q e σ->Q' e σ)-> ∀e σ,AE.sq B Q e σ->AE.sq B' Q' e σ:=by
  intro B B' Q Q' hb hq e σ h;cases e
  ·exact hb _ h
  ·exact hq _ _ h
  ·exact hq _ _ h
 induction c with
 |sk=>intro Q Q' σ hq h;exact hq _ _ h
 |rg l=>intro Q Q' σ hq h;exact mL (fun σ h=>hq _ _ h) h
 |rd us l=>intro Q Q' σ hq h;exact mD (fun σ h=>hq _ _ h) h
 |sq a b iha ihb=>intro Q Q' σ hq h;exact iha (sqm (fun σ h=>ihb hq h) hq) h
 |cd x a b iha ihb=>
  intro Q Q' σ hq h;unfold dK at h ⊢;split at h
  ·rename_i t ht;split at h
   ·rename_i e;rw[if_pos e];exact iha hq h
   ·rename_i e;rw[if_neg e];exact ihb hq h
  ·cases h
 |bl i a ih=>
  intro Q Q' σ hq h;refine ih (fun e σ h=>?_) h;cases e
  ·exact hq _ _ h
  ·rename_i j;unfold AE.bl at h ⊢;by_cases e:j=i
   ·simp only[if_pos e] at h ⊢;exact hq _ _ h
   ·simp only[if_neg e] at h ⊢;exact hq _ _ h
  ·exact hq _ _ h
 |lp a ih=>
  intro Q Q' σ hq h;obtain ⟨n,hn⟩:=h;refine ⟨n,?_⟩;induction n generalizing σ with
  |zero=>exact hn
  |succ n ihn=>
   obtain ⟨τ,hτ,hb⟩:=hn;exact ⟨τ,hτ,ih (sqm (fun σ h=>ihn h) hq) hb⟩
 |ex i=>intro Q Q' σ hq h;exact hq _ _ h
 |rt=>intro Q Q' σ hq h;exact hq _ _ h
 |sc a ih=>intro Q Q' σ hq h;exact ih hq h
 |lb=>intro Q Q' σ hq h;exact hq _ _ h
 |no=>intro Q Q' σ hq h;exact h
 |fz s l=>intro Q Q' σ hq h;obtain ⟨τ,q0,b,n,sz,rows,tl,q1,q2,q3⟩:=h;exact ⟨τ,q0,b,n,sz,rows,tl,q1,q2,mL (fun σ h=>hq _ _ h) q3⟩

theorem Ef {S:Nat->Nat->In->bO->Prop}: ∀ {us:List (List Nat)} {l:List bv} {j:Nat} {h:List (Nat×Bx)} {K K':St->Prop} {σ:St},(∀σ,K σ->K' σ)->jG S us l j h K σ->jG S us l j h K' σ:=by
 intro us;induction us with
 |nil=>intro l j h K K' σ hk hw;cases l with
  |nil=>exact hk _ hw
  |cons=>exact hw.elim
 |cons u us ih=>intro l j h K K' σ hk hw;cases l with
  |nil=>exact hw.elim
  |cons o r=>exact ⟨hw.1,nW (fun σ h=>ef.2 ⟨(ef.1 h).1,ih hk (ef.1 h).2⟩) hw.2⟩
theorem yU {S:Nat->Nat->In->bO->Prop}: ∀ {l:List bv} {K K':St->Prop} {σ:St},(∀σ,K σ->K' σ)->lu S l K σ->lu S l K' σ:=by
 intro l;induction l with
 |nil=>intro K K' σ hk h;exact hk _ h
 |cons o r ih=>intro K K' σ hk h;exact nW (fun σ h=>ih hk h) h
theorem GM {S SP:Nat->Nat->In->bO->Prop} {R:AV->St->Prop} {K K':St->Prop} (hk: ∀σ,K σ->K' σ): ∀ {o:AP} {σ:St},Bh S SP R o K σ->Bh S SP R o K' σ:=by
 intro o σ h;cases o with
 |ce d f xs=>
  rcases h with ⟨I,O,h1,h2,h3⟩|h
  ·exact .inl ⟨I,O,h1,h2,hk _ h3⟩
  ·exact .inr h
 |cd d x xs=>
  simp only[Bh] at h ⊢;split at h
  ·split at h<;>rename_i hb<;>(first|rw[if_pos hb]|rw[if_neg hb])<;>rcases h with ⟨I,O,h1,h2,h3⟩|h
   ·exact .inl ⟨I,O,h1,h2,hk _ h3⟩
   ·exact .inr h
   ·exact .inl ⟨I,O,h1,h2,hk _ h3⟩
   ·exact .inr h
  ·cases h
 |pn d x=>exact h
theorem CV {B B':St->Prop} {Q Q':AE->St->Prop} (hb: ∀σ,B σ->B' σ) (hq: ∀e σ,Q e σ->Q' e σ): ∀e σ,AE.sq B Q e σ->AE.sq B' Q' e σ:=by
 intro e σ h;cases e
 ·exact hb _ h
 ·exact hq _ _ h
 ·exact hq _ _ h
theorem Eg {S SP:Nat->Nat->In->bO->Prop} {R:AV->St->Prop}: ∀ {c:lM} {Q Q':AE->St->Prop} {σ:St},(∀e σ,Q e σ->Q' e σ)->bu S SP R c Q σ->bu S SP R c Q' σ:=by
 intro c;induction c with
 |c a=>intro Q Q' σ hq h;exact rN hq h
 |rp l o l'=>intro Q Q' σ hq h;exact yU (fun σ h=>GM (fun σ h=>yU (fun σ h=>hq _ _ h) h) h) h
 |sq a b iha ihb=>intro Q Q' σ hq h;exact iha (CV (fun σ h=>ihb hq h) hq) h
 |cd x a b iha ihb=>
  intro Q Q' σ hq h;unfold bu at h ⊢;split at h
  ·rename_i t ht;split at h
   ·rename_i e;rw[if_pos e];exact iha hq h
   ·rename_i e;rw[if_neg e];exact ihb hq h
  ·cases h
 |bl i a ih=>
  intro Q Q' σ hq h;refine ih (fun e σ h=>?_) h;cases e
  ·exact hq _ _ h
  ·rename_i j;unfold AE.bl at h ⊢;by_cases e:j=i
   ·simp only[if_pos e] at h ⊢;exact hq _ _ h
   ·simp only[if_neg e] at h ⊢;exact hq _ _ h
  ·exact hq _ _ h
 |lp a ih=>
  intro Q Q' σ hq h;obtain ⟨n,hn⟩:=h;refine ⟨n,?_⟩;induction n generalizing σ with
  |zero=>exact hn
  |succ n ihn=>
   obtain ⟨τ,hτ,hb⟩:=hn;exact ⟨τ,hτ,ih (CV (fun σ h=>ihn h) hq) hb⟩
 |sc a ih=>intro Q Q' σ hq h;exact ih hq h
 |rq us l k ll d f ys=>intro Q Q' σ hq h;exact h.imp (Ef fun σ h=>hq _ _ h) id
theorem Mr {S SP:Nat->Nat->In->bO->Prop} {R:AV->St->Prop} {α:Type} {c:lM} {Q:AE->St->Prop} (st:α->St) (I:α->Prop) (μ:α->Nat)
  (step: ∀x,I x->bu S SP R c (AE.sq (Oq st I μ x) Q) (st x)) {σ:St} (x:α) (hx:I x) (hw:il σ (st x)):bu S SP R (.lp c) Q σ:=by
 have key: ∀n x,μ x<n->I x-> ∀σ,uu σ (st x)->Cu (bu S SP R c) Q n σ:=by
  intro n;induction n with
  |zero=>intro x h;omega
  |succ n ih=>
   intro x hn hx σ hw;refine ⟨st x,hw,Eg ?_ (step x hx)⟩;intro e σ' h;cases e
   ·obtain ⟨y,hy,hlt,hwy⟩:=h;exact ih y (by omega) hy σ' hwy
   ·exact h
   ·exact h
 exact ⟨μ x+1,key _ x (by omega) hx σ (.inl hw)⟩
theorem CW {S SP:Nat->Nat->In->bO->Prop} {R:AV->St->Prop} {α:Type} {c:lM} {Q:AE->St->Prop} (st:α->St) (I:α->Prop) (μ:α->Nat)
  (step: ∀(K:St->Prop) (x:α),(∀(y:α) (σ':St),I y->μ y<μ x->il σ' (st y)->K σ')->I x->bu S SP R c (AE.sq K Q) (st x)) {σ:St} (x:α) (hx:I x) (hw:il σ (st x)):bu S SP R (.lp c) Q σ:=
 Mr st I μ (fun x hx=>step (Oq st I μ x) x (fun y σ' h1 h2 h3=>GG y h1 h2 h3) hx) x hx hw

def Ov (P:Program) (GL:List (Nat×List Value)) (N:Nat) (o:Oper):AP->Bool
 | .ce d f xs=>o.guard.isNone&&dC P GL N o (.ce d f xs)
 | .cd d x xs=>o.guard.isNone&&dC P GL N o (.cd d x xs)
 | .pn _ x=>o.guard.isNone&&(match o.op with | .panic y=>mX GL x y|_=>false)
def Ms (P:Program) (GL:List (Nat×List Value)) (N:Nat) (ops:Array Oper) (os:List Oper) (l:List bv) (p:AP) (l':List bv):Bool:=match os.drop l.length with
 |o::r=>lJ P GL N ops (os.take l.length) l&&Ov P GL N o p&&lJ P GL N ops r l'
 |[]=>false
def pe (P:Program) (GL:List (Nat×List Value)) (N:Nat) (dr:Array Oper->List (List Nat)->List bv->Bool):Code->lM->Bool
 |c,.c a=>mC P GL N dr c a
 | .region _ ops false,.rp l o l'=>Ms P GL N ops ops.toList l o l'
 | .seq x y,.sq x' y'=>pe P GL N dr x x'&&pe P GL N dr y y'
 | .cond c x y,.cd c' x' y'=>mX GL c' c&&pe P GL N dr x x'&&pe P GL N dr y y'
 | .block i x,.bl j x'=>i==j&&pe P GL N dr x x'
 | .loop x,.lp x'=>pe P GL N dr x x'
 | .scope x,.sc x'=>pe P GL N dr x x'
 | .region _ ops true,.rq us l k ll d f ys=>lJ P GL N ops ops.toList l&&dr ops us l&&Ee P GL N ops l k ll d f ys
 |_,_=>false
theorem aN.unput {e:List (Nat×AV)} {bx:List (Id×List AV)} {pm:List (Pl×Nat)} {d:Nat} {u:Value} (hd:d<F.N) (h:aN F S gb ⟨e,bx,pm⟩ (a.put (some d) u) w):aN F S gb ⟨(d,.undef)::e,bx,gV pm d⟩ a w:=by
 have hs:a.tmps.size=F.N:=by have:=h.size;simpa[Act.put] using this
 have hd':d<a.tmps.size:=by rw[hs];exact hd
 have hat: ∀p k,aH (gV pm d) p=some k->p.at d=false/\aH pm p=some k:=by
  intro p k hk;rw[gJ] at hk;split at hk
  ·cases hk
  ·rename_i hne;exact ⟨by simpa using hne,hk⟩
 refine ⟨h.defers,hs,h.bw,h.ext,h.le,?_,⟨h.hr.agree,h.hr.box,h.hr.its,h.hr.inj,?_,?_,?_,?_⟩,h.newb,?_,h.dom,h.up,h.glo⟩
 ·intro t;simp only[lk];split
  ·simp[PR]
  ·rename_i ne
   have:=h.env t
   rwa [iZ hd',if_neg ne] at this
 ·intro p k hk;obtain ⟨h1,h2⟩:=hat p k hk
  have:=h.hr.own p k h2
  rwa [cU hd' h1] at this
 ·intro p q k l b hk hl h1 h2;obtain ⟨p1,p2⟩:=hat p k hk;obtain ⟨q1,q2⟩:=hat q l hl;rw[<-cU (u:=u) hd' p1] at h1;rw[<-cU (u:=u) hd' q1] at h2;exact h.hr.ownd p q k l b p2 q2 h1 h2
 ·intro p k b d' z hk h1;obtain ⟨p1,p2⟩:=hat p k hk;rw[<-cU (u:=u) hd' p1] at h1;exact h.hr.ownb p k b d' z p2 h1
 ·intro e off k hk;exact h.hr.pmb e off k (hat _ k hk).2
 ·intro p k g hk hg;obtain ⟨p1,p2⟩:=hat p k hk;rw[<-cU (u:=u) hd' p1] at hg;exact h.newo p k g p2 hg
theorem jv (h:aN F S gb σ a w) {o:Oper} {d f:Nat} (h2:d<F.N) (h1:o.dst=some d) {xs:List X} {vs:List Value} (hl:aa S gb (xs.map σ.v) vs) (hsl: ∀(i t:Nat),xs[i]?=some (X.s t)->vs[i]?=some (tv a t))
  (hrun:(execOp a.eval o).run P w=(callFunc f vs.toArray).run P w) {R:AV->St->Prop} (hw:GK (fJ P F.GL) R f d xs σ) {K':Act->World->Prop} {Q:Exit->Act->World->Prop}
  (hR: ∀v u S gb σ a w,aN F S gb σ a w->R v σ->PR S gb v u->v.ids=[]->Q (.panic (jI u)) a w):o.wp P a w K' Q:=by
 obtain ⟨I,O,hspec,hc,hi,hr⟩:=hw;have hent:=gc h hc hl hsl;have hvs:aa S gb I.vs vs:=oZ hc.vs hl;have hglo: ∀i us,F.GL.lookup i=some us-> ∀(o:Nat) (u:Value),us[o]?=some u->S i o=some u/\u.oneCell'=true:=fun i us hi o u hu=>⟨h.le _ _ _ (h.glo i us hi o u hu).1,(h.glo i us hi o u hu).2⟩
 have hgn: ∀i,i.isNw d=true->gb i=none:=by
  intro i hi;cases hg:gb i with
  |none=>rfl
  |some x=>
   rcases h.dom i (by rw[hg];simp) with h1|h1
   ·obtain ⟨cs,hcs⟩:=jp.1 h1
    have:=hc.free _ (cF _ _ _ hcs)
    simp only at this;rw[this] at hi;cases hi
   ·cases i<;>simp[Id.isUp,Id.isNw] at h1 hi
 have hd:=hspec S gb w vs hvs hent hglo hgn;unfold Oper.wp;rw[hrun];unfold GJ at hd;split at hd
 ·rename_i f' as' w' he;rw[he];simp only[Oper.upon_enter];refine hd.mono ?_;rintro e w'' ⟨u,rfl,S',gb',hp⟩;exact hR O.r u S' gb' _ a w'' ((h.call h2 hc hl hsl hp).unput h2) hr hp.r hi
 ·exact hd.elim
theorem Eh (h:aN F S gb σ a w) {o:Oper} {p:AP} (hm:Ov P F.GL F.N o p=true) {R:AV->St->Prop} {K:St->Prop} (hw:Bh (bC P F.GL) (fJ P F.GL) R p K σ) {K':Act->World->Prop} {Q:Exit->Act->World->Prop}
  (hK: ∀S gb σ a w,aN F S gb σ a w->K σ->K' a w) (hR: ∀v u S gb σ a w,aN F S gb σ a w->R v σ->PR S gb v u->v.ids=[]->Q (.panic (jI u)) a w):o.guard=none/\o.wp P a w K' Q:=by
 cases p with
 |ce d f xs=>
  simp only[Ov,aJ,Option.isNone_iff_eq_none] at hm;refine ⟨hm.1,?_⟩;rcases hw with hw|hw
  ·exact jY h hm.2 (ao:= .ce d f xs) (K:=K) (by simpa only[bU] using hw) hK
  ·have hm:=hm.2;simp only[dC,aJ,ax] at hm;obtain ⟨⟨h1,h2⟩,hm⟩:=hm;split at hm<;>(try cases hm);rename_i f' as ts hop;simp only[aJ,cI] at hm;obtain ⟨rfl,hxs⟩:=hm;refine jv h h2 h1 (dt h hxs) (fun i t hi=>gZ hxs hi) ?_ hw hR;have harr:(List.map a.eval as.toList).toArray=as.map a.eval:=by
    apply Array.ext';simp
   rw[harr];unfold execOp;simp[hop,resolve,Act.eval,Deferred.ofValue,invoke]
 |cd d x xs=>
  simp only[Ov,aJ,Option.isNone_iff_eq_none] at hm;refine ⟨hm.1,?_⟩;simp only[Bh] at hw;split at hw
  ·rename_i f caps hv;have hm':=hm.2;simp only[dC,aJ,ax] at hm';obtain ⟨⟨h1,h2⟩,hm'⟩:=hm';split at hm'<;>(try cases hm');rename_i f' as ts hop;simp only[aJ] at hm';obtain ⟨hx,hxs⟩:=hm';split at hw
   ·rename_i hb;rcases hw with hw|hw
    ·exact jY h hm.2 (ao:= .cd d x xs) (K:=K) (by simp only[bU,hv,if_pos hb];exact hw) hK
    ·obtain ⟨vs,g1,g2,g3⟩:=qF (P:=P) h hop hx hxs hv (g:=f - BM) (ys:=caps.map X.c++xs) (by rw[if_pos hb]);exact jv h h2 h1 g1 g2 g3 hw hR
   ·rename_i hb;rcases hw with hw|hw
    ·exact jY h hm.2 (ao:= .cd d x xs) (K:=K) (by simp only[bU,hv,if_neg hb];exact hw) hK
    ·obtain ⟨vs,g1,g2,g3⟩:=qF (P:=P) h hop hx hxs hv (g:=f) (ys:=xs++caps.map X.c) (by rw[if_neg hb]);exact jv h h2 h1 g1 g2 g3 hw hR
  ·cases hw
 |pn d x=>
  simp only[Ov,aJ,Option.isNone_iff_eq_none] at hm;obtain ⟨hg,hm⟩:=hm;refine ⟨hg,?_⟩;split at hm<;>(try cases hm);rename_i y hop;have hx:=az h hm;simp only[Bh] at hw;split at hw
  ·rename_i T v hv;obtain ⟨hi,hr⟩:=hw;rw[hv] at hx;have hx':=hx;simp only[PR] at hx;obtain ⟨u,hu,_⟩:=hx;unfold Oper.wp execOp;simp only[hop];rw[hu] at hx' ⊢;simp[Instr.panic,goPanic];exact hR _ _ S gb σ a w h hr hx' (by simpa[AV.ids] using hi)
  ·cases hw
theorem jf {ops:Array Oper} {rest:List Oper} {K:St->Prop} {Q:Exit->Act->World->Prop} (hQ: ∀S gb σ a w,aN F S gb σ a w->K σ->wpList P ops Q rest a w):
  ∀ {l:List Oper} {al:List bv},lJ P F.GL F.N ops l al=true-> ∀ {S:aR} {gb:Gb} {σ:St} {a:Act} {w:World},aN F S gb σ a w->lu (bC P F.GL) al K σ->wpList P ops Q (l++rest) a w
 |[],al,hm,S,gb,σ,a,w,h,hw=>by
  cases al<;>simp[lJ] at hm;exact hQ _ _ _ _ _ h hw
 |o::r,al,hm,S,gb,σ,a,w,h,hw=>by
  cases al with
  |nil=>simp[lJ] at hm
  |cons ao s=>
   simp only[lJ,aJ] at hm;simp only[lu] at hw
   have:=iO h hm.1 hw (K':=wpList P ops Q (r++rest)) (Q:=Q) (fun S gb σ a w h' hk=>jf hQ hm.2 h' hk)
   rw[cB];simp only[wpList];split
   ·rename_i hc;rw[if_pos hc] at this;exact .inl this
   ·rename_i hc;rw[if_neg hc] at this;exact this
theorem yV {ops:Array Oper} {os:List Oper} {l:List bv} {p:AP} {l':List bv} (hm:Ms P F.GL F.N ops os l p l'=true) {R:AV->St->Prop} {K:St->Prop} {Q:Exit->Act->World->Prop} (hQ: ∀S gb σ a w,aN F S gb σ a w->K σ->Q .normal a w)
  (hR: ∀v u S gb σ a w,aN F S gb σ a w->R v σ->PR S gb v u->v.ids=[]->Q (.panic (jI u)) a w) (h:aN F S gb σ a w) (hw:lu (bC P F.GL) l (Bh (bC P F.GL) (fJ P F.GL) R p (lu (bC P F.GL) l' K)) σ):wpList P ops Q os a w:=by
 unfold Ms at hm;split at hm
 ·rename_i o r hd;simp only[aJ] at hm;have e:os=os.take l.length++o::r:=by rw[<-hd,F9]
  rw[e];refine jf (K:=Bh (bC P F.GL) (fJ P F.GL) R p (lu (bC P F.GL) l' K)) ?_ hm.1.1 h hw;intro S gb σ a w h hw;obtain ⟨hg,hwp⟩:=Eh (Q:=Q) (K':=wpList P ops Q r) h hm.1.2 hw (fun S gb σ a w h hk=>gg hQ hm.2 h hk) hR;simp only[wpList];rw[if_pos (by simp[Region.wanted,hg])];exact .inl hwp
 ·cases hm
theorem GN {ops:Array Oper} {GL:List (Nat×List Value)} {N:Nat} {l:List bv} {k:Nat} {ll:List (Nat×bv)} {d f:Nat} {ys:List X} (hm:Ee P GL N ops l k ll d f ys=true):(ll.map (·.2)).all Mp=true:=by
 simp only[Ee,aJ] at hm;obtain ⟨⟨⟨⟨⟨-,hll⟩,-⟩,-⟩,-⟩,-⟩:=hm;refine ik.2 fun o ho=>?_
 obtain ⟨p,hp,rfl⟩:=oY.1 ho
 have:=ik.1 hll p hp
 simp only[aJ] at this
 have:=this.1
 unfold yT at this;split at this
 ·simp only[aJ] at this;exact this.1.2
 ·cases this
theorem GP {ops:Array Oper} {id:Nat} {l:List bv} {k:Nat} {ll:List (Nat×bv)} {d f:Nat} {ys:List X} (hmix:P.follows .mixedOrders=true) (hm:Ee P F.GL F.N ops l k ll d f ys=true) {R:AV->St->Prop} {Q:Exit->Act->World->Prop}
  (hR: ∀v u S gb σ a w,aN F S gb σ a w->R v σ->PR S gb v u->v.ids=[]->Q (.panic (jI u)) a w) (h:aN F S gb σ a w) (hw:J2 (bC P F.GL) (fJ P F.GL) R (ll.map (·.2)) d f ys σ):(Code.region id ops true).wp P Q a w:=by
 obtain ⟨σF,hrun,I,O,hspec,hc,hpb,hi,hr⟩:=CR (GN hm) hw;refine wp_region_any hmix (Mq hm h hrun ?_);intro S gb τ a w h' hb hp hu o ho hmt K';have hvs:ys.map τ.v=ys.map σF.v:=md hu;have hc':cO d τ ys I O:=by
  refine ⟨by rw[hvs];exact hc.vs,fun p hp=>by rw[hb];exact hc.bx p hp,fun p hpm=>?_,hc.one,hc.kept,hc.new,fun p hp=>hc.free p (by rw[<-hb];exact hp)⟩;have h1:=hc.pm p hpm;have h2:=hpb p hpm;obtain ⟨q,k⟩:=p;cases q with
  |s t=>cases h2
  |t t i=>cases h2
  |b e off=>
   simp only[re,iX] at h1 ⊢;rw[hb,hp _ rfl];exact h1
 have hpm: ∀p:Pl,p.isB=true->aH (lg d τ ys I O).pm p=aH (lg d σF ys I O).pm p:=by
  intro p hq;simp only[lg,bB,gJ,vP,rJ ys _ _ hpb,lK,vS hq];cases p with
  |s t=>cases hq
  |t t i=>cases hq
  |b e off=>simp only[hp _ hq]
 have hmt':=hmt;simp only[dC,aJ,ax] at hmt';obtain ⟨⟨h1,h2⟩,hm3⟩:=hmt';split at hm3<;>(try cases hm3);rename_i f' as ts hop;simp only[aJ,cI] at hm3;obtain ⟨rfl,hxs⟩:=hm3;refine jv h' h2 h1 (dt h' hxs) (fun i t hi=>gZ hxs hi) ?_ ⟨I,O,hspec,hc',hi,hr _ (by simp only[lg,bB,hb]) hpm⟩ hR;have harr:(List.map a.eval as.toList).toArray=as.map a.eval:=by
  apply Array.ext';simp
 rw[harr];unfold execOp;simp[hop,resolve,Act.eval,Deferred.ofValue,invoke]
theorem lN {dr:Array Oper->List (List Nat)->List bv->Bool} (hd:b7 P F.GL F.N dr) {R:AV->St->Prop}: ∀ {c:Code} {ac:lM},pe P F.GL F.N dr c ac=true-> ∀ {Q:AE->St->Prop} {Q':Exit->Act->World->Prop},(∀e S gb σ a w,aN F S gb σ a w->Q e σ->Q' (yL e) a w)->
  (∀v u S gb σ a w,aN F S gb σ a w->R v σ->PR S gb v u->v.ids=[]->Q' (.panic (jI u)) a w)->
  ∀ {S:aR} {gb:Gb} {σ:St} {a:Act} {w:World},aN F S gb σ a w->bu (bC P F.GL) (fJ P F.GL) R ac Q σ->c.wp P Q' a w:=by
 intro c;have plain: ∀(c:Code) {ac:lM} {a':AC},ac= .c a'->pe P F.GL F.N dr c ac=true-> ∀ {Q:AE->St->Prop} {Q':Exit->Act->World->Prop},(∀e S gb σ a w,aN F S gb σ a w->Q e σ->Q' (yL e) a w)->
   ∀ {S:aR} {gb:Gb} {σ:St} {a:Act} {w:World},aN F S gb σ a w->bu (bC P F.GL) (fJ P F.GL) R ac Q σ->c.wp P Q' a w:=by
  intro c ac a' e hm Q Q' hQ S gb σ a w h hw;subst e;have hm':mC P F.GL F.N dr c a'=true:=by cases c<;>simpa only[pe] using hm
  exact eA hd hm' hQ h hw
 induction c with
 |region id ops draw=>
  intro ac hm Q Q' hQ hR S gb σ a w h hw;cases ac
  case c a'=>exact plain _ rfl hm hQ h hw
  case rp l o l'=>
   cases draw<;>simp[pe] at hm;exact wp_region_list (yV hm (fun S gb σ a w h' hk=>hQ .n _ _ _ _ _ h' hk) hR h hw)
  case rq us l k ll d f ys=>
   cases draw<;>simp[pe] at hm;rcases hw with hw|hw
   ·exact hd.rd F rfl rfl id ops us l hm.1.1 hm.1.2 (Q .n) Q' (fun S gb σ a w h' hk=>hQ .n _ _ _ _ _ h' hk) h hw
   ·exact GP hd.mix hm.2 hR h hw
  all_goals (cases draw<;>simp[pe] at hm)
 |seq x y ihx ihy=>
  intro ac hm Q Q' hQ hR S gb σ a w h hw;cases ac
  case c a'=>exact plain _ rfl hm hQ h hw
  case sq x' y'=>
   simp only[pe,aJ] at hm;refine wp_seq (ihx hm.1 (Q:=AE.sq (bu (bC P F.GL) (fJ P F.GL) R y' Q) Q) ?_ ?_ h hw)
   ·intro e S gb σ a w h' hq;cases e
    ·exact ihy hm.2 hQ hR h' hq
    ·exact hQ (.x _) _ _ _ _ _ h' hq
    ·exact hQ .r _ _ _ _ _ h' hq
   ·exact hR
  all_goals simp[pe] at hm
 |cond c x y ihx ihy=>
  intro ac hm Q Q' hQ hR S gb σ a w h hw;cases ac
  case c a'=>exact plain _ rfl hm hQ h hw
  case cd c' x' y'=>
   simp only[pe,aJ] at hm;obtain ⟨⟨hc,hx⟩,hy⟩:=hm;have hv:=az h hc;simp only[bu] at hw;split at hw
   ·rename_i t ht;rw[ht] at hv;simp only[PR] at hv;refine wp_cond hv ?_;cases t
    ·exact ihy hy hQ hR h (by simpa using hw)
    ·exact ihx hx hQ hR h (by simpa using hw)
   ·cases hw
  all_goals simp[pe] at hm
 |block i x ih=>
  intro ac hm Q Q' hQ hR S gb σ a w h hw;cases ac
  case c a'=>exact plain _ rfl hm hQ h hw
  case bl j x'=>
   simp only[pe,aJ,cI] at hm;obtain ⟨rfl,hx⟩:=hm;refine wp_block (ih hx (Q:=AE.bl i Q) ?_ ?_ h hw)
   ·intro e S gb σ a w h' hq;cases e
    ·exact hQ .n _ _ _ _ _ h' hq
    ·rename_i j;simp only[yL,Exit.inBlock];simp only[AE.bl] at hq;split at hq
     ·rename_i e;rw[if_pos e];exact hQ .n _ _ _ _ _ h' hq
     ·rename_i e;rw[if_neg e];exact hQ (.x _) _ _ _ _ _ h' hq
    ·exact hQ .r _ _ _ _ _ h' hq
   ·exact hR
  all_goals simp[pe] at hm
 |loop x ih=>
  intro ac hm Q Q' hQ hR S gb σ a w h hw;cases ac
  case c a'=>exact plain _ rfl hm hQ h hw
  case lp x'=>
   simp only[pe] at hm;simp only[bu] at hw;obtain ⟨n,hn⟩:=hw;intro b k cs;have key: ∀n S gb σ a w,aN F S gb σ a w->Cu (bu (bC P F.GL) (fJ P F.GL) R x') Q n σ-> ∃e a' w',Q' e a' w'/\Arrives P (lone (b.at a (.code x:: .inLoop x::k)) cs w) b k cs e a' w':=by
    intro n;induction n with
    |zero=>intro S gb σ a w h hn;exact hn.elim
    |succ n ihn=>
     intro S gb σ a w h hn;obtain ⟨τ,hτ,hb⟩:=hn;obtain ⟨gb',h'⟩:=h.weakR hτ;obtain ⟨e,a₁,w₁,hq,harr⟩:=ih hm (Q:=AE.sq (Cu (bu (bC P F.GL) (fJ P F.GL) R x') Q n) Q) (Q':=Exit.then (fun a w=> ∃S gb σ,aN F S gb σ a w/\Cu (bu (bC P F.GL) (fJ P F.GL) R x') Q n σ) Q') (by
      intro e S gb σ a w h'' hq;cases e
      ·exact ⟨_,_,_,h'',hq⟩
      ·exact hQ (.x _) _ _ _ _ _ h'' hq
      ·exact hQ .r _ _ _ _ _ h'' hq) hR h' hb b (.inLoop x::k) cs
     cases e with
     |normal=>
      obtain ⟨S1,gb1,σ1,h1,hi1⟩:=hq;obtain ⟨e₂,a₂,w₂,hq₂,harr₂⟩:=ihn _ _ _ _ _ h1 hi1;exact ⟨e₂,a₂,w₂,hq₂,.of_steps (Steps.trans harr (.one step_inLoop)) harr₂⟩
     |exit id=>exact ⟨_,a₁,w₁,hq,.pass (x:= .inLoop x) rfl (fun _ _=> .inl (by simp)) harr⟩
     |goto l=>exact ⟨_,a₁,w₁,hq,.pass (x:= .inLoop x) rfl (fun _ _=> .inl (by simp)) harr⟩
     |ret=>exact ⟨_,a₁,w₁,hq,.pass (x:= .inLoop x) rfl (fun _ _=> .inl (by simp)) harr⟩
     |panic ch=>exact ⟨_,a₁,w₁,hq,.pass (x:= .inLoop x) rfl (fun _ _=> .inl (by simp)) harr⟩
     |outgrown=>exact ⟨_,a₁,w₁,hq,.pass (x:= .inLoop x) rfl (fun _ _=> .inl (by simp)) harr⟩
   obtain ⟨e,a',w',hq,harr⟩:=key n _ _ _ _ _ h hn;exact ⟨e,a',w',hq,.of_steps (.one step_loop) harr⟩
  all_goals simp[pe] at hm
 |scope x ih=>
  intro ac hm Q Q' hQ hR S gb σ a w h hw;cases ac
  case c a'=>exact plain _ rfl hm hQ h hw
  case sc x'=>
   simp only[pe] at hm;refine wp_scope_straight (ih hm (Q:=Q) ?_ ?_ h hw)
   ·intro e S gb σ a w h' hq;cases e<;>exact hQ _ _ _ _ _ _ h' hq
   ·exact hR
  all_goals simp[pe] at hm
 |_=>
  intro ac hm Q Q' hQ hR S gb σ a w h hw;cases ac
  case c a'=>exact plain _ rfl hm hQ h hw
  all_goals simp[pe] at hm

structure rO where
 c:lM
 rs:List AR
 np:Nat
 N:Nat
def qH (P:Program) (GL:List (Nat×List Value)) (dr:Array Oper->List (List Nat)->List bv->Bool) (fn:Func) (f:rO):Bool:=
 fn.name != "runtime.NumGoroutine"&&fn.params.size+fn.nfree==f.np&&fn.ntmps==f.N&&Nat.ble f.np f.N&&AI P f.rs fn.results.toList&&(match fn.body with |some c=>pe P GL f.N dr c f.c|none=>false)
@[irreducible] def di (P:Program) (GL:List (Nat×List Value)) (f d:Nat) (I:In) (O:bO):Prop:=fJ P GL f d I O
theorem vY (P:Program) (GL:List (Nat×List Value)):di P GL=fJ P GL:=by funext f d I O;unfold di;rfl
def dM (d:Nat) (O:bO) (v:AV) (σ:St):Prop:=v=O.r/\(∀p∈O.pm,∃b o,p.1= .b b o)/\j5 d [] ⟨.tup [],O.bx,O.pm⟩ σ
theorem HR.svB {bx:List (Id×List AV)} {pm:List (Pl×Nat)} {sv sv':Nat->Value} (h:HR S gb bx pm sv w) (hp: ∀p k,aH pm p=some k-> ∃b o,p= .b b o):HR S gb bx pm sv' w:=by
 have e: ∀p k,aH pm p=some k->ct gb sv' w p=ct gb sv w p:=by
  intro p k hk;obtain ⟨b,o,rfl⟩:=hp p k hk;rfl
 refine ⟨h.agree,h.box,h.its,h.inj,?_,?_,?_,h.pmb⟩
 ·intro p k hk;rw[e p k hk];exact h.own p k hk
 ·intro p q k l b hk hl h1 h2;rw[e p k hk] at h1;rw[e q l hl] at h2;exact h.ownd p q k l b hk hl h1 h2
 ·intro p k b d z hk h1;rw[e p k hk] at h1;exact h.ownb p k b d z hk h1
theorem Bi {GL:List (Nat×List Value)} {dr:Array Oper->List (List Nat)->List bv->Bool} {f:Nat} {fn:Func} {af:rO} (hf:P.funcs[f]?=some fn) (hm:qH P GL dr fn af=true) (hd:b7 P GL af.N dr) {d:Nat} {I:In} {O:bO} (hl:I.vs.length=af.np)
  (hw:bu (bC P GL) (fJ P GL) (dM d O) af.c (fun _ _=>False) (ar I)):fJ P GL f d I O:=by
 simp only[qH,aJ,bne_iff_ne,cI] at hm;obtain ⟨⟨⟨⟨⟨h1,h2⟩,h3⟩,h4⟩,h5⟩,h6⟩:=hm;split at h6<;>(try cases h6);rename_i c hb;have h4:=Nat.le_of_ble_eq_true h4;intro S gb w vs hvs hhr hglo hnw;have hlen:vs.length=I.vs.length:=hvs.length.symm;unfold GJ;have hcall:(callFunc f vs.toArray).run P w= .ok (.enter f vs.toArray) w:=by
  simp[callFunc,hf,hb,h1]
 rw[hcall];refine calls_of_wp hf hb ?_
 let F:Fr:=⟨S,w,MS I gb (fun t=>vs.getD t undef) w,gb,af.N,GL,[]⟩
 have hsv:tv {tmps:=vs.toArray++Array.replicate (fn.ntmps - vs.toArray.size) undef,defers:=[]}=fun t=>vs.getD t undef:=by
  funext t;exact dP
 have hup:=hhr.up;have hrel:aN F S (eB gb) (ar I) {tmps:=vs.toArray++Array.replicate (fn.ntmps - vs.toArray.size) undef,defers:=[]} w:=by
  refine ⟨rfl,?_,Bw.refl _ _,fun _ _ _ _=>rfl,aR.le.refl _,?_,by rw[hsv];exact hup,?_,?_,?_,fun d=>rfl,hglo⟩
  ·show (vs.toArray++Array.replicate (fn.ntmps - vs.toArray.size) undef).size=af.N;simp;omega
  ·intro t
   have:=(fU (dE _ _ hvs) 0 t).2 t (by omega)
   rw[dP];exact this
  ·intro i g z hi hq;obtain ⟨c1,hc1⟩:=jp.1 hi;obtain ⟨j,cs,rfl,hj,_⟩:=bL cQ hc1;exact .inr (.inl ⟨j,z,by rw[hj];rfl,hq⟩)
  ·intro p k g hp hg;obtain ⟨q,rfl,hq⟩:=eL cQ hp;rw[hsv,kK] at hg;exact .inr (.inr ⟨q,k,hq,hg⟩)
  ·intro i hi;cases i<;>simp[eB,Id.isUp] at hi ⊢
 refine lN (F:=F) hd h6 (Q:=fun _ _=>False) (R:=dM d O) (fun _ _ _ _ _ _ _ hq=>hq.elim) ?_ hrel hw;rintro v u S' gb' σ' a' w' hr ⟨rfl,hpm,hok⟩ hp hi;have hv:gh σ' []=some []:=rfl;obtain ⟨o1,o2,o3,o4⟩:=hr.out hok hv (us:=[]) (by simp[aa]) (fun i s hi=>by simp at hi) rfl;refine ⟨hr.defers,u,rfl,S',dc d gb' O.bx,hr.bw,hr.ext,hr.le,?_,?_,PR.noids _ _ hi hp,o2.svB (fun p k hk=>hpm _ (eI _ _ _ hk)),o3,?_⟩
 ·intro i hi
  have:dc d gb' O.bx i=gb' (i.inn d):=eC (fun e=>by rw[hi] at e;cases e)
  rw[this,ae hi];exact hr.up i
 ·intro i hi hne;simp only[dc] at hne;split at hne
  ·exact absurd rfl hne
  ·rename_i hno;cases hs:(aD O.bx i).isSome with
   |true=>rfl
   |false=>exact absurd ⟨hi,hs⟩ hno
 ·intro p k g hk hg;obtain ⟨b,o,e⟩:=hpm _ (eI _ _ _ hk);simp only at e;subst e;exact o4 _ k g hk hg
theorem Bj {GL:List (Nat×List Value)} {dr:Array Oper->List (List Nat)->List bv->Bool} {f:Nat} {fn:Func} {af:rO} (hf:P.funcs[f]?=some fn) (hm:qH P GL dr fn af=true) (hd:b7 P GL af.N dr) {d:Nat} {I:In} {O:bO} (hl:I.vs.length=af.np)
  (hw:bu (bC P GL) (fJ P GL) (fun _ _=>False) af.c (bH d af.rs O) (ar I)):bC P GL f d I O:=by
 simp only[qH,aJ,bne_iff_ne,cI] at hm;obtain ⟨⟨⟨⟨⟨h1,h2⟩,h3⟩,h4⟩,h5⟩,h6⟩:=hm;split at h6<;>(try cases h6);rename_i c hb;have h4:=Nat.le_of_ble_eq_true h4;intro S gb w vs hvs hhr hglo hnw;have hlen:vs.length=I.vs.length:=hvs.length.symm;unfold lH;have hcall:(callFunc f vs.toArray).run P w= .ok (.enter f vs.toArray) w:=by
  simp[callFunc,hf,hb,h1]
 rw[hcall];refine calls_of_wp hf hb ?_
 let F:Fr:=⟨S,w,MS I gb (fun t=>vs.getD t undef) w,gb,af.N,GL,[]⟩
 have hsv:tv {tmps:=vs.toArray++Array.replicate (fn.ntmps - vs.toArray.size) undef,defers:=[]}=fun t=>vs.getD t undef:=by
  funext t;exact dP
 have hup:=hhr.up;have hrel:aN F S (eB gb) (ar I) {tmps:=vs.toArray++Array.replicate (fn.ntmps - vs.toArray.size) undef,defers:=[]} w:=by
  refine ⟨rfl,?_,Bw.refl _ _,fun _ _ _ _=>rfl,aR.le.refl _,?_,by rw[hsv];exact hup,?_,?_,?_,fun d=>rfl,hglo⟩
  ·show (vs.toArray++Array.replicate (fn.ntmps - vs.toArray.size) undef).size=af.N;simp;omega
  ·intro t
   have:=(fU (dE _ _ hvs) 0 t).2 t (by omega)
   rw[dP];exact this
  ·intro i g z hi hq;obtain ⟨c1,hc1⟩:=jp.1 hi;obtain ⟨j,cs,rfl,hj,_⟩:=bL cQ hc1;exact .inr (.inl ⟨j,z,by rw[hj];rfl,hq⟩)
  ·intro p k g hp hg;obtain ⟨q,rfl,hq⟩:=eL cQ hp;rw[hsv,kK] at hg;exact .inr (.inr ⟨q,k,hq,hg⟩)
  ·intro i hi;cases i<;>simp[eB,Id.isUp] at hi ⊢
 refine lN (F:=F) hd h6 (Q:=bH d af.rs O) (R:=fun _ _=>False) ?_ (fun _ _ _ _ _ _ _ _ hq=>hq.elim) hrel hw;intro e S0' gb0' σ0 a' w' hr0 hq0;have fin: ∀σ0,aN F S0' gb0' σ0 a' w'->(∃τ,nY σ0 τ/\j5 d af.rs O τ)->a'.defers=[]/\ ∃v,(results fn a'.tmps).run P w'= .ok v w'/\(∃u,Ending.returned v= .returned u/\ ∃S'' gb'',dL d I O S gb (fun t=>vs.getD t undef) w S'' gb'' u w'):=by
  rintro σ0 hr0 ⟨τ,hfz,hok⟩;obtain ⟨S',gb',hr⟩:=hr0.frzs hfz;refine ⟨hr.defers,?_⟩;have hr':=hok.r;split at hr'
  ·rename_i vs' hv;obtain ⟨us,hrun,g2,g3⟩:=kJ (P:=P) hr h5 hv;obtain ⟨o1,o2,o3,o4⟩:=hr.out hok hv g2 g3 (by rw[<-g2.length];exact (fA (qs:=[]) hv).symm);refine ⟨_,hrun,_,rfl,S',dc d gb' O.bx,hr.bw,hr.ext,hr.le,?_,?_,o1,o2,o3,o4⟩
   ·intro i hi
    have:dc d gb' O.bx i=gb' (i.inn d):=eC (fun e=>by rw[hi] at e;cases e)
    rw[this,ae hi];exact hr.up i
   ·intro i hi hne;simp only[dc] at hne;split at hne
    ·exact absurd rfl hne
    ·rename_i hno;cases hs:(aD O.bx i).isSome with
     |true=>rfl
     |false=>exact absurd ⟨hi,hs⟩ hno
  ·cases hr'
 cases e
 ·exact fin _ hr0 hq0
 ·exact hq0.elim
 ·exact fin _ hr0 hq0
theorem cZ {P:Program} {GL:List (Nat×List Value)} {dr:Array Oper->List (List Nat)->List bv->Bool} {f:Nat} {fn:Func} {af:rO} (hf:P.funcs[f]?=some fn) (hm:qH P GL dr fn af=true) (hd:b7 P GL af.N dr) {d:Nat} {I:In} {O:bO} (hl:I.vs.length=af.np)
  (hw:bu (ba P GL) (di P GL) (dM d O) af.c (fun _ _=>False) (ar I)):di P GL f d I O:=by
 rw[fy,vY] at hw;rw[vY];exact Bi hf hm hd hl hw
theorem dw {P:Program} {GL:List (Nat×List Value)} {dr:Array Oper->List (List Nat)->List bv->Bool} {f:Nat} {fn:Func} {af:rO} (hf:P.funcs[f]?=some fn) (hm:qH P GL dr fn af=true) (hd:b7 P GL af.N dr) {d:Nat} {I:In} {O:bO} (hl:I.vs.length=af.np)
  (hw:bu (ba P GL) (di P GL) (fun _ _=>False) af.c (bH d af.rs O) (ar I)):ba P GL f d I O:=by
 rw[fy,vY] at hw;rw[fy];exact Bj hf hm hd hl hw
section
variable {S SP:Nat->Nat->In->bO->Prop} {R:AV->St->Prop} {Q:AE->St->Prop} {σ:St} {K:St->Prop}
@[simp] theorem So {a}:bu S SP R (.c a) Q σ=dK S a Q σ:=rfl
@[simp] theorem PK {l o l'}:bu S SP R (.rp l o l') Q σ=lu S l (Bh S SP R o (lu S l' (Q .n))) σ:=rfl
@[simp] theorem PL {a b}:bu S SP R (.sq a b) Q σ=bu S SP R a (AE.sq (bu S SP R b Q) Q) σ:=rfl
@[simp] theorem PM {i a}:bu S SP R (.bl i a) Q σ=bu S SP R a (AE.bl i Q) σ:=rfl
@[simp] theorem PQ {us l k ll d f ys}:bu S SP R (.rq us l k ll d f ys) Q σ=(jG S us l 0 [] (Q .n) σ\/J2 S SP R (ll.map (·.2)) d f ys σ):=rfl
@[simp] theorem PT {a}:bu S SP R (.sc a) Q σ=bu S SP R a Q σ:=rfl
@[simp] theorem PV {x a b}:bu S SP R (.cd x a b) Q σ=Nu (bu S SP R a Q) (bu S SP R b Q) σ (σ.v x):=rfl
def LD (S SP:Nat->Nat->In->bO->Prop) (R:AV->St->Prop) (f d:Nat) (xs:List X) (K:St->Prop) (σ:St):Prop:=JC S f d xs K σ\/GK SP R f d xs σ
def Mt (S SP:Nat->Nat->In->bO->Prop) (R:AV->St->Prop) (d:Nat) (xs:List X) (K:St->Prop) (σ:St):AV->Prop
 | .fn f caps=>if BM<=f then LD S SP R (f - BM) d (caps.map X.c++xs) K σ else LD S SP R f d (xs++caps.map X.c) K σ
 |_=>False
def Sq (R:AV->St->Prop) (σ:St):AV->Prop
 | .ifc T v=>v.ids=[]/\R (.ifc T v) σ
 |_=>False
@[simp] theorem Sr {d f xs}:Bh S SP R (.ce d f xs) K σ=LD S SP R f d xs K σ:=rfl
@[simp] theorem Ss {d x xs}:Bh S SP R (.cd d x xs) K σ=Mt S SP R d xs K σ (σ.v x):=by
 simp only[Bh];unfold Mt LD;cases σ.v x<;>rfl
@[simp] theorem PW {d xs f caps}:Mt S SP R d xs K σ (.fn f caps)=(if BM<=f then LD S SP R (f - BM) d (caps.map X.c++xs) K σ else LD S SP R f d (xs++caps.map X.c) K σ):=rfl
@[simp] theorem Su {d x}:Bh S SP R (.pn d x) K σ=Sq R σ (σ.v x):=by
 simp only[Bh];unfold Sq;cases σ.v x<;>rfl
@[simp] theorem PX {T v}:Sq R σ (.ifc T v)=(v.ids=[]/\R (.ifc T v) σ):=rfl
end
theorem aZ {P:Program} {GL:List (Nat×List Value)} {SP:Nat->Nat->In->bO->Prop} {R:AV->St->Prop} {K:St->Prop} {σ:St} {f d:Nat} {xs:List X} (I:In) (O:bO) (h:ba P GL f d I O) (hc:cO d σ xs I O) (hk:K (bB d σ xs I O)):LD (ba P GL) SP R f d xs K σ:= .inl ⟨I,O,h,hc,hk⟩
theorem bj {P:Program} {GL:List (Nat×List Value)} {S:Nat->Nat->In->bO->Prop} {R:AV->St->Prop} {K:St->Prop} {σ:St} {f d:Nat} {xs:List X} (I:In) (O:bO) (h:di P GL f d I O) (hc:cO d σ xs I O) (hi:O.r.ids=[]) (hk:R O.r (lg d σ xs I O)):LD S (di P GL) R f d xs K σ:= .inr ⟨I,O,h,hc,hi,hk⟩
attribute [simp] lg
end Go.Ai
