/- P13: a part of the proof: the rules, or what functions compute. Conditions: as each theorem says. -/
import Derived.Test.YtggemlhclppciaaGreatDoorP12
import Derived.Test.YtggemlhclppciaaGreatDoorP10
set_option linter.unusedSimpArgs false
set_option linter.unusedVariables false
set_option maxRecDepth 20000
namespace Go.Ai
open Go.Proofs
open Go.Proofs
end Go.Ai
namespace Go.Ai
open Go.Proofs
section
variable {S SP:Nat→Nat→In→Out→Prop} {SD:Nat→Nat→In→AV→Out→Prop} {N sl dm d:Nat} {rs:List AR} {O:Out} {σ:St}
end
open Go.Proofs
structure OkTk (t:Tk):Prop where
 k:1≤t.k∧t.k≤9
 nm:t.k=1→t.n=0
 br:7≤t.k→t.t=[]∧t.n=0
def endTk (t:Tk):Prop:=t.k=0∧t.t=[]∧t.n=0
end Go.Ai
namespace Go.Ai
structure Src (l:List Tk):Prop where
 h: ∃o z,l=o++[z]∧(∀t∈o,OkTk t)∧endTk z
theorem Src.ne {l:List Tk} (h:Src l):l≠[]:=by
 obtain ⟨o,z,rfl,_⟩:=h
 simp
theorem Src.cons {t:Tk} {r:List Tk} (h:Src (t::r)):(r=[]∧endTk t∧nxt (t::r)=[t])∨(OkTk t∧Src r∧nxt (t::r)=r):=by
 obtain ⟨o,z,e,ho,hz⟩:=h
 cases o with
 |nil=>
  rw [List.nil_append] at e
  injection e with e1 e2
  subst e1;subst e2
  exact .inl ⟨rfl,hz,rfl⟩
 |cons a o=>
  rw [List.cons_append] at e
  injection e with e1 e2
  subst e1;subst e2
  refine .inr ⟨ho _ (by simp),⟨o,z,rfl,fun t ht=>ho t (by simp [ht]),hz⟩,?_⟩
  cases o with
  |nil=>rfl
  |cons b o=>rfl
open Go.Proofs
end Go.Ai
namespace Go.Ai
open Go.Proofs
end Go.Ai
namespace Go.Ai
structure InL (A l:List Int) (m:Nat):Prop where
 h: ∀q,q<A.length→l[m+q]?=A[q]?
 n:l[m+A.length]?=some 10∨l[m+A.length]?=none
theorem InL.at {A l:List Int} {m:Nat} (h:InL A l m) {i:Nat} (hi:i<A.length): ∃g:m+i<l.length,l[m+i]=A[i]:=by
 have:=h.h i hi
 rw [List.getElem?_eq_getElem hi] at this
 exact List.getElem?_eq_some_iff.1 this
theorem InL.fin {A l:List Int} {m:Nat} (h:InL A l m):(∃g:m+A.length<l.length,l[m+A.length]=10)∨ ¬m+A.length<l.length:=h.n.imp (fun h=>List.getElem?_eq_some_iff.1 h) (fun h=>by have:=List.getElem?_eq_none_iff.1 h;omega)
end Go.Ai
namespace Go.Ai
def Rds (l:List Int) (P:List (Int×Int)) (j e:Nat) (out out':List Tk):Prop:= ∀f,l.length - j<f→ ∃f',l.length - e<f'∧refGo rV sU l P f j out=refGo rV sU l P f' e out'
theorem Rds.refl (l:List Int) (P:List (Int×Int)) (j:Nat) (out:List Tk):Rds l P j j out out:=fun f h=>⟨f,h,rfl⟩
theorem Rds.trans {l:List Int} {P:List (Int×Int)} {j e g:Nat} {o1 o2 o3:List Tk} (h1:Rds l P j e o1 o2) (h2:Rds l P e g o2 o3):Rds l P j g o1 o3:=fun f h=>by
 obtain ⟨f1,a1,b1⟩:=h1 f h
 obtain ⟨f2,a2,b2⟩:=h2 f1 a1
 exact ⟨f2,a2,b1.trans b2⟩
theorem Rds.one {l:List Int} {P:List (Int×Int)} {j e:Nat} {o1 o2:List Tk} (hj:j<l.length) (he:j<e) (h: ∀f,refGo rV sU l P (f+1) j o1=refGo rV sU l P f e o2):Rds l P j e o1 o2:=fun f hf=>by
 cases f with
 |zero=>omega
 |succ f=>exact ⟨f,by omega,h f⟩
end Go.Ai
namespace Go.Ai
def Why (c:Int) (dp cn:Nat):Prop:=c=19∧5<dp∨c=9∧300<cn
theorem Why.mono {c:Int} {d n d' n':Nat} (h:Why c d n) (h1:d≤d') (h2:n≤n'):Why c d' n':=by
 rcases h with ⟨h,g⟩|⟨h,g⟩
 ·exact .inl ⟨h,by omega⟩
 ·exact .inr ⟨h,by omega⟩
open Go.Proofs
mutual
theorem depI_cnt: ∀x:It,depI x≤cntI x
 | .mk n ws b ks ln co=>by
  have:=depL_cnt ks
  rw [depI,cntI]
  omega
theorem depL_cnt: ∀L:List It,depL L≤cntL L
 |[]=>Nat.le_refl _
 |x::L=>by
  have h1:=depI_cnt x
  have h2:=depL_cnt L
  rw [depL,cntL]
  omega
end
open Go.Proofs
end Go.Ai
