/- P13: a part of the proof: the rules, or what functions compute. Conditions: as each theorem says. -/
import Derived.Test.YtidcomakahbepaaGreatDoorP12
import Derived.Test.YtidcomakahbepaaGreatDoorP8
import Derived.Test.YtidcomakahbepaaGreatDoorP11
import Derived.Test.YtidcomakahbepaaGreatDoorP9
set_option linter.unusedSimpArgs false
set_option linter.unusedVariables false
set_option maxRecDepth 20000
namespace Go.Ai
open Go.Proofs
def fR (d:Nat) (i:Nat):Id:= .nw d (.nw 9 (R0 i))
theorem mt_n {M A:Id} {R B:Nat→Id} (x:Gl) (n:Nat) (W:List (List AV)) (K w:Nat→Nat) (t:Nat) (L:List Ev) (sd:Bool) (j:Id) (h1:M≠j) (h2:A≠j) (h3: ∀i,j≠R i) (h4: ∀i,j≠B i):lkB (mtB M A R B x n W K w t L sd) j=none:=by
 unfold mtB
 simp only [lkB]
 rw [if_neg h1,if_neg h2]
 exact rgsB_none h3 h4 n
open Go.Proofs
def xa:Gl:=⟨[97],5,10,10,0,0,[],[⟨[114],false,100,10,1,0,0⟩]⟩
open Go.Proofs
theorem rmBs_ps {pre l suf:List (Id×List AV)} (h1: ∀p∈pre,lkB l p.1=none) (h2: ∀p∈suf,lkB l p.1=none):rmBs (pre++(l++suf)) l=pre++suf:=by
 rw [rmBs_filter,List.filter_append,List.filter_append]
 have e1:pre.filter (fun p=>!(lkB l p.1).isSome)=pre:=List.filter_eq_self.2 fun p hp=>by rw [h1 p hp];rfl
 have e3:suf.filter (fun p=>!(lkB l p.1).isSome)=suf:=List.filter_eq_self.2 fun p hp=>by rw [h2 p hp];rfl
 have e2:l.filter (fun p=>!(lkB l p.1).isSome)=[]:=List.filter_eq_nil_iff.2 fun p hp=>by
  have:(lkB l p.1).isSome:=lkB_isSome hp
  simp [this]
 rw [e1,e2,e3,List.nil_append]
section
variable {P:Program} {GL:List (Nat×List Value)} {K:St→Prop} {σ:St} {f d:Nat} {xs:List X} {pre l l' suf:List (Id×List AV)} {vs:List AV} {r:AV} {X:Id} {q:List (Pl×Nat)}
theorem lk_ps (hpre: ∀p∈pre,lkB l p.1=none) (hu: ∀p∈l,lkB l p.1=some p.2): ∀p∈l,lkB (pre++(l++suf)) p.1=some p.2:=by
 intro p hp
 rw [←List.append_assoc]
 exact lk_mid hu hpre p hp
theorem callOk_xs (hσ:σ.bx=pre++(l++suf)) (hp:σ.pm=(.b X 10,3)::q) (hX:(lkB l X).isSome) (hpre: ∀p∈pre,lkB l p.1=none) (hu: ∀p∈l,lkB l p.1=some p.2) (hkeep: ∀i,(lkB l' i).isSome=(lkB l i).isSome)
  (hf: ∀p∈σ.bx,p.1.isNw d=false) (hv:wkL (xs.map σ.v) vs):CallOk d σ xs ⟨vs,l,[(.b X 10,3)]⟩ ⟨r,l',[(.b X 10,3)]⟩:=by
 refine ⟨hv,fun p hp=>?_,fun p hp'=>?_,trivial,fun p hp=>?_,fun p hp=>?_,hf⟩
 ·have h3:=lk_ps (suf:=suf) hpre hu p hp
  rw [←hσ] at h3
  simp only [wkB,h3];exact wkL_rfl' _
 ·rw [List.mem_singleton] at hp'
  subst hp'
  refine ⟨hX,.inl ?_⟩
  rw [hp];simp [lkP]
 ·simp only [hkeep,hu p hp];rfl
 ·left;simp only [←hkeep];exact lkB_isSome hp
theorem callSt_xs (hσ:σ.bx=pre++(l++suf)) (hp:σ.pm=(.b X 10,3)::q) (hX:(lkB l X).isSome) (hpre: ∀p∈pre,lkB l p.1=none) (hsuf: ∀p∈suf,lkB l p.1=none) (hq: ∀p∈q,p.1.ids=[]):
  callSt d σ xs ⟨vs,l,[(.b X 10,3)]⟩ ⟨r,l',[(.b X 10,3)]⟩=⟨(d,r)::σ.e,l'++(pre++suf),(.b X 10,3)::dlS q d⟩:=by
 simp only [callSt,retP,dlXs,List.nil_append,List.cons_append]
 rw [hσ,rmBs_ps hpre hsuf,hp,dlBs_x hq hX]
theorem onH_xs (S:SpH P GL f d ⟨vs,l,[(.b X 10,3)]⟩ ⟨r,l',[(.b X 10,3)]⟩) (hσ:σ.bx=pre++(l++suf)) (hp:σ.pm=(.b X 10,3)::q) (hX:(lkB l X).isSome) (hpre: ∀p∈pre,lkB l p.1=none) (hsuf: ∀p∈suf,lkB l p.1=none) (hu: ∀p∈l,lkB l p.1=some p.2)
  (hkeep: ∀i,(lkB l' i).isSome=(lkB l i).isSome) (hf: ∀p∈σ.bx,p.1.isNw d=false) (hq: ∀p∈q,p.1.ids=[]) (hv:wkL (xs.map σ.v) vs) (hk:K ⟨(d,r)::σ.e,l'++(pre++suf),(.b X 10,3)::dlS q d⟩):onH (SpH P GL) f d xs K σ:=by
 refine onH_mk _ _ S (callOk_xs hσ hp hX hpre hu hkeep hf hv) ?_
 rw [callSt_xs hσ hp hX hpre hsuf hq];exact hk
end
open Go.Proofs
end Go.Ai
namespace Go.Ai
open Go.Proofs
theorem mx_ids {M A:Id} {R B:Nat→Id} {X:Id} (h:NmX M A R B X) (x:Gl) (n:Nat) (Wl:List Int) (K w:Nat→Nat) (s:Mt): ∀p∈mxB M A R B X x n Wl K w s,∀i∈idsL p.2,(lkB (mxB M A R B X x n Wl K w s) i).isSome=true:=by
 have key: ∀p∈mtB M A R B x n (intRows Wl) K w s.t s.L s.sd,(lkB (mxB M A R B X x n Wl K w s) p.1).isSome:=fun p hp=>lkB_isSome (List.mem_cons_of_mem _ hp)
 intro p hp
 unfold mxB at hp
 rcases List.mem_cons.1 hp with rfl|hp
 ·intro i hi;rw [xC_ids] at hi;simp at hi
 ·unfold mtB at hp key
  rcases List.mem_cons.1 hp with rfl|hp
  ·intro i hi
   have e:idsL (mtC x A n (intRows Wl) (pF x.c s.t) (pT x.c s.t) (pcG x.c s.t s.L) (pcT x.c s.t s.L) s.t s.sd)=[A]:=rfl
   rw [e,List.mem_singleton] at hi
   subst hi
   exact key (i,_) (List.mem_cons_of_mem _ (List.mem_cons_self ..))
  ·rcases List.mem_cons.1 hp with rfl|hp
   ·intro j hj
    obtain ⟨i,hi,rfl⟩:=ptrC_ids hj
    exact key (R i,_) (List.mem_cons_of_mem _ (List.mem_cons_of_mem _ (mem_rgsB.2 ⟨i,hi,.inl rfl⟩)))
   ·obtain ⟨i,hi,e|e⟩:=mem_rgsB.1 hp
    ·subst e
     intro j hj
     simp only [rgC_ids,List.mem_singleton] at hj
     subst hj
     exact key (B i,_) (List.mem_cons_of_mem _ (List.mem_cons_of_mem _ (mem_rgsB.2 ⟨i,hi,.inr rfl⟩)))
    ·subst e
     intro j hj
     simp only [rgD_ids] at hj
     simp at hj
theorem wkB_self {l:List (Id×List AV)} (h: ∀p∈l,lkB l p.1=some p.2): ∀p∈l,wkB l p.1 p.2:=fun p hp=>by simp only [wkB,h p hp];exact wkL_rfl' _
def acRows (l:List Ac):List (List AV):=l.map Ac.row
theorem acRows_len (l:List Ac):(acRows l).length=l.length:=by simp [acRows]
theorem acRows_4 (l:List Ac): ∀r∈acRows l,r.length=4:=by
 intro r hr;simp only [acRows,List.mem_map] at hr;obtain ⟨e,_,rfl⟩:=hr;rfl
theorem acRows_at (l:List Ac) (k:Nat) (h:k<l.length):(acRows l)[k]?=some (l[k]).row:=by simp [acRows,h]
open Go.Proofs
end Go.Ai
