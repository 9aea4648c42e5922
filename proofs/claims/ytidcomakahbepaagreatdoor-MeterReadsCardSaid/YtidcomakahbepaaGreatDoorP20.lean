/- P20: a part of the proof: the rules, or what functions compute. Conditions: as each theorem says. -/
import Derived.Test.YtidcomakahbepaaGreatDoorP19
import Derived.Test.YtidcomakahbepaaGreatDoorP11
import Derived.Test.YtidcomakahbepaaGreatDoorP18
import Derived.Test.YtidcomakahbepaaGreatDoorP15
import Derived.Test.YtidcomakahbepaaGreatDoorP13
set_option linter.unusedSimpArgs false
set_option linter.unusedVariables false
set_option maxRecDepth 20000
namespace Go.Ai
open Go.Proofs
open Go.Proofs
end Go.Ai
namespace Go.Ai
open Go.Proofs
open Go.Proofs
end Go.Ai
namespace Go.Ai
open Go.Proofs
def fR (d:Nat) (i:Nat):Id:= .nw d (.nw 9 (R0 i))
theorem mt_n {M A:Id} {R B:Nat→Id} (x:Gl) (n:Nat) (W:List (List AV)) (K w:Nat→Nat) (t:Nat) (L:List Ev) (sd:Bool) (j:Id) (h1:M≠j) (h2:A≠j) (h3: ∀i,j≠R i) (h4: ∀i,j≠B i):lkB (mtB M A R B x n W K w t L sd) j=none:=by
 unfold mtB
 simp only [lkB]
 rw [if_neg h1,if_neg h2]
 exact rgsB_none h3 h4 n
open Go.Proofs
theorem rmBs_ps {pre l suf:List (Id×List AV)} (h1: ∀p∈pre,lkB l p.1=none) (h2: ∀p∈suf,lkB l p.1=none):rmBs (pre++(l++suf)) l=pre++suf:=by
 rw [rmBs_filter,List.filter_append,List.filter_append]
 have e1:pre.filter (fun p=>!(lkB l p.1).isSome)=pre:=List.filter_eq_self.2 fun p hp=>by rw [h1 p hp];rfl
 have e3:suf.filter (fun p=>!(lkB l p.1).isSome)=suf:=List.filter_eq_self.2 fun p hp=>by rw [h2 p hp];rfl
 have e2:l.filter (fun p=>!(lkB l p.1).isSome)=[]:=List.filter_eq_nil_iff.2 fun p hp=>by
  have:(lkB l p.1).isSome:=lkB_isSome hp
  simp [this]
 rw [e1,e2,e3,List.nil_append]
section
variable {P:Program} {GL:List (Nat×List Value)} {K:St→Prop} {σ:St} {f d:Nat} {xs:List X} {pre l l' suf:List (Id×List AV)} {vs:List AV} {r:AV} {X:Id} {q:List (Pl×Nat)}
theorem lk_ps (hpre: ∀p∈pre,lkB l p.1=none) (hu: ∀p∈l,lkB l p.1=some p.2): ∀p∈l,lkB (pre++(l++suf)) p.1=some p.2:=by
 intro p hp
 rw [←List.append_assoc]
 exact lk_mid hu hpre p hp
theorem callOk_ps (hσ:σ.bx=pre++(l++suf)) (hpre: ∀p∈pre,lkB l p.1=none) (hu: ∀p∈l,lkB l p.1=some p.2) (hkeep: ∀i,(lkB l' i).isSome=(lkB l i).isSome) (hf: ∀p∈σ.bx,p.1.isNw d=false) (hv:wkL (xs.map σ.v) vs):
  CallOk d σ xs ⟨vs,l,[]⟩ ⟨r,l',[]⟩:=by
 refine ⟨hv,fun p hp=>?_,by simp,trivial,fun p hp=>?_,fun p hp=>?_,hf⟩
 ·have h3:=lk_ps (suf:=suf) hpre hu p hp
  rw [←hσ] at h3
  simp only [wkB,h3];exact wkL_rfl' _
 ·simp only [hkeep,hu p hp];rfl
 ·left;simp only [←hkeep];exact lkB_isSome hp
theorem callSt_ps (hσ:σ.bx=pre++(l++suf)) (hpre: ∀p∈pre,lkB l p.1=none) (hsuf: ∀p∈suf,lkB l p.1=none) (hpm: ∀p∈σ.pm,∀e∈p.1.ids,lkB l e=none):callSt d σ xs ⟨vs,l,[]⟩ ⟨r,l',[]⟩=⟨(d,r)::σ.e,l'++(pre++suf),dlS σ.pm d⟩:=by
 simp only [callSt,retP,dlXs,List.nil_append]
 rw [hσ,rmBs_ps hpre hsuf,dlBs_off hpm]
theorem onH_ps (S:SpH P GL f d ⟨vs,l,[]⟩ ⟨r,l',[]⟩) (hσ:σ.bx=pre++(l++suf)) (hpre: ∀p∈pre,lkB l p.1=none) (hsuf: ∀p∈suf,lkB l p.1=none) (hu: ∀p∈l,lkB l p.1=some p.2) (hkeep: ∀i,(lkB l' i).isSome=(lkB l i).isSome)
  (hf: ∀p∈σ.bx,p.1.isNw d=false) (hpm: ∀p∈σ.pm,∀e∈p.1.ids,lkB l e=none) (hv:wkL (xs.map σ.v) vs) (hk:K ⟨(d,r)::σ.e,l'++(pre++suf),dlS σ.pm d⟩):onH (SpH P GL) f d xs K σ:=by
 refine onH_mk _ _ S (callOk_ps hσ hpre hu hkeep hf hv) ?_
 rw [callSt_ps hσ hpre hsuf hpm];exact hk
theorem onQ_ps {fr:List Nat} (S:SpH P GL f d ⟨vs,l,[]⟩ ⟨r,l',[]⟩) (hσ:σ.bx=pre++(l++suf)) (hpre: ∀p∈pre,lkB l p.1=none) (hsuf: ∀p∈suf,lkB l p.1=none) (hu: ∀p∈l,lkB l p.1=some p.2) (hkeep: ∀i,(lkB l' i).isSome=(lkB l i).isSome)
  (hf: ∀p∈σ.bx,p.1.isNw d=false) (hpm: ∀p∈σ.pm,∀e∈p.1.ids,lkB l e=none) (hv:wkL (xs.map σ.v) vs) (hq: ∀p∈l',inF fr p.1=false) (hk:K ⟨(d,r)::σ.e,l'++(pre++suf),dlS σ.pm d⟩) (hn:fr.contains d=false:=by decide):onQ (SpH P GL) f d xs fr K σ:=by
 refine onQ_mk _ _ S (callOk_ps hσ hpre hu hkeep hf hv) ⟨by simp,by simp,hq⟩ ?_ hn
 rw [callSt_ps hσ hpre hsuf hpm];exact hk
end
end Go.Ai
