/- P10: a part of the proof: the rules, or what functions compute. Conditions: as each theorem says. -/
import Derived.Test.YthonkjadcpdphaaGreatDoorP9
set_option linter.unusedSimpArgs false
set_option linter.unusedVariables false
set_option maxRecDepth 20000
namespace Go.Ai
open Go.Proofs
def Rising (l:List Int):Prop:=l.Pairwise (· < ·)
theorem rising_ext: ∀ {a b:List Int},Rising a→Rising b→(∀z,z∈a↔z∈b)→a=b
 |[],[],_,_,_=>rfl
 |[],y::b,_,_,h=>by have:=(h y).2 (by simp);simp at this
 |x::a,[],_,_,h=>by have:=(h x).1 (by simp);simp at this
 |x::a,y::b,ha,hb,h=>by
  simp only [Rising,List.pairwise_cons] at ha hb
  have e:x=y:=by
   have h1:=(h x).1 (by simp)
   have h2:=(h y).2 (by simp)
   rcases List.mem_cons.1 h1 with e|h1
   ·exact e
   ·rcases List.mem_cons.1 h2 with e|h2
    ·exact e.symm
    ·have:=ha.1 y h2;have:=hb.1 x h1;omega
  subst e
  congr 1
  refine rising_ext ha.2 hb.2 (fun z=>?_)
  have hz:=h z
  simp only [List.mem_cons] at hz
  constructor
  ·intro hm
   rcases hz.1 (.inr hm) with e|e
   ·subst e;have:=ha.1 z hm;omega
   ·exact e
  ·intro hm
   rcases hz.2 (.inr hm) with e|e
   ·subst e;have:=hb.1 z hm;omega
   ·exact e
theorem sorted_le {l:List Int} (h:l.Pairwise (· ≤ ·)) {i j:Nat} (hij:i≤j) (hj:j<l.length):l[i]'(by omega)≤l[j]:=by
 rcases Nat.lt_or_eq_of_le hij with h1|h1
 ·exact List.pairwise_iff_getElem.1 h i j (by omega) hj h1
 ·subst h1;exact Int.le_refl _
theorem compact_go (l:List Int) (h:l.Pairwise (· ≤ ·)): ∀m,m≤l.length→Rising (Lib.compactUpTo l.toArray m)∧(∀z,z∈Lib.compactUpTo l.toArray m↔ ∃j,j<m∧l[j]?=some z)∧ ∀z∈Lib.compactUpTo l.toArray m,∀j,m≤j+1→ ∀y,l[j]?=some y→z≤y
 |0,_=>by
  refine ⟨by simp [Lib.compactUpTo,Rising],fun z=>by simp [Lib.compactUpTo],fun z hz=>by simp [Lib.compactUpTo] at hz⟩
 |m+1,hm=>by
  obtain ⟨h1,h2,h3⟩:=compact_go l h m (by omega)
  rw [Lib.compactUpTo_succ]
  have hml:m<l.length:=by omega
  have em:l.toArray[m]! =l[m]:=by simp [hml]
  by_cases hk:Lib.keeps l.toArray m=true
  ·rw [if_pos hk,em]
   refine ⟨?_,fun z=>?_,?_⟩
   ·unfold Rising
    rw [List.pairwise_append]
    refine ⟨h1,by simp,fun a ha b hb=>?_⟩
    simp only [List.mem_singleton] at hb
    subst hb
    rcases Nat.eq_zero_or_pos m with rfl|h0
    ·simp [Lib.compactUpTo] at ha
    ·have q:=h3 a ha (m - 1) (by omega) l[m - 1] (by simp [show m - 1<l.length by omega])
     have q2:=sorted_le h (show m - 1≤m by omega) hml
     unfold Lib.keeps at hk
     rw [decide_eq_true_eq] at hk
     rcases hk with hk|hk
     ·omega
     ·rw [em] at hk
      have e2:l.toArray[m - 1]! =l[m - 1]:=by simp [show m - 1<l.length by omega]
      rw [e2] at hk
      omega
   ·rw [List.mem_append,h2,List.mem_singleton]
    constructor
    ·rintro (⟨j,hj,e⟩|rfl)
     ·exact ⟨j,by omega,e⟩
     ·exact ⟨m,by omega,by simp [hml]⟩
    ·rintro ⟨j,hj,e⟩
     rcases Nat.lt_or_ge j m with q|q
     ·exact .inl ⟨j,q,e⟩
     ·have:j=m:=by omega
      subst this
      rw [List.getElem?_eq_getElem hml] at e
      exact .inr (Option.some.inj e).symm
   ·intro z hz j hj y hy
    have hjl:j<l.length:=(List.getElem?_eq_some_iff.1 hy).1
    rw [List.getElem?_eq_getElem hjl] at hy
    have hy:=Option.some.inj hy
    subst hy
    rcases List.mem_append.1 hz with hz|hz
    ·obtain ⟨k,hk1,hk2⟩:=(h2 z).1 hz
     have hkl:k<l.length:=by omega
     rw [List.getElem?_eq_getElem hkl] at hk2
     have hk2:=Option.some.inj hk2
     subst hk2
     exact sorted_le h (by omega) hjl
    ·simp only [List.mem_singleton] at hz
     subst hz
     exact sorted_le h (by omega) hjl
  ·rw [if_neg hk,List.append_nil]
   have hk':m≠0∧l[m]=l[m - 1]'(by omega):=by
    unfold Lib.keeps at hk
    rw [decide_eq_true_eq] at hk
    have h0:m≠0:=fun e=>hk (.inl e)
    refine ⟨h0,?_⟩
    have: ¬l.toArray[m]! ≠l.toArray[m - 1]! :=fun e=>hk (.inr e)
    rw [em,show l.toArray[m - 1]! =l[m - 1]'(by omega) by simp [show m - 1<l.length by omega]] at this
    simpa using this
   refine ⟨h1,fun z=>?_,?_⟩
   ·rw [h2]
    constructor
    ·rintro ⟨j,hj,e⟩;exact ⟨j,by omega,e⟩
    ·rintro ⟨j,hj,e⟩
     rcases Nat.lt_or_ge j m with q|q
     ·exact ⟨j,q,e⟩
     ·have:j=m:=by omega
      subst this
      refine ⟨j - 1,by omega,?_⟩
      rw [List.getElem?_eq_getElem (by omega),←hk'.2,←List.getElem?_eq_getElem hml,e]
   ·intro z hz j hj y hy
    exact h3 z hz j (by omega) y hy
theorem sortI_sorted (l:List Int):(sortI l).Pairwise (· ≤ ·):=by
 have:=List.pairwise_mergeSort (le:=fun x y:Int=>decide (x≤y)) (fun a b c h1 h2=>by simp at *;omega) (fun a b=>by simp;omega) l
 exact this.imp (fun h=>by simpa using h)
theorem sortI_mem (l:List Int) (z:Int):z∈sortI l↔z∈l:=(List.mergeSort_perm l _).mem_iff
theorem winP_rising (x:Gl):Rising (winP x):=by
 have:=(compact_go (sortI (allW x)) (sortI_sorted _) (sortI (allW x)).length (Nat.le_refl _)).1
 simpa [winP,compactI,Lib.compact] using this
theorem winP_mem (x:Gl) (z:Int):z∈winP x↔z∈allW x:=by
 have:=(compact_go (sortI (allW x)) (sortI_sorted _) (sortI (allW x)).length (Nat.le_refl _)).2.1 z
 have e:winP x=Lib.compactUpTo (sortI (allW x)).toArray (sortI (allW x)).length:=rfl
 rw [e,this,←sortI_mem]
 constructor
 ·rintro ⟨j,_,hj⟩;exact List.mem_of_getElem? hj
 ·intro h
  obtain ⟨j,hj⟩:=List.getElem?_of_mem h
  exact ⟨j,(List.getElem?_eq_some_iff.1 hj).1,hj⟩
theorem countP_lt {α:Type} (p q:α→Bool) (h: ∀x,q x=true→p x=true): ∀(l:List α),(∃x∈l,p x=true∧q x=false)→l.countP q<l.countP p
 |[],hx=>by obtain ⟨x,hx,_⟩:=hx;simp at hx
 |y::r,hx=>by
  have hle:r.countP q≤r.countP p:=List.countP_mono_left (fun x _=>h x)
  simp only [List.countP_cons]
  obtain ⟨x,hm,h1,h2⟩:=hx
  rcases List.mem_cons.1 hm with rfl|hm
  ·rw [if_pos h1,if_neg (by rw [h2];decide)];omega
  ·have:=countP_lt p q h r ⟨x,hm,h1,h2⟩
   by_cases hq:q y=true
   ·rw [if_pos hq,if_pos (h y hq)];omega
   ·rw [if_neg hq];split<;>omega
open Go.Proofs
def candP (last:Option Int) (z:Int):Prop:= ∀y,last=some y→y<z
def BInv (all:List Int) (last:Option Int) (j:Nat) (b:Int):Prop:=
 (b= -1∧ ∀k,k<j→ ∀z,all[k]?=some z→ ¬candP last z)∨ ∃n:Nat,b=n∧n<j∧ ∃m,all[n]?=some m∧candP last m∧ ∀k,k<j→ ∀z,all[k]?=some z→candP last z→m≤z
theorem BInv.skip {all:List Int} {last:Option Int} {j:Nat} {b:Int} (h:BInv all last j b) (hj: ∀z,all[j]?=some z→candP last z→ ∃n:Nat,b=n∧ ∃m,all[n]?=some m∧m≤z):BInv all last (j+1) b:=by
 rcases h with ⟨h1,h2⟩|⟨n,h1,h2,m,h3,h4,h5⟩
 ·left
  refine ⟨h1,fun k hk z hz hc=>?_⟩
  rcases Nat.lt_or_ge k j with q|q
  ·exact h2 k q z hz hc
  ·obtain rfl:k=j:=by omega
   obtain ⟨n,hn,_⟩:=hj z hz hc
   omega
 ·right
  refine ⟨n,h1,by omega,m,h3,h4,fun k hk z hz hc=>?_⟩
  rcases Nat.lt_or_ge k j with q|q
  ·exact h5 k q z hz hc
  ·obtain rfl:k=j:=by omega
   obtain ⟨n',hn',m',hm',hle⟩:=hj z hz hc
   have:n'=n:=by omega
   subst this
   rw [h3] at hm';cases hm';exact hle
theorem BInv.take {all:List Int} {last:Option Int} {j:Nat} {b:Int} (h:BInv all last j b) {z:Int} (hz:all[j]?=some z) (hc:candP last z) (hb:b<0∨ ∃n:Nat,b=n∧ ∃m,all[n]?=some m∧z<m):BInv all last (j+1) j:=by
 right
 refine ⟨j,rfl,by omega,z,hz,hc,fun k hk y hy hcy=>?_⟩
 rcases Nat.lt_or_ge k j with q|q
 ·rcases h with ⟨h1,h2⟩|⟨n,h1,h2,m,h3,h4,h5⟩
  ·exact absurd hcy (h2 k q y hy)
  ·rcases hb with hb|⟨n',hn',m',hm',hlt⟩
   ·omega
   ·have:n'=n:=by omega
    subst this
    rw [h3] at hm';cases hm'
    have:=h5 k q y hy hcy
    omega
 ·obtain rfl:k=j:=by omega
  rw [hz] at hy;cases hy;exact Int.le_refl _
structure OInv (all out:List Int):Prop where
 r:Rising out
 s: ∀z∈out,z∈all
 d: ∀z∈all,(∃y,out.getLast?=some y∧z≤y)→z∈out
theorem OInv.next {all out:List Int} (h:OInv all out) {n:Nat} {m:Int} (hm:all[n]?=some m) (hc:candP out.getLast? m) (hmin: ∀(k:Nat) z,all[k]?=some z→candP out.getLast? z→m≤z):OInv all (out++[m]):=by
 refine ⟨?_,?_,?_⟩
 ·unfold Rising
  rw [List.pairwise_append]
  refine ⟨h.r,by simp,fun a ha b hb=>?_⟩
  simp only [List.mem_singleton] at hb
  subst hb
  obtain ⟨y,hy⟩: ∃y,out.getLast?=some y:=by
   cases hl:out.getLast? with
   |none=>rw [List.getLast?_eq_none_iff] at hl;subst hl;simp at ha
   |some y=>exact ⟨y,rfl⟩
  have hcy:=hc y hy
  obtain ⟨pre,rfl⟩: ∃pre,out=pre++[y]:=by
   rw [List.getLast?_eq_some_iff] at hy;exact hy
  rcases List.mem_append.1 ha with ha|ha
  ·have:=(List.pairwise_append.1 h.r).2.2 a ha y (by simp)
   omega
  ·simp only [List.mem_singleton] at ha;omega
 ·intro z hz
  rcases List.mem_append.1 hz with hz|hz
  ·exact h.s z hz
  ·simp only [List.mem_singleton] at hz;subst hz;exact List.mem_of_getElem? hm
 ·rintro z hz ⟨y,hy,hle⟩
  simp only [List.getLast?_append,List.getLast?_singleton,Option.some_or,Option.some.injEq] at hy
  subst hy
  rw [List.mem_append]
  by_cases hcz:candP out.getLast? z
  ·obtain ⟨k,hk⟩:=List.getElem?_of_mem hz
   have:=hmin k z hk hcz
   right;simp;omega
  ·left
   unfold candP at hcz
   obtain ⟨y',hy'⟩: ∃y',out.getLast?=some y'∧ ¬y'<z:=by
    apply Classical.byContradiction
    intro hn
    exact hcz (fun y hy=>Classical.byContradiction fun hlt=>hn ⟨y,hy,hlt⟩)
   exact h.d z hz ⟨y',hy'.1,by omega⟩
theorem OInv.done {all out:List Int} (h:OInv all out) (hno: ∀(k:Nat) z,all[k]?=some z→ ¬candP out.getLast? z): ∀z,z∈out↔z∈all:=by
 intro z
 refine ⟨h.s z,fun hz=>?_⟩
 obtain ⟨k,hk⟩:=List.getElem?_of_mem hz
 have hcz:=hno k z hk
 unfold candP at hcz
 obtain ⟨y',hy'⟩: ∃y',out.getLast?=some y'∧ ¬y'<z:=by
  apply Classical.byContradiction
  intro hn
  exact hcz (fun y hy=>Classical.byContradiction fun hlt=>hn ⟨y,hy,hlt⟩)
 exact h.d z hz ⟨y',hy'.1,by omega⟩
def candB (last:Option Int) (z:Int):Bool:=match last with
 |none=>true
 |some y=>decide (y<z)
theorem candB_iff (last:Option Int) (z:Int):candB last z=true↔candP last z:=by
 cases last with
 |none=>simp [candB,candP]
 |some y=>simp [candB,candP]
theorem next_lt {all out:List Int} {n:Nat} {m:Int} (hm:all[n]?=some m) (hc:candP out.getLast? m):all.countP (candB (out++[m]).getLast?)<all.countP (candB out.getLast?):=by
 have e:(out++[m]).getLast?=some m:=by simp
 rw [e]
 refine countP_lt _ _ (fun x hx=>?_) all ⟨m,List.mem_of_getElem? hm,(candB_iff _ _).2 hc,by simp [candB]⟩
 rw [candB_iff]
 have:m<x:=by simpa [candB] using hx
 intro y hy
 have:=hc y hy
 omega
theorem intRows_at (l:List Int) (i:Nat) (h:i<l.length): ∀h2,(intRows l)[i]'h2=[i6 l[i]]:=fun h2=>by simp [intRows]
theorem intRows_snoc (l:List Int) (z:Int):intRows (l++[z])=intRows l++[[i6 z]]:=by simp [intRows]
open Go.Proofs
theorem rwin_tail (all:List Int) (hl:all.length≤100) (W:List Int) (hW:Rising W) (hWm: ∀z,z∈W↔z∈all) (e:List (Nat×AV)) (pm:List (Pl×Nat)) (l3:lk e 3= .sl (intRows all)) (bx:List (Id×List AV)):
  wpA (SpH Tryz.prog gl) (AC.tl 4 c98) (postA [.t 2] (.sl (intRows W))) ⟨e,bx,pm⟩:=by
 have hlim:lim=140737488355328:=rfl
 have aat:=intRows_at all
 have al:=intRows_len all
 simp only [c98,AC.tl]
 simp -implicitDefEqProofs [l3]
 refine wp_lpk (α:=List Int) (fun out=>⟨[(3,.sl (intRows all)),(5,.sl (intRows out))],[],[(.s 5,1)]⟩) (fun out=>OInv all out∧out.length+all.countP (candB out.getLast?)≤all.length) (fun out=>all.countP (candB out.getLast?)) ?_ [] ?_ ?_
 ·rintro K out hK ⟨ho,hc⟩
  have ol:=intRows_len out
  have oat:=intRows_at out
  have oone:=intRows_one out
  have fin: ∀(n:Nat) (m:Int),all[n]?=some m→candP out.getLast? m→(∀(k:Nat) z,all[k]?=some z→candP out.getLast? z→m≤z)→ ∀σ',Weak σ' ⟨[(3,.sl (intRows all)),(5,.sl (intRows (out++[m])))],[],[(.s 5,1)]⟩→K σ':=
   fun n m hn hcm hmin σ' hσ=>hK (out++[m]) σ' ⟨ho.next hn hcm hmin,by
    have:=next_lt hn hcm
    rw [List.length_append,List.length_singleton];omega⟩ (next_lt hn hcm) hσ
  have done:(∀(k:Nat) z,all[k]?=some z→ ¬candP out.getLast? z)→out=W:=fun hno=>rising_ext ho.r hW (fun z=>(ho.done hno z).trans (hWm z).symm)
  clear hK ho
  have hol:out.length≤100:=by omega
  simp -implicitDefEqProofs
  refine wp_lpk (α:=Nat×Int) (fun x=>⟨[(3,.sl (intRows all)),(5,.sl (intRows out)),(6,i6 x.2),(7,i6 x.1)],[],[(.s 5,1)]⟩) (fun x=>x.1≤all.length∧BInv all out.getLast? x.1 x.2) (fun x=>all.length - x.1) ?_ (0,-1) ?_ ?_
  ·rintro K2 ⟨j,b⟩ hK2 ⟨h1,h2⟩
   simp only at h1 h2
   by_cases g:j<all.length
   ·have t1:IntKind.i64.wrap ((j:Int)+1)=(j+1:Nat):=by rw [wrap_i64]<;>omega
    have gR:j<(intRows all).length:=by omega
    have ra:=aat j g
    have hz:all[j]?=some all[j]:=List.getElem?_eq_getElem g
    have fs:(∀z,all[j]?=some z→candP out.getLast? z→ ∃n:Nat,b=n∧ ∃m,all[n]?=some m∧m≤z)→ ∀σ',Weak σ' ⟨[(3,.sl (intRows all)),(5,.sl (intRows out)),(6,i6 b),(7,i6 (j+1:Nat))],[],[(.s 5,1)]⟩→K2 σ':=
     fun hj σ' hσ=>hK2 (j+1,b) σ' ⟨by simp only;omega,h2.skip hj⟩ (by simp only;omega) hσ
    have ft:candP out.getLast? all[j]→(b<0∨ ∃n:Nat,b=n∧ ∃m,all[n]?=some m∧all[j]<m)→ ∀σ',Weak σ' ⟨[(3,.sl (intRows all)),(5,.sl (intRows out)),(6,i6 j),(7,i6 (j+1:Nat))],[],[(.s 5,1)]⟩→K2 σ':=
     fun hcd hb σ' hσ=>hK2 (j+1,j) σ' ⟨by simp only;omega,h2.take hz hcd hb⟩ (by simp only;omega) hσ
    have hb:b= -1∨ ∃n:Nat,b=n∧ ∃h:n<all.length,True:=by
     rcases h2 with ⟨q,_⟩|⟨n,q,q2,_⟩
     ·exact .inl q
     ·exact .inr ⟨n,q,by omega,trivial⟩
    clear hK2 h2 fin done
    generalize hzj:all[j]=zj at *
    have hcases:out=[]∨ ∃pre y,out=pre++[y]:=by
     rcases List.eq_nil_or_concat out with h|⟨p,y,h⟩
     ·exact .inl h
     ·exact .inr ⟨p,y,by rw [h,List.concat_eq_append]⟩
    rcases hcases with rfl|⟨pre,y,rfl⟩
    ·have hcd:candP ([]:List Int).getLast? zj:=fun y hy=>by simp at hy
     have o0:intRows []=[]:=rfl
     rw [o0] at fs ft ⊢
     generalize intRows all=AR at *
     rcases hb with rfl|⟨n,rfl,hn,_⟩
     ·have ft:=ft hcd (.inl (by omega))
      simp -implicitDefEqProofs [g,gR,ra,al]
      refine ft _ ?_
      refine weak_mk ?_ ?_ ?_ ?_ ?_ ?_<;>simp -implicitDefEqProofs [t1]
     ·have ran:=aat n hn
      have gRn:n<AR.length:=by omega
      have hzn:all[n]?=some all[n]:=List.getElem?_eq_getElem hn
      have n0: ¬(n:Int)<0:=by omega
      by_cases hlt:zj<all[n]
      ·have ft:=ft hcd (.inr ⟨n,rfl,all[n],hzn,hlt⟩)
       simp -implicitDefEqProofs [g,gR,gRn,hn,ra,ran,al,n0,hlt]
       refine ft _ ?_
       refine weak_mk ?_ ?_ ?_ ?_ ?_ ?_<;>simp -implicitDefEqProofs [t1]
      ·have fs:=fs (fun z hz2 _=>by rw [hz] at hz2;cases hz2;exact ⟨n,rfl,all[n],hzn,by omega⟩)
       simp -implicitDefEqProofs [g,gR,gRn,hn,ra,ran,al,n0,hlt]
       refine fs _ ?_
       refine weak_mk ?_ ?_ ?_ ?_ ?_ ?_<;>simp -implicitDefEqProofs [t1]
    ·have el:(pre++[y]).getLast?=some y:=by simp
     have ll:(pre++[y]).length=pre.length+1:=by simp
     have oy: ∀h,(intRows (pre++[y]))[pre.length]'h=[i6 y]:=fun h=>by rw [oat pre.length (by simp) h];simp
     rw [el] at fs ft
     rw [ll] at ol
     have t2:IntKind.i64.wrap (((pre.length+1:Nat):Int) - 1)=pre.length:=by rw [wrap_i64]<;>omega
     have gO:pre.length<(intRows (pre++[y])).length:=by omega
     have nz: ¬((pre.length+1:Nat):Int)=0:=by omega
     have nz2:(((pre.length+1:Nat):Int)==0)=false:=by simpa using nz
     clear oat
     obtain ⟨N,hN⟩: ∃N,N=pre.length+1:=⟨_,rfl⟩
     rw [←hN] at ol t2 nz2
     generalize intRows (pre++[y])=OR at *
     clear ll nz el hc hol
     generalize pre.length=p at *
     have gO':p<N:=by omega
     generalize intRows all=AR at *
     by_cases hyz:y<zj
     ·have hcd:candP (some y) zj:=fun y' hy=>by cases hy;exact hyz
      rcases hb with rfl|⟨n,rfl,hn,_⟩
      ·have ft:=ft hcd (.inl (by omega))
       simp -implicitDefEqProofs [g,gR,ra,al,ol,nz2,t2,gO,gO',oy,hyz]
       refine ft _ ?_
       refine weak_mk ?_ ?_ ?_ ?_ ?_ ?_<;>simp -implicitDefEqProofs [t1]
      ·have ran:=aat n hn
       have gRn:n<AR.length:=by omega
       have hzn:all[n]?=some all[n]:=List.getElem?_eq_getElem hn
       have n0: ¬(n:Int)<0:=by omega
       by_cases hlt:zj<all[n]
       ·have ft:=ft hcd (.inr ⟨n,rfl,all[n],hzn,hlt⟩)
        simp -implicitDefEqProofs [g,gR,gRn,hn,ra,ran,al,n0,hlt,ol,nz2,t2,gO,gO',oy,hyz]
        refine ft _ ?_
        refine weak_mk ?_ ?_ ?_ ?_ ?_ ?_<;>simp -implicitDefEqProofs [t1]
       ·have fs:=fs (fun z hz2 _=>by rw [hz] at hz2;cases hz2;exact ⟨n,rfl,all[n],hzn,by omega⟩)
        simp -implicitDefEqProofs [g,gR,gRn,hn,ra,ran,al,n0,hlt,ol,nz2,t2,gO,gO',oy,hyz]
        refine fs _ ?_
        refine weak_mk ?_ ?_ ?_ ?_ ?_ ?_<;>simp -implicitDefEqProofs [t1]
     ·have fs:=fs (fun z hz2 hcz=>by rw [hz] at hz2;cases hz2;exact absurd (hcz y rfl) hyz)
      simp -implicitDefEqProofs [g,gR,ra,al,ol,nz2,t2,gO,gO',oy,hyz]
      refine fs _ ?_
      refine weak_mk ?_ ?_ ?_ ?_ ?_ ?_<;>simp -implicitDefEqProofs [t1]
   ·obtain rfl:j=all.length:=by omega
    clear hK2
    rcases h2 with ⟨rfl,hno⟩|⟨n,rfl,hn,m,hm,hcm,hmin⟩
    ·have e:=done (fun k z hz=>hno k (List.getElem?_eq_some_iff.1 hz).1 z hz)
     subst e
     clear fin done
     generalize intRows all=AR at *
     simp -implicitDefEqProofs [al]
    ·have fin:=fin n m hm hcm (fun k z hz hcz=>hmin k (List.getElem?_eq_some_iff.1 hz).1 z hz hcz)
     rw [intRows_snoc] at fin
     have ran: ∀h2,(intRows all)[n]'h2=[i6 m]:=fun h2=>by rw [aat n hn h2];rw [List.getElem?_eq_getElem hn] at hm;rw [Option.some.inj hm]
     have n0: ¬(n:Int)<0:=by omega
     have gRn:n<(intRows all).length:=by omega
     have q1:(out.length+1)*8≤140737488355328:=by omega
     clear done hmin
     generalize intRows out=OR at *
     generalize intRows all=AR at *
     simp -implicitDefEqProofs [al,n0,gRn,hn,ran,ol,hlim,q1]
     refine ⟨oone,fin _ ?_⟩
     refine weak_mk ?_ ?_ ?_ ?_ ?_ ?_<;>simp -implicitDefEqProofs
  ·exact ⟨Nat.zero_le _,.inl ⟨rfl,fun k hk=>by simp only at hk;omega⟩⟩
  ·refine weak_mk ?_ ?_ ?_ ?_ ?_ ?_<;>simp -implicitDefEqProofs
 ·refine ⟨⟨by simp [Rising],by simp,fun z hz ⟨y,hy,_⟩=>by simp at hy⟩,?_⟩
  simp only [List.length_nil,Nat.zero_add]
  exact List.countP_le_length
 ·refine weak_mk ?_ ?_ ?_ ?_ ?_ ?_<;>simp -implicitDefEqProofs [l3,intRows]
open Go.Proofs
theorem rwin_spec (x:Gl) (hl:x.ru.length≤10):Sp Tryz.prog gl 98 [.agg x.row] (.sl (intRows (winP x))):=by
 refine s98 rfl rfl ?_
 have hlim:lim=140737488355328:=rfl
 have ec:c98=AC.cutAt 4 (AC.tl 4 c98) c98:=rfl
 rw [ec]
 have T:=rwin_tail (allW x) (by have:=allW_len x;omega) (winP x) (winP_rising x) (winP_mem x)
 generalize AC.tl 4 c98=TT at T ⊢
 have hw:allW x=ruW x.ru++(if x.o=0 then [] else [x.o]):=rfl
 have hx:x.row=[.str x.n,.int .u32 x.t,i6 x.g,i6 x.a,i6 x.o,i6 x.c,.sl (x.lb.map Lb.row),.sl (x.ru.map Ru.row)]:=rfl
 have rat: ∀i (h:i<x.ru.length),∀h2,(x.ru.map Ru.row)[i]'h2=[.str x.ru[i].n,.bool x.ru[i].p,i6 x.ru[i].l,i6 x.ru[i].s,u x.ru[i].f,i6 x.ru[i].w,i6 x.ru[i].k]:=fun i h h2=>by simp [Ru.row]
 have rl:(x.ru.map Ru.row).length=x.ru.length:=by simp
 rw [hx]
 clear hx ec
 generalize winP x=W at *
 generalize allW x=AL at *
 generalize x.lb.map Lb.row=LB at *
 generalize x.ru.map Ru.row=RU at *
 generalize x.ru=ru at *
 simp only [c98,AC.cutAt]
 simp -implicitDefEqProofs
 refine wp_lpk (α:=Nat×List Int) (fun z=>⟨[(1,.ptr (.n 1) 0),(3,.sl (intRows z.2)),(4,i6 z.1)],[(.n 1,[.str x.n,.int .u32 x.t,i6 x.g,i6 x.a,i6 x.o,i6 x.c,.sl LB,.sl RU])],[(.s 3,1)]⟩) (fun z=>z.1≤ru.length∧z.2=ruW (ru.take z.1)) (fun z=>ru.length - z.1) ?_ (0,[]) ?_ ?_
 ·rintro K ⟨i,acc⟩ hK ⟨h1,h2⟩
  simp only at h1 h2
  have al:acc.length≤2*i:=by
   rw [h2,ruW_len,List.length_take];omega
  have acl:=intRows_len acc
  have aone:=intRows_one acc
  by_cases g:i<ru.length
  ·have t1:IntKind.i64.wrap ((i:Int)+1)=(i+1:Nat):=by rw [wrap_i64]<;>omega
   have ra:=rat i g
   have gR:i<RU.length:=by omega
   have es:ruW (ru.take (i+1))=acc++[ru[i].l]++[ru[i].s]:=by
    rw [List.take_succ_eq_append_getElem g,h2]
    simp only [ruW,List.flatMap_append,List.flatMap_cons,List.flatMap_nil,List.append_nil,List.append_assoc]
    rfl
   have fin: ∀σ',Weak σ' ⟨[(1,.ptr (.n 1) 0),(3,.sl (intRows (acc++[ru[i].l]++[ru[i].s]))),(4,i6 (i+1:Nat))],[(.n 1,[.str x.n,.int .u32 x.t,i6 x.g,i6 x.a,i6 x.o,i6 x.c,.sl LB,.sl RU])],[(.s 3,1)]⟩→K σ':=
    fun σ' hσ=>hK (i+1,acc++[ru[i].l]++[ru[i].s]) σ' ⟨by simp only;omega,es.symm⟩ (by simp only;omega) hσ
   rw [intRows_snoc,intRows_snoc] at fin
   clear hK T rat h2 es
   have q1:(acc.length+1)*8≤140737488355328:=by omega
   have q2:(acc.length+1+1)*8≤140737488355328:=by omega
   have aone2: ∀r,r∈intRows acc∨r=[i6 ru[i].l]→r.length=1:=by
    rintro r (h|rfl)
    ·exact aone r h
    ·rfl
   generalize intRows acc=A at *
   simp -implicitDefEqProofs [g,gR,ra,rl,hlim,acl,q1,q2]
   refine ⟨aone,aone2,fin _ ?_⟩
   refine weak_mk ?_ ?_ ?_ ?_ ?_ ?_<;>simp -implicitDefEqProofs [t1]
  ·obtain rfl:i=ru.length:=by omega
   rw [List.take_length] at h2
   subst h2
   clear hK rat
   have q1:((ruW ru).length+1)*8≤140737488355328:=by omega
   by_cases h0:x.o=0
   ·rw [if_pos h0,List.append_nil] at hw
    subst hw
    rw [h0]
    generalize intRows (ruW ru)=A at *
    simp -implicitDefEqProofs [rl]
    refine T _ _ ?_ _
    simp -implicitDefEqProofs
   ·rw [if_neg h0] at hw
    subst hw
    rw [intRows_snoc] at T
    have hne:(x.o !=0)=true:=by simpa using h0
    generalize intRows (ruW ru)=A at *
    simp -implicitDefEqProofs [rl,hne,hlim,acl,q1]
    refine ⟨aone,T _ _ ?_ _⟩
    simp -implicitDefEqProofs
 ·exact ⟨Nat.zero_le _,by simp [ruW]⟩
 ·refine weak_mk ?_ ?_ ?_ ?_ ?_ ?_<;>simp -implicitDefEqProofs [intRows]
open Go.Proofs
theorem ctB_int (g t:Nat):ctB g t=(decide ((g:Int)≤t)&&decide ((t:Int)≤9223372036854775807)):=by
 unfold ctB
 congr 1
 ·exact decide_eq_decide.2 (by omega)
 ·exact decide_eq_decide.2 (by omega)
theorem acount_spec (g t:Nat):Sp Tryz.prog gl 143 [.agg [u g,u t]] (.bool (ctB g t)):=by
 refine s143 rfl rfl ?_
 rw [ctB_int]
 by_cases h:(g:Int)≤t<;>simp -implicitDefEqProofs [c143,h]
theorem rcount35_spec (g t:Nat):Sp Tryz.prog gl 99 [.agg [u g,u t]] (.bool (ctB g t)):=by
 refine s99 rfl rfl ?_
 rw [ctB_int]
 by_cases h:(g:Int)≤t<;>simp -implicitDefEqProofs [c99,h]
def winGo:List Int→List WV→Bool
 |w::r,x::s=>decide (x.w=w)&&(ctB x.g x.n&&winGo r s)
 |_,_=>true
theorem winGo_eq: ∀(l:List Int) (s:List WV),l.length=s.length→winGo l s=(s.all (fun w=>ctB w.g w.n)&&decide (s.map WV.w=l))
 |[],[],_=>rfl
 |[],x::s,h=>absurd h (by simp)
 |w::r,[],h=>absurd h (by simp)
 |w::r,x::s,h=>by
  simp only [winGo,List.all_cons,List.map_cons]
  rw [winGo_eq r s (by simpa using h)]
  by_cases e:x.w=w
  ·simp [e,Bool.and_assoc]
  ·simp [e]
theorem windowsF_eq (g:GV):windowsF g=(decide ((winP g.g).length=g.ws.length)&&winGo (winP g.g) g.ws):=by
 unfold windowsF
 by_cases h:(winP g.g).length=g.ws.length
 ·rw [winGo_eq _ _ h,decide_eq_true h,Bool.true_and]
 ·rw [decide_eq_false h,Bool.false_and]
  have: ¬g.ws.map WV.w=winP g.g:=fun e=>h (by rw [←e];simp)
  rw [decide_eq_false this,Bool.and_false]
theorem rwindows35_spec (x:GV) (hl:x.g.ru.length≤10) (hw:x.ws.length≤1000000):Sp Tryz.prog gl 41 [.agg x.row] (.bool (windowsF x)):=by
 refine s41 rfl rfl ?_
 have RW:=rwin_spec x.g hl
 obtain ⟨R,hR⟩: ∃R,R=windowsF x:=⟨_,rfl⟩
 rw [←hR]
 rw [windowsF_eq] at hR
 have ir:(intRows (winP x.g)).length=(winP x.g).length:=by simp [intRows]
 have ia: ∀i (h:i<(winP x.g).length),∀h2,(intRows (winP x.g))[i]'h2=[i6 (winP x.g)[i]]:=fun i h h2=>by simp [intRows]
 have rl:(x.ws.map WV.row).length=x.ws.length:=by simp
 have rat:=wv_at x.ws
 have e1:List.take 8 x.row=x.g.row:=rfl
 have e9: ∀h:9<x.row.length,x.row[9]= .sl (x.ws.map WV.row):=fun _=>rfl
 have el:x.row.length=15:=rfl
 have e0:idsL x.row=[]:=rfl
 have es:shutL x.row=some x.row:=rfl
 have g0:idsL x.g.row=[]:=rfl
 have gL:x.g.row.length=8:=rfl
 have gs:shutL x.g.row=some x.g.row:=rfl
 generalize x.g.row=GR at *
 generalize x.row=M at *
 generalize intRows (winP x.g)=IR at *
 generalize winP x.g=W at *
 generalize x.ws.map WV.row=WR at *
 by_cases hn:W.length=x.ws.length
 ·have hn':((W.length:Int)!=(x.ws.length:Int))=false:=by rw [hn];simp
  rw [decide_eq_true hn,Bool.true_and] at hR
  simp -implicitDefEqProofs [c41,e1,e9,el,e0,es,g0,gL,gs]
  refine onC_mk _ (RW) ?_
  simp -implicitDefEqProofs [e1,e9,el,e0,ir,rl,hn']
  refine wp_lpk (α:=Nat) (fun i=>⟨[(1,.ptr (.n 1) 0),(3,.sl IR),(4,i6 i)],[(.n 1,M)],[]⟩)
   (fun i=>i≤W.length∧winGo (W.drop i) (x.ws.drop i)=R) (fun i=>W.length - i) ?_ 0 ?_ ?_
  ·rintro K i hK ⟨h1,h2⟩
   by_cases g:i<W.length
   ·have t1:IntKind.i64.wrap ((i:Int)+1)=(i+1:Nat):=by rw [wrap_i64]<;>omega
    have gw:i<x.ws.length:=by omega
    have gI:i<IR.length:=by omega
    have gW:i<WR.length:=by omega
    have ra:=rat i gw gW
    have ri:=ia i g gI
    rw [List.drop_eq_getElem_cons g,List.drop_eq_getElem_cons gw] at h2
    simp only [winGo] at h2
    have CT:=rcount35_spec x.ws[i].g x.ws[i].n
    have fin:winGo (W.drop (i+1)) (x.ws.drop (i+1))=R→ ∀σ',Weak σ' ⟨[(1,.ptr (.n 1) 0),(3,.sl IR),(4,i6 (i+1:Nat))],[(.n 1,M)],[]⟩→K σ':=
     fun hh σ' hσ=>hK (i+1) σ' ⟨by omega,hh⟩ (by omega) hσ
    clear hK hR rat ia
    generalize winGo (W.drop (i+1)) (x.ws.drop (i+1))=r at *
    generalize W[i]=w at *
    generalize x.ws[i]=v at *
    generalize ctB v.g v.n=cb at *
    by_cases hv:v.w=w
    ·have hv':(v.w !=w)=false:=by rw [hv];simp
     rw [decide_eq_true hv,Bool.true_and] at h2
     clear hv
     cases cb
     ·simp at h2
      subst h2
      simp -implicitDefEqProofs [g,gI,gW,gw,ra,ri,ir,rl,e9,el,e0,hv']
      refine onC_mk _ (CT) ?_
      simp -implicitDefEqProofs
     ·simp only [Bool.true_and] at h2
      have fin:=fin h2
      simp -implicitDefEqProofs [g,gI,gW,gw,ra,ri,ir,rl,e9,el,e0,hv']
      refine onC_mk _ (CT) ?_
      simp -implicitDefEqProofs [t1]
      refine fin _ ?_
      refine weak_mk ?_ ?_ ?_ ?_ ?_ ?_<;>simp -implicitDefEqProofs [t1,e0]
    ·have hv':(v.w !=w)=true:=by rw [bne_iff_ne];exact hv
     rw [decide_eq_false hv,Bool.false_and] at h2
     subst h2
     clear hv
     simp -implicitDefEqProofs [g,gI,gW,gw,ra,ri,ir,rl,e9,el,e0,hv']
   ·obtain rfl:i=W.length:=by omega
    rw [List.drop_length] at h2
    simp only [winGo] at h2
    subst h2
    clear hK
    simp -implicitDefEqProofs [ir]
  ·exact ⟨Nat.zero_le _,hR.symm⟩
  ·refine weak_mk ?_ ?_ ?_ ?_ ?_ ?_<;>simp -implicitDefEqProofs [e0]
 ·have hn':((W.length:Int)!=(x.ws.length:Int))=true:=by rw [bne_iff_ne];omega
  rw [decide_eq_false hn,Bool.false_and] at hR
  subst hR
  simp -implicitDefEqProofs [c41,e1,e9,el,e0,es,g0,gL,gs]
  refine onC_mk _ (RW) ?_
  simp -implicitDefEqProofs [e1,e9,el,e0,ir,rl,hn']
open Go.Proofs
def ixN (n:List UInt8):List (List UInt8)→Nat→Int
 |[],_=> -1
 |m::r,i=>if (m==n)=true then (i:Int) else ixN n r (i+1)
end Go.Ai
