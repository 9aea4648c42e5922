/- P11: a part of the proof: the rules, or what functions compute. Conditions: as each theorem says. -/
import Derived.Test.YtggemlhclppciaaGreatDoorP10
import Derived.Test.YtggemlhclppciaaGreatDoorP2
import Derived.Test.YtggemlhclppciaaGreatDoorP4
import Derived.Test.YtggemlhclppciaaGreatDoorLib10
set_option linter.unusedSimpArgs false
set_option linter.unusedVariables false
set_option maxRecDepth 20000
namespace Go.Ai
open Go.Proofs Go.Shelf
def unRun (x:Rd):List Int→Rd×Bool
 |[]=>(x,true)
 |r::l=>if (takeU x r).2=true then unRun (takeU x r).1 l else ((takeU x r).1,false)
def rd0:Rd:=⟨[],0,0,0⟩
def unqF (l:List Int):List UInt8×Int:=
 if goodR l=false∨l.head?≠some 34 then ([],5)
 else if (unRun rd0 l.tail).2=false then ([],5)
 else if (unRun rd0 l.tail).1.st≠4 then ([],5)
 else if 120<(unRun rd0 l.tail).1.out.length then ([],9)
 else (textR (unRun rd0 l.tail).1.out,0)
structure RdOk (x:Rd) (i:Nat):Prop where
 o:x.out.length≤i
 c:x.c≤6
 n:x.n<16^x.c
 k: ∀r∈x.out,okR r
theorem runeV_ok {r:Int} (h:runeV r):okR r:=by
 unfold runeV at h
 right
 omega
theorem mem_snoc_ok {l:List Int} {q:Int} (h: ∀r∈l,okR r) (hq:okR q): ∀r∈l++[q],okR r:=by
 intro r hr
 rw [List.mem_append,List.mem_singleton] at hr
 rcases hr with hr|rfl
 ·exact h r hr
 ·exact hq
theorem RdOk.step {x:Rd} {i:Nat} (h:RdOk x i) {r:Int} (hr:runeV r) (w:Nat) (hw:1≤w):RdOk (takeU x r).1 (i+w):=by
 obtain ⟨h1,h2,h3,h4⟩:=h
 have same: ∀y:Rd,y.out=x.out→y.c=x.c→y.n=x.n→RdOk y (i+w):=fun y a b c=>⟨by rw [a];omega,by rw [b];exact h2,by rw [c,b];exact h3,by rw [a];exact h4⟩
 have more: ∀(y:Rd) q,y.out=x.out++[q]→okR q→y.c=x.c→y.n=x.n→RdOk y (i+w):=fun y q a hq b c=>⟨by rw [a,List.length_append];simp;omega,by rw [b];exact h2,by rw [c,b];exact h3,by rw [a];exact mem_snoc_ok h4 hq⟩
 unfold takeU
 by_cases c1:x.st=1
 ·rw [if_pos c1]
  unfold afterR
  by_cases d1:r=34∨r=92
  ·rw [if_pos d1];exact more _ r rfl (runeV_ok hr) rfl rfl
  rw [if_neg d1]
  by_cases d2:r=110
  ·rw [if_pos d2];exact more _ 10 rfl (by right;omega) rfl rfl
  rw [if_neg d2]
  by_cases d3:r=116
  ·rw [if_pos d3];exact more _ 9 rfl (by right;omega) rfl rfl
  rw [if_neg d3]
  by_cases d4:r=117
  ·rw [if_pos d4];exact same _ rfl rfl rfl
  ·rw [if_neg d4];exact same _ rfl rfl rfl
 rw [if_neg c1]
 by_cases c2:x.st=2
 ·rw [if_pos c2]
  exact ⟨by dsimp only;omega,Nat.zero_le _,by simp,h4⟩
 rw [if_neg c2]
 by_cases c3:x.st=3
 ·rw [if_pos c3]
  unfold withinR
  by_cases d1:0≤hexR r∧x.c<6
  ·rw [if_pos d1]
   have hx:=hexR_lt r
   refine ⟨by dsimp only;omega,by dsimp only;omega,?_,h4⟩
   dsimp only
   rw [Nat.pow_succ]
   omega
  rw [if_neg d1]
  by_cases d2:r≠125∨x.c=0∨validR x.n=false
  ·rw [if_pos d2];exact same _ rfl rfl rfl
  ·rw [if_neg d2]
   refine more _ x.n rfl (runeV_ok ((validR_iff _).1 ?_)) rfl rfl
   cases hv:validR (x.n:Int)
   ·exact absurd (.inr (.inr hv)) d2
   ·rfl
 rw [if_neg c3]
 by_cases c4:x.st=4
 ·rw [if_pos c4];exact same _ rfl rfl rfl
 rw [if_neg c4]
 by_cases d1:r=34
 ·rw [if_pos d1];exact same _ rfl rfl rfl
 rw [if_neg d1]
 by_cases d2:r=92
 ·rw [if_pos d2];exact same _ rfl rfl rfl
 rw [if_neg d2]
 by_cases d3:r<32∨r=127
 ·rw [if_pos d3];exact same _ rfl rfl rfl
 ·rw [if_neg d3];exact more _ r rfl (runeV_ok hr) rfl rfl
theorem runesL_34 (t:List UInt8):runesL (34::t) 0=34::runesL t 0:=by
 have h:=encR_step (r:=34) (by right;omega) t
 have e:encR 34=[34]:=by decide
 rw [e] at h
 have h2:=runesL_app [34] t t.length 0 (by omega)
 rw [runesL_in (by simp),show (34::t)=[34]++t from rfl,h]
 simp only [List.length_cons,List.length_nil,Nat.zero_add,Nat.add_zero] at h2 ⊢
 rw [h2]
theorem stepR_plain34 (s:List UInt8) (h:(stepR s 0).1=34):byt s 0=34:=by
 have ff: ∀n r0 least,128≤least→(stepF s 0 n r0 least).1=34→False:=by
  intro n r0 least hl e
  unfold stepF at e
  split at e
  ·rename_i c
   rw [Bool.and_eq_true] at c
   have:=isRune_le c.2
   dsimp only at e
   omega
  ·dsimp only at e;omega
 unfold stepR at h
 simp only at h
 split at h
 ·dsimp only at h;omega
 ·split at h
  ·exact (ff _ _ _ (by omega) h).elim
  ·split at h
   ·exact (ff _ _ _ (by omega) h).elim
   ·split at h
    ·exact (ff _ _ _ (by omega) h).elim
    ·dsimp only at h;omega
theorem head_34 (s:List UInt8):Lib.hasPrefix s [34]=decide ((runesL s 0).head?=some 34):=by
 cases s with
 |nil=>rw [runesL_out (by simp)];rfl
 |cons b t=>
  by_cases c:b=34
  ·subst c
   rw [runesL_34]
   simp [Lib.hasPrefix]
  ·have h1:Lib.hasPrefix (b::t) [34]=false:=by
    unfold Lib.hasPrefix
    show ((34:UInt8)==b&&([]:List UInt8).isPrefixOf t)=false
    rw [beq_eq_false_iff_ne.2 (fun h=>c h.symm),Bool.false_and]
   rw [h1,runesL_in (by simp)]
   symm
   rw [decide_eq_false_iff_not]
   intro h
   have h:(stepR (b::t) 0).1=34:=by simpa using h
   have:=stepR_plain34 (b::t) h
   apply c
   have hb:byt (b::t) 0=b.toNat:=rfl
   rw [hb] at this
   exact UInt8.toNat_inj.1 (by rw [this];rfl)
theorem good_all {l:List Int} (h:goodR l=true): ∀r∈l,r≠ -1:=by
 intro r hr e
 unfold goodR at h
 have:=of_decide_eq_true (List.all_eq_true.1 h r hr)
 omega
end Go.Ai
namespace Go.Ai
open Go.Proofs Go.Shelf
theorem stR_spec {d:Nat} {b:Id} (hit:b.isIt=false) (hnwb:b.isNw d=false) {c0:AV} (rest:List AV) (l:List UInt8) (h0:l≠[]):
  SpH Tryz.prog gl 40 d ⟨[.ptr b 0],[(b,c0:: .sl (byteRows l)::rest)],[(.b b 1,bk 5)]⟩ ⟨.str l,[(b,c0:: .sl (byteRows l)::rest)],[]⟩:=
 st_shelf (L:={laysJoin with}) extraJ (by kernel_rfl) (by kernel_rfl) hit hnwb (rest:=rest) l h0
theorem st0R_spec {d:Nat} {b:Id} (hit:b.isIt=false) (hnwb:b.isNw d=false) {c0:AV} (rest:List AV):
  SpH Tryz.prog gl 40 d ⟨[.ptr b 0],[(b,c0:: .nils::rest)],[]⟩ ⟨.str [],[(b,c0:: .nils::rest)],[]⟩:=
 st0_shelf (L:={laysJoin with}) extraJ (by kernel_rfl) (by kernel_rfl) hit hnwb (rest:=rest)
theorem textR_ne (r:Int) (l:List Int):textR (r::l)≠[]:=by
 intro h
 have:=encR_pos r
 have e:(textR (r::l)).length=0:=by rw [h];rfl
 rw [textR,List.length_append] at e
 omega
set_option maxHeartbeats 1000000 in
theorem tunquote_spec (s:List UInt8) (hl:s.length≤200000):Sp Tryz.prog gl 196 [.str s] (.tup [.str (unqF (runesL s 0)).1,i6 (unqF (runesL s 0)).2]):=by
 refine s196 rfl rfl ?_
 have CP:=cutP_spec s [34]
 have GO:=tgood_spec s (by omega)
 rw [head_34] at CP
 unfold unqF
 by_cases c1:(runesL s 0).head?=some 34
 ·rw [decide_eq_true c1] at CP
  cases hg:goodR (runesL s 0)
  ·rw [hg] at GO
   rw [if_pos (.inl rfl)]
   generalize Lib.trimPrefix s [34]=t at *
   simp -implicitDefEqProofs [c196]
   refine onC_mk _ (CP) ?_
   simp -implicitDefEqProofs
   refine onC_mk _ (GO) ?_
   simp -implicitDefEqProofs
  ·rw [hg] at GO
   rw [if_neg (by rintro (h|h);cases h;exact h c1)]
   obtain ⟨t,ht⟩: ∃t,s=34::t:=by
    have:=head_34 s
    rw [decide_eq_true c1] at this
    cases s with
    |nil=>cases this
    |cons b t=>
     unfold Lib.hasPrefix at this
     have h2:((34:UInt8)==b&&([]:List UInt8).isPrefixOf t)=true:=this
     rw [Bool.and_eq_true,beq_iff_eq] at h2
     exact ⟨t,by rw [h2.1]⟩
   have et:Lib.trimPrefix s [34]=t:=by
    unfold Lib.trimPrefix
    rw [head_34,decide_eq_true c1,if_pos rfl,ht]
    rfl
   have er:(runesL s 0).tail=runesL t 0:=by rw [ht,runesL_34];rfl
   have hok: ∀r∈runesL t 0,runeV r:=by
    intro r hr
    have h1:=good_all hg r (by rw [ht,runesL_34];exact List.mem_cons_of_mem _ hr)
    have h2:=runesL_okR t t.length 0 (by omega) r hr
    unfold runeV
    rcases h2 with h2|h2
    ·exact absurd h2 h1
    ·omega
   have htl:t.length≤200000:=by rw [ht] at hl;simp at hl;omega
   rw [et] at CP
   rw [er]
   clear er et ht hg c1
   obtain ⟨R,hR⟩: ∃R,R=unRun rd0 (runesL t 0):=⟨_,rfl⟩
   rw [←hR]
   simp -implicitDefEqProofs [c196]
   refine onC_mk _ (CP) ?_
   simp -implicitDefEqProofs
   refine onC_mk _ (GO) ?_
   simp -implicitDefEqProofs
   refine wp_lpk (α:=Rd×Nat) (fun y=>⟨[(6,.ptr (.n 23) 0),(25,.itp 25)],[(.n 23,rdBx (.n 23) y.1),(.it 25,[.itr t y.2])],rdPm (.n 23) y.1.out⟩)
    (fun y=>RdOk y.1 y.2∧y.2≤t.length∧unRun y.1 (runesL t y.2)=R∧ ∀r∈runesL t y.2,runeV r) (fun y=>t.length - y.2) ?_ (rd0,0) ?_ ?_
   ·rintro K ⟨x,i⟩ hK ⟨h1,h2,h3,h4⟩
    simp only at h1 h2 h3 h4
    by_cases g:i<t.length
    ·have sr:=step_r65 t i g
     have sp:=stepR_pos t i
     have sw:=stepR_le t i g
     rw [runesL_in g] at h3 h4
     have hv:=h4 (stepR t i).1 (by simp)
     have e65:r65 (stepR t i).1=(stepR t i).1:=by unfold r65;rw [if_neg];unfold runeV at hv;omega
     rw [e65] at sr
     have T:=fun (e:Nat) (he:(Id.n 23).isNw e=false)=>rtakeU_spec x (by have:=h1.o;omega) h1.c h1.n (stepR t i).1 hv e (.n 23) rfl he
     have ok:=h1.step hv (stepR t i).2 sp
     have fin:unRun (takeU x (stepR t i).1).1 (runesL t (i+(stepR t i).2))=R→ ∀σ',Weak σ' ⟨[(6,.ptr (.n 23) 0),(25,.itp 25)],[(.n 23,rdBx (.n 23) (takeU x (stepR t i).1).1),(.it 25,[.itr t (i+(stepR t i).2)])],rdPm (.n 23) (takeU x (stepR t i).1).1.out⟩→K σ':=
      fun hh σ' hσ=>hK ((takeU x (stepR t i).1).1,i+(stepR t i).2) σ' ⟨ok,sw,hh,fun r hr=>h4 r (List.mem_cons_of_mem _ hr)⟩ (by simp only;omega) hσ
     rw [unRun] at h3
     clear hK hR ok h4 hv
     generalize (stepR t i).1=r at *
     generalize (stepR t i).2=w at *
     generalize (takeU x r).2=okk at *
     generalize (takeU x r).1=y at *
     cases okk
     ·rw [if_neg (by decide)] at h3
      subst h3
      dsimp only
      rw [if_pos rfl]
      clear fin
      unfold rdBx at *
      cases hx:x.out with
      |nil=>
       rw [hx] at T
       cases hy:y.out with
       |nil=>
        rw [hy] at T
        simp only [rdHd,rdPm,List.cons_append,List.nil_append] at T ⊢
        simp -implicitDefEqProofs [g,sr]
        refine onH_mk _ _ (T _ rfl) ⟨?_,?_,?_,?_,?_,?_,?_⟩ ?_
        iterate 7 (· simp)
        simp -implicitDefEqProofs
       |cons a2 l2=>
        rw [hy] at T
        simp only [rdHd,rdPm,List.cons_append,List.nil_append] at T ⊢
        generalize byteRows (textR (a2::l2))=B1 at *
        simp -implicitDefEqProofs [g,sr]
        refine onH_mk _ _ (T _ rfl) ⟨?_,?_,?_,?_,?_,?_,?_⟩ ?_
        iterate 7 (· simp)
        simp -implicitDefEqProofs
      |cons a l=>
       rw [hx] at T
       cases hy:y.out with
       |nil=>
        rw [hy] at T
        simp only [rdHd,rdPm,List.cons_append,List.nil_append] at T ⊢
        generalize byteRows (textR (a::l))=B0 at *
        simp -implicitDefEqProofs [g,sr]
        refine onH_mk _ _ (T _ rfl) ⟨?_,?_,?_,?_,?_,?_,?_⟩ ?_
        iterate 7 (· simp)
        simp -implicitDefEqProofs
       |cons a2 l2=>
        rw [hy] at T
        simp only [rdHd,rdPm,List.cons_append,List.nil_append] at T ⊢
        generalize byteRows (textR (a2::l2))=B1 at *
        generalize byteRows (textR (a::l))=B0 at *
        simp -implicitDefEqProofs [g,sr]
        refine onH_mk _ _ (T _ rfl) ⟨?_,?_,?_,?_,?_,?_,?_⟩ ?_
        iterate 7 (· simp)
        simp -implicitDefEqProofs
     ·rw [if_pos rfl] at h3
      have fin:=fin h3
      clear h3
      generalize (if R.2=false then _ else _:List UInt8×Int)=res
      unfold rdBx at *
      cases hx:x.out with
      |nil=>
       rw [hx] at T
       cases hy:y.out with
       |nil=>
        rw [hy] at T fin
        simp only [rdHd,rdPm,List.cons_append,List.nil_append] at T fin ⊢
        simp -implicitDefEqProofs [g,sr]
        refine onH_mk _ _ (T _ rfl) ⟨?_,?_,?_,?_,?_,?_,?_⟩ ?_
        iterate 7 (· simp)
        simp -implicitDefEqProofs
        refine fin _ ?_
        refine weak_mk ?_ ?_ ?_ ?_ ?_ ?_<;>simp -implicitDefEqProofs
       |cons a2 l2=>
        rw [hy] at T fin
        simp only [rdHd,rdPm,List.cons_append,List.nil_append] at T fin ⊢
        generalize byteRows (textR (a2::l2))=B1 at *
        simp -implicitDefEqProofs [g,sr]
        refine onH_mk _ _ (T _ rfl) ⟨?_,?_,?_,?_,?_,?_,?_⟩ ?_
        iterate 7 (· simp)
        simp -implicitDefEqProofs
        refine fin _ ?_
        refine weak_mk ?_ ?_ ?_ ?_ ?_ ?_<;>simp -implicitDefEqProofs
      |cons a l=>
       rw [hx] at T
       cases hy:y.out with
       |nil=>
        rw [hy] at T fin
        simp only [rdHd,rdPm,List.cons_append,List.nil_append] at T fin ⊢
        generalize byteRows (textR (a::l))=B0 at *
        simp -implicitDefEqProofs [g,sr]
        refine onH_mk _ _ (T _ rfl) ⟨?_,?_,?_,?_,?_,?_,?_⟩ ?_
        iterate 7 (· simp)
        simp -implicitDefEqProofs
        refine fin _ ?_
        refine weak_mk ?_ ?_ ?_ ?_ ?_ ?_<;>simp -implicitDefEqProofs
       |cons a2 l2=>
        rw [hy] at T fin
        simp only [rdHd,rdPm,List.cons_append,List.nil_append] at T fin ⊢
        generalize byteRows (textR (a2::l2))=B1 at *
        generalize byteRows (textR (a::l))=B0 at *
        simp -implicitDefEqProofs [g,sr]
        refine onH_mk _ _ (T _ rfl) ⟨?_,?_,?_,?_,?_,?_,?_⟩ ?_
        iterate 7 (· simp)
        simp -implicitDefEqProofs
        refine fin _ ?_
        refine weak_mk ?_ ?_ ?_ ?_ ?_ ?_<;>simp -implicitDefEqProofs
    ·rw [runesL_out g,unRun] at h3
     subst h3
     dsimp only
     rw [if_neg (by decide)]
     clear hK
     have tl:=textR_len x.out
     have ol:=h1.o
     have TC:=tcount_spec (textR x.out) (by omega)
     rw [runesL_textR x.out h1.k] at TC
     unfold rdBx
     by_cases c4:x.st=4
     ·rw [if_pos c4]
      have c4':(x.st !=4)=false:=by rw [c4];rfl
      by_cases c5:120<x.out.length
      ·rw [if_pos c5]
       have c5':(120:Int)<x.out.length:=by omega
       cases hx:x.out with
       |nil=>rw [hx] at c5;simp at c5
       |cons a l=>
        have S:=fun (e:Nat) (he:(Id.n 23).isNw e=false)=>stR_spec (d:=e) (b:= .n 23) rfl he (c0:= .ptr (.n 23) 0) [i6 x.st,i3 x.n,i6 x.c] (textR (a::l)) (textR_ne a l)
        rw [hx] at TC c5 c5'
        simp only [rdHd,rdPm,List.cons_append,List.nil_append]
        generalize (a::l).length=n at *
        generalize textR (a::l)=T at *
        generalize byteRows T=B0 at *
        simp -implicitDefEqProofs [g]
        refine onH_mk _ _ (S _ rfl) ⟨?_,?_,?_,?_,?_,?_,?_⟩ ?_
        iterate 7 (· simp)
        simp -implicitDefEqProofs [c4,c4']
        refine onC_mk _ (TC) ?_
        simp -implicitDefEqProofs [c5,c5']
      ·rw [if_neg c5]
       have c5': ¬(120:Int)<x.out.length:=by omega
       cases hx:x.out with
       |nil=>
        have S:=fun (e:Nat) (he:(Id.n 23).isNw e=false)=>st0R_spec (d:=e) (b:= .n 23) rfl he (c0:= .nilT (.n 23) 260 5) [i6 x.st,i3 x.n,i6 x.c]
        rw [hx] at TC c5'
        rw [show textR []=[] from rfl] at TC ⊢
        simp only [rdHd,rdPm,List.cons_append,List.nil_append]
        simp -implicitDefEqProofs [g]
        refine onH_mk _ _ (S _ rfl) ⟨?_,?_,?_,?_,?_,?_,?_⟩ ?_
        iterate 7 (· simp)
        simp -implicitDefEqProofs [c4,c4']
        refine onC_mk _ (TC) ?_
        simp -implicitDefEqProofs
       |cons a l=>
        have S:=fun (e:Nat) (he:(Id.n 23).isNw e=false)=>stR_spec (d:=e) (b:= .n 23) rfl he (c0:= .ptr (.n 23) 0) [i6 x.st,i3 x.n,i6 x.c] (textR (a::l)) (textR_ne a l)
        rw [hx] at TC c5 c5'
        simp only [rdHd,rdPm,List.cons_append,List.nil_append]
        generalize (a::l).length=n at *
        generalize textR (a::l)=T at *
        generalize byteRows T=B0 at *
        simp -implicitDefEqProofs [g]
        refine onH_mk _ _ (S _ rfl) ⟨?_,?_,?_,?_,?_,?_,?_⟩ ?_
        iterate 7 (· simp)
        simp -implicitDefEqProofs [c4,c4']
        refine onC_mk _ (TC) ?_
        simp -implicitDefEqProofs [c5,c5']
     ·rw [if_neg c4]
      have c4':(x.st !=4)=true:=bne_iff_ne.2 c4
      have c4'':(x.st==4)=false:=beq_eq_false_iff_ne.2 c4
      cases hx:x.out with
      |nil=>
       have S:=fun (e:Nat) (he:(Id.n 23).isNw e=false)=>st0R_spec (d:=e) (b:= .n 23) rfl he (c0:= .nilT (.n 23) 260 5) [i6 x.st,i3 x.n,i6 x.c]
       simp only [rdHd,rdPm,List.cons_append,List.nil_append]
       simp -implicitDefEqProofs [g]
       refine onH_mk _ _ (S _ rfl) ⟨?_,?_,?_,?_,?_,?_,?_⟩ ?_
       iterate 7 (· simp)
       simp -implicitDefEqProofs [c4,c4',c4'']
      |cons a l=>
       have S:=fun (e:Nat) (he:(Id.n 23).isNw e=false)=>stR_spec (d:=e) (b:= .n 23) rfl he (c0:= .ptr (.n 23) 0) [i6 x.st,i3 x.n,i6 x.c] (textR (a::l)) (textR_ne a l)
       simp only [rdHd,rdPm,List.cons_append,List.nil_append]
       generalize textR (a::l)=T at *
       generalize byteRows T=B0 at *
       simp -implicitDefEqProofs [g]
       refine onH_mk _ _ (S _ rfl) ⟨?_,?_,?_,?_,?_,?_,?_⟩ ?_
       iterate 7 (· simp)
       simp -implicitDefEqProofs [c4,c4',c4'']
   ·exact ⟨⟨Nat.zero_le _,Nat.zero_le _,by decide,by intro r hr;cases hr⟩,Nat.zero_le _,hR.symm,hok⟩
   ·refine weak_mk ?_ ?_ ?_ ?_ ?_ ?_<;>simp -implicitDefEqProofs [rdBx,rdHd,rdPm,rd0]
 ·rw [decide_eq_false c1] at CP
  rw [if_pos (.inr c1)]
  generalize Lib.trimPrefix s [34]=t at *
  simp -implicitDefEqProofs [c196]
  refine onC_mk _ (CP) ?_
  simp -implicitDefEqProofs
end Go.Ai
namespace Go.Ai
open Go.Proofs Go.Shelf
structure Hx where
 k:Nat
 v:Nat
 t:List Int
def hexGo (k v:Nat):List Int→Hx
 |[]=>⟨k,v,[]⟩
 |r::t=>if 0≤hexR r∧k<6 then hexGo (k+1) (16*v+(hexR r).toNat) t else ⟨k,v,r::t⟩
theorem hexGo_len: ∀(m:List Int) (k v:Nat),(hexGo k v m).t.length≤m.length
 |[],k,v=>Nat.le_refl _
 |r::t,k,v=>by
  rw [hexGo]
  split
  ·have:=hexGo_len t (k+1) (16*v+(hexR r).toNat)
   rw [List.length_cons];omega
  ·exact Nat.le_refl _
def uqGo:Nat→List Int→List Int→Option (List Int×List Int)
 |0,_,_=>none
 |f+1,out,[]=>some (out,[])
 |f+1,out,r::t=>
  if r=34 then some (out,r::t)
  else if r<32∨r=127 then none
  else if r≠92 then uqGo f (out++[r]) t
  else match t with
   |[]=>none
   |c::t2=>
    if c=34∨c=92 then uqGo f (out++[c]) t2
    else if c=110 then uqGo f (out++[10]) t2
    else if c=116 then uqGo f (out++[9]) t2
    else if c=117 then (match t2 with
     |[]=>none
     |x::t3=>if x=123 then (match (hexGo 0 0 t3).t with
       |[]=>none
       |y::t5=>if y≠125∨(hexGo 0 0 t3).k=0∨validR (hexGo 0 0 t3).v=false then none else uqGo f (out++[((hexGo 0 0 t3).v:Int)]) t5) else none)
    else none
theorem uqGo_cons (f:Nat) (out:List Int) (r:Int) (t:List Int):uqGo (f+1) out (r::t)=
  if r=34 then some (out,r::t)
  else if r<32∨r=127 then none
  else if r≠92 then uqGo f (out++[r]) t
  else match t with
   |[]=>none
   |c::t2=>
    if c=34∨c=92 then uqGo f (out++[c]) t2
    else if c=110 then uqGo f (out++[10]) t2
    else if c=116 then uqGo f (out++[9]) t2
    else if c=117 then (match t2 with
     |[]=>none
     |x::t3=>if x=123 then (match (hexGo 0 0 t3).t with
       |[]=>none
       |y::t5=>if y≠125∨(hexGo 0 0 t3).k=0∨validR (hexGo 0 0 t3).v=false then none else uqGo f (out++[((hexGo 0 0 t3).v:Int)]) t5) else none)
    else none:=by
 rw [uqGo.eq_def]
def finU (p:Rd×Bool):Option (List Int):=if p.2=false then none else if p.1.st≠4 then none else some p.1.out
def finR:Option (List Int×List Int)→Option (List Int)
 |some (o,[_])=>some o
 |_=>none
def uqEnd (R:Option (List Int×List Int)):List UInt8×Int:=match finR R with
 |none=>([],5)
 |some o=>if 120<o.length then ([],9) else (textR o,0)
def uqR (l:List Int):List UInt8×Int:=
 if goodR l=false∨l.head?≠some 34 then ([],5)
 else uqEnd (uqGo (l.length+1) [] l.tail)
theorem takeU_0 (x:Rd) (r:Int) (h:x.st=0):takeU x r=if r=34 then ({x with st:=4},true) else if r=92 then ({x with st:=1},true) else if r<32∨r=127 then (x,false) else ({x with out:=x.out++[r]},true):=by
 unfold takeU
 rw [if_neg (by omega),if_neg (by omega),if_neg (by omega),if_neg (by omega)]
theorem takeU_1 (x:Rd) (r:Int) (h:x.st=1):takeU x r=afterR x r:=by unfold takeU;rw [if_pos h]
theorem takeU_2 (x:Rd) (r:Int) (h:x.st=2):takeU x r=({x with st:=3,n:=0,c:=0},decide (r=123)):=by
 unfold takeU
 rw [if_neg (by omega),if_pos h]
theorem takeU_3 (x:Rd) (r:Int) (h:x.st=3):takeU x r=withinR x r:=by
 unfold takeU
 rw [if_neg (by omega),if_neg (by omega),if_pos h]
theorem takeU_4 (x:Rd) (r:Int) (h:x.st=4):takeU x r=(x,false):=by
 unfold takeU
 rw [if_neg (by omega),if_neg (by omega),if_neg (by omega),if_pos h]
theorem finU_no (x:Rd) (h:x.st≠4):finU (x,true)=none:=by
 unfold finU
 rw [if_neg (by simp),if_pos h]
theorem finU_bad (x:Rd):finU (x,false)=none:=by unfold finU;rw [if_pos rfl]
theorem unRun_cons (x:Rd) (r:Int) (l:List Int):unRun x (r::l)=if (takeU x r).2=true then unRun (takeU x r).1 l else ((takeU x r).1,false):=rfl
theorem unRun_hex: ∀(m:List Int) (x:Rd),x.st=3→finU (unRun x m)=match (hexGo x.c x.n m).t with
  |[]=>none
  |y::t5=>if y≠125∨(hexGo x.c x.n m).k=0∨validR (hexGo x.c x.n m).v=false then none else finU (unRun ⟨x.out++[((hexGo x.c x.n m).v:Int)],0,(hexGo x.c x.n m).v,(hexGo x.c x.n m).k⟩ t5)
 |[],x,h=>finU_no x (by omega)
 |r::t,x,h=>by
  rw [unRun_cons,takeU_3 x r h]
  unfold withinR
  rw [hexGo]
  by_cases c1:0≤hexR r∧x.c<6
  ·rw [if_pos c1,if_pos c1,if_pos rfl]
   exact unRun_hex t _ h
  ·rw [if_neg c1,if_neg c1]
   dsimp only
   by_cases c2:r≠125∨x.c=0∨validR x.n=false
   ·rw [if_pos c2,if_pos c2,if_neg (show ¬(x,false).2=true from by intro h;cases h),finU_bad]
   ·rw [if_neg c2,if_neg c2,if_pos rfl]
theorem unRun_ref: ∀(n:Nat) (m:List Int) (f:Nat) (x:Rd),m.length≤n→m.length<f→x.st=0→finU (unRun x m)=finR (uqGo f x.out m):=by
 intro n
 induction n using Nat.strongRecOn with
 |ind n ih=>
 intro m f x hn hf hst
 obtain ⟨f,rfl⟩: ∃g,f=g+1:=⟨f - 1,by omega⟩
 cases m with
 |nil=>
  rw [uqGo]
  exact finU_no x (by omega)
 |cons r t=>
  simp only [List.length_cons] at hn hf
  rw [unRun_cons,takeU_0 x r hst,uqGo_cons]
  by_cases c1:r=34
  ·rw [if_pos c1,if_pos c1,if_pos rfl]
   dsimp only
   cases t with
   |nil=>rfl
   |cons a t2=>
    rw [unRun_cons,takeU_4 _ _ rfl,if_neg (show ¬(({x with st:=4}:Rd),false).2=true from by intro h;cases h),finU_bad]
    rfl
  rw [if_neg c1,if_neg c1]
  by_cases c2:r=92
  ·rw [if_pos c2,if_neg (show ¬(r<32∨r=127) by omega),if_neg (show ¬(r≠92) from fun h=>h c2),if_pos rfl]
   dsimp only
   cases t with
   |nil=>exact finU_no _ (by dsimp only;omega)
   |cons c t2=>
    simp only [List.length_cons] at hn hf
    rw [unRun_cons,takeU_1 _ _ rfl]
    unfold afterR
    dsimp only
    by_cases d1:c=34∨c=92
    ·rw [if_pos d1,if_pos d1,if_pos rfl]
     exact ih t2.length (by omega) t2 f _ (Nat.le_refl _) (by omega) rfl
    rw [if_neg d1,if_neg d1]
    by_cases d2:c=110
    ·rw [if_pos d2,if_pos d2,if_pos rfl]
     exact ih t2.length (by omega) t2 f _ (Nat.le_refl _) (by omega) rfl
    rw [if_neg d2,if_neg d2]
    by_cases d3:c=116
    ·rw [if_pos d3,if_pos d3,if_pos rfl]
     exact ih t2.length (by omega) t2 f _ (Nat.le_refl _) (by omega) rfl
    rw [if_neg d3,if_neg d3]
    by_cases d4:c=117
    ·rw [if_pos d4,if_pos d4,if_pos rfl]
     dsimp only
     cases t2 with
     |nil=>exact finU_no _ (by dsimp only;omega)
     |cons y t3=>
      simp only [List.length_cons] at hn hf
      rw [unRun_cons,takeU_2 _ _ rfl]
      dsimp only
      by_cases e1:y=123
      ·rw [if_pos (decide_eq_true e1),if_pos e1,unRun_hex t3 _ rfl]
       dsimp only
       have hl:=hexGo_len t3 0 0
       generalize hexGo 0 0 t3=H at *
       obtain ⟨hk,hv,ht⟩:=H
       dsimp only at hl ⊢
       cases ht with
       |nil=>rfl
       |cons z t5=>
        dsimp only
        simp only [List.length_cons] at hl
        by_cases e2:z≠125∨hk=0∨validR hv=false
        ·rw [if_pos e2,if_pos e2]
         rfl
        ·rw [if_neg e2,if_neg e2]
         exact ih t5.length (by omega) t5 f _ (Nat.le_refl _) (by omega) rfl
      ·rw [if_neg (by rw [decide_eq_false e1];decide),if_neg e1,finU_bad]
       rfl
    ·rw [if_neg d4,if_neg d4,if_neg (show ¬(({x with st:=0}:Rd),false).2=true from by intro h;cases h),finU_bad]
     rfl
  rw [if_neg c2,if_pos c2]
  by_cases c3:r<32∨r=127
  ·rw [if_pos c3,if_pos c3,if_neg (show ¬(x,false).2=true from by intro h;cases h),finU_bad]
   rfl
  ·rw [if_neg c3,if_neg c3,if_pos rfl]
   exact ih t.length (by omega) t f _ (Nat.le_refl _) (by omega) hst
theorem uq_eq (l:List Int):unqF l=uqR l:=by
 unfold unqF uqR
 by_cases c:goodR l=false∨l.head?≠some 34
 ·rw [if_pos c,if_pos c]
 ·rw [if_neg c,if_neg c]
  have h:=unRun_ref l.tail.length l.tail (l.length+1) rd0 (Nat.le_refl _) (by rw [List.length_tail];omega) rfl
  rw [show rd0.out=[] from rfl] at h
  unfold uqEnd
  rw [←h]
  generalize unRun rd0 l.tail=p at *
  unfold finU
  by_cases c1:p.2=false
  ·rw [if_pos c1,if_pos c1]
  ·rw [if_neg c1,if_neg c1]
   by_cases c2:p.1.st≠4
   ·rw [if_pos c2,if_pos c2]
   ·rw [if_neg c2,if_neg c2]
end Go.Ai
namespace Go.Ai
open Go.Proofs Go.Shelf
theorem textR_snoc (l:List Int) (q:Nat):textR (l++[(q:Int)])=textR l++encN q:=by
 rw [textR_append]
 have:encR (q:Int)=encN q:=by unfold encR;rw [if_neg (by omega),Int.toNat_natCast]
 rw [textR,textR,List.append_nil,this]
theorem uqEnd_none:uqEnd none=([],5):=rfl
theorem hex_tail (S:Nat→Nat→In→Out→Prop) (K2:St→Prop) (E E2:AE→St→Prop) (e:List (Nat×AV)) (bx:List (Id×List AV)) (a b j k:Int) (h1:lk e 103= .int .i32 a) (h2:lk e 108= .int .i32 b) (h3:lk e 7= .int .i64 j) (h4:lk e 10= .int .i64 k)
  (hK:K2 ⟨(10,.int .i64 (IntKind.i64.wrap (k+1)))::(113,.int .i64 (IntKind.i64.wrap (k+1)))::(112,.int .i64 k)::(7,.int .i64 (IntKind.i64.wrap (j+1)))::(111,.int .i64 (IntKind.i64.wrap (j+1)))::(110,.int .i64 j)::(8,.int .i32 (IntKind.i32.wrap (a+b)))::(109,.int .i32 (IntKind.i32.wrap (a+b)))::e,bx,[]⟩):
  wpL S [.bi 109 .add (.s 103) (.s 108),.mv 8 (.s 109)] (AE.sq (wpA S ((AC.rg [.mv 110 (.s 7),.bi 111 .add (.s 110) (.c (.int .i64 1)),.mv 7 (.s 111)]).sq (.rg [.mv 112 (.s 10),.bi 113 .add (.s 112) (.c (.int .i64 1)),.mv 10 (.s 113)])) (AE.bl 4 (AE.sq K2 E))) E2 .n) ⟨e,bx,[]⟩:=by
 simp -implicitDefEqProofs [h1,h2,h3,h4]
 exact hK
set_option maxHeartbeats 2000000 in
theorem runquote_spec (s:List UInt8) (hl:s.length≤200000):Sp Tryz.prog gl 113 [.str s] (.tup [.str (uqR (runesL s 0)).1,i6 (uqR (runesL s 0)).2]):=by
 refine s113 rfl rfl ?_
 have RS:=runes_spec s (by omega)
 have GO:=rgood_spec s (by omega)
 have hlen:=runesL_len s s.length 0 (by omega)
 have hok:=runesL_okR s s.length 0 (by omega)
 generalize runesL s 0=l at *
 have rl:=runeRows_len l
 have rat:=runeRows_at l
 generalize runeRows l=RR at *
 unfold uqR
 cases hg:goodR l
 ·rw [hg] at GO
  rw [if_pos (.inl rfl)]
  simp -implicitDefEqProofs [c113]
  refine onC_mk _ (RS) ?_
  simp -implicitDefEqProofs
  refine onC_mk _ (GO) ?_
  simp -implicitDefEqProofs
 rw [hg] at GO
 have hnn: ∀r∈l,0≤r∧r≤1114111:=fun r hr=>by
  have h1:=good_all hg r hr
  rcases hok r hr with h|h
  ·exact absurd h h1
  ·omega
 by_cases c1:l.head?=some 34
 rotate_left
 ·rw [if_pos (.inr c1)]
  by_cases g2:l.length<2
  ·have g2':(l.length:Int)<2:=by omega
   simp -implicitDefEqProofs [c113]
   refine onC_mk _ (RS) ?_
   simp -implicitDefEqProofs
   refine onC_mk _ (GO) ?_
   simp -implicitDefEqProofs [rl,g2,g2']
  ·have g2': ¬(l.length:Int)<2:=by omega
   have g0:0<l.length:=by omega
   have gR:0<RR.length:=by omega
   have ra:=rat 0 g0 gR
   have h34:(l[0]!=34)=true:=by
    rw [bne_iff_ne]
    intro h
    apply c1
    rw [List.head?_eq_getElem?,List.getElem?_eq_getElem g0,h]
   simp -implicitDefEqProofs [c113]
   refine onC_mk _ (RS) ?_
   simp -implicitDefEqProofs
   refine onC_mk _ (GO) ?_
   simp -implicitDefEqProofs [rl,g2,g2',g0,gR,ra,h34]
 rw [if_neg (by rintro (h|h);cases h;exact h c1)]
 have g0:0<l.length:=by
  cases l with
  |nil=>cases c1
  |cons a t=>simp
 have l0:l[0]=34:=by
  rw [List.head?_eq_getElem?,List.getElem?_eq_getElem g0] at c1
  exact Option.some.inj c1
 have et:l.tail=l.drop 1:=by cases l<;>rfl
 rw [et]
 by_cases g2:l.length<2
 ·have g2':(l.length:Int)<2:=by omega
  have e1:l.drop 1=[]:=List.drop_eq_nil_of_le (by omega)
  rw [e1]
  have e2:uqGo (l.length+1) [] []=some ([],[]):=rfl
  rw [e2]
  simp -implicitDefEqProofs [c113]
  refine onC_mk _ (RS) ?_
  simp -implicitDefEqProofs
  refine onC_mk _ (GO) ?_
  simp -implicitDefEqProofs [rl,g2,g2',finR,uqEnd]
 have g2': ¬(l.length:Int)<2:=by omega
 have gR0:0<RR.length:=by omega
 have ra0:=rat 0 g0 gR0
 rw [l0] at ra0
 obtain ⟨R,hR⟩: ∃R,R=uqGo (l.length+1) [] (l.drop 1):=⟨_,rfl⟩
 rw [←hR]
 simp -implicitDefEqProofs [c113]
 refine onC_mk _ (RS) ?_
 simp -implicitDefEqProofs
 refine onC_mk _ (GO) ?_
 simp -implicitDefEqProofs [rl,g2,g2',g0,gR0,ra0]
 clear RS GO ra0
 refine wp_lpk (α:=Nat×Nat×List Int) (fun y=>⟨[(4,.sl RR),(5,.str (textR y.2.2)),(6,i6 y.2.2.length),(7,i6 y.2.1)],[],[]⟩)
  (fun y=>1≤y.2.1∧y.2.1≤l.length∧l.length - y.2.1<y.1∧y.2.2.length≤y.2.1∧uqGo y.1 y.2.2 (l.drop y.2.1)=R) (fun y=>l.length - y.2.1) ?_ (l.length+1,1,[]) ?_ ?_
 ·rintro K ⟨f,i,out⟩ hK ⟨h0,h1,h2,h3,h4⟩
  simp only at h0 h1 h2 h3 h4
  obtain ⟨f,rfl⟩: ∃g,f=g+1:=⟨f - 1,by omega⟩
  have tl:=textR_len out
  have t1:IntKind.i64.wrap ((i:Int)+1)=(i+1:Nat):=by rw [wrap_i64]<;>omega
  have tn:IntKind.i64.wrap ((out.length:Int)+1)=(out.length+1:Nat):=by rw [wrap_i64]<;>omega
  have tm:IntKind.i64.wrap ((l.length:Int) - 1)=(l.length:Int) - 1:=by rw [wrap_i64]<;>omega
  have fin: ∀j (q:Nat),i<j→j≤l.length→uqGo f (out++[(q:Int)]) (l.drop j)=R→ ∀σ',Weak σ' ⟨[(4,.sl RR),(5,.str (textR out++encN q)),(6,i6 (out.length+1:Nat)),(7,i6 j)],[],[]⟩→K σ':=
   fun j q a1 a2 a3 σ' hσ=>hK (f,j,out++[(q:Int)]) σ' ⟨by simp only;omega,a2,by simp only;omega,by simp only [List.length_append,List.length_cons,List.length_nil];omega,a3⟩ (by simp only;omega) (by
    simp only
    rw [textR_snoc,List.length_append]
    exact hσ)
  clear hK hR
  by_cases g:i<l.length
  rotate_left
  ·obtain rfl:i=l.length:=by omega
   rw [List.drop_length,uqGo] at h4
   subst h4
   have e:uqEnd (some (out,[]))=([],5):=rfl
   rw [e]
   have c5:((l.length:Int)!=(l.length:Int) - 1)=true:=by rw [bne_iff_ne];omega
   have c5': ¬(l.length:Int)=(l.length:Int) - 1:=by omega
   simp -implicitDefEqProofs [rl,tm,c5,c5']
  have g':(i:Int)<l.length:=by omega
  have gR:i<RR.length:=by omega
  have ra:=rat i g gR
  have hn:=hnn l[i] (List.getElem_mem g)
  rw [List.drop_eq_getElem_cons g,uqGo_cons] at h4
  by_cases d1:l[i]=34
  ·rw [if_pos d1] at h4
   have d1':(l[i]!=34)=false:=by rw [d1];rfl
   subst h4
   by_cases c5:i+1=l.length
   ·have e1:l.drop (i+1)=[]:=List.drop_eq_nil_of_le (by omega)
    have c5':((i:Int)!=(l.length:Int) - 1)=false:=by rw [bne_eq_false_iff_eq];omega
    have c5'':(i:Int)=(l.length:Int) - 1:=by omega
    rw [e1]
    by_cases c6:120<out.length
    ·have e:uqEnd (some (out,[l[i]]))=([],9):=by unfold uqEnd finR;simp only [if_pos c6]
     rw [e]
     have c6':(120:Int)<out.length:=by omega
     simp -implicitDefEqProofs [g,g',gR,ra,rl,d1,d1',tm,c5',c6,c6']
    ·have e:uqEnd (some (out,[l[i]]))=(textR out,0):=by unfold uqEnd finR;simp only [if_neg c6]
     rw [e]
     have c6': ¬(120:Int)<out.length:=by omega
     simp -implicitDefEqProofs [g,g',gR,ra,rl,d1,d1',tm,c5',c6,c6']
   ·have c5':((i:Int)!=(l.length:Int) - 1)=true:=by rw [bne_iff_ne];omega
    have c5'': ¬(i:Int)=(l.length:Int) - 1:=by omega
    rw [List.drop_eq_getElem_cons (show i+1<l.length by omega)]
    have e:uqEnd (some (out,l[i]::l[i+1]::l.drop (i+1+1)))=([],5):=rfl
    rw [e]
    simp -implicitDefEqProofs [g,g',gR,ra,rl,d1,d1',tm,c5',c5'']
  rw [if_neg d1] at h4
  have d1':(l[i]!=34)=true:=bne_iff_ne.2 d1
  have d1'':(l[i]==34)=false:=beq_eq_false_iff_ne.2 d1
  by_cases d2:l[i]<32∨l[i]=127
  ·rw [if_pos d2] at h4
   subst h4
   rw [uqEnd_none]
   have d3:l[i]<32∨(¬l[i]<32∧(l[i]==127)=true):=by
    by_cases h:l[i]<32
    ·exact .inl h
    ·exact .inr ⟨h,by rw [beq_iff_eq];omega⟩
   rcases d3 with d3|⟨d3,d4⟩
   ·simp [g,g',gR,ra,rl,d1,d1',d1'',d3]
   ·simp [g,g',gR,ra,rl,d1,d1',d1'',d3,d4]
  rw [if_neg d2] at h4
  have d3: ¬l[i]<32:=fun h=>d2 (.inl h)
  have d4:(l[i]==127)=false:=beq_eq_false_iff_ne.2 (fun h=>d2 (.inr h))
  by_cases d5:l[i]=92
  rotate_left
  ·rw [if_pos d5] at h4
   obtain ⟨q,hq⟩: ∃q:Nat,l[i]=q:=⟨l[i].toNat,by omega⟩
   rw [hq] at h4 hn d1' d1'' d3 d4 ra d5
   have d5':((q:Int)==92)=false:=beq_eq_false_iff_ne.2 d5
   have BS:=rbytes_spec q (by omega)
   have fin:=fin (i+1) q (by omega) (by omega) h4
   have el:=encN_len q
   generalize encN q=E at *
   generalize textR out=T at *
   have hl2:T.length+E.length≤9223372036854775807:=by omega
   simp -implicitDefEqProofs [g,g',gR,ra,rl,d1',d1'',d3,d4,d5',t1]
   refine onC_mk _ (BS) ?_
   simp -implicitDefEqProofs [hl2]
   refine fin _ ?_
   refine weak_mk ?_ ?_ ?_ ?_ ?_ ?_<;>simp -implicitDefEqProofs [t1,tn]
  rw [if_neg (fun h=>h d5)] at h4
  obtain ⟨m,hm⟩: ∃m,m=i+1:=⟨_,rfl⟩
  rw [←hm] at h4 t1
  rw [d5] at ra d1' d1'' d3 d4
  by_cases gm:m<l.length
  rotate_left
  ·rw [List.drop_eq_nil_of_le (by omega)] at h4
   dsimp only at h4
   subst h4
   rw [uqEnd_none]
   have gm':(l.length:Int)≤m:=by omega
   simp -implicitDefEqProofs [g,g',gR,ra,rl,t1,gm,gm']
  have gm': ¬(l.length:Int)≤m:=by omega
  have gmR:m<RR.length:=by omega
  have rm:=rat m gm gmR
  have hnm:=hnn l[m] (List.getElem_mem gm)
  rw [List.drop_eq_getElem_cons gm] at h4
  dsimp only at h4
  have t2:IntKind.i64.wrap ((m:Int)+1)=(m+1:Nat):=by rw [wrap_i64]<;>omega
  have ne: ∀z:Int,¬l[m]=z→(l[m]==z)=false:=fun z h=>beq_eq_false_iff_ne.2 h
  by_cases e1:l[m]=34∨l[m]=92
  ·rw [if_pos e1] at h4
   obtain ⟨q,hq⟩: ∃q:Nat,l[m]=q:=⟨l[m].toNat,by omega⟩
   rw [hq] at h4 rm e1 hnm
   have BS:=rbytes_spec q (by omega)
   have fin:=fin (m+1) q (by omega) (by omega) h4
   have el:=encN_len q
   have e1':((q:Int)==34)=true∨(((q:Int)==34)=false∧((q:Int)==92)=true):=by
    by_cases h:(q:Int)=34
    ·left;rw [h];rfl
    ·right;exact ⟨beq_eq_false_iff_ne.2 h,by rw [beq_iff_eq];omega⟩
   generalize encN q=E at *
   generalize textR out=T at *
   have hl2:T.length+E.length≤9223372036854775807:=by omega
   rcases e1' with e1'|⟨e1',e2'⟩
   ·simp [g,g',gR,ra,rl,t1,gm,gm',gmR,rm,t2,e1']
    refine onC_mk _ (BS) ?_
    simp -implicitDefEqProofs [hl2]
    refine fin _ ?_
    refine weak_mk ?_ ?_ ?_ ?_ ?_ ?_<;>simp -implicitDefEqProofs [t2,tn]
   ·simp [g,g',gR,ra,rl,t1,gm,gm',gmR,rm,t2,e1',e2']
    refine onC_mk _ (BS) ?_
    simp -implicitDefEqProofs [hl2]
    refine fin _ ?_
    refine weak_mk ?_ ?_ ?_ ?_ ?_ ?_<;>simp -implicitDefEqProofs [t2,tn]
  rw [if_neg e1] at h4
  have n1:=ne 34 (fun h=>e1 (.inl h))
  have n2:=ne 92 (fun h=>e1 (.inr h))
  by_cases e2:l[m]=110
  ·rw [if_pos e2] at h4
   rw [e2] at rm
   have BS:=rbytes_spec 10 (by omega)
   have fin:=fin (m+1) 10 (by omega) (by omega) h4
   have el:=encN_len 10
   generalize encN 10=E at *
   generalize textR out=T at *
   have hl2:T.length+E.length≤9223372036854775807:=by omega
   simp -implicitDefEqProofs [g,g',gR,ra,rl,t1,gm,gm',gmR,rm,t2]
   refine onC_mk _ (BS) ?_
   simp -implicitDefEqProofs [hl2]
   refine fin _ ?_
   refine weak_mk ?_ ?_ ?_ ?_ ?_ ?_<;>simp -implicitDefEqProofs [t2,tn]
  rw [if_neg e2] at h4
  have n3:=ne 110 e2
  by_cases e3:l[m]=116
  ·rw [if_pos e3] at h4
   rw [e3] at rm
   have BS:=rbytes_spec 9 (by omega)
   have fin:=fin (m+1) 9 (by omega) (by omega) h4
   have el:=encN_len 9
   generalize encN 9=E at *
   generalize textR out=T at *
   have hl2:T.length+E.length≤9223372036854775807:=by omega
   simp -implicitDefEqProofs [g,g',gR,ra,rl,t1,gm,gm',gmR,rm,t2]
   refine onC_mk _ (BS) ?_
   simp -implicitDefEqProofs [hl2]
   refine fin _ ?_
   refine weak_mk ?_ ?_ ?_ ?_ ?_ ?_<;>simp -implicitDefEqProofs [t2,tn]
  rw [if_neg e3] at h4
  have n4:=ne 116 e3
  by_cases e4:l[m]=117
  rotate_left
  ·rw [if_neg e4] at h4
   subst h4
   rw [uqEnd_none]
   have n5:=ne 117 e4
   simp -implicitDefEqProofs [g,g',gR,ra,rl,t1,gm,gm',gmR,rm,t2,n1,n2,n3,n4,n5]
  rw [if_pos e4] at h4
  rw [e4] at rm
  obtain ⟨p,hp⟩: ∃p,p=m+1:=⟨_,rfl⟩
  rw [←hp] at h4 t2
  by_cases gp:p<l.length
  rotate_left
  ·rw [List.drop_eq_nil_of_le (by omega)] at h4
   dsimp only at h4
   subst h4
   rw [uqEnd_none]
   have gp':(l.length:Int)≤p:=by omega
   simp -implicitDefEqProofs [g,g',gR,ra,rl,t1,gm,gm',gmR,rm,t2,gp,gp']
  have gp': ¬(l.length:Int)≤p:=by omega
  have gpR:p<RR.length:=by omega
  have rp:=rat p gp gpR
  rw [List.drop_eq_getElem_cons gp] at h4
  dsimp only at h4
  have t3:IntKind.i64.wrap ((p:Int)+1)=(p+1:Nat):=by rw [wrap_i64]<;>omega
  by_cases e5:l[p]=123
  rotate_left
  ·rw [if_neg e5] at h4
   subst h4
   rw [uqEnd_none]
   have e5':(l[p]!=123)=true:=bne_iff_ne.2 e5
   have e5'':(l[p]==123)=false:=beq_eq_false_iff_ne.2 e5
   simp -implicitDefEqProofs [g,g',gR,ra,rl,t1,gm,gm',gmR,rm,t2,gp,gp',gpR,rp,e5',e5'']
  rw [if_pos e5] at h4
  rw [e5] at rp
  obtain ⟨H,hH⟩: ∃H,H=hexGo 0 0 (l.drop (p+1)):=⟨_,rfl⟩
  rw [←hH] at h4
  have fin: ∀j (v:Nat),p<j→j<l.length→v≤1114111→uqGo f (out++[(v:Int)]) (l.drop (j+1))=R→ ∀σ',Weak σ' ⟨[(4,.sl RR),(5,.str (textR out++encN v)),(6,i6 (out.length+1:Nat)),(7,i6 (j+1:Nat))],[],[]⟩→K σ':=
   fun j v a1 a2 a3 a4=>fin (j+1) v (by omega) (by omega) a4
  have hT:(textR out).length≤1000000:=by omega
  generalize textR out=T at *
  simp -implicitDefEqProofs [g,g',gR,ra,rl,t1,gm,gm',gmR,rm,t2,gp,gp',gpR,rp,t3]
  clear ra rm rp
  refine wp_lpk (α:=Nat×Nat×Nat) (fun y=>⟨[(4,.sl RR),(5,.str T),(6,i6 out.length),(7,i6 y.2.2),(8,i3 y.2.1),(10,i6 y.1)],[],[]⟩)
   (fun y=>p<y.2.2∧y.2.2≤l.length∧y.1≤6∧y.2.1<16^y.1∧hexGo y.1 y.2.1 (l.drop y.2.2)=H) (fun y=>l.length - y.2.2) ?_ (0,0,p+1) ?_ ?_
  ·rintro K2 ⟨k,v,j⟩ hK2 ⟨k1,k2,k3,k4,k5⟩
   simp only at k1 k2 k3 k4 k5
   have u1:IntKind.i64.wrap ((j:Int)+1)=(j+1:Nat):=by rw [wrap_i64]<;>omega
   have u2:IntKind.i64.wrap ((k:Int)+1)=(k+1:Nat):=by rw [wrap_i64]<;>omega
   by_cases gj:j<l.length
   rotate_left
   ·obtain rfl:j=l.length:=by omega
    rw [List.drop_length,hexGo] at k5
    subst k5
    dsimp only at h4
    subst h4
    rw [uqEnd_none]
    clear hK2
    by_cases c7:k=0
    ·subst c7
     simp -implicitDefEqProofs [rl]
    ·have c7':((k:Int)==0)=false:=beq_eq_false_iff_ne.2 (by omega)
     simp -implicitDefEqProofs [rl,c7']
   have gj':(j:Int)<l.length:=by omega
   have gj'': ¬(l.length:Int)≤j:=by omega
   have gjR:j<RR.length:=by omega
   have rj:=rat j gj gjR
   have D:=rdig06_spec l[j]
   have hx:=hexR_lt l[j]
   rw [List.drop_eq_getElem_cons gj,hexGo] at k5
   by_cases c8:0≤hexR l[j]∧k<6
   ·rw [if_pos c8] at k5
    have nlt:v<1048576:=Nat.lt_of_lt_of_le k4 (Nat.le_trans (Nat.pow_le_pow_right (by omega) (show k≤5 by omega)) (by decide))
    have hz:((hexR l[j]).toNat:Int)=hexR l[j]:=by omega
    have w1:IntKind.i32.wrap (16*(v:Int))=16*(v:Int):=by rw [wrap_i32']<;>omega
    have w2:IntKind.i32.wrap (16*(v:Int)+hexR l[j])=((16*v+(hexR l[j]).toNat:Nat):Int):=by rw [wrap_i32']<;>omega
    have kf:(k:Int)<6:=by omega
    have kf2:=c8.2
    have hx0:=c8.1
    have fin2: ∀σ',Weak σ' ⟨[(4,.sl RR),(5,.str T),(6,i6 out.length),(7,i6 (j+1:Nat)),(8,i3 (16*v+(hexR l[j]).toNat:Nat)),(10,i6 (k+1:Nat))],[],[]⟩→K2 σ':=
     fun σ' hσ=>hK2 (k+1,16*v+(hexR l[j]).toNat,j+1) σ' ⟨by simp only;omega,by simp only;omega,by simp only;omega,by simp only;rw [Nat.pow_succ];omega,k5⟩ (by simp only;omega) hσ
    clear hK2 fin k5 c8
    generalize ((16*v+(hexR l[j]).toNat:Nat):Int)=NV at *
    generalize hexR l[j]=hh at *
    simp -implicitDefEqProofs [gj,gj',gjR,rj,rl]
    refine onC_mk _ (D) ?_
    simp -implicitDefEqProofs [hx0,kf,kf2,gj,gjR,rj,rl]
    simp only [w1]
    have w3:IntKind.i32.wrap (16*(v:Int))=16*(v:Int):=w1
    generalize hV16:16*(v:Int)=V16 at *
    refine onC_mk _ (D) ?_
    refine hex_tail _ _ _ _ _ _ V16 hh j k rfl rfl rfl rfl ?_
    rw [w2]
    refine fin2 _ ?_
    refine weak_mk ?_ ?_ ?_ ?_ ?_ ?_<;>simp -implicitDefEqProofs [u1,u2]
   ·rw [if_neg c8] at k5
    subst k5
    dsimp only at h4
    clear hK2
    have vlt:v<16777216:=Nat.lt_of_lt_of_le k4 (Nat.le_trans (Nat.pow_le_pow_right (by omega) k3) (by decide))
    by_cases c9:l[j]=125
    rotate_left
    ·rw [if_pos (.inl c9)] at h4
     subst h4
     rw [uqEnd_none]
     have c9':(l[j]!=125)=true:=bne_iff_ne.2 c9
     have c9'':(l[j]==125)=false:=beq_eq_false_iff_ne.2 c9
     have c7:k=0∨(¬k=0∧((k:Int)==0)=false):=by
      by_cases h:k=0
      ·exact .inl h
      ·exact .inr ⟨h,beq_eq_false_iff_ne.2 (by omega)⟩
     by_cases ch:0≤hexR l[j]
     ·have kn: ¬k<6:=fun h=>c8 ⟨ch,h⟩
      have kn': ¬(k:Int)<6:=by omega
      rcases c7 with c7|⟨c7,c7'⟩
      ·omega
      ·simp [gj,gj',gjR,rj,rl]
       refine onC_mk _ (D) ?_
       simp -implicitDefEqProofs [ch,kn,kn',gj,gj',gj'',gjR,rj,rl,c7,c7',c9',c9'']
     ·rcases c7 with c7|⟨c7,c7'⟩
      ·subst c7
       simp -implicitDefEqProofs [gj,gj',gjR,rj,rl]
       refine onC_mk _ (D) ?_
       simp -implicitDefEqProofs [ch,gj,gj',gj'',gjR,rj,rl,c9',c9'']
      ·simp [gj,gj',gjR,rj,rl]
       refine onC_mk _ (D) ?_
       simp -implicitDefEqProofs [ch,gj,gj',gj'',gjR,rj,rl,c7,c7',c9',c9'']
    rw [c9] at rj D c8
    have e125:hexR 125= -1:=by decide
    rw [e125] at D
    by_cases c7:k=0
    ·rw [if_pos (.inr (.inl c7))] at h4
     subst h4
     subst c7
     rw [uqEnd_none]
     simp -implicitDefEqProofs [gj,gj',gjR,rj,rl]
     refine onC_mk _ (D) ?_
     simp -implicitDefEqProofs [gj,gj',gj'',gjR,rj,rl]
    have c7':((k:Int)==0)=false:=beq_eq_false_iff_ne.2 (by omega)
    by_cases d6:1114111<v
    ·have hv:validR (v:Int)=false:=by unfold validR;simp;omega
     rw [if_pos (.inr (.inr hv))] at h4
     subst h4
     rw [uqEnd_none]
     have d6':(1114111:Int)<v:=by omega
     simp -implicitDefEqProofs [gj,gj',gjR,rj,rl]
     refine onC_mk _ (D) ?_
     simp -implicitDefEqProofs [gj,gj',gj'',gjR,rj,rl,c7,c7',d6,d6']
    have d6': ¬(1114111:Int)<v:=by omega
    by_cases d7:55296≤v
    ·have d7':(55296:Int)≤v:=by omega
     by_cases d8:v<57344
     ·have d8':(v:Int)<57344:=by omega
      have hv:validR (v:Int)=false:=by unfold validR;simp;omega
      rw [if_pos (.inr (.inr hv))] at h4
      subst h4
      rw [uqEnd_none]
      simp -implicitDefEqProofs [gj,gj',gjR,rj,rl]
      refine onC_mk _ (D) ?_
      simp -implicitDefEqProofs [gj,gj',gj'',gjR,rj,rl,c7,c7',d6,d6',d7,d7',d8,d8']
     ·have d8': ¬(v:Int)<57344:=by omega
      have hv:validR (v:Int)=true:=by unfold validR;simp;omega
      rw [if_neg (by rintro (h|h|h);exact h c9;exact c7 h;rw [hv] at h;cases h)] at h4
      have BS:=rbytes_spec v (by omega)
      have fin:=fin j v (by omega) gj (by omega) h4
      have el:=encN_len v
      generalize encN v=E at *
      have hl2:T.length+E.length≤9223372036854775807:=by omega
      simp -implicitDefEqProofs [gj,gj',gjR,rj,rl]
      refine onC_mk _ (D) ?_
      simp -implicitDefEqProofs [gj,gj',gj'',gjR,rj,rl,c7,c7',d6,d6',d7,d7',d8,d8',u1]
      refine onC_mk _ (BS) ?_
      simp -implicitDefEqProofs [hl2]
      refine fin _ ?_
      refine weak_mk ?_ ?_ ?_ ?_ ?_ ?_<;>simp -implicitDefEqProofs [tn,u1]
    ·have d7': ¬(55296:Int)≤v:=by omega
     have hv:validR (v:Int)=true:=by unfold validR;simp;omega
     rw [if_neg (by rintro (h|h|h);exact h c9;exact c7 h;rw [hv] at h;cases h)] at h4
     have BS:=rbytes_spec v (by omega)
     have fin:=fin j v (by omega) gj (by omega) h4
     have el:=encN_len v
     generalize encN v=E at *
     have hl2:T.length+E.length≤9223372036854775807:=by omega
     simp -implicitDefEqProofs [gj,gj',gjR,rj,rl]
     refine onC_mk _ (D) ?_
     simp -implicitDefEqProofs [gj,gj',gj'',gjR,rj,rl,c7,c7',d6,d6',d7,d7',u1]
     refine onC_mk _ (BS) ?_
     simp -implicitDefEqProofs [hl2]
     refine fin _ ?_
     refine weak_mk ?_ ?_ ?_ ?_ ?_ ?_<;>simp -implicitDefEqProofs [tn,u1]
  ·exact ⟨Nat.lt_succ_self _,by simp only;omega,Nat.zero_le _,by simp,hH.symm⟩
  ·refine weak_mk ?_ ?_ ?_ ?_ ?_ ?_<;>simp -implicitDefEqProofs [t3]
 ·exact ⟨Nat.le_refl _,by simp only;omega,by simp only;omega,Nat.zero_le _,hR.symm⟩
 ·refine weak_mk ?_ ?_ ?_ ?_ ?_ ?_<;>simp -implicitDefEqProofs [textR]
open Go.Proofs
def sU (w:List UInt8):List UInt8×Int:=unqF (runesL w 0)
theorem wthn_okR {r:Int} (h:wthn r=true):okR r∧r≠ -1:=by
 unfold wthn letter digR at h
 simp only [Bool.or_eq_true,decide_eq_true_iff] at h
 unfold okR
 omega
theorem toldV_e {k:Int} {q:Nat×Int} {c:Int} (h:toldV k q= .e c):c≠0:=by
 unfold toldV at h
 split at h
 ·cases h
 ·cases h;assumption
theorem sV_e (w:List UInt8) (c:Int) (h:sV w= .e c):c≠0:=by
 unfold sV at h
 split at h
 ·split at h
  ·cases h
  ·cases h;decide
 ·split at h
  ·exact toldV_e h
  ·split at h
   ·exact toldV_e h
   ·split at h
    ·exact toldV_e h
    ·exact toldV_e h
theorem rV_sV (m:List Int) (h0:m≠[]) (hw: ∀r∈m,wthn r=true):rV m=sV (textR m):=by
 have hr:=runesL_textR m (fun r hr=>(wthn_okR (hw r hr)).1)
 have hpos:0<(textR m).length:=by
  by_cases g:0<(textR m).length
  ·exact g
  ·rw [runesL_out g] at hr
   exact absurd hr.symm h0
 have hv:vR (textR m)=m.headD 0:=by
  unfold vR
  rw [if_neg (fun e=>by rw [e] at hpos;cases hpos)]
  rw [runesL_in hpos] at hr
  cases m with
  |nil=>exact absurd rfl h0
  |cons r t=>
   injection hr with h1 h2
   rw [h1,List.headD_cons]
   unfold r65
   rw [if_neg (wthn_okR (hw r (by simp))).2]
 unfold rV sV
 rw [hv]
 cases hd:digR (m.headD 0)
 ·rw [if_pos (Or.inr rfl),if_pos rfl]
 ·rw [if_neg (by rintro (h|h);exact h0 h;cases h),if_neg (by decide)]
  unfold wdR
  generalize textR m=w at *
  have e1:dgsF w=w.all isDig:=by
   unfold dgsF
   rw [decide_eq_true hpos,Bool.and_true]
  have e2:sufB w [37]=true↔byt w (w.length - 1)=37:=by
   rw [sufB_one]
   constructor
   ·exact fun h=>h.2
   ·exact fun h=>⟨hpos,h⟩
  rw [e1,ppF_eq,spanU_eq]
  by_cases c1:w.all isDig=true
  ·rw [if_pos c1,if_pos c1]
  ·rw [if_neg c1,if_neg c1]
   by_cases c2:byt w (w.length - 1)=37
   ·rw [if_pos c2,if_pos (e2.2 c2)]
   ·rw [if_neg c2,if_neg (fun h=>c2 (e2.1 h))]
theorem sHyp:SHyp sV sU rV unqF:=⟨fun _=>rfl,rV_sV,sV_e⟩
def tokF (s:List UInt8):TR:=refF rV sU s
theorem tokF_long {s:List UInt8} (h:40000<s.length):tokF s=⟨[],9,1,1⟩:=by
 unfold tokF refF
 rw [if_pos h]
theorem stokL_spec (s:List UInt8) (h:40000<s.length):Sp Tryz.prog gl 47 [.str s] (tokF s).av:=by
 refine s47 rfl rfl ?_
 have B:=fun (e:Nat) (he:(Id.n 10).isNw e=false)=>sbegin_spec s ⟨[],0,0,0,0,1,1,0,0,0⟩ 0 0 e (.n 10) rfl he
 have hB:Sc.begin ⟨[],0,0,0,0,1,1,0,0,0⟩ 0 0=sc0:=rfl
 rw [hB] at B
 rw [tokF_long h]
 have hl':(40000:Int)<s.length:=by omega
 have W:=fun (e:Nat) (he:(Id.n 10).isNw e=false)=>swrong_spec s sc0 9 e (.n 10) rfl he
 unfold scB Sc.wrong sc0 at *
 simp only [List.map_nil] at B W
 unfold TR.av
 simp -implicitDefEqProofs [c47]
 refine onH_mk _ _ (B _ rfl) ⟨?_,?_,?_,?_,?_,?_,?_⟩ ?_
 iterate 7 (· simp)
 simp -implicitDefEqProofs [h,hl']
 refine onH_mk _ _ (W _ rfl) ⟨?_,?_,?_,?_,?_,?_,?_⟩ ?_
 iterate 7 (· simp)
 simp -implicitDefEqProofs
theorem rtokL_spec (s:List UInt8) (h:40000<s.length):Sp Tryz.prog gl 50 [.str s] (tokF s).av:=by
 refine s50 rfl rfl ?_
 rw [tokF_long h]
 have hl':(40000:Int)<s.length:=by omega
 unfold TR.av
 simp -implicitDefEqProofs [c50,h,hl']
theorem stok_spec (s:List UInt8):Sp Tryz.prog gl 47 [.str s] (tokF s).av:=by
 by_cases h:40000<s.length
 ·exact stokL_spec s h
 ·have:=stokens_spec sV sU s (fun w hw=>tunquote_spec w (by omega)) (fun w hw=>svalue_spec w (by omega))
  rw [scan_ref sHyp s] at this
  exact this
theorem rtok_spec (s:List UInt8):Sp Tryz.prog gl 50 [.str s] (tokF s).av:=by
 by_cases h:40000<s.length
 ·exact rtokL_spec s h
 ·refine rtokens_spec rV sU s (fun w hw=>?_) (fun m hm hr=>rvalue_spec m (by omega) hr)
  have:=runquote_spec w (by omega)
  unfold sU
  rw [uq_eq]
  exact this
theorem refGo_out (VR:List Int→TV) (U:List UInt8→List UInt8×Int) (l:List Int) (P:List (Int×Int)): ∀(f i:Nat) (out:List Tk),(refGo VR U l P f i out).l.length≤out.length+f
 |0,i,out=>by rw [refGo];simp
 |f+1,i,out=>by
  rw [refGo]
  split
  ·simp
  ·split
   ·have:=refGo_out VR U l P f (i+1) out;omega
   ·split
    ·have:=refGo_out VR U l P f (skp l i) out;omega
    ·split
     ·refine Nat.le_trans (refGo_out VR U l P f _ _) ?_
      rw [List.length_append]
      simp
      omega
     ·simp
theorem tokF_len (s:List UInt8):(tokF s).l.length≤s.length+1:=by
 unfold tokF refF
 split
 ·simp
 ·have:=refGo_out rV sU (runesL s 0) (plc 1 1 (runesL s 0)) ((runesL s 0).length+1) 0 []
  have hlen:=runesL_len s s.length 0 (by omega)
  simp at this
  omega
def wEf:Nat→List Int→Nat→Nat
 |0,_,i=>i
 |f+1,l,i=>match l[i]? with
  |some r=>if wthn r=true then wEf f l (i+1) else i
  |none=>i
theorem wEnd_f (l:List Int): ∀(f i:Nat),l.length - i≤f→wEnd l i=wEf f l i
 |0,i,h=>by rw [wEnd_out (by omega)];rfl
 |f+1,i,h=>by
  rw [wEf]
  by_cases g:i<l.length
  ·rw [wEnd_in g,List.getElem?_eq_getElem g]
   dsimp only
   rw [wEnd_f l f (i+1) (by omega)]
  ·rw [wEnd_out g,List.getElem?_eq_none (by omega)]
theorem refGo_word (VR:List Int→TV) (U:List UInt8→List UInt8×Int) (l:List Int) (P:List (Int×Int)) (f k:Nat) (out:List Tk) {r:Int} {e:Nat} {kk:Int} {w:List UInt8} {n:Nat} (h:l[k]?=some r) (hw:wthn r=true) (he:wEf l.length l k=e) (hv:VR (subR l k e)= .t kk w n):
  refGo VR U l P (f+1) k out=refGo VR U l P f e (out++[⟨kk,w,n,(P.getD k (0,0)).1,(P.getD k (0,0)).2⟩]):=by
 have hne: ∀z:Int,wthn z=false→r≠z:=fun z hz e=>by rw [←e,hw] at hz;cases hz
 have o:oneF VR U l k r=⟨kk,w,n,e,0⟩:=by
  unfold oneF
  rw [if_neg (hne 123 rfl),if_neg (hne 125 rfl),if_neg (hne 59 rfl),if_neg (hne 34 rfl),if_pos hw,wEnd_f l l.length k (by omega),he,hv]
  rfl
 rw [refGo,h]
 dsimp only
 rw [if_neg (by rintro (h|h|h);exact hne 32 rfl h;exact hne 9 rfl h;exact hne 10 rfl h),if_neg (hne 35 rfl),o,if_pos rfl]
theorem refGo_gap (VR:List Int→TV) (U:List UInt8→List UInt8×Int) (l:List Int) (P:List (Int×Int)) (f k:Nat) (out:List Tk) (h:l[k]?=some 32):refGo VR U l P (f+1) k out=refGo VR U l P f (k+1) out:=by
 rw [refGo,h]
 dsimp only
 rw [if_pos (Or.inl rfl)]
theorem refGo_fin (VR:List Int→TV) (U:List UInt8→List UInt8×Int) (l:List Int) (P:List (Int×Int)) (f k:Nat) (out:List Tk) (h:l[k]?=none):refGo VR U l P (f+1) k out=⟨out++[⟨0,[],0,(P.getD l.length (0,0)).1,(P.getD l.length (0,0)).2⟩],0,0,0⟩:=by
 rw [refGo,h]
end Go.Ai
