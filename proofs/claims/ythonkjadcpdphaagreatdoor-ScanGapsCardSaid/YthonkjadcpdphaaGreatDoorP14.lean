/- P14: a part of the proof: the rules, or what functions compute. Conditions: as each theorem says. -/
import Derived.Test.YthonkjadcpdphaaGreatDoorP13
import Derived.Test.YthonkjadcpdphaaGreatDoorP2
import Derived.Test.YthonkjadcpdphaaGreatDoorP4
import Derived.Test.YthonkjadcpdphaaGreatDoorAiShelf5
import Derived.Test.YthonkjadcpdphaaGreatDoorP12
set_option linter.unusedSimpArgs false
set_option linter.unusedVariables false
set_option maxRecDepth 20000
namespace Go.Ai
open Go.Proofs Go.Shelf
def unRun (x:Rd):List Int→Rd×Bool
 |[]=>(x,true)
 |r::l=>if (takeU x r).2=true then unRun (takeU x r).1 l else ((takeU x r).1,false)
def rd0:Rd:=⟨[],0,0,0⟩
def unqF (l:List Int):List UInt8×Int:=
 if goodR l=false∨l.head?≠some 34 then ([],5)
 else if (unRun rd0 l.tail).2=false then ([],5)
 else if (unRun rd0 l.tail).1.st≠4 then ([],5)
 else if 120<(unRun rd0 l.tail).1.out.length then ([],9)
 else (textR (unRun rd0 l.tail).1.out,0)
structure RdOk (x:Rd) (i:Nat):Prop where
 o:x.out.length≤i
 c:x.c≤6
 n:x.n<16^x.c
 k: ∀r∈x.out,okR r
theorem runeV_ok {r:Int} (h:runeV r):okR r:=by
 unfold runeV at h
 right
 omega
theorem mem_snoc_ok {l:List Int} {q:Int} (h: ∀r∈l,okR r) (hq:okR q): ∀r∈l++[q],okR r:=by
 intro r hr
 rw [List.mem_append,List.mem_singleton] at hr
 rcases hr with hr|rfl
 ·exact h r hr
 ·exact hq
theorem RdOk.step {x:Rd} {i:Nat} (h:RdOk x i) {r:Int} (hr:runeV r) (w:Nat) (hw:1≤w):RdOk (takeU x r).1 (i+w):=by
 obtain ⟨h1,h2,h3,h4⟩:=h
 have same: ∀y:Rd,y.out=x.out→y.c=x.c→y.n=x.n→RdOk y (i+w):=fun y a b c=>⟨by rw [a];omega,by rw [b];exact h2,by rw [c,b];exact h3,by rw [a];exact h4⟩
 have more: ∀(y:Rd) q,y.out=x.out++[q]→okR q→y.c=x.c→y.n=x.n→RdOk y (i+w):=fun y q a hq b c=>⟨by rw [a,List.length_append];simp;omega,by rw [b];exact h2,by rw [c,b];exact h3,by rw [a];exact mem_snoc_ok h4 hq⟩
 unfold takeU
 by_cases c1:x.st=1
 ·rw [if_pos c1]
  unfold afterR
  by_cases d1:r=34∨r=92
  ·rw [if_pos d1];exact more _ r rfl (runeV_ok hr) rfl rfl
  rw [if_neg d1]
  by_cases d2:r=110
  ·rw [if_pos d2];exact more _ 10 rfl (by right;omega) rfl rfl
  rw [if_neg d2]
  by_cases d3:r=116
  ·rw [if_pos d3];exact more _ 9 rfl (by right;omega) rfl rfl
  rw [if_neg d3]
  by_cases d4:r=117
  ·rw [if_pos d4];exact same _ rfl rfl rfl
  ·rw [if_neg d4];exact same _ rfl rfl rfl
 rw [if_neg c1]
 by_cases c2:x.st=2
 ·rw [if_pos c2]
  exact ⟨by dsimp only;omega,Nat.zero_le _,by simp,h4⟩
 rw [if_neg c2]
 by_cases c3:x.st=3
 ·rw [if_pos c3]
  unfold withinR
  by_cases d1:0≤hexR r∧x.c<6
  ·rw [if_pos d1]
   have hx:=hexR_lt r
   refine ⟨by dsimp only;omega,by dsimp only;omega,?_,h4⟩
   dsimp only
   rw [Nat.pow_succ]
   omega
  rw [if_neg d1]
  by_cases d2:r≠125∨x.c=0∨validR x.n=false
  ·rw [if_pos d2];exact same _ rfl rfl rfl
  ·rw [if_neg d2]
   refine more _ x.n rfl (runeV_ok ((validR_iff _).1 ?_)) rfl rfl
   cases hv:validR (x.n:Int)
   ·exact absurd (.inr (.inr hv)) d2
   ·rfl
 rw [if_neg c3]
 by_cases c4:x.st=4
 ·rw [if_pos c4];exact same _ rfl rfl rfl
 rw [if_neg c4]
 by_cases d1:r=34
 ·rw [if_pos d1];exact same _ rfl rfl rfl
 rw [if_neg d1]
 by_cases d2:r=92
 ·rw [if_pos d2];exact same _ rfl rfl rfl
 rw [if_neg d2]
 by_cases d3:r<32∨r=127
 ·rw [if_pos d3];exact same _ rfl rfl rfl
 ·rw [if_neg d3];exact more _ r rfl (runeV_ok hr) rfl rfl
theorem runesL_34 (t:List UInt8):runesL (34::t) 0=34::runesL t 0:=by
 have h:=encR_step (r:=34) (by right;omega) t
 have e:encR 34=[34]:=by decide
 rw [e] at h
 have h2:=runesL_app [34] t t.length 0 (by omega)
 rw [runesL_in (by simp),show (34::t)=[34]++t from rfl,h]
 simp only [List.length_cons,List.length_nil,Nat.zero_add,Nat.add_zero] at h2 ⊢
 rw [h2]
theorem stepR_plain34 (s:List UInt8) (h:(stepR s 0).1=34):byt s 0=34:=by
 have ff: ∀n r0 least,128≤least→(stepF s 0 n r0 least).1=34→False:=by
  intro n r0 least hl e
  unfold stepF at e
  split at e
  ·rename_i c
   rw [Bool.and_eq_true] at c
   have:=isRune_le c.2
   dsimp only at e
   omega
  ·dsimp only at e;omega
 unfold stepR at h
 simp only at h
 split at h
 ·dsimp only at h;omega
 ·split at h
  ·exact (ff _ _ _ (by omega) h).elim
  ·split at h
   ·exact (ff _ _ _ (by omega) h).elim
   ·split at h
    ·exact (ff _ _ _ (by omega) h).elim
    ·dsimp only at h;omega
theorem head_34 (s:List UInt8):Lib.hasPrefix s [34]=decide ((runesL s 0).head?=some 34):=by
 cases s with
 |nil=>rw [runesL_out (by simp)];rfl
 |cons b t=>
  by_cases c:b=34
  ·subst c
   rw [runesL_34]
   simp [Lib.hasPrefix]
  ·have h1:Lib.hasPrefix (b::t) [34]=false:=by
    unfold Lib.hasPrefix
    show ((34:UInt8)==b&&([]:List UInt8).isPrefixOf t)=false
    rw [beq_eq_false_iff_ne.2 (fun h=>c h.symm),Bool.false_and]
   rw [h1,runesL_in (by simp)]
   symm
   rw [decide_eq_false_iff_not]
   intro h
   have h:(stepR (b::t) 0).1=34:=by simpa using h
   have:=stepR_plain34 (b::t) h
   apply c
   have hb:byt (b::t) 0=b.toNat:=rfl
   rw [hb] at this
   exact UInt8.toNat_inj.1 (by rw [this];rfl)
theorem good_all {l:List Int} (h:goodR l=true): ∀r∈l,r≠ -1:=by
 intro r hr e
 unfold goodR at h
 have:=of_decide_eq_true (List.all_eq_true.1 h r hr)
 omega
end Go.Ai
namespace Go.Ai
open Go.Proofs Go.Shelf
theorem stR_spec {d:Nat} {b:Id} (hit:b.isIt=false) (hnwb:b.isNw d=false) {c0:AV} (rest:List AV) (l:List UInt8) (h0:l≠[]):
  SpH Tryz.prog gl 130 d ⟨[.ptr b 0],[(b,c0:: .sl (byteRows l)::rest)],[(.b b 1,bk 5)]⟩ ⟨.str l,[(b,c0:: .sl (byteRows l)::rest)],[]⟩:=
 st_shelf (L:={laysJoin with}) extraJ (by kernel_rfl) (by kernel_rfl) hit hnwb (rest:=rest) l h0
theorem st0R_spec {d:Nat} {b:Id} (hit:b.isIt=false) (hnwb:b.isNw d=false) {c0:AV} (rest:List AV):
  SpH Tryz.prog gl 130 d ⟨[.ptr b 0],[(b,c0:: .nils::rest)],[]⟩ ⟨.str [],[(b,c0:: .nils::rest)],[]⟩:=
 st0_shelf (L:={laysJoin with}) extraJ (by kernel_rfl) (by kernel_rfl) hit hnwb (rest:=rest)
theorem textR_ne (r:Int) (l:List Int):textR (r::l)≠[]:=by
 intro h
 have:=encR_pos r
 have e:(textR (r::l)).length=0:=by rw [h];rfl
 rw [textR,List.length_append] at e
 omega
set_option maxHeartbeats 1000000 in
theorem tunquote_spec (s:List UInt8) (hl:s.length≤200000):Sp Tryz.prog gl 210 [.str s] (.tup [.str (unqF (runesL s 0)).1,i6 (unqF (runesL s 0)).2]):=by
 refine s210 rfl rfl ?_
 have CP:=cutP_spec s [34]
 have GO:=tgood_spec s (by omega)
 rw [head_34] at CP
 unfold unqF
 by_cases c1:(runesL s 0).head?=some 34
 ·rw [decide_eq_true c1] at CP
  cases hg:goodR (runesL s 0)
  ·rw [hg] at GO
   rw [if_pos (.inl rfl)]
   generalize Lib.trimPrefix s [34]=t at *
   simp -implicitDefEqProofs [c210]
   refine onC_mk _ (CP) ?_
   simp -implicitDefEqProofs
   refine onC_mk _ (GO) ?_
   simp -implicitDefEqProofs
  ·rw [hg] at GO
   rw [if_neg (by rintro (h|h);cases h;exact h c1)]
   obtain ⟨t,ht⟩: ∃t,s=34::t:=by
    have:=head_34 s
    rw [decide_eq_true c1] at this
    cases s with
    |nil=>cases this
    |cons b t=>
     unfold Lib.hasPrefix at this
     have h2:((34:UInt8)==b&&([]:List UInt8).isPrefixOf t)=true:=this
     rw [Bool.and_eq_true,beq_iff_eq] at h2
     exact ⟨t,by rw [h2.1]⟩
   have et:Lib.trimPrefix s [34]=t:=by
    unfold Lib.trimPrefix
    rw [head_34,decide_eq_true c1,if_pos rfl,ht]
    rfl
   have er:(runesL s 0).tail=runesL t 0:=by rw [ht,runesL_34];rfl
   have hok: ∀r∈runesL t 0,runeV r:=by
    intro r hr
    have h1:=good_all hg r (by rw [ht,runesL_34];exact List.mem_cons_of_mem _ hr)
    have h2:=runesL_okR t t.length 0 (by omega) r hr
    unfold runeV
    rcases h2 with h2|h2
    ·exact absurd h2 h1
    ·omega
   have htl:t.length≤200000:=by rw [ht] at hl;simp at hl;omega
   rw [et] at CP
   rw [er]
   clear er et ht hg c1
   obtain ⟨R,hR⟩: ∃R,R=unRun rd0 (runesL t 0):=⟨_,rfl⟩
   rw [←hR]
   simp -implicitDefEqProofs [c210]
   refine onC_mk _ (CP) ?_
   simp -implicitDefEqProofs
   refine onC_mk _ (GO) ?_
   simp -implicitDefEqProofs
   refine wp_lpk (α:=Rd×Nat) (fun y=>⟨[(6,.ptr (.n 23) 0),(25,.itp 25)],[(.n 23,rdBx (.n 23) y.1),(.it 25,[.itr t y.2])],rdPm (.n 23) y.1.out⟩)
    (fun y=>RdOk y.1 y.2∧y.2≤t.length∧unRun y.1 (runesL t y.2)=R∧ ∀r∈runesL t y.2,runeV r) (fun y=>t.length - y.2) ?_ (rd0,0) ?_ ?_
   ·rintro K ⟨x,i⟩ hK ⟨h1,h2,h3,h4⟩
    simp only at h1 h2 h3 h4
    by_cases g:i<t.length
    ·have sr:=step_r65 t i g
     have sp:=stepR_pos t i
     have sw:=stepR_le t i g
     rw [runesL_in g] at h3 h4
     have hv:=h4 (stepR t i).1 (by simp)
     have e65:r65 (stepR t i).1=(stepR t i).1:=by unfold r65;rw [if_neg];unfold runeV at hv;omega
     rw [e65] at sr
     have T:=fun (e:Nat) (he:(Id.n 23).isNw e=false)=>rtakeU_spec x (by have:=h1.o;omega) h1.c h1.n (stepR t i).1 hv e (.n 23) rfl he
     have ok:=h1.step hv (stepR t i).2 sp
     have fin:unRun (takeU x (stepR t i).1).1 (runesL t (i+(stepR t i).2))=R→ ∀σ',Weak σ' ⟨[(6,.ptr (.n 23) 0),(25,.itp 25)],[(.n 23,rdBx (.n 23) (takeU x (stepR t i).1).1),(.it 25,[.itr t (i+(stepR t i).2)])],rdPm (.n 23) (takeU x (stepR t i).1).1.out⟩→K σ':=
      fun hh σ' hσ=>hK ((takeU x (stepR t i).1).1,i+(stepR t i).2) σ' ⟨ok,sw,hh,fun r hr=>h4 r (List.mem_cons_of_mem _ hr)⟩ (by simp only;omega) hσ
     rw [unRun] at h3
     clear hK hR ok h4 hv
     generalize (stepR t i).1=r at *
     generalize (stepR t i).2=w at *
     generalize (takeU x r).2=okk at *
     generalize (takeU x r).1=y at *
     cases okk
     ·rw [if_neg (by decide)] at h3
      subst h3
      dsimp only
      rw [if_pos rfl]
      clear fin
      unfold rdBx at *
      cases hx:x.out with
      |nil=>
       rw [hx] at T
       cases hy:y.out with
       |nil=>
        rw [hy] at T
        simp only [rdHd,rdPm,List.cons_append,List.nil_append] at T ⊢
        simp -implicitDefEqProofs [g,sr]
        refine onH_mk _ _ (T _ rfl) ⟨?_,?_,?_,?_,?_,?_,?_⟩ ?_
        iterate 7 (· simp)
        simp -implicitDefEqProofs
       |cons a2 l2=>
        rw [hy] at T
        simp only [rdHd,rdPm,List.cons_append,List.nil_append] at T ⊢
        generalize byteRows (textR (a2::l2))=B1 at *
        simp -implicitDefEqProofs [g,sr]
        refine onH_mk _ _ (T _ rfl) ⟨?_,?_,?_,?_,?_,?_,?_⟩ ?_
        iterate 7 (· simp)
        simp -implicitDefEqProofs
      |cons a l=>
       rw [hx] at T
       cases hy:y.out with
       |nil=>
        rw [hy] at T
        simp only [rdHd,rdPm,List.cons_append,List.nil_append] at T ⊢
        generalize byteRows (textR (a::l))=B0 at *
        simp -implicitDefEqProofs [g,sr]
        refine onH_mk _ _ (T _ rfl) ⟨?_,?_,?_,?_,?_,?_,?_⟩ ?_
        iterate 7 (· simp)
        simp -implicitDefEqProofs
       |cons a2 l2=>
        rw [hy] at T
        simp only [rdHd,rdPm,List.cons_append,List.nil_append] at T ⊢
        generalize byteRows (textR (a2::l2))=B1 at *
        generalize byteRows (textR (a::l))=B0 at *
        simp -implicitDefEqProofs [g,sr]
        refine onH_mk _ _ (T _ rfl) ⟨?_,?_,?_,?_,?_,?_,?_⟩ ?_
        iterate 7 (· simp)
        simp -implicitDefEqProofs
     ·rw [if_pos rfl] at h3
      have fin:=fin h3
      clear h3
      generalize (if R.2=false then _ else _:List UInt8×Int)=res
      unfold rdBx at *
      cases hx:x.out with
      |nil=>
       rw [hx] at T
       cases hy:y.out with
       |nil=>
        rw [hy] at T fin
        simp only [rdHd,rdPm,List.cons_append,List.nil_append] at T fin ⊢
        simp -implicitDefEqProofs [g,sr]
        refine onH_mk _ _ (T _ rfl) ⟨?_,?_,?_,?_,?_,?_,?_⟩ ?_
        iterate 7 (· simp)
        simp -implicitDefEqProofs
        refine fin _ ?_
        refine weak_mk ?_ ?_ ?_ ?_ ?_ ?_<;>simp -implicitDefEqProofs
       |cons a2 l2=>
        rw [hy] at T fin
        simp only [rdHd,rdPm,List.cons_append,List.nil_append] at T fin ⊢
        generalize byteRows (textR (a2::l2))=B1 at *
        simp -implicitDefEqProofs [g,sr]
        refine onH_mk _ _ (T _ rfl) ⟨?_,?_,?_,?_,?_,?_,?_⟩ ?_
        iterate 7 (· simp)
        simp -implicitDefEqProofs
        refine fin _ ?_
        refine weak_mk ?_ ?_ ?_ ?_ ?_ ?_<;>simp -implicitDefEqProofs
      |cons a l=>
       rw [hx] at T
       cases hy:y.out with
       |nil=>
        rw [hy] at T fin
        simp only [rdHd,rdPm,List.cons_append,List.nil_append] at T fin ⊢
        generalize byteRows (textR (a::l))=B0 at *
        simp -implicitDefEqProofs [g,sr]
        refine onH_mk _ _ (T _ rfl) ⟨?_,?_,?_,?_,?_,?_,?_⟩ ?_
        iterate 7 (· simp)
        simp -implicitDefEqProofs
        refine fin _ ?_
        refine weak_mk ?_ ?_ ?_ ?_ ?_ ?_<;>simp -implicitDefEqProofs
       |cons a2 l2=>
        rw [hy] at T fin
        simp only [rdHd,rdPm,List.cons_append,List.nil_append] at T fin ⊢
        generalize byteRows (textR (a2::l2))=B1 at *
        generalize byteRows (textR (a::l))=B0 at *
        simp -implicitDefEqProofs [g,sr]
        refine onH_mk _ _ (T _ rfl) ⟨?_,?_,?_,?_,?_,?_,?_⟩ ?_
        iterate 7 (· simp)
        simp -implicitDefEqProofs
        refine fin _ ?_
        refine weak_mk ?_ ?_ ?_ ?_ ?_ ?_<;>simp -implicitDefEqProofs
    ·rw [runesL_out g,unRun] at h3
     subst h3
     dsimp only
     rw [if_neg (by decide)]
     clear hK
     have tl:=textR_len x.out
     have ol:=h1.o
     have TC:=tcount_spec (textR x.out) (by omega)
     rw [runesL_textR x.out h1.k] at TC
     unfold rdBx
     by_cases c4:x.st=4
     ·rw [if_pos c4]
      have c4':(x.st !=4)=false:=by rw [c4];rfl
      by_cases c5:120<x.out.length
      ·rw [if_pos c5]
       have c5':(120:Int)<x.out.length:=by omega
       cases hx:x.out with
       |nil=>rw [hx] at c5;simp at c5
       |cons a l=>
        have S:=fun (e:Nat) (he:(Id.n 23).isNw e=false)=>stR_spec (d:=e) (b:= .n 23) rfl he (c0:= .ptr (.n 23) 0) [i6 x.st,i3 x.n,i6 x.c] (textR (a::l)) (textR_ne a l)
        rw [hx] at TC c5 c5'
        simp only [rdHd,rdPm,List.cons_append,List.nil_append]
        generalize (a::l).length=n at *
        generalize textR (a::l)=T at *
        generalize byteRows T=B0 at *
        simp -implicitDefEqProofs [g]
        refine onH_mk _ _ (S _ rfl) ⟨?_,?_,?_,?_,?_,?_,?_⟩ ?_
        iterate 7 (· simp)
        simp -implicitDefEqProofs [c4,c4']
        refine onC_mk _ (TC) ?_
        simp -implicitDefEqProofs [c5,c5']
      ·rw [if_neg c5]
       have c5': ¬(120:Int)<x.out.length:=by omega
       cases hx:x.out with
       |nil=>
        have S:=fun (e:Nat) (he:(Id.n 23).isNw e=false)=>st0R_spec (d:=e) (b:= .n 23) rfl he (c0:= .nilT (.n 23) 281 5) [i6 x.st,i3 x.n,i6 x.c]
        rw [hx] at TC c5'
        rw [show textR []=[] from rfl] at TC ⊢
        simp only [rdHd,rdPm,List.cons_append,List.nil_append]
        simp -implicitDefEqProofs [g]
        refine onH_mk _ _ (S _ rfl) ⟨?_,?_,?_,?_,?_,?_,?_⟩ ?_
        iterate 7 (· simp)
        simp -implicitDefEqProofs [c4,c4']
        refine onC_mk _ (TC) ?_
        simp -implicitDefEqProofs
       |cons a l=>
        have S:=fun (e:Nat) (he:(Id.n 23).isNw e=false)=>stR_spec (d:=e) (b:= .n 23) rfl he (c0:= .ptr (.n 23) 0) [i6 x.st,i3 x.n,i6 x.c] (textR (a::l)) (textR_ne a l)
        rw [hx] at TC c5 c5'
        simp only [rdHd,rdPm,List.cons_append,List.nil_append]
        generalize (a::l).length=n at *
        generalize textR (a::l)=T at *
        generalize byteRows T=B0 at *
        simp -implicitDefEqProofs [g]
        refine onH_mk _ _ (S _ rfl) ⟨?_,?_,?_,?_,?_,?_,?_⟩ ?_
        iterate 7 (· simp)
        simp -implicitDefEqProofs [c4,c4']
        refine onC_mk _ (TC) ?_
        simp -implicitDefEqProofs [c5,c5']
     ·rw [if_neg c4]
      have c4':(x.st !=4)=true:=bne_iff_ne.2 c4
      have c4'':(x.st==4)=false:=beq_eq_false_iff_ne.2 c4
      cases hx:x.out with
      |nil=>
       have S:=fun (e:Nat) (he:(Id.n 23).isNw e=false)=>st0R_spec (d:=e) (b:= .n 23) rfl he (c0:= .nilT (.n 23) 281 5) [i6 x.st,i3 x.n,i6 x.c]
       simp only [rdHd,rdPm,List.cons_append,List.nil_append]
       simp -implicitDefEqProofs [g]
       refine onH_mk _ _ (S _ rfl) ⟨?_,?_,?_,?_,?_,?_,?_⟩ ?_
       iterate 7 (· simp)
       simp -implicitDefEqProofs [c4,c4',c4'']
      |cons a l=>
       have S:=fun (e:Nat) (he:(Id.n 23).isNw e=false)=>stR_spec (d:=e) (b:= .n 23) rfl he (c0:= .ptr (.n 23) 0) [i6 x.st,i3 x.n,i6 x.c] (textR (a::l)) (textR_ne a l)
       simp only [rdHd,rdPm,List.cons_append,List.nil_append]
       generalize textR (a::l)=T at *
       generalize byteRows T=B0 at *
       simp -implicitDefEqProofs [g]
       refine onH_mk _ _ (S _ rfl) ⟨?_,?_,?_,?_,?_,?_,?_⟩ ?_
       iterate 7 (· simp)
       simp -implicitDefEqProofs [c4,c4',c4'']
   ·exact ⟨⟨Nat.zero_le _,Nat.zero_le _,by decide,by intro r hr;cases hr⟩,Nat.zero_le _,hR.symm,hok⟩
   ·refine weak_mk ?_ ?_ ?_ ?_ ?_ ?_<;>simp -implicitDefEqProofs [rdBx,rdHd,rdPm,rd0]
 ·rw [decide_eq_false c1] at CP
  rw [if_pos (.inr c1)]
  generalize Lib.trimPrefix s [34]=t at *
  simp -implicitDefEqProofs [c210]
  refine onC_mk _ (CP) ?_
  simp -implicitDefEqProofs
end Go.Ai
namespace Go.Ai
open Go.Proofs Go.Shelf
end Go.Ai
namespace Go.Ai
open Go.Proofs Go.Shelf
open Go.Proofs
def sU (w:List UInt8):List UInt8×Int:=unqF (runesL w 0)
theorem wthn_okR {r:Int} (h:wthn r=true):okR r∧r≠ -1:=by
 unfold wthn letter digR at h
 simp only [Bool.or_eq_true,decide_eq_true_iff] at h
 unfold okR
 omega
theorem toldV_e {k:Int} {q:Nat×Int} {c:Int} (h:toldV k q= .e c):c≠0:=by
 unfold toldV at h
 split at h
 ·cases h
 ·cases h;assumption
theorem sV_e (w:List UInt8) (c:Int) (h:sV w= .e c):c≠0:=by
 unfold sV at h
 split at h
 ·split at h
  ·cases h
  ·cases h;decide
 ·split at h
  ·exact toldV_e h
  ·split at h
   ·exact toldV_e h
   ·split at h
    ·exact toldV_e h
    ·exact toldV_e h
theorem rV_sV (m:List Int) (h0:m≠[]) (hw: ∀r∈m,wthn r=true):rV m=sV (textR m):=by
 have hr:=runesL_textR m (fun r hr=>(wthn_okR (hw r hr)).1)
 have hpos:0<(textR m).length:=by
  by_cases g:0<(textR m).length
  ·exact g
  ·rw [runesL_out g] at hr
   exact absurd hr.symm h0
 have hv:vR (textR m)=m.headD 0:=by
  unfold vR
  rw [if_neg (fun e=>by rw [e] at hpos;cases hpos)]
  rw [runesL_in hpos] at hr
  cases m with
  |nil=>exact absurd rfl h0
  |cons r t=>
   injection hr with h1 h2
   rw [h1,List.headD_cons]
   unfold r65
   rw [if_neg (wthn_okR (hw r (by simp))).2]
 unfold rV sV
 rw [hv]
 cases hd:digR (m.headD 0)
 ·rw [if_pos (Or.inr rfl),if_pos rfl]
 ·rw [if_neg (by rintro (h|h);exact h0 h;cases h),if_neg (by decide)]
  unfold wdR
  generalize textR m=w at *
  have e1:dgsF w=w.all isDig:=by
   unfold dgsF
   rw [decide_eq_true hpos,Bool.and_true]
  have e2:sufB w [37]=true↔byt w (w.length - 1)=37:=by
   rw [sufB_one]
   constructor
   ·exact fun h=>h.2
   ·exact fun h=>⟨hpos,h⟩
  rw [e1,ppF_eq,spanU_eq]
  by_cases c1:w.all isDig=true
  ·rw [if_pos c1,if_pos c1]
  ·rw [if_neg c1,if_neg c1]
   by_cases c2:byt w (w.length - 1)=37
   ·rw [if_pos c2,if_pos (e2.2 c2)]
   ·rw [if_neg c2,if_neg (fun h=>c2 (e2.1 h))]
theorem sHyp:SHyp sV sU rV unqF:=⟨fun _=>rfl,rV_sV,sV_e⟩
def tokF (s:List UInt8):TR:=refF rV sU s
theorem tokF_long {s:List UInt8} (h:40000<s.length):tokF s=⟨[],9,1,1⟩:=by
 unfold tokF refF
 rw [if_pos h]
theorem stokL_spec (s:List UInt8) (h:40000<s.length):Sp Tryz.prog gl 15 [.str s] (tokF s).av:=by
 refine s15 rfl rfl ?_
 have B:=fun (e:Nat) (he:(Id.n 10).isNw e=false)=>sbegin_spec s ⟨[],0,0,0,0,1,1,0,0,0⟩ 0 0 e (.n 10) rfl he
 have hB:Sc.begin ⟨[],0,0,0,0,1,1,0,0,0⟩ 0 0=sc0:=rfl
 rw [hB] at B
 rw [tokF_long h]
 have hl':(40000:Int)<s.length:=by omega
 have W:=fun (e:Nat) (he:(Id.n 10).isNw e=false)=>swrong_spec s sc0 9 e (.n 10) rfl he
 unfold scB Sc.wrong sc0 at *
 simp only [List.map_nil] at B W
 unfold TR.av
 simp -implicitDefEqProofs [c15]
 refine onH_mk _ _ (B _ rfl) ⟨?_,?_,?_,?_,?_,?_,?_⟩ ?_
 iterate 7 (· simp)
 simp -implicitDefEqProofs [h,hl']
 refine onH_mk _ _ (W _ rfl) ⟨?_,?_,?_,?_,?_,?_,?_⟩ ?_
 iterate 7 (· simp)
 simp -implicitDefEqProofs
theorem stok_spec (s:List UInt8):Sp Tryz.prog gl 15 [.str s] (tokF s).av:=by
 by_cases h:40000<s.length
 ·exact stokL_spec s h
 ·have:=stokens_spec sV sU s (fun w hw=>tunquote_spec w (by omega)) (fun w hw=>svalue_spec w (by omega))
  rw [scan_ref sHyp s] at this
  exact this
def wEf:Nat→List Int→Nat→Nat
 |0,_,i=>i
 |f+1,l,i=>match l[i]? with
  |some r=>if wthn r=true then wEf f l (i+1) else i
  |none=>i
theorem wEnd_f (l:List Int): ∀(f i:Nat),l.length - i≤f→wEnd l i=wEf f l i
 |0,i,h=>by rw [wEnd_out (by omega)];rfl
 |f+1,i,h=>by
  rw [wEf]
  by_cases g:i<l.length
  ·rw [wEnd_in g,List.getElem?_eq_getElem g]
   dsimp only
   rw [wEnd_f l f (i+1) (by omega)]
  ·rw [wEnd_out g,List.getElem?_eq_none (by omega)]
theorem refGo_word (VR:List Int→TV) (U:List UInt8→List UInt8×Int) (l:List Int) (P:List (Int×Int)) (f k:Nat) (out:List Tk) {r:Int} {e:Nat} {kk:Int} {w:List UInt8} {n:Nat} (h:l[k]?=some r) (hw:wthn r=true) (he:wEf l.length l k=e) (hv:VR (subR l k e)= .t kk w n):
  refGo VR U l P (f+1) k out=refGo VR U l P f e (out++[⟨kk,w,n,(P.getD k (0,0)).1,(P.getD k (0,0)).2⟩]):=by
 have hne: ∀z:Int,wthn z=false→r≠z:=fun z hz e=>by rw [←e,hw] at hz;cases hz
 have o:oneF VR U l k r=⟨kk,w,n,e,0⟩:=by
  unfold oneF
  rw [if_neg (hne 123 rfl),if_neg (hne 125 rfl),if_neg (hne 59 rfl),if_neg (hne 34 rfl),if_pos hw,wEnd_f l l.length k (by omega),he,hv]
  rfl
 rw [refGo,h]
 dsimp only
 rw [if_neg (by rintro (h|h|h);exact hne 32 rfl h;exact hne 9 rfl h;exact hne 10 rfl h),if_neg (hne 35 rfl),o,if_pos rfl]
theorem refGo_gap (VR:List Int→TV) (U:List UInt8→List UInt8×Int) (l:List Int) (P:List (Int×Int)) (f k:Nat) (out:List Tk) (h:l[k]?=some 32):refGo VR U l P (f+1) k out=refGo VR U l P f (k+1) out:=by
 rw [refGo,h]
 dsimp only
 rw [if_pos (Or.inl rfl)]
theorem refGo_fin (VR:List Int→TV) (U:List UInt8→List UInt8×Int) (l:List Int) (P:List (Int×Int)) (f k:Nat) (out:List Tk) (h:l[k]?=none):refGo VR U l P (f+1) k out=⟨out++[⟨0,[],0,(P.getD l.length (0,0)).1,(P.getD l.length (0,0)).2⟩],0,0,0⟩:=by
 rw [refGo,h]
def exS:List UInt8:=[49,52,46,52,32,49,104,51,48,109,32,57,57,46,57,37]
def exL:List Int:=[49,52,46,52,32,49,104,51,48,109,32,57,57,46,57,37]
set_option maxRecDepth 100000 in
theorem exL_runes:runesL exS 0=exL:=by
 have h:textR exL=exS:=by decide
 rw [←h]
 refine runesL_textR exL (fun r hr=>?_)
 unfold okR
 simp [exL] at hr
 omega
set_option maxRecDepth 100000 in
theorem tok_ex:tokF exS=⟨[⟨4,[],14400,1,1⟩,⟨6,[],5400,1,6⟩,⟨5,[],999000,1,12⟩,⟨0,[],0,1,17⟩],0,0,0⟩:=by
 unfold tokF refF
 rw [if_neg (by decide),exL_runes]
 refine (refGo_word rV sU exL _ 16 0 [] (r:=49) (e:=4) (kk:=4) (w:=[]) (n:=14400) rfl (by decide) (by decide) (by rfl)).trans ?_
 refine (refGo_gap rV sU exL _ 15 4 _ rfl).trans ?_
 refine (refGo_word rV sU exL _ 14 5 _ (r:=49) (e:=10) (kk:=6) (w:=[]) (n:=5400) rfl (by decide) (by decide) (by rfl)).trans ?_
 refine (refGo_gap rV sU exL _ 13 10 _ rfl).trans ?_
 refine (refGo_word rV sU exL _ 12 11 _ (r:=57) (e:=16) (kk:=5) (w:=[]) (n:=999000) rfl (by decide) (by decide) (by rfl)).trans ?_
 refine (refGo_fin rV sU exL _ 11 16 _ rfl).trans ?_
 rfl
theorem awake13_spec:Sp Tryz.prog gl 14 [] (.bool true):=by
 refine s14 rfl rfl ?_
 have T:=stok_spec exS
 rw [tok_ex] at T
 unfold exS TR.av at T
 simp only [List.map_cons,List.map_nil,Tk.row] at T
 simp -implicitDefEqProofs [c14]
 refine onC_mk _ (T) ?_
 simp -implicitDefEqProofs
open Go.Proofs
theorem Wk_all (s:List UInt8): ∀n i,s.length - i≤n→i≤s.length→Wk s i (runesL s i) s.length
 |0,i,h,hi=>by
  rw [runesL_out (by omega)]
  show i=s.length
  omega
 |n+1,i,h,hi=>by
  by_cases g:i<s.length
  ·rw [runesL_in g]
   have:=stepR_pos s i
   exact ⟨g,rfl,Wk_all s n _ (by omega) (stepR_le s i g)⟩
  ·rw [runesL_out g]
   show i=s.length
   omega
theorem textR_runes (s:List UInt8) (h: ∀r∈runesL s 0,r≠ -1):textR (runesL s 0)=s:=by
 have:=Wk_text s (runesL s 0) 0 s.length (Nat.le_refl _) (Wk_all s s.length 0 (by omega) (Nat.zero_le _)) h
 rw [List.take_length,List.drop_zero] at this
 exact this.symm
end Go.Ai
