/- P8: a part of the proof: the rules, or what functions compute. Conditions: as each theorem says. -/
import Derived.Test.YtggemlhclppciaaGreatDoorP7
import Derived.Lib.TrimUEq
import Derived.Lib.ValidU
import Derived.Lib.MapLaws
import Derived.Test.YtggemlhclppciaaGreatDoorP5
import Derived.Test.YtggemlhclppciaaGreatDoorP2
import Derived.Test.YtggemlhclppciaaGreatDoorP3
import Derived.Test.YtggemlhclppciaaGreatDoorLib10
import Derived.Test.YtggemlhclppciaaGreatDoorP1
set_option linter.unusedSimpArgs false
set_option linter.unusedVariables false
set_option maxRecDepth 20000
namespace Go.Ai
open Go.Proofs
theorem stepF_bad (s:List UInt8) (i n r0 least:Nat) (h:(stepF s i n r0 least).1= -1):(stepF s i n r0 least).2=1:=by
 unfold stepF at h ⊢
 split
 ·rename_i hc
  rw [if_pos hc] at h
  simp only at h
  omega
 ·rfl
theorem stepR_bad (s:List UInt8) (i:Nat) (h:(stepR s i).1= -1):(stepR s i).2=1:=by
 unfold stepR at h ⊢
 simp only at h ⊢
 repeat' split
 all_goals first
  |rfl
  |(simp_all;done)
  |(simp_all;exact stepF_bad _ _ _ _ _ (by assumption))
theorem stepF_one (s:List UInt8) (i n r0 least:Nat) (hn:1≤n) (h:(stepF s i n r0 least).1≠ -1):(stepF s i n r0 least).2≠1:=by
 unfold stepF at h ⊢
 split
 ·simp only;omega
 ·rename_i hc
  rw [if_neg hc] at h
  exact absurd rfl h
theorem stepR_one (s:List UInt8) (i:Nat) (h:(stepR s i).1≠ -1) (h1:(stepR s i).2=1):(stepR s i).1<128:=by
 by_cases hb:byt s i<128
 ·unfold stepR
  simp only [hb,if_true];omega
 ·exfalso
  unfold stepR at h h1
  simp only [hb,if_false] at h h1
  split at h
  ·rename_i q;rw [if_pos q] at h1;exact stepF_one _ _ _ _ _ (by omega) h h1
  ·rename_i q;rw [if_neg q] at h1
   split at h
   ·rename_i q;rw [if_pos q] at h1;exact stepF_one _ _ _ _ _ (by omega) h h1
   ·rename_i q;rw [if_neg q] at h1
    split at h
    ·rename_i q;rw [if_pos q] at h1;exact stepF_one _ _ _ _ _ (by omega) h h1
    ·exact absurd rfl h
theorem rune_w (s:List UInt8) (i:Nat) (h:i<s.length):(runeAt s i).2=(stepR s i).2:=by
 rw [step_rune s i h]
 split
 ·rename_i hb;rw [stepR_bad s i hb]
 ·rfl
def goodR (l:List Int):Bool:=l.all fun r=>decide (0≤r)
theorem stepF_nn (s:List UInt8) (i n r0 least:Nat):(stepF s i n r0 least).1= -1∨0≤(stepF s i n r0 least).1:=by
 unfold stepF
 split
 ·right;simp only;omega
 ·left;rfl
theorem stepR_nn (s:List UInt8) (i:Nat):(stepR s i).1= -1∨0≤(stepR s i).1:=by
 unfold stepR
 simp only
 repeat' split
 all_goals first
  |exact stepF_nn _ _ _ _ _
  |(left;rfl)
  |(right;simp only;omega)
theorem decodeL_at (s:List UInt8) (i:Nat):runeAt s i=(((Lib.decodeL (s.drop i)).1:Int),(Lib.decodeL (s.drop i)).2):=by
 have:=Lib.decodeL_drop ⟨s.toArray⟩ i
 simp only at this
 rw [this]
 rfl
theorem good_go (s:List UInt8): ∀(n i:Nat),s.length - i≤n→Lib.validGoD n (s.drop i)=goodR (runesL s i)
 |0,i,h=>by
  rw [runesL_out (by omega)];rfl
 |n+1,i,h=>by
  by_cases g:i<s.length
  ·have hne:s.drop i≠[]:=by
    intro e
    have:=congrArg List.length e
    rw [List.length_drop] at this
    simp at this;omega
   have sr:=step_rune s i g
   have da:=decodeL_at s i
   rw [da] at sr
   simp only [Lib.validGoD,if_neg hne]
   rw [runesL_in g]
   have pos:=stepR_pos s i
   by_cases hb:(stepR s i).1= -1
   ·rw [if_pos hb] at sr
    simp only [Prod.mk.injEq] at sr
    rw [if_pos ⟨by omega,sr.2⟩]
    simp [goodR,hb]
   ·rw [if_neg hb] at sr
    have e1:((Lib.decodeL (s.drop i)).1:Int)=(stepR s i).1:=congrArg Prod.fst sr
    have e2:(Lib.decodeL (s.drop i)).2=(stepR s i).2:=congrArg Prod.snd sr
    rw [if_neg (by
     rintro ⟨q1,q2⟩
     have:=stepR_one s i hb (by omega)
     omega)]
    rw [List.drop_drop,e2,good_go s n (i+(stepR s i).2) (by omega)]
    have h0:0≤(stepR s i).1:=by rcases stepR_nn s i with h|h;exact absurd h hb;exact h
    simp [goodR,h0]
  ·have e:s.drop i=[]:=List.drop_eq_nil_of_le (by omega)
   simp only [Lib.validGoD,e,if_true]
   rw [runesL_out g];rfl
theorem validD_good (s:List UInt8):Lib.validD s=goodR (runesL s 0):=by
 have:=good_go s s.length 0 (by omega)
 rwa [List.drop_zero] at this
theorem tcount_spec (s:List UInt8) (hl:s.length≤900000):Sp Tryz.prog gl 86 [.str s] (i6 (runesL s 0).length):=by
 refine s86 rfl rfl ?_
 obtain ⟨R,hR⟩: ∃R,R=(runesL s 0).length:=⟨_,rfl⟩
 rw [←hR]
 simp -implicitDefEqProofs [c86]
 refine wp_lpk (α:=Nat×Nat) (fun x=>⟨[(3,i6 x.2),(5,.itp 5)],[(.it 5,[.itr s x.1])],[]⟩)
  (fun x=>x.2≤x.1∧x.2+(runesL s x.1).length=R∧x.1≤s.length+3) (fun x=>s.length+4 - x.1) ?_ (0,0) ?_ ?_
 ·rintro K ⟨i,n⟩ hK ⟨h1,h2,h3⟩
  simp only at h1 h2 h3
  by_cases g:i<s.length
  ·rw [runesL_in g] at h2
   simp only [List.length_cons] at h2
   have sw:=rune_w s i g
   have sl:=stepR_lt g
   have sp:=stepR_pos s i
   have fin: ∀σ',Weak σ' ⟨[(3,i6 (n+1:Nat)),(5,.itp 5)],[(.it 5,[.itr s (i+(stepR s i).2)])],[]⟩→K σ':=
    fun σ' hσ=>hK (i+(stepR s i).2,n+1) σ' ⟨by simp only;omega,by simp only;omega,by simp only;omega⟩ (by simp only;omega) hσ
   have t1:IntKind.i64.wrap ((n:Int)+1)=(n+1:Nat):=by rw [wrap_i64]<;>omega
   clear hK hR h2
   simp -implicitDefEqProofs [g,sw]
   refine fin _ (weak_mk ?_ ?_ ?_ ?_ ?_ ?_)<;>simp -implicitDefEqProofs [t1]
  ·rw [runesL_out g] at h2
   have:n=R:=by simpa using h2
   subst this
   simp -implicitDefEqProofs [g]
 ·exact ⟨Nat.le_refl _,by simp [hR],by simp⟩
 ·refine weak_mk ?_ ?_ ?_ ?_ ?_ ?_<;>simp -implicitDefEqProofs
open Go.Proofs
theorem first_gl:List.lookup 0 gl=some ((List.range 256).map fun c=>Value.int .u8 (Lib.firstT c)):=by kernel_rfl
theorem accept_gl:List.lookup 1 gl=some ((List.range 32).map fun c=>Value.int .u8 (if c%2=0 then Lib.accLo (c / 2) else Lib.accHi (c / 2))):=by kernel_rfl
theorem utf8_tabs {w:World} (h: ∀i us,List.lookup i gl=some us→ ∀(o:Nat) (u:Value),us[o]?=some u→w.cell? ⟨i,o,none⟩=some u):Lib.Utf8Tabs 0 1 w:=by
 refine ⟨fun c hc=>?_,fun i hi=>⟨?_,?_⟩⟩
 ·exact h _ _ first_gl c _ (by simp [hc])
 ·refine h _ _ accept_gl (2*i) _ ?_
  have h1:2*i<32:=by omega
  have h2:2*i%2=0:=by omega
  have h3:2*i / 2=i:=by omega
  simp [h1,h2,h3]
 ·refine h _ _ accept_gl (2*i+1) _ ?_
  have h1:2*i+1<32:=by omega
  have h2: ¬(2*i+1)%2=0:=by omega
  have h3:(2*i+1) / 2=i:=by omega
  simp only [List.getElem?_map,List.getElem?_range h1,Option.map_some,if_neg h2,h3]
theorem valid_spec (s:List UInt8) (hl:s.length≤900000):Sp Tryz.prog gl 123 [.str s] (.bool (Lib.validD s)):=by
 refine shelf_specG Tryz.func123 (by kernel_rfl) (by kernel_rfl) ?_
 intro S gb w vs hvs hag hgl
 simp only [PRlist,PR] at hvs
 obtain ⟨_,_,rfl,rfl,rfl⟩:=hvs
 have hs:(ByteArray.mk s.toArray).size≤9223372036854775807:=by
  have:(ByteArray.mk s.toArray).size=s.length:=rfl
  omega
 exact (Any.utf8_ValidString laysValid ⟨s.toArray⟩ w hs (utf8_tabs hgl)).mono fun e w' ⟨he,hw⟩=>⟨_,he,hw,by simp [PR]⟩
theorem tgood_spec (s:List UInt8) (hl:s.length≤900000):Sp Tryz.prog gl 85 [.str s] (.bool (goodR (runesL s 0))):=by
 refine s85 rfl rfl ?_
 have V:=valid_spec s hl
 rw [validD_good] at V
 generalize goodR (runesL s 0)=b at *
 simp -implicitDefEqProofs [c85]
 refine onC_mk _ (V) ?_
 simp -implicitDefEqProofs
end Go.Ai
namespace Go.Ai
open Go.Proofs Go.Shelf
def unRun (x:Rd):List Int→Rd×Bool
 |[]=>(x,true)
 |r::l=>if (takeU x r).2=true then unRun (takeU x r).1 l else ((takeU x r).1,false)
def rd0:Rd:=⟨[],0,0,0⟩
def unqF (l:List Int):List UInt8×Int:=
 if goodR l=false∨l.head?≠some 34 then ([],5)
 else if (unRun rd0 l.tail).2=false then ([],5)
 else if (unRun rd0 l.tail).1.st≠4 then ([],5)
 else if 120<(unRun rd0 l.tail).1.out.length then ([],9)
 else (textR (unRun rd0 l.tail).1.out,0)
structure RdOk (x:Rd) (i:Nat):Prop where
 o:x.out.length≤i
 c:x.c≤6
 n:x.n<16^x.c
 k: ∀r∈x.out,okR r
theorem runeV_ok {r:Int} (h:runeV r):okR r:=by
 unfold runeV at h
 right
 omega
theorem mem_snoc_ok {l:List Int} {q:Int} (h: ∀r∈l,okR r) (hq:okR q): ∀r∈l++[q],okR r:=by
 intro r hr
 rw [List.mem_append,List.mem_singleton] at hr
 rcases hr with hr|rfl
 ·exact h r hr
 ·exact hq
theorem RdOk.step {x:Rd} {i:Nat} (h:RdOk x i) {r:Int} (hr:runeV r) (w:Nat) (hw:1≤w):RdOk (takeU x r).1 (i+w):=by
 obtain ⟨h1,h2,h3,h4⟩:=h
 have same: ∀y:Rd,y.out=x.out→y.c=x.c→y.n=x.n→RdOk y (i+w):=fun y a b c=>⟨by rw [a];omega,by rw [b];exact h2,by rw [c,b];exact h3,by rw [a];exact h4⟩
 have more: ∀(y:Rd) q,y.out=x.out++[q]→okR q→y.c=x.c→y.n=x.n→RdOk y (i+w):=fun y q a hq b c=>⟨by rw [a,List.length_append];simp;omega,by rw [b];exact h2,by rw [c,b];exact h3,by rw [a];exact mem_snoc_ok h4 hq⟩
 unfold takeU
 by_cases c1:x.st=1
 ·rw [if_pos c1]
  unfold afterR
  by_cases d1:r=34∨r=92
  ·rw [if_pos d1];exact more _ r rfl (runeV_ok hr) rfl rfl
  rw [if_neg d1]
  by_cases d2:r=110
  ·rw [if_pos d2];exact more _ 10 rfl (by right;omega) rfl rfl
  rw [if_neg d2]
  by_cases d3:r=116
  ·rw [if_pos d3];exact more _ 9 rfl (by right;omega) rfl rfl
  rw [if_neg d3]
  by_cases d4:r=117
  ·rw [if_pos d4];exact same _ rfl rfl rfl
  ·rw [if_neg d4];exact same _ rfl rfl rfl
 rw [if_neg c1]
 by_cases c2:x.st=2
 ·rw [if_pos c2]
  exact ⟨by dsimp only;omega,Nat.zero_le _,by simp,h4⟩
 rw [if_neg c2]
 by_cases c3:x.st=3
 ·rw [if_pos c3]
  unfold withinR
  by_cases d1:0≤hexR r∧x.c<6
  ·rw [if_pos d1]
   have hx:=hexR_lt r
   refine ⟨by dsimp only;omega,by dsimp only;omega,?_,h4⟩
   dsimp only
   rw [Nat.pow_succ]
   omega
  rw [if_neg d1]
  by_cases d2:r≠125∨x.c=0∨validR x.n=false
  ·rw [if_pos d2];exact same _ rfl rfl rfl
  ·rw [if_neg d2]
   refine more _ x.n rfl (runeV_ok ((validR_iff _).1 ?_)) rfl rfl
   cases hv:validR (x.n:Int)
   ·exact absurd (.inr (.inr hv)) d2
   ·rfl
 rw [if_neg c3]
 by_cases c4:x.st=4
 ·rw [if_pos c4];exact same _ rfl rfl rfl
 rw [if_neg c4]
 by_cases d1:r=34
 ·rw [if_pos d1];exact same _ rfl rfl rfl
 rw [if_neg d1]
 by_cases d2:r=92
 ·rw [if_pos d2];exact same _ rfl rfl rfl
 rw [if_neg d2]
 by_cases d3:r<32∨r=127
 ·rw [if_pos d3];exact same _ rfl rfl rfl
 ·rw [if_neg d3];exact more _ r rfl (runeV_ok hr) rfl rfl
theorem runesL_34 (t:List UInt8):runesL (34::t) 0=34::runesL t 0:=by
 have h:=encR_step (r:=34) (by right;omega) t
 have e:encR 34=[34]:=by decide
 rw [e] at h
 have h2:=runesL_app [34] t t.length 0 (by omega)
 rw [runesL_in (by simp),show (34::t)=[34]++t from rfl,h]
 simp only [List.length_cons,List.length_nil,Nat.zero_add,Nat.add_zero] at h2 ⊢
 rw [h2]
theorem stepR_plain34 (s:List UInt8) (h:(stepR s 0).1=34):byt s 0=34:=by
 have ff: ∀n r0 least,128≤least→(stepF s 0 n r0 least).1=34→False:=by
  intro n r0 least hl e
  unfold stepF at e
  split at e
  ·rename_i c
   rw [Bool.and_eq_true] at c
   have:=isRune_le c.2
   dsimp only at e
   omega
  ·dsimp only at e;omega
 unfold stepR at h
 simp only at h
 split at h
 ·dsimp only at h;omega
 ·split at h
  ·exact (ff _ _ _ (by omega) h).elim
  ·split at h
   ·exact (ff _ _ _ (by omega) h).elim
   ·split at h
    ·exact (ff _ _ _ (by omega) h).elim
    ·dsimp only at h;omega
theorem head_34 (s:List UInt8):Lib.hasPrefix s [34]=decide ((runesL s 0).head?=some 34):=by
 cases s with
 |nil=>rw [runesL_out (by simp)];rfl
 |cons b t=>
  by_cases c:b=34
  ·subst c
   rw [runesL_34]
   simp [Lib.hasPrefix]
  ·have h1:Lib.hasPrefix (b::t) [34]=false:=by
    unfold Lib.hasPrefix
    show ((34:UInt8)==b&&([]:List UInt8).isPrefixOf t)=false
    rw [beq_eq_false_iff_ne.2 (fun h=>c h.symm),Bool.false_and]
   rw [h1,runesL_in (by simp)]
   symm
   rw [decide_eq_false_iff_not]
   intro h
   have h:(stepR (b::t) 0).1=34:=by simpa using h
   have:=stepR_plain34 (b::t) h
   apply c
   have hb:byt (b::t) 0=b.toNat:=rfl
   rw [hb] at this
   exact UInt8.toNat_inj.1 (by rw [this];rfl)
theorem good_all {l:List Int} (h:goodR l=true): ∀r∈l,r≠ -1:=by
 intro r hr e
 unfold goodR at h
 have:=of_decide_eq_true (List.all_eq_true.1 h r hr)
 omega
end Go.Ai
namespace Go.Ai
open Go.Proofs Go.Shelf
theorem stR_spec {d:Nat} {b:Id} (hit:b.isIt=false) (hnwb:b.isNw d=false) {c0:AV} (rest:List AV) (l:List UInt8) (h0:l≠[]):
  SpH Tryz.prog gl 40 d ⟨[.ptr b 0],[(b,c0:: .sl (byteRows l)::rest)],[(.b b 1,bk 5)]⟩ ⟨.str l,[(b,c0:: .sl (byteRows l)::rest)],[]⟩:=
 st_shelf (L:={laysJoin with}) extraJ (by kernel_rfl) (by kernel_rfl) hit hnwb (rest:=rest) l h0
theorem st0R_spec {d:Nat} {b:Id} (hit:b.isIt=false) (hnwb:b.isNw d=false) {c0:AV} (rest:List AV):
  SpH Tryz.prog gl 40 d ⟨[.ptr b 0],[(b,c0:: .nils::rest)],[]⟩ ⟨.str [],[(b,c0:: .nils::rest)],[]⟩:=
 st0_shelf (L:={laysJoin with}) extraJ (by kernel_rfl) (by kernel_rfl) hit hnwb (rest:=rest)
theorem textR_ne (r:Int) (l:List Int):textR (r::l)≠[]:=by
 intro h
 have:=encR_pos r
 have e:(textR (r::l)).length=0:=by rw [h];rfl
 rw [textR,List.length_append] at e
 omega
set_option maxHeartbeats 1000000 in
theorem tunquote_spec (s:List UInt8) (hl:s.length≤200000):Sp Tryz.prog gl 196 [.str s] (.tup [.str (unqF (runesL s 0)).1,i6 (unqF (runesL s 0)).2]):=by
 refine s196 rfl rfl ?_
 have CP:=cutP_spec s [34]
 have GO:=tgood_spec s (by omega)
 rw [head_34] at CP
 unfold unqF
 by_cases c1:(runesL s 0).head?=some 34
 ·rw [decide_eq_true c1] at CP
  cases hg:goodR (runesL s 0)
  ·rw [hg] at GO
   rw [if_pos (.inl rfl)]
   generalize Lib.trimPrefix s [34]=t at *
   simp -implicitDefEqProofs [c196]
   refine onC_mk _ (CP) ?_
   simp -implicitDefEqProofs
   refine onC_mk _ (GO) ?_
   simp -implicitDefEqProofs
  ·rw [hg] at GO
   rw [if_neg (by rintro (h|h);cases h;exact h c1)]
   obtain ⟨t,ht⟩: ∃t,s=34::t:=by
    have:=head_34 s
    rw [decide_eq_true c1] at this
    cases s with
    |nil=>cases this
    |cons b t=>
     unfold Lib.hasPrefix at this
     have h2:((34:UInt8)==b&&([]:List UInt8).isPrefixOf t)=true:=this
     rw [Bool.and_eq_true,beq_iff_eq] at h2
     exact ⟨t,by rw [h2.1]⟩
   have et:Lib.trimPrefix s [34]=t:=by
    unfold Lib.trimPrefix
    rw [head_34,decide_eq_true c1,if_pos rfl,ht]
    rfl
   have er:(runesL s 0).tail=runesL t 0:=by rw [ht,runesL_34];rfl
   have hok: ∀r∈runesL t 0,runeV r:=by
    intro r hr
    have h1:=good_all hg r (by rw [ht,runesL_34];exact List.mem_cons_of_mem _ hr)
    have h2:=runesL_okR t t.length 0 (by omega) r hr
    unfold runeV
    rcases h2 with h2|h2
    ·exact absurd h2 h1
    ·omega
   have htl:t.length≤200000:=by rw [ht] at hl;simp at hl;omega
   rw [et] at CP
   rw [er]
   clear er et ht hg c1
   obtain ⟨R,hR⟩: ∃R,R=unRun rd0 (runesL t 0):=⟨_,rfl⟩
   rw [←hR]
   simp -implicitDefEqProofs [c196]
   refine onC_mk _ (CP) ?_
   simp -implicitDefEqProofs
   refine onC_mk _ (GO) ?_
   simp -implicitDefEqProofs
   refine wp_lpk (α:=Rd×Nat) (fun y=>⟨[(6,.ptr (.n 23) 0),(25,.itp 25)],[(.n 23,rdBx (.n 23) y.1),(.it 25,[.itr t y.2])],rdPm (.n 23) y.1.out⟩)
    (fun y=>RdOk y.1 y.2∧y.2≤t.length∧unRun y.1 (runesL t y.2)=R∧ ∀r∈runesL t y.2,runeV r) (fun y=>t.length - y.2) ?_ (rd0,0) ?_ ?_
   ·rintro K ⟨x,i⟩ hK ⟨h1,h2,h3,h4⟩
    simp only at h1 h2 h3 h4
    by_cases g:i<t.length
    ·have sr:=step_r65 t i g
     have sp:=stepR_pos t i
     have sw:=stepR_le t i g
     rw [runesL_in g] at h3 h4
     have hv:=h4 (stepR t i).1 (by simp)
     have e65:r65 (stepR t i).1=(stepR t i).1:=by unfold r65;rw [if_neg];unfold runeV at hv;omega
     rw [e65] at sr
     have T:=fun (e:Nat) (he:(Id.n 23).isNw e=false)=>rtakeU_spec x (by have:=h1.o;omega) h1.c h1.n (stepR t i).1 hv e (.n 23) rfl he
     have ok:=h1.step hv (stepR t i).2 sp
     have fin:unRun (takeU x (stepR t i).1).1 (runesL t (i+(stepR t i).2))=R→ ∀σ',Weak σ' ⟨[(6,.ptr (.n 23) 0),(25,.itp 25)],[(.n 23,rdBx (.n 23) (takeU x (stepR t i).1).1),(.it 25,[.itr t (i+(stepR t i).2)])],rdPm (.n 23) (takeU x (stepR t i).1).1.out⟩→K σ':=
      fun hh σ' hσ=>hK ((takeU x (stepR t i).1).1,i+(stepR t i).2) σ' ⟨ok,sw,hh,fun r hr=>h4 r (List.mem_cons_of_mem _ hr)⟩ (by simp only;omega) hσ
     rw [unRun] at h3
     clear hK hR ok h4 hv
     generalize (stepR t i).1=r at *
     generalize (stepR t i).2=w at *
     generalize (takeU x r).2=okk at *
     generalize (takeU x r).1=y at *
     cases okk
     ·rw [if_neg (by decide)] at h3
      subst h3
      dsimp only
      rw [if_pos rfl]
      clear fin
      unfold rdBx at *
      cases hx:x.out with
      |nil=>
       rw [hx] at T
       cases hy:y.out with
       |nil=>
        rw [hy] at T
        simp only [rdHd,rdPm,List.cons_append,List.nil_append] at T ⊢
        simp -implicitDefEqProofs [g,sr]
        refine onH_mk _ _ (T _ rfl) ⟨?_,?_,?_,?_,?_,?_,?_⟩ ?_
        iterate 7 (· simp)
        simp -implicitDefEqProofs
       |cons a2 l2=>
        rw [hy] at T
        simp only [rdHd,rdPm,List.cons_append,List.nil_append] at T ⊢
        generalize byteRows (textR (a2::l2))=B1 at *
        simp -implicitDefEqProofs [g,sr]
        refine onH_mk _ _ (T _ rfl) ⟨?_,?_,?_,?_,?_,?_,?_⟩ ?_
        iterate 7 (· simp)
        simp -implicitDefEqProofs
      |cons a l=>
       rw [hx] at T
       cases hy:y.out with
       |nil=>
        rw [hy] at T
        simp only [rdHd,rdPm,List.cons_append,List.nil_append] at T ⊢
        generalize byteRows (textR (a::l))=B0 at *
        simp -implicitDefEqProofs [g,sr]
        refine onH_mk _ _ (T _ rfl) ⟨?_,?_,?_,?_,?_,?_,?_⟩ ?_
        iterate 7 (· simp)
        simp -implicitDefEqProofs
       |cons a2 l2=>
        rw [hy] at T
        simp only [rdHd,rdPm,List.cons_append,List.nil_append] at T ⊢
        generalize byteRows (textR (a2::l2))=B1 at *
        generalize byteRows (textR (a::l))=B0 at *
        simp -implicitDefEqProofs [g,sr]
        refine onH_mk _ _ (T _ rfl) ⟨?_,?_,?_,?_,?_,?_,?_⟩ ?_
        iterate 7 (· simp)
        simp -implicitDefEqProofs
     ·rw [if_pos rfl] at h3
      have fin:=fin h3
      clear h3
      generalize (if R.2=false then _ else _:List UInt8×Int)=res
      unfold rdBx at *
      cases hx:x.out with
      |nil=>
       rw [hx] at T
       cases hy:y.out with
       |nil=>
        rw [hy] at T fin
        simp only [rdHd,rdPm,List.cons_append,List.nil_append] at T fin ⊢
        simp -implicitDefEqProofs [g,sr]
        refine onH_mk _ _ (T _ rfl) ⟨?_,?_,?_,?_,?_,?_,?_⟩ ?_
        iterate 7 (· simp)
        simp -implicitDefEqProofs
        refine fin _ ?_
        refine weak_mk ?_ ?_ ?_ ?_ ?_ ?_<;>simp -implicitDefEqProofs
       |cons a2 l2=>
        rw [hy] at T fin
        simp only [rdHd,rdPm,List.cons_append,List.nil_append] at T fin ⊢
        generalize byteRows (textR (a2::l2))=B1 at *
        simp -implicitDefEqProofs [g,sr]
        refine onH_mk _ _ (T _ rfl) ⟨?_,?_,?_,?_,?_,?_,?_⟩ ?_
        iterate 7 (· simp)
        simp -implicitDefEqProofs
        refine fin _ ?_
        refine weak_mk ?_ ?_ ?_ ?_ ?_ ?_<;>simp -implicitDefEqProofs
      |cons a l=>
       rw [hx] at T
       cases hy:y.out with
       |nil=>
        rw [hy] at T fin
        simp only [rdHd,rdPm,List.cons_append,List.nil_append] at T fin ⊢
        generalize byteRows (textR (a::l))=B0 at *
        simp -implicitDefEqProofs [g,sr]
        refine onH_mk _ _ (T _ rfl) ⟨?_,?_,?_,?_,?_,?_,?_⟩ ?_
        iterate 7 (· simp)
        simp -implicitDefEqProofs
        refine fin _ ?_
        refine weak_mk ?_ ?_ ?_ ?_ ?_ ?_<;>simp -implicitDefEqProofs
       |cons a2 l2=>
        rw [hy] at T fin
        simp only [rdHd,rdPm,List.cons_append,List.nil_append] at T fin ⊢
        generalize byteRows (textR (a2::l2))=B1 at *
        generalize byteRows (textR (a::l))=B0 at *
        simp -implicitDefEqProofs [g,sr]
        refine onH_mk _ _ (T _ rfl) ⟨?_,?_,?_,?_,?_,?_,?_⟩ ?_
        iterate 7 (· simp)
        simp -implicitDefEqProofs
        refine fin _ ?_
        refine weak_mk ?_ ?_ ?_ ?_ ?_ ?_<;>simp -implicitDefEqProofs
    ·rw [runesL_out g,unRun] at h3
     subst h3
     dsimp only
     rw [if_neg (by decide)]
     clear hK
     have tl:=textR_len x.out
     have ol:=h1.o
     have TC:=tcount_spec (textR x.out) (by omega)
     rw [runesL_textR x.out h1.k] at TC
     unfold rdBx
     by_cases c4:x.st=4
     ·rw [if_pos c4]
      have c4':(x.st !=4)=false:=by rw [c4];rfl
      by_cases c5:120<x.out.length
      ·rw [if_pos c5]
       have c5':(120:Int)<x.out.length:=by omega
       cases hx:x.out with
       |nil=>rw [hx] at c5;simp at c5
       |cons a l=>
        have S:=fun (e:Nat) (he:(Id.n 23).isNw e=false)=>stR_spec (d:=e) (b:= .n 23) rfl he (c0:= .ptr (.n 23) 0) [i6 x.st,i3 x.n,i6 x.c] (textR (a::l)) (textR_ne a l)
        rw [hx] at TC c5 c5'
        simp only [rdHd,rdPm,List.cons_append,List.nil_append]
        generalize (a::l).length=n at *
        generalize textR (a::l)=T at *
        generalize byteRows T=B0 at *
        simp -implicitDefEqProofs [g]
        refine onH_mk _ _ (S _ rfl) ⟨?_,?_,?_,?_,?_,?_,?_⟩ ?_
        iterate 7 (· simp)
        simp -implicitDefEqProofs [c4,c4']
        refine onC_mk _ (TC) ?_
        simp -implicitDefEqProofs [c5,c5']
      ·rw [if_neg c5]
       have c5': ¬(120:Int)<x.out.length:=by omega
       cases hx:x.out with
       |nil=>
        have S:=fun (e:Nat) (he:(Id.n 23).isNw e=false)=>st0R_spec (d:=e) (b:= .n 23) rfl he (c0:= .nilT (.n 23) 260 5) [i6 x.st,i3 x.n,i6 x.c]
        rw [hx] at TC c5'
        rw [show textR []=[] from rfl] at TC ⊢
        simp only [rdHd,rdPm,List.cons_append,List.nil_append]
        simp -implicitDefEqProofs [g]
        refine onH_mk _ _ (S _ rfl) ⟨?_,?_,?_,?_,?_,?_,?_⟩ ?_
        iterate 7 (· simp)
        simp -implicitDefEqProofs [c4,c4']
        refine onC_mk _ (TC) ?_
        simp -implicitDefEqProofs
       |cons a l=>
        have S:=fun (e:Nat) (he:(Id.n 23).isNw e=false)=>stR_spec (d:=e) (b:= .n 23) rfl he (c0:= .ptr (.n 23) 0) [i6 x.st,i3 x.n,i6 x.c] (textR (a::l)) (textR_ne a l)
        rw [hx] at TC c5 c5'
        simp only [rdHd,rdPm,List.cons_append,List.nil_append]
        generalize (a::l).length=n at *
        generalize textR (a::l)=T at *
        generalize byteRows T=B0 at *
        simp -implicitDefEqProofs [g]
        refine onH_mk _ _ (S _ rfl) ⟨?_,?_,?_,?_,?_,?_,?_⟩ ?_
        iterate 7 (· simp)
        simp -implicitDefEqProofs [c4,c4']
        refine onC_mk _ (TC) ?_
        simp -implicitDefEqProofs [c5,c5']
     ·rw [if_neg c4]
      have c4':(x.st !=4)=true:=bne_iff_ne.2 c4
      have c4'':(x.st==4)=false:=beq_eq_false_iff_ne.2 c4
      cases hx:x.out with
      |nil=>
       have S:=fun (e:Nat) (he:(Id.n 23).isNw e=false)=>st0R_spec (d:=e) (b:= .n 23) rfl he (c0:= .nilT (.n 23) 260 5) [i6 x.st,i3 x.n,i6 x.c]
       simp only [rdHd,rdPm,List.cons_append,List.nil_append]
       simp -implicitDefEqProofs [g]
       refine onH_mk _ _ (S _ rfl) ⟨?_,?_,?_,?_,?_,?_,?_⟩ ?_
       iterate 7 (· simp)
       simp -implicitDefEqProofs [c4,c4',c4'']
      |cons a l=>
       have S:=fun (e:Nat) (he:(Id.n 23).isNw e=false)=>stR_spec (d:=e) (b:= .n 23) rfl he (c0:= .ptr (.n 23) 0) [i6 x.st,i3 x.n,i6 x.c] (textR (a::l)) (textR_ne a l)
       simp only [rdHd,rdPm,List.cons_append,List.nil_append]
       generalize textR (a::l)=T at *
       generalize byteRows T=B0 at *
       simp -implicitDefEqProofs [g]
       refine onH_mk _ _ (S _ rfl) ⟨?_,?_,?_,?_,?_,?_,?_⟩ ?_
       iterate 7 (· simp)
       simp -implicitDefEqProofs [c4,c4',c4'']
   ·exact ⟨⟨Nat.zero_le _,Nat.zero_le _,by decide,by intro r hr;cases hr⟩,Nat.zero_le _,hR.symm,hok⟩
   ·refine weak_mk ?_ ?_ ?_ ?_ ?_ ?_<;>simp -implicitDefEqProofs [rdBx,rdHd,rdPm,rd0]
 ·rw [decide_eq_false c1] at CP
  rw [if_pos (.inr c1)]
  generalize Lib.trimPrefix s [34]=t at *
  simp -implicitDefEqProofs [c196]
  refine onC_mk _ (CP) ?_
  simp -implicitDefEqProofs
end Go.Ai
namespace Go.Ai
open Go.Proofs Go.Shelf
end Go.Ai
namespace Go.Ai
open Go.Proofs Go.Shelf
open Go.Proofs
def sU (w:List UInt8):List UInt8×Int:=unqF (runesL w 0)
open Go.Proofs
theorem item_ok (f:Nat) (hL: ∀g,g<f→LOk g):IOk f:=by
 intro d x l n D b hb hbd hd hn
 refine ⟨fun o l' n' h=>?_,fun c t l' n' h=>?_⟩
 ·refine h81 rfl ?_
  refine item_wp f d x l n D b hb hbd hd hn hL _ _ (by rw [h];simp) (fun o2 l2 n2 h2 σ hp=>?_) (fun c t l' n' h2=>by rw [h] at h2;cases h2)
  rw [h] at h2
  cases h2
  exact hp
 ·refine t81 rfl ?_
  refine item_wp f d x l n D b hb hbd hd hn hL _ _ (by rw [h];simp) (fun o2 l2 n2 h2=>by rw [h] at h2;cases h2) (fun c2 t2 l2 n2 h2 v σ hp=>?_)
  rw [h] at h2
  cases h2
  exact hp
theorem p_ok: ∀f,LOk f∧IOk f:=by
 intro f
 induction f using Nat.strongRecOn with
 |ind f ih=>exact ⟨list_ok f fun g hg=>(ih g hg).2,item_ok f fun g hg=>(ih g hg).1⟩
theorem rec_nil (V:List (List AV)) (a b c:Int) (dm:Nat):SpD Tryz.prog gl 48 dm ⟨[.ptr (.up (.n 2)) 0,.ptr (.up (.n 3)) 0],[(.up (.n 2),[.sl V]),(.up (.n 3),[i6 a,i6 b,i6 c])],[]⟩ .nili ⟨.tup [],[(.up (.n 2),[.sl V]),(.up (.n 3),[i6 a,i6 b,i6 c])],[]⟩:=by
 refine d48 rfl rfl ?_
 simp only [inSt,mpB,mpL,AV.mp,mpP,Pl.mp]
 simp -implicitDefEqProofs [l48,c48]
 refine postH_n ⟨?_,?_,?_,?_,?_,?_⟩<;>simp -implicitDefEqProofs
theorem rec_flt (a b c:Int) (e:Int) (t:Tk) (dm:Nat):SpD Tryz.prog gl 48 dm ⟨[.ptr (.up (.n 2)) 0,.ptr (.up (.n 3)) 0],[(.up (.n 2),[.nils]),(.up (.n 3),[i6 a,i6 b,i6 c])],[]⟩ (fltV e t) ⟨.tup [],[(.up (.n 2),[.nils]),(.up (.n 3),[i6 e,i6 t.ln,i6 t.co])],[]⟩:=by
 refine d48 rfl rfl ?_
 unfold fltV
 simp only [inSt,mpB,mpL,AV.mp,mpP,Pl.mp]
 simp -implicitDefEqProofs [l48,c48]
 refine postH_n ⟨?_,?_,?_,?_,?_,?_⟩<;>simp -implicitDefEqProofs
section
variable {S SP:Nat→Nat→In→Out→Prop} {SD:Nat→Nat→In→AV→Out→Prop} {N sl dm d:Nat} {rs:List AR} {O:Out} {σ:St}
theorem wpDf_sq {a:AC} {r:ACD}:wpDf S SP SD N sl dm d rs O (.sq a r) σ=wpA S a (fun e σ'=>match e with | .n=>wpDf S SP SD N sl dm d rs O r σ'| .r=>postH d rs O .r σ'| .x _=>False) σ:=rfl
theorem wpDf_df {l:List AOp} {x:X} {c2:AC2}:wpDf S SP SD N sl dm d rs O (.df l x c2) σ=wpL S l (fun σ'=>match σ'.v x with
  | .fn g caps=> ∃I M,I.vs.length=N∧CallOk sl σ' ((List.range N).map X.s) I M∧postH d [.t sl] O .r (callSt sl σ' ((List.range N).map X.s) I M)∧
    wpA2 S SP (fun v τ=>(∃T y,v= .ifc T y)∧leftD SD sl dm rs M g caps v τ) c2 (fun e τ=>match e with | .x _=>False|_=>leftD SD sl dm rs M g caps .nili τ) (inSt I)
  |_=>False) σ:=rfl
end
theorem xs22:(List.range 22).map X.s=[.s 0,.s 1,.s 2,.s 3,.s 4,.s 5,.s 6,.s 7,.s 8,.s 9,.s 10,.s 11,.s 12,.s 13,.s 14,.s 15,.s 16,.s 17,.s 18,.s 19,.s 20,.s 21]:=rfl
def parseV (x:List It×Int×Int×Int):AV:= .tup [.sl (itRows x.1),.agg [i6 x.2.1,i6 x.2.2.1,i6 x.2.2.2]]
def parseX (x:TR):List It×Int×Int×Int:=
 if x.c≠0 then ([],x.c,x.a,x.b)
 else match pL (2*x.l.length+3) 1 0 [] x.l 0 with
  | .ok o _ _=>(o,0,0,0)
  | .th c t _ _=>([],c,t.ln,t.co)
  | .no=>([],0,0,0)
set_option maxHeartbeats 2000000 in
theorem parse_of (s:List UInt8) (x:TR) (TK:Sp Tryz.prog gl 47 [.str s] x.av) (hno:x.c=0→pL (2*x.l.length+3) 1 0 [] x.l 0≠ .no):Sp Tryz.prog gl 22 [.str s] (parseV (parseX x)):=by
 refine Sp.of_h fun D=>?_
 refine x22 1 1 (by decide) (by decide) rfl ?_
 unfold parseX parseV
 obtain ⟨xl,xc,xa,xb⟩:=x
 unfold TR.av at TK
 simp only at *
 simp only [inSt,mpB,mpL,AV.mp,mpP,Pl.mp,c22,wpDf_sq]
 by_cases h0:xc=0
 ·subst h0
  have hno:=hno rfl
  simp -implicitDefEqProofs
  refine onC_mk _ (TK) ?_
  simp -implicitDefEqProofs
  have hL:=fun D h=>(p_ok (2*xl.length+3)).1 1 0 xl 0 D (.n 18) rfl h (by decide) (by decide)
  unfold paB at hL
  cases hP:pL (2*xl.length+3) 1 0 [] xl 0 with
  |no=>exact absurd hP hno
  |ok o l' n'=>
   have LO:=fun D h=>(hL D h).1 _ _ _ hP
   clear hL hno hP
   dsimp only
   generalize itRows o=OR at *
   generalize List.map Tk.row xl=XL at *
   generalize List.map Tk.row l'=L1 at *
   rw [wpDf_df,xs22]
   simp -implicitDefEqProofs
   refine ⟨⟨[.str s,.undef,.ptr (.n 2) 0,.ptr (.n 3) 0,.sl XL,.undef,.tup [.sl XL,.agg [i6 0,i6 xa,i6 xb]],.str s,.tup [.sl XL,.agg [i6 0,i6 xa,i6 xb]],.sl XL,.agg [i6 0,i6 xa,i6 xb],.ptr (.n 3) 0,i6 0,.bool false,.undef,.fn 48 [.ptr (.n 2) 0,.ptr (.n 3) 0],.undef,.undef,.undef,.undef,.undef,.undef],[(.n 2,[.nils]),(.n 3,[i6 0,i6 xa,i6 xb])],[]⟩,rfl,⟨.tup [.sl OR,.agg [i6 0,i6 0,i6 0]],[(.n 2,[.sl OR]),(.n 3,[i6 0,i6 0,i6 0])],[]⟩,⟨?_,?_,?_,?_,?_,?_,?_⟩,?_,?_⟩
   iterate 7 (· simp)
   ·refine postH_r ⟨?_,?_,?_,?_,?_,?_⟩<;>simp -implicitDefEqProofs
   ·simp
    refine onP_h _ _ (LO _ rfl) ⟨?_,?_,?_,?_,?_,?_,?_⟩ ?_
    iterate 7 (· simp)
    simp -implicitDefEqProofs
    refine ⟨_,_,rec_nil OR 0 0 0 1,⟨?_,?_,?_,?_,?_,?_,?_⟩,?_⟩
    iterate 7 (· simp)
    refine postH_r ⟨?_,?_,?_,?_,?_,?_⟩<;>simp -implicitDefEqProofs
  |th c t l' n'=>
   have LT:=fun D h=>(hL D h).2 _ _ _ _ hP
   clear hL hno hP
   dsimp only
   have RF:=rec_flt 0 xa xb c t 1
   generalize List.map Tk.row xl=XL at *
   generalize List.map Tk.row l'=L1 at *
   obtain ⟨tk,tt,tn,tl,tc⟩:=t
   unfold fltV at *
   dsimp only at *
   rw [wpDf_df,xs22]
   simp -implicitDefEqProofs
   refine ⟨⟨[.str s,.undef,.ptr (.n 2) 0,.ptr (.n 3) 0,.sl XL,.undef,.tup [.sl XL,.agg [i6 0,i6 xa,i6 xb]],.str s,.tup [.sl XL,.agg [i6 0,i6 xa,i6 xb]],.sl XL,.agg [i6 0,i6 xa,i6 xb],.ptr (.n 3) 0,i6 0,.bool false,.undef,.fn 48 [.ptr (.n 2) 0,.ptr (.n 3) 0],.undef,.undef,.undef,.undef,.undef,.undef],[(.n 2,[.nils]),(.n 3,[i6 0,i6 xa,i6 xb])],[]⟩,rfl,⟨.tup [.sl [],.agg [i6 c,i6 tl,i6 tc]],[(.n 2,[.nils]),(.n 3,[i6 c,i6 tl,i6 tc])],[]⟩,⟨?_,?_,?_,?_,?_,?_,?_⟩,?_,?_⟩
   iterate 7 (· simp)
   ·refine postH_r ⟨?_,?_,?_,?_,?_,?_⟩<;>simp -implicitDefEqProofs [itRows]
   ·simp
    refine onP_t _ _ (LT _ rfl) ⟨?_,?_,?_,?_,?_,?_,?_⟩ rfl ?_
    iterate 7 (· simp)
    refine ⟨⟨_,_,rfl⟩,_,_,RF,⟨?_,?_,?_,?_,?_,?_,?_⟩,?_⟩
    iterate 7 (· simp)
    refine postH_r ⟨?_,?_,?_,?_,?_,?_⟩<;>simp -implicitDefEqProofs
 ·have h0':(xc !=0)=true:=by simpa using h0
  rw [if_pos h0]
  generalize List.map Tk.row xl=XL at *
  simp -implicitDefEqProofs
  refine onC_mk _ (TK) ?_
  simp -implicitDefEqProofs [h0,h0']
  refine postH_r ⟨?_,?_,?_,?_,?_,?_⟩<;>simp -implicitDefEqProofs [itRows]
open Go.Proofs
structure OkTk (t:Tk):Prop where
 k:1≤t.k∧t.k≤9
 nm:t.k=1→t.n=0
 br:7≤t.k→t.t=[]∧t.n=0
def endTk (t:Tk):Prop:=t.k=0∧t.t=[]∧t.n=0
end Go.Ai
namespace Go.Ai
structure Src (l:List Tk):Prop where
 h: ∃o z,l=o++[z]∧(∀t∈o,OkTk t)∧endTk z
theorem Src.ne {l:List Tk} (h:Src l):l≠[]:=by
 obtain ⟨o,z,rfl,_⟩:=h
 simp
theorem Src.cons {t:Tk} {r:List Tk} (h:Src (t::r)):(r=[]∧endTk t∧nxt (t::r)=[t])∨(OkTk t∧Src r∧nxt (t::r)=r):=by
 obtain ⟨o,z,e,ho,hz⟩:=h
 cases o with
 |nil=>
  rw [List.nil_append] at e
  injection e with e1 e2
  subst e1;subst e2
  exact .inl ⟨rfl,hz,rfl⟩
 |cons a o=>
  rw [List.cons_append] at e
  injection e with e1 e2
  subst e1;subst e2
  refine .inr ⟨ho _ (by simp),⟨o,z,rfl,fun t ht=>ho t (by simp [ht]),hz⟩,?_⟩
  cases o with
  |nil=>rfl
  |cons b o=>rfl
open Go.Proofs
end Go.Ai
namespace Go.Ai
open Go.Proofs
end Go.Ai
