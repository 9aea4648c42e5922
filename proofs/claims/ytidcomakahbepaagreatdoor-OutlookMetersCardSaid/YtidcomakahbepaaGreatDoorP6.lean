/- P6: a part of the proof: the rules, or what functions compute. Conditions: as each theorem says. -/
import Derived.Test.YtidcomakahbepaaGreatDoorP5
import Derived.Test.YtidcomakahbepaaGreatDoorCode
import Derived.Test.YtidcomakahbepaaGreatDoorAiShelf2
import Derived.Shelf.SlicesE.Compact
import Derived.Shelf.SortM.Plain
import Derived.Shelf.SortM.SortNone
import Derived.Test.YtidcomakahbepaaGreatDoorP3
set_option linter.unusedSimpArgs false
set_option linter.unusedVariables false
set_option maxRecDepth 20000
namespace Go.Ai
open Go.Proofs
def evRow (e:Ev):List AV:=[i6 e.1,u e.2.1,u e.2.2]
def evRows (L:List Ev):List (List AV):=L.map evRow
theorem evRows_len (L:List Ev):(evRows L).length=L.length:=by simp [evRows]
theorem evRows_3 (L:List Ev): ∀r∈evRows L,r.length=3:=by
 intro r hr;simp only [evRows,List.mem_map] at hr;obtain ⟨e,_,rfl⟩:=hr;rfl
theorem evRows_at (L:List Ev) (k:Nat) (h:k<L.length):(evRows L)[k]?=some (evRow L[k]):=by simp [evRows,h]
def xC (x:Gl) (t:Nat) (sd:Bool) (L:List Ev):List AV:=
 [.str x.n,.int .u32 x.t,i6 x.g,i6 x.a,i6 x.o,i6 x.c,.sl (x.lb.map Lb.row),.sl (x.ru.map Ru.row),i6 t,.bool sd,.sl (evRows L)]
def yC (wd g t:Nat) (L:List Ev):List AV:=[i6 wd,i6 g,i6 t,.sl (evRows L)]
theorem xring_spec (X:Id) (hX:X.isIt=false) (x:Gl) (g:Nat) (hg:x.g=(g:Nat)) (t:Nat) (sd:Bool) (L:List Ev) (wd:Nat) (d:Nat) (hd:X.isNw d=false):
  SpH Tryz.prog gl 61 d ⟨[.ptr X 0,i6 wd],[(X,xC x t sd L)],[(.b X 10,3)]⟩ ⟨.ptr (.nw d (.n 20)) 0,[(X,xC x t sd L),(.nw d (.n 20),yC wd g t L)],[(.b X 10,3)]⟩:=by
 refine h61 rfl ?_
 have hi:=inn_notNw hd
 have hn: ¬X= .nw d (.n 20):=fun e=>by rw [e] at hd;simp at hd
 have hn': ¬Id.nw d (.n 20)=X:=fun e=>hn e.symm
 simp only [xC,yC,hg]
 generalize evRows L=rows
 simp only [inSt,mpL,mpB,mpP,AV.mp,Pl.mp]
 simp -implicitDefEqProofs [c61]
 refine postH_r ⟨?_,?_,?_,?_,?_,?_⟩<;>simp -implicitDefEqProofs [hi,hX,hd,hn,hn']
theorem sm_take {v:Ev→Nat} {w:Nat} {p:Nat→Bool} {L:List Ev} {k:Nat} (h:k<L.length):sm v w p (L.take (k+1))=sm v w p (L.take k)+(if p (L[k].1 / w)=true then v L[k] else 0):=by
 rw [List.take_succ_eq_append_getElem h,sm_app]
 simp [sm]
theorem sm_part {v:Ev→Nat} {w:Nat} {p:Nat→Bool} {L:List Ev} (k:Nat):sm v w p (L.take k)≤sm v w p L:=by
 have:=sm_app v w p (L.take k) (L.drop k)
 rw [List.take_append_drop] at this
 omega
theorem ysum_spec (Y:Id) (hY:Y.isIt=false) (wd g:Nat) (hwd:Wd wd g) (t:Nat) (ht:t≤253402300799) (L:List Ev) (hL:EvLe L t) (hE:EvOk L) (hll:L.length≤1000000) (hs:sumT (wK wd g) (wW wd g) (t / wW wd g) L≤9223372036854775807) (d:Nat) (hd:Y.isNw d=false):
  SpH Tryz.prog gl 62 d ⟨[.ptr Y 0],[(Y,yC wd g t L)],[]⟩ ⟨.agg [u (sumG (wK wd g) (wW wd g) (t / wW wd g) L),u (sumT (wK wd g) (wW wd g) (t / wW wd g) L)],[(Y,yC wd g t L)],[]⟩:=by
 refine h62 rfl ?_
 have hi:=inn_notNw hd
 have WI:=fun a ha=>rwithin_spec wd g t a hwd ht ha
 have hGT:=sm_GT (w:=wW wd g) (p:=inW (wK wd g) (t / wW wd g)) hE
 have pG:=fun k=>sm_part (v:=eG) (w:=wW wd g) (p:=inW (wK wd g) (t / wW wd g)) (L:=L) k
 have pT:=fun k=>sm_part (v:=eT) (w:=wW wd g) (p:=inW (wK wd g) (t / wW wd g)) (L:=L) k
 have sG:=fun k h=>sm_take (v:=eG) (w:=wW wd g) (p:=inW (wK wd g) (t / wW wd g)) (L:=L) (k:=k) h
 have sT:=fun k h=>sm_take (v:=eT) (w:=wW wd g) (p:=inW (wK wd g) (t / wW wd g)) (L:=L) (k:=k) h
 have eGe:sumG (wK wd g) (wW wd g) (t / wW wd g) L=sm eG (wW wd g) (inW (wK wd g) (t / wW wd g)) (L.take L.length):=by rw [List.take_length];rfl
 have eTe:sumT (wK wd g) (wW wd g) (t / wW wd g) L=sm eT (wW wd g) (inW (wK wd g) (t / wW wd g)) (L.take L.length):=by rw [List.take_length];rfl
 have g0:sm eG (wW wd g) (inW (wK wd g) (t / wW wd g)) (L.take 0)=0:=rfl
 have t0:sm eT (wW wd g) (inW (wK wd g) (t / wW wd g)) (L.take 0)=0:=rfl
 have rl:=evRows_len L
 have r3:=evRows_3 L
 have rat:=evRows_at L
 unfold sumT at hs
 rw [eGe,eTe]
 clear eGe eTe
 generalize wW wd g=w at *
 generalize inW (wK wd g) (t / w)=p at *
 obtain ⟨FG,hFG⟩: ∃F:Nat→Nat,F=fun k=>sm eG w p (L.take k):=⟨_,rfl⟩
 obtain ⟨FT,hFT⟩: ∃F:Nat→Nat,F=fun k=>sm eT w p (L.take k):=⟨_,rfl⟩
 have hG: ∀k,sm eG w p (L.take k)=FG k:=fun k=>by rw [hFG]
 have hT: ∀k,sm eT w p (L.take k)=FT k:=fun k=>by rw [hFT]
 simp only [hG,hT] at pG pT sG sT g0 t0 ⊢
 have bG: ∀k,FG k≤9223372036854775807:=fun k=>Nat.le_trans (pG k) (Nat.le_trans hGT hs)
 have bT: ∀k,FT k≤9223372036854775807:=fun k=>Nat.le_trans (pT k) hs
 clear hG hT hFG hFT pG pT hGT hs
 simp only [yC]
 generalize hR:evRows L=rows at *
 simp only [inSt,mpL,mpB,mpP,AV.mp]
 simp -implicitDefEqProofs [c62]
 refine wp_lpk (α:=Nat) (fun k=>⟨[(0,.ptr (.up Y) 0),(2,.ptr (.n 2) 0),(3,.ptr (.n 3) 0),(4,i6 k)],[(.n 3,[u (FG k),u (FT k)]),(.n 2,[u 0,u 0]),(.up Y,[i6 wd,i6 g,i6 t,.sl rows])],[]⟩) (fun k=>k≤L.length) (fun k=>L.length - k) ?_ 0 ?_ ?_
 ·intro K k hK k1
  by_cases c:k<L.length
  ·have c':(k:Int)<L.length:=by omega
   have w1:IntKind.i64.wrap ((k:Int)+1)=(k+1:Nat):=by rw [wr]<;>omega
   have kl:k<rows.length:=by omega
   have ew0:=rat k c
   have ew:rows[k]'kl=evRow L[k]:=by rw [List.getElem?_eq_getElem kl] at ew0;exact Option.some.inj ew0
   have le:=hL L[k] (List.getElem_mem c)
   have WK:=WI L[k].1 (by omega)
   have e1:=sG k c
   have e2:=sT k c
   have b1:=bG (k+1)
   have b2:=bT (k+1)
   have fin:=fun σ' hσ=>hK (k+1) σ' (by omega) (by omega) hσ
   have ed:evRow L[k]=[i6 L[k].1,u L[k].2.1,u L[k].2.2]:=rfl
   have eg:eG L[k]=L[k].2.1:=rfl
   have et:eT L[k]=L[k].2.2:=rfl
   rw [ed] at ew ew0
   rw [eg] at e1
   rw [et] at e2
   clear hK sG sT bG bT WI rat ed eg et le hL hE
   generalize L[k].1=a at *
   generalize L[k].2.1=cg at *
   generalize L[k].2.2=ct at *
   cases hp:p (a / w) with
   |false=>
    rw [hp] at WK e1 e2
    simp only [Bool.false_eq_true,if_false,Nat.add_zero] at e1 e2
    rw [e1,e2] at fin
    simp -implicitDefEqProofs [rl,c,c',kl,ew,ew0,r3]
    refine onC_mk _ WK ?_
    simp -implicitDefEqProofs [w1]
    refine fin _ ?_
    refine weak_mk ?_ ?_ ?_ ?_ ?_ ?_<;>simp -implicitDefEqProofs [w1]
   |true=>
    rw [hp] at WK e1 e2
    simp only [if_true] at e1 e2
    have v1:IntKind.u64.wrap ((FG k:Int)+cg)=(FG (k+1):Nat):=by rw [wrap_u64]<;>omega
    have v2:IntKind.u64.wrap ((FT k:Int)+ct)=(FT (k+1):Nat):=by rw [wrap_u64]<;>omega
    clear e1 e2 b1 b2
    generalize FG (k+1)=G1 at *
    generalize FT (k+1)=T1 at *
    simp -implicitDefEqProofs [rl,c,c',kl,ew,ew0,r3]
    refine onC_mk _ WK ?_
    simp -implicitDefEqProofs [rl,c,c',kl,ew,ew0,r3,v1,v2,w1]
    refine fin _ ?_
    refine weak_mk ?_ ?_ ?_ ?_ ?_ ?_<;>simp -implicitDefEqProofs [w1]
  ·obtain rfl:k=L.length:=by omega
   clear hK
   have c': ¬((L.length:Int)<L.length):=by omega
   generalize FG L.length=G1 at *
   generalize FT L.length=T1 at *
   simp -implicitDefEqProofs [rl,c']
   refine postH_r ⟨?_,?_,?_,?_,?_,?_⟩<;>simp -implicitDefEqProofs [hi,hY,hd]
 ·exact Nat.zero_le _
 ·refine weak_mk ?_ ?_ ?_ ?_ ?_ ?_<;>simp -implicitDefEqProofs [g0,t0]
open Go.Proofs
theorem rmBs_filter: ∀(r l:List (Id×List AV)),rmBs l r=l.filter fun p=>!(lkB r p.1).isSome
 |[],l=>by
  simp only [rmBs,lkB]
  exact (List.filter_eq_self.2 fun _ _=>rfl).symm
 |(d,c)::r,l=>by
  have e: ∀(l:List (Id×List AV)),rmB l d=l.filter fun p=>!decide (p.1=d):=by
   intro l
   induction l with
   |nil=>rfl
   |cons x l ih=>
    obtain ⟨k,v⟩:=x
    simp only [rmB,List.filter_cons]
    by_cases h:k=d<;>simp [h,ih]
  simp only [rmBs]
  rw [rmBs_filter r,e,List.filter_filter]
  apply List.filter_congr
  intro p _
  simp only [lkB]
  by_cases h:d=p.1
  ·rw [if_pos h];simp [h]
  ·have h': ¬p.1=d:=fun q=>h q.symm
   rw [if_neg h];simp [h']
theorem rmBs_pre {pre l:List (Id×List AV)} (h: ∀p∈pre,lkB l p.1=none):rmBs (pre++l) l=pre:=by
 rw [rmBs_filter,List.filter_append]
 have e1:pre.filter (fun p=>!(lkB l p.1).isSome)=pre:=List.filter_eq_self.2 fun p hp=>by rw [h p hp];rfl
 have e2:l.filter (fun p=>!(lkB l p.1).isSome)=[]:=List.filter_eq_nil_iff.2 fun p hp=>by
  have:(lkB l p.1).isSome:=lkB_isSome hp
  simp [this]
 rw [e1,e2,List.append_nil]
theorem dlBs_off {l:List (Id×List AV)}: ∀ {pm:List (Pl×Nat)},(∀p∈pm,∀e∈p.1.ids,lkB l e=none)→dlBs pm l=pm:=by
 have one: ∀(d:Id) (pm:List (Pl×Nat)),(∀p∈pm,∀e∈p.1.ids,e≠d)→dlB pm d=pm:=by
  intro d pm
  induction pm with
  |nil=>intro _;rfl
  |cons x r ih=>
   intro h
   obtain ⟨q,k⟩:=x
   have ih:=ih fun p hp=>h p (List.mem_cons_of_mem _ hp)
   have hx:=h _ (List.mem_cons_self ..)
   cases q with
   |s t=>simp only [dlB,ih]
   |t t i=>simp only [dlB,ih]
   |b e o=>
    simp only [Pl.ids,List.mem_singleton] at hx
    simp only [dlB,ih,if_neg (hx e rfl)]
 induction l with
 |nil=>intro pm _;rfl
 |cons x l ih=>
  intro pm h
  obtain ⟨d,c⟩:=x
  simp only [dlBs]
  rw [one d pm fun p hp e he q=>by
   have:=h p hp e he
   simp only [lkB] at this
   rw [if_pos q.symm] at this;cases this]
  refine ih fun p hp e he=>?_
  have:=h p hp e he
  simp only [lkB] at this
  split at this
  ·cases this
  ·exact this
section
variable {P:Program} {GL:List (Nat×List Value)} {K:St→Prop} {σ:St} {f d:Nat} {xs:List X} {pre l l':List (Id×List AV)} {vs:List AV} {r:AV}
theorem callOk_pre (hσ:σ.bx=pre++l) (hpre: ∀p∈pre,lkB l p.1=none) (hu: ∀p∈l,lkB l p.1=some p.2) (hkeep: ∀i,(lkB l' i).isSome=(lkB l i).isSome) (hf: ∀p∈σ.bx,p.1.isNw d=false) (hv:wkL (xs.map σ.v) vs):
  CallOk d σ xs ⟨vs,l,[]⟩ ⟨r,l',[]⟩:=by
 refine ⟨hv,fun p hp=>?_,by simp,trivial,fun p hp=>?_,fun p hp=>?_,hf⟩
 ·have h2:=hu p hp
  have h3:lkB σ.bx p.1=some p.2:=by
   rw [hσ,lkB_app]
   cases h4:lkB pre p.1 with
   |none=>exact h2
   |some c=>
    have:=hpre _ (lkB_mem _ _ _ h4)
    simp only at this
    rw [h2] at this;cases this
  simp only [wkB,h3];exact wkL_rfl' _
 ·simp only [hkeep,hu p hp];rfl
 ·left;simp only [←hkeep];exact lkB_isSome hp
theorem callSt_pre (hσ:σ.bx=pre++l) (hpre: ∀p∈pre,lkB l p.1=none) (hpm: ∀p∈σ.pm,∀e∈p.1.ids,lkB l e=none):callSt d σ xs ⟨vs,l,[]⟩ ⟨r,l',[]⟩=⟨(d,r)::σ.e,l'++pre,dlS σ.pm d⟩:=by
 simp only [callSt,retP,dlXs,List.nil_append]
 rw [hσ,rmBs_pre hpre,dlBs_off hpm]
theorem onH_pre (S:SpH P GL f d ⟨vs,l,[]⟩ ⟨r,l',[]⟩) (hσ:σ.bx=pre++l) (hpre: ∀p∈pre,lkB l p.1=none) (hu: ∀p∈l,lkB l p.1=some p.2) (hkeep: ∀i,(lkB l' i).isSome=(lkB l i).isSome)
  (hf: ∀p∈σ.bx,p.1.isNw d=false) (hpm: ∀p∈σ.pm,∀e∈p.1.ids,lkB l e=none) (hv:wkL (xs.map σ.v) vs) (hk:K ⟨(d,r)::σ.e,l'++pre,dlS σ.pm d⟩):onH (SpH P GL) f d xs K σ:=by
 refine onH_mk _ _ S (callOk_pre hσ hpre hu hkeep hf hv) ?_
 rw [callSt_pre hσ hpre hpm];exact hk
theorem onQ_pre {fr:List Nat} (S:SpH P GL f d ⟨vs,l,[]⟩ ⟨r,l',[]⟩) (hσ:σ.bx=pre++l) (hpre: ∀p∈pre,lkB l p.1=none) (hu: ∀p∈l,lkB l p.1=some p.2) (hkeep: ∀i,(lkB l' i).isSome=(lkB l i).isSome)
  (hf: ∀p∈σ.bx,p.1.isNw d=false) (hpm: ∀p∈σ.pm,∀e∈p.1.ids,lkB l e=none) (hv:wkL (xs.map σ.v) vs) (hq: ∀p∈l',inF fr p.1=false) (hk:K ⟨(d,r)::σ.e,l'++pre,dlS σ.pm d⟩):onQ (SpH P GL) f d xs fr K σ:=by
 refine onQ_mk _ _ S (callOk_pre hσ hpre hu hkeep hf hv) ⟨by simp,by simp,hq⟩ ?_
 rw [callSt_pre hσ hpre hpm];exact hk
end
theorem mt_uniq {M A:Id} {R B:Nat→Id} (h:Nms M A R B) (mc ac:List AV) (C:Nat→Id→List AV) (D:Nat→List AV) (n:Nat): ∀p∈(M,mc)::(A,ac)::rgsB R B C D n,lkB ((M,mc)::(A,ac)::rgsB R B C D n) p.1=some p.2:=by
 intro p hp
 rcases List.mem_cons.1 hp with rfl|hp
 ·simp [lkB]
 ·rcases List.mem_cons.1 hp with rfl|hp
  ·simp only [lkB]
   rw [if_neg h.ma];simp
  ·obtain ⟨i,hi,e|e⟩:=mem_rgsB.1 hp
   ·subst e
    simp only [lkB]
    rw [if_neg (h.mr i),if_neg (h.ar i)]
    exact rgsB_R h n hi
   ·subst e
    simp only [lkB]
    rw [if_neg (h.mb i),if_neg (h.ab i)]
    exact rgsB_B h n hi
theorem rgs_keys {R B:Nat→Id} (C C':Nat→Id→List AV) (D D':Nat→List AV) (j:Id): ∀n,(lkB (rgsB R B C' D' n) j).isSome=(lkB (rgsB R B C D n) j).isSome
 |0=>rfl
 |n+1=>by
  have ih:=rgs_keys (R:=R) (B:=B) C C' D D' j n
  rw [rgsB_succ,rgsB_succ,lkB_app,lkB_app]
  cases h1:lkB (rgsB R B C' D' n) j with
  |some c=>
   rw [h1] at ih
   obtain ⟨c',h2⟩:=Option.isSome_iff_exists.1 ih.symm
   rw [h2];rfl
  |none=>
   rw [h1] at ih
   have h2:lkB (rgsB R B C D n) j=none:=by
    cases h3:lkB (rgsB R B C D n) j with
    |none=>rfl
    |some c=>rw [h3] at ih;cases ih
   rw [h2]
   simp only [lkB]
   split
   ·rfl
   ·split<;>rfl
theorem mt_keys {M A:Id} {R B:Nat→Id} (mc mc' ac ac':List AV) (C C':Nat→Id→List AV) (D D':Nat→List AV) (n:Nat) (j:Id):
  (lkB ((M,mc')::(A,ac')::rgsB R B C' D' n) j).isSome=(lkB ((M,mc)::(A,ac)::rgsB R B C D n) j).isSome:=by
 simp only [lkB]
 split
 ·rfl
 ·split
  ·rfl
  ·exact rgs_keys C C' D D' j n
theorem mt_none {M A:Id} {R B:Nat→Id} {mc ac:List AV} {C:Nat→Id→List AV} {D:Nat→List AV} {n s:Nat}:lkB ((Id.up M,mc)::(Id.up A,ac)::rgsB (fun i=> .up (R i)) (fun i=> .up (B i)) C D n) (.n s)=none:=by
 simp only [lkB]
 rw [if_neg (fun e=>by cases e),if_neg (fun e=>by cases e)]
 exact rgsB_none (fun i e=>by cases e) (fun i e=>by cases e) n
theorem mt_free {M A:Id} {R B:Nat→Id} {mc ac:List AV} {C:Nat→Id→List AV} {D:Nat→List AV} {n s:Nat}: ∀p∈(Id.up M,mc)::(Id.up A,ac)::rgsB (fun i=> .up (R i)) (fun i=> .up (B i)) C D n,p.1.isNw s=false:=by
 intro p hp
 rcases List.mem_cons.1 hp with rfl|hp
 ·rfl
 ·rcases List.mem_cons.1 hp with rfl|hp
  ·rfl
  ·exact rgs_free p.1 p.2 hp
open Go.Proofs
def addE (late:Int) (t:Nat) (a:Int) (cg ct:Nat):Int:=if ct<cg then 16 else if ¬(0≤a∧a≤253402300799) then 8 else if (t:Int)<a then 14 else if a<t - late then 13 else 0
theorem madd_bad (M A:Id) (h:Pr2 M A) (x:Gl) (hx:0≤x.a∧x.a≤86400) (n:Nat) (W:List (List AV)) (fr to cg0 ct0 t:Nat) (ht:t≤253402300799) (sd:Bool) (a:Int) (cg ct:Nat) (hb:addE x.a t a cg ct≠0) (d:Nat) (hd:M.isNw d=false):
  SpH Tryz.prog gl 23 d ⟨[.ptr M 0,i6 a,.agg [u cg,u ct]],[(M,mtC x A n W fr to cg0 ct0 t sd)],[]⟩ ⟨i6 (addE x.a t a cg ct),[(M,mtC x A n W fr to cg0 ct0 t sd)],[]⟩:=by
 refine h23 rfl ?_
 have hi:=inn_notNw hd
 have hdA:A.isNw d=false:=by rw [←h.nw];exact hd
 have hiA:=inn_notNw hdA
 have r1:=h.ri
 have b1:=h.bi
 have TK:=mtick_spec a
 have w1:IntKind.i64.wrap ((t:Int) - x.a)=(t:Int) - x.a:=wr (by omega) (by omega)
 simp only [mtC]
 simp only [inSt,mpL,mpB,mpP,AV.mp]
 unfold addE at hb ⊢
 by_cases g1:ct<cg
 ·have g1':(ct:Int)<cg:=by omega
  rw [if_pos g1]
  simp -implicitDefEqProofs [c23,g1,g1']
  refine postH_r ⟨?_,?_,?_,?_,?_,?_⟩<;>simp -implicitDefEqProofs [hi,hiA,r1,b1,hd,hdA]
 ·have g1': ¬(ct:Int)<cg:=by omega
  rw [if_neg g1] at hb ⊢
  by_cases g:0≤a∧a≤253402300799
  ·have tk:(decide (0≤a)&&decide (a≤253402300799))=true:=by simp [g]
   rw [tk] at TK
   rw [if_neg (fun e=>e g)] at hb ⊢
   by_cases g2:(t:Int)<a
   ·rw [if_pos g2]
    simp -implicitDefEqProofs [c23,g1,g1']
    refine onC_mk _ TK ?_
    simp -implicitDefEqProofs [g2]
    refine postH_r ⟨?_,?_,?_,?_,?_,?_⟩<;>simp -implicitDefEqProofs [hi,hiA,r1,b1,hd,hdA]
   ·rw [if_neg g2] at hb ⊢
    by_cases g3:a<t - x.a
    ·rw [if_pos g3]
     simp -implicitDefEqProofs [c23,g1,g1']
     refine onC_mk _ TK ?_
     simp -implicitDefEqProofs [g2]
     simp -implicitDefEqProofs [w1,g3]
     refine postH_r ⟨?_,?_,?_,?_,?_,?_⟩<;>simp -implicitDefEqProofs [hi,hiA,r1,b1,hd,hdA]
    ·rw [if_neg g3] at hb;exact absurd rfl hb
  ·rw [if_pos g]
   have tk:(decide (0≤a)&&decide (a≤253402300799))=false:=by
    rw [Bool.and_eq_false_iff,decide_eq_false_iff_not,decide_eq_false_iff_not]
    by_cases h:0≤a
    ·exact .inr fun e=>g ⟨h,e⟩
    ·exact .inl h
   rw [tk] at TK
   simp -implicitDefEqProofs [c23,g1,g1']
   refine onC_mk _ TK ?_
   simp -implicitDefEqProofs
   refine postH_r ⟨?_,?_,?_,?_,?_,?_⟩<;>simp -implicitDefEqProofs [hi,hiA,r1,b1,hd,hdA]
theorem add_ok {K w:Nat→Nat} {t:Nat} {L:List Ev} {a cg ct i:Nat} (h:okW K w t L a ct i=true) (b:Id):
  ringC b (K i) (w i) t (addL (K i) (w i) t L a cg ct)=ringC b (K i) (w i) t (L++[(a,cg,ct)])∧bkC (K i) (w i) (t / w i) (addL (K i) (w i) t L a cg ct)=bkC (K i) (w i) (t / w i) (L++[(a,cg,ct)]):=by
 unfold okW at h
 by_cases g:a / w i+K i≤t / w i
 ·have e:addL (K i) (w i) t L a cg ct=L:=by unfold addL addC;rw [if_pos g];rfl
  rw [e]
  obtain ⟨e1,e2⟩:=ringC_out (B:=b) (K:=K i) (w:=w i) (t:=t) (L:=L) (e:=(a,cg,ct)) g
  exact ⟨e1.symm,e2.symm⟩
 ·have hw:inW (K i) (t / w i) (a / w i)=true:=decide_eq_true (by omega)
  rw [hw] at h
  simp only [Bool.not_true,Bool.false_or,fitB,decide_eq_true_eq] at h
  have e:addL (K i) (w i) t L a cg ct=L++[(a,cg,ct)]:=by unfold addL addC;rw [if_neg g,if_pos h];rfl
  rw [e];exact ⟨rfl,rfl⟩
theorem pc_add {c:Int} {t:Nat} {L:List Ev} {a cg ct:Nat} (hc:c≠0):pcG c t (L++[(a,cg,ct)])=pcG c t L+(if pF c t≤a then cg else 0)∧pcT c t (L++[(a,cg,ct)])=pcT c t L+(if pF c t≤a then ct else 0):=by
 unfold pcG pcT
 rw [if_neg hc,if_neg hc,if_neg hc,if_neg hc,sm_one,sm_one]
 simp only [Nat.div_one,decide_eq_true_eq,eG,eT]
 exact ⟨trivial,trivial⟩
theorem pc_zero {t:Nat} {L:List Ev}:pcG 0 t L=0∧pcT 0 t L=0:=⟨rfl,rfl⟩
theorem pc_GT {c:Int} {t:Nat} {L:List Ev} (h:EvOk L):pcG c t L≤pcT c t L:=by
 unfold pcG pcT
 split
 ·exact Nat.le_refl _
 ·exact sm_GT h
theorem madd_full (M A:Id) (R B:Nat→Id) (h:Nms M A R B) (x:Gl) (hx:0≤x.a∧x.a≤86400) (n:Nat) (hn:n≤1000000) (W:List (List AV)) (K w:Nat→Nat) (hk:KwOk n K w) (t:Nat) (L:List Ev) (hL:LOk n K w t L) (sd:Bool)
  (ht:t≤253402300799) (a cg ct:Nat) (hct:ct<18446744073709551616) (hE:addE x.a t a cg ct=0) (hs:sd=true∨roomB x.c n K w t L a ct=false) (d:Nat) (hd:M.isNw d=false):
  SpH Tryz.prog gl 23 d ⟨[.ptr M 0,i6 a,.agg [u cg,u ct]],mtB M A R B x n W K w t L sd,[]⟩ ⟨i6 17,mtB M A R B x n W K w t L true,[]⟩:=by
 refine h23 rfl ?_
 have hu:=h.up
 have hi:=inn_notNw hd
 have hdA:A.isNw d=false:=by rw [←h.na];exact hd
 have hiA:=inn_notNw hdA
 have mi:=h.mi
 have ai:=h.ai
 have ma:=h.ma
 have ma':A≠M:=fun e=>h.ma e.symm
 have mr:=h.mr
 have mb:=h.mb
 have ar:=h.ar
 have ab:=h.ab
 have mr': ∀i,¬R i=M:=fun i e=>h.mr i e.symm
 have mb': ∀i,¬B i=M:=fun i e=>h.mb i e.symm
 have ar': ∀i,¬R i=A:=fun i e=>h.ar i e.symm
 have ab': ∀i,¬B i=A:=fun i e=>h.ab i e.symm
 have hpa:=fun i (hi:i<n)=>ptrC_at (R:=fun i=>Id.up (R i)) hi
 have hpl:=ptrC_len (fun i=>Id.up (R i)) n
 have hpu:=ptrC_up (R:=R) (n:=n)
 have hpo: ∀ob,∀i∈idsL (ptrC R n),idOk d ob i:=fun ob=>ptrC_outi h hd
 have hpi:=ptrC_inn h (n:=n) hd
 have hfree:=fun C D s=>rgs_free (R:=R) (B:=B) (C:=C) (D:=D) (n:=n) (s:=s)
 have hnn:=fun C D s=>rgsB_none (R:=fun i=>Id.up (R i)) (B:=fun i=>Id.up (B i)) (C:=C) (D:=D) (x:= .n s) (fun i e=>by cases e) (fun i e=>by cases e) n
 have hin:=mtB_up M A R B x n W K w t L sd
 unfold addE at hE
 by_cases g1:ct<cg
 ·rw [if_pos g1] at hE;cases hE
 rw [if_neg g1] at hE
 by_cases g: ¬(0≤(a:Int)∧(a:Int)≤253402300799)
 ·rw [if_pos g] at hE;cases hE
 rw [if_neg g] at hE
 by_cases g2:(t:Int)<a
 ·rw [if_pos g2] at hE;cases hE
 rw [if_neg g2] at hE
 by_cases g3:(a:Int)<t - x.a
 ·rw [if_pos g3] at hE;cases hE
 clear hE
 have g1': ¬(ct:Int)<cg:=by omega
 have g2': ¬t<a:=by omega
 have TK:=mtick_spec a
 have tk:(decide ((0:Int)≤a)&&decide ((a:Int)≤253402300799))=true:=by simp;omega
 rw [tk] at TK
 have w1:IntKind.i64.wrap ((t:Int) - x.a)=(t:Int) - x.a:=wr (by omega) (by omega)
 have RM:=fun e he=>mroom_spec (.up M) (.up A) _ _ hu x n hn W K w hk t L hL sd ht a cg ct (by omega) hct e he
 have hout:=fun σ=>rgs_out h (C:=rgC K w t L) (D:=rgD K w t L) (n:=n) (d:=d) (σ:=σ) hd (fun f i b=>rgC_mp f K w t L i b) (fun f i=>rgD_mp f K w t L i)
 have houi:=fun ob=>rgs_outi h (C:=rgC K w t L) (D:=rgD K w t L) (n:=n) (d:=d) (ob:=ob) hd (rgC_ids K w t L) (rgD_ids K w t L)
 have hlk: ∀i,i<n→lkB (rgsB (fun i=> .up (R i)) (fun i=> .up (B i)) (rgC K w t L) (rgD K w t L) n) (.up (R i))=some (rgC K w t L i (.up (B i)))∧lkB (rgsB (fun i=> .up (R i)) (fun i=> .up (B i)) (rgC K w t L) (rgD K w t L) n) (.up (B i))=some (rgD K w t L i):=
  fun i hi=>⟨rgsB_R hu n hi,rgsB_B hu n hi⟩
 have fr:=hfree (rgC K w t L) (rgD K w t L)
 simp only [inSt,mpL,mpP,AV.mp,hin]
 clear hin
 simp only [mtB,mtC] at RM ⊢
 cases sd with
 |true=>
  simp -implicitDefEqProofs [c23,hnn,g1,g1']
  refine onC_mk _ TK ?_
  simp -implicitDefEqProofs [g2,g2',w1,g3]
  refine postH_r ⟨?_,?_,?_,?_,?_,?_⟩
  ·simp
  ·simp
  ·intro p hp
   rcases List.mem_cons.1 hp with rfl|hp
   ·simp [hi,hiA,mi]
   ·rcases List.mem_cons.1 hp with rfl|hp
    ·simp [hi,hiA,ai,ma,ma',hpi]
    ·refine hout _ (fun i hi=>?_) p hp
     simp -implicitDefEqProofs [mr,mb,ar,ab,hlk i hi]
  ·intro p hp
   rcases List.mem_cons.1 hp with rfl|hp
   ·simp [ai,hdA]
   ·rcases List.mem_cons.1 hp with rfl|hp
    ·exact hpo _
    ·exact houi _ p hp
  ·simp
  ·simp
 |false=>
  rcases hs with h0|h0
  ·cases h0
  rw [h0] at RM
  simp -implicitDefEqProofs [c23,hnn,g1,g1']
  refine onC_mk _ TK ?_
  simp -implicitDefEqProofs [g2,g2',w1,g3]
  refine onH_pre (pre:=[(.n 5,[u cg,u ct])]) (RM _ rfl) rfl ?_ (mt_uniq hu _ _ _ _ n) (mt_keys _ _ _ _ _ _ _ _ n) ?_ ?_ ?_ ?_
  ·intro p hp
   simp only [List.mem_singleton] at hp
   subst hp;exact mt_none
  ·intro p hp
   rcases List.mem_cons.1 hp with rfl|hp
   ·rfl
   ·exact mt_free p hp
  ·simp
  ·simp
  simp -implicitDefEqProofs [ma,ma']
  refine postH_r ⟨?_,?_,?_,?_,?_,?_⟩
  ·simp
  ·simp
  ·intro p hp
   rcases List.mem_cons.1 hp with rfl|hp
   ·simp [hi,hiA,mi]
   ·rcases List.mem_cons.1 hp with rfl|hp
    ·simp [hi,hiA,ai,ma,ma',hpi]
    ·refine hout _ (fun i hi=>?_) p hp
     simp -implicitDefEqProofs [mr,mb,ar,ab,lkB_app,hlk i hi]
  ·intro p hp
   rcases List.mem_cons.1 hp with rfl|hp
   ·simp [ai,hdA]
   ·rcases List.mem_cons.1 hp with rfl|hp
    ·exact hpo _
    ·exact houi _ p hp
  ·simp
  ·simp
open Go.Proofs
theorem xperiod_spec (X:Id) (hX:X.isIt=false) (x:Gl) (t:Nat) (ht:t≤253402300799) (sd:Bool) (L:List Ev) (d:Nat) (hd:X.isNw d=false):
  SpH Tryz.prog gl 68 d ⟨[.ptr X 0],[(X,xC x t sd L)],[(.b X 10,3)]⟩ ⟨.tup [i6 (pF x.c t),i6 (pT x.c t)],[(X,xC x t sd L)],[(.b X 10,3)]⟩:=by
 refine h68 rfl ?_
 have hi:=inn_notNw hd
 have S1:=rperiod05_spec 1 t (.inl rfl) ht
 have S2:=rperiod05_spec 3 t (.inr rfl) ht
 have q1:((1:Nat):Int)=1:=rfl
 have q2:((3:Nat):Int)=3:=rfl
 rw [q1] at S1
 rw [q2] at S2
 unfold pF pT
 generalize perF 1 t=f1 at *
 generalize perT 1 t=t1 at *
 generalize perF 3 t=f3 at *
 generalize perT 3 t=t3 at *
 simp only [xC]
 generalize evRows L=rows
 simp only [inSt,mpL,mpB,mpP,AV.mp,Pl.mp]
 by_cases c1:x.c=1
 ·rw [if_pos c1,if_pos c1]
  have c1':(x.c==1)=true:=by rw [c1];rfl
  simp -implicitDefEqProofs [c68,c1']
  refine onC_mk _ S1 ?_
  simp -implicitDefEqProofs
  refine postH_r ⟨?_,?_,?_,?_,?_,?_⟩<;>simp -implicitDefEqProofs [hi,hX,hd]
 ·rw [if_neg c1,if_neg c1]
  have c1':(x.c==1)=false:=by rw [beq_eq_false_iff_ne];exact c1
  by_cases c2:x.c=2
  ·rw [if_pos c2,if_pos c2]
   have c2':(x.c==2)=true:=by rw [c2];rfl
   simp -implicitDefEqProofs [c68,c1',c2']
   refine onC_mk _ S2 ?_
   simp -implicitDefEqProofs
   refine postH_r ⟨?_,?_,?_,?_,?_,?_⟩<;>simp -implicitDefEqProofs [hi,hX,hd]
  ·rw [if_neg c2,if_neg c2]
   have c2':(x.c==2)=false:=by rw [beq_eq_false_iff_ne];exact c2
   simp -implicitDefEqProofs [c68,c1',c2']
   refine postH_r ⟨?_,?_,?_,?_,?_,?_⟩<;>simp -implicitDefEqProofs [hi,hX,hd]
theorem xcount_spec (X:Id) (hX:X.isIt=false) (x:Gl) (hc:0≤x.c) (t:Nat) (ht:t≤253402300799) (sd:Bool) (L:List Ev) (hE:EvOk L) (hll:L.length≤1000000) (hs:pcT x.c t L≤9223372036854775807) (d:Nat) (hd:X.isNw d=false):
  SpH Tryz.prog gl 64 d ⟨[.ptr X 0],[(X,xC x t sd L)],[(.b X 10,3)]⟩ ⟨.agg [u (pcG x.c t L),u (pcT x.c t L)],[(X,xC x t sd L)],[(.b X 10,3)]⟩:=by
 refine h64 rfl ?_
 have hi:=inn_notNw hd
 have PS:=fun e he=>xperiod_spec (.up X) hX x t ht sd L e he
 have rl:=evRows_len L
 have r3:=evRows_3 L
 have rat:=evRows_at L
 have hmax:pF x.c t≤t:=pF_le x.c ht
 by_cases c0:x.c=0
 ·have z:pcG x.c t L=0∧pcT x.c t L=0:=by unfold pcG pcT;rw [if_pos c0,if_pos c0];exact ⟨rfl,rfl⟩
  rw [z.1,z.2]
  have c1: ¬(0<x.c):=by omega
  simp only [xC] at PS ⊢
  generalize evRows L=rows at *
  simp only [inSt,mpL,mpB,mpP,AV.mp,Pl.mp]
  simp -implicitDefEqProofs [c64]
  refine onH_mk _ _ (PS _ rfl) ⟨?_,?_,?_,?_,?_,?_,?_⟩ ?_
  iterate 7 (· simp)
  simp -implicitDefEqProofs
  refine wp_lpk (α:=Nat) (fun k=>⟨[(0,.ptr (.up X) 0),(2,.ptr (.n 2) 0),(5,.ptr (.n 5) 0),(6,i6 k)],[(.n 5,[u 0,u 0]),(.n 2,[u 0,u 0]),(.up X,[.str x.n,.int .u32 x.t,i6 x.g,i6 x.a,i6 x.o,i6 x.c,.sl (x.lb.map Lb.row),.sl (x.ru.map Ru.row),i6 t,.bool sd,.sl rows])],[(.b (.up X) 10,3)]⟩) (fun k=>k=0) (fun k=>0) ?_ 0 rfl ?_
  ·intro K k hK k1
   subst k1
   clear hK
   by_cases l0:0<L.length
   ·have l0':((0:Int))<L.length:=by omega
    simp -implicitDefEqProofs [rl,l0,l0',c1]
    refine postH_r ⟨?_,?_,?_,?_,?_,?_⟩<;>simp -implicitDefEqProofs [hi,hX,hd]
   ·have l0': ¬((0:Int))<L.length:=by omega
    simp -implicitDefEqProofs [rl,l0,l0',c1]
    refine postH_r ⟨?_,?_,?_,?_,?_,?_⟩<;>simp -implicitDefEqProofs [hi,hX,hd]
  ·refine weak_mk ?_ ?_ ?_ ?_ ?_ ?_<;>simp -implicitDefEqProofs
 ·have c1:0<x.c:=by omega
  have hGT:=pc_GT (c:=x.c) (t:=t) hE
  have eG0:pcG x.c t L=sm eG 1 (fun q=>decide (pF x.c t≤q)) (L.take L.length):=by unfold pcG;rw [if_neg c0,List.take_length]
  have eT0:pcT x.c t L=sm eT 1 (fun q=>decide (pF x.c t≤q)) (L.take L.length):=by unfold pcT;rw [if_neg c0,List.take_length]
  have pG:=fun k=>sm_part (v:=eG) (w:=1) (p:=fun q=>decide (pF x.c t≤q)) (L:=L) k
  have pT':=fun k=>sm_part (v:=eT) (w:=1) (p:=fun q=>decide (pF x.c t≤q)) (L:=L) k
  have fG:sm eG 1 (fun q=>decide (pF x.c t≤q)) L=pcG x.c t L:=by rw [eG0,List.take_length]
  have fT:sm eT 1 (fun q=>decide (pF x.c t≤q)) L=pcT x.c t L:=by rw [eT0,List.take_length]
  have sG:=fun k h=>sm_take (v:=eG) (w:=1) (p:=fun q=>decide (pF x.c t≤q)) (L:=L) (k:=k) h
  have sT:=fun k h=>sm_take (v:=eT) (w:=1) (p:=fun q=>decide (pF x.c t≤q)) (L:=L) (k:=k) h
  have g0:sm eG 1 (fun q=>decide (pF x.c t≤q)) (L.take 0)=0:=rfl
  have t0:sm eT 1 (fun q=>decide (pF x.c t≤q)) (L.take 0)=0:=rfl
  rw [fG] at pG
  rw [fT] at pT'
  rw [eG0,eT0]
  clear fG fT
  obtain ⟨FG,hFG⟩: ∃F:Nat→Nat,F=fun k=>sm eG 1 (fun q=>decide (pF x.c t≤q)) (L.take k):=⟨_,rfl⟩
  obtain ⟨FT,hFT⟩: ∃F:Nat→Nat,F=fun k=>sm eT 1 (fun q=>decide (pF x.c t≤q)) (L.take k):=⟨_,rfl⟩
  have hG: ∀k,sm eG 1 (fun q=>decide (pF x.c t≤q)) (L.take k)=FG k:=fun k=>by rw [hFG]
  have hT: ∀k,sm eT 1 (fun q=>decide (pF x.c t≤q)) (L.take k)=FT k:=fun k=>by rw [hFT]
  simp only [hG,hT,Nat.div_one] at pG pT' sG sT g0 t0 ⊢
  have bG: ∀k,FG k≤9223372036854775807:=fun k=>Nat.le_trans (pG k) (Nat.le_trans hGT hs)
  have bT: ∀k,FT k≤9223372036854775807:=fun k=>Nat.le_trans (pT' k) hs
  clear hG hT hFG hFT pG pT' hGT hs eG0 eT0
  simp only [xC] at PS ⊢
  generalize hR:evRows L=rows at *
  generalize pF x.c t=f at *
  generalize pT x.c t=tt at *
  simp only [inSt,mpL,mpB,mpP,AV.mp,Pl.mp]
  simp -implicitDefEqProofs [c64]
  refine onH_mk _ _ (PS _ rfl) ⟨?_,?_,?_,?_,?_,?_,?_⟩ ?_
  iterate 7 (· simp)
  simp -implicitDefEqProofs
  refine wp_lpk (α:=Nat) (fun k=>⟨[(0,.ptr (.up X) 0),(2,.ptr (.n 2) 0),(3,i6 f),(5,.ptr (.n 5) 0),(6,i6 k)],[(.n 5,[u (FG k),u (FT k)]),(.n 2,[u 0,u 0]),(.up X,[.str x.n,.int .u32 x.t,i6 x.g,i6 x.a,i6 x.o,i6 x.c,.sl (x.lb.map Lb.row),.sl (x.ru.map Ru.row),i6 t,.bool sd,.sl rows])],[(.b (.up X) 10,3)]⟩) (fun k=>k≤L.length) (fun k=>L.length - k) ?_ 0 ?_ ?_
  ·intro K k hK k1
   by_cases c:k<L.length
   ·have c':(k:Int)<L.length:=by omega
    have w1:IntKind.i64.wrap ((k:Int)+1)=(k+1:Nat):=by rw [wr]<;>omega
    have kl:k<rows.length:=by omega
    have ew0:=rat k c
    have ew:rows[k]'kl=evRow L[k]:=by rw [List.getElem?_eq_getElem kl] at ew0;exact Option.some.inj ew0
    have e1:=sG k c
    have e2:=sT k c
    have b1:=bG (k+1)
    have b2:=bT (k+1)
    have fin:=fun σ' hσ=>hK (k+1) σ' (by omega) (by omega) hσ
    have ed:evRow L[k]=[i6 L[k].1,u L[k].2.1,u L[k].2.2]:=rfl
    have eg:eG L[k]=L[k].2.1:=rfl
    have et:eT L[k]=L[k].2.2:=rfl
    rw [ed] at ew ew0
    rw [eg] at e1
    rw [et] at e2
    clear hK sG sT bG bT PS rat ed eg et hE
    generalize L[k].1=a at *
    generalize L[k].2.1=cg at *
    generalize L[k].2.2=ct at *
    by_cases hp:f≤a
    ·have hp':(f:Int)≤a:=by omega
     simp only [hp,decide_true,if_true] at e1 e2
     have v1:IntKind.u64.wrap ((FG k:Int)+cg)=(FG (k+1):Nat):=by rw [wrap_u64]<;>omega
     have v2:IntKind.u64.wrap ((FT k:Int)+ct)=(FT (k+1):Nat):=by rw [wrap_u64]<;>omega
     clear e1 e2 b1 b2
     generalize FG (k+1)=G1 at *
     generalize FT (k+1)=T1 at *
     simp -implicitDefEqProofs [rl,c,c',kl,ew,ew0,r3,c1,hp,hp',v1,v2,w1]
     refine fin _ ?_
     refine weak_mk ?_ ?_ ?_ ?_ ?_ ?_<;>simp -implicitDefEqProofs [w1]
    ·have hp': ¬(f:Int)≤a:=by omega
     simp only [hp,decide_false,Bool.false_eq_true,if_false,Nat.add_zero] at e1 e2
     rw [e1,e2] at fin
     simp -implicitDefEqProofs [rl,c,c',kl,ew,ew0,r3,c1,hp,hp',w1]
     refine fin _ ?_
     refine weak_mk ?_ ?_ ?_ ?_ ?_ ?_<;>simp -implicitDefEqProofs [w1]
   ·obtain rfl:k=L.length:=by omega
    clear hK
    have c': ¬((L.length:Int)<L.length):=by omega
    generalize FG L.length=G1 at *
    generalize FT L.length=T1 at *
    simp -implicitDefEqProofs [rl,c',c1]
    refine postH_r ⟨?_,?_,?_,?_,?_,?_⟩<;>simp -implicitDefEqProofs [hi,hX,hd]
  ·exact Nat.zero_le _
  ·refine weak_mk ?_ ?_ ?_ ?_ ?_ ?_<;>simp -implicitDefEqProofs [g0,t0]
end Go.Ai
namespace Go.Ai
open Go.Proofs Go.Shelf
def ren_laysSort:Ren:={
 f:=fun x=>match x with
  |5=>119
  |8=>174
  |7=>173
  |19=>204
  |20=>205
  |10=>196
  |11=>197
  |12=>198
  |13=>199
  |14=>200
  |15=>201
  |16=>102
  |17=>202
  |18=>203
  |30=>214
  |31=>215
  |32=>216
  |33=>217
  |34=>218
  |35=>160
  |40=>221
  |n=>n
 t:=fun x=>match x with
  |23=>34
  |25=>2
  |3=>3
  |32=>145
  |22=>34
  |0=>0
  |44=>22
  |46=>37
  |4=>4
  |36=>249
  |35=>248
  |41=>61
  |5=>5
  |9=>9
  |53=>267
  |57=>270
  |63=>273
  |64=>274
  |n=>n
 g:=fun x=>x}
set_option maxRecDepth 100000 in
theorem laysSort:SlLaysM.n5 Tryz.prog ren_laysSort where
 mixed:=by kernel_rfl
 f5:=⟨Tryz.f119.name,by kernel_rfl,Eq.trans Tryz.func119 (congrArg some (show Tryz.f119={SlBodyM.n5 ren_laysSort with name:=Tryz.f119.name} by kernel_rfl))⟩
 f7:=⟨Tryz.f173.name,by kernel_rfl,Eq.trans Tryz.func173 (congrArg some (show Tryz.f173={SlBodyM.n7 ren_laysSort with name:=Tryz.f173.name} by kernel_rfl))⟩
 f8:=Eq.trans Tryz.func174 (congrArg some (show Tryz.f174=SlBodyM.n8 ren_laysSort by kernel_rfl))
 f10:=⟨Tryz.f196.name,by kernel_rfl,Eq.trans Tryz.func196 (congrArg some (show Tryz.f196={SlBodyM.n10 ren_laysSort with name:=Tryz.f196.name} by kernel_rfl))⟩
 f11:=⟨Tryz.f197.name,by kernel_rfl,Eq.trans Tryz.func197 (congrArg some (show Tryz.f197={SlBodyM.n11 ren_laysSort with name:=Tryz.f197.name} by kernel_rfl))⟩
 f12:=⟨Tryz.f198.name,by kernel_rfl,Eq.trans Tryz.func198 (congrArg some (show Tryz.f198={SlBodyM.n12 ren_laysSort with name:=Tryz.f198.name} by kernel_rfl))⟩
 f13:=⟨Tryz.f199.name,by kernel_rfl,Eq.trans Tryz.func199 (congrArg some (show Tryz.f199={SlBodyM.n13 ren_laysSort with name:=Tryz.f199.name} by kernel_rfl))⟩
 f14:=⟨Tryz.f200.name,by kernel_rfl,Eq.trans Tryz.func200 (congrArg some (show Tryz.f200={SlBodyM.n14 ren_laysSort with name:=Tryz.f200.name} by kernel_rfl))⟩
 f15:=⟨Tryz.f201.name,by kernel_rfl,Eq.trans Tryz.func201 (congrArg some (show Tryz.f201={SlBodyM.n15 ren_laysSort with name:=Tryz.f201.name} by kernel_rfl))⟩
 f16:=⟨Tryz.f102.name,by kernel_rfl,Eq.trans Tryz.func102 (congrArg some (show Tryz.f102={SlBodyM.n16 ren_laysSort with name:=Tryz.f102.name} by kernel_rfl))⟩
 f17:=⟨Tryz.f202.name,by kernel_rfl,Eq.trans Tryz.func202 (congrArg some (show Tryz.f202={SlBodyM.n17 ren_laysSort with name:=Tryz.f202.name} by kernel_rfl))⟩
 f18:=⟨Tryz.f203.name,by kernel_rfl,Eq.trans Tryz.func203 (congrArg some (show Tryz.f203={SlBodyM.n18 ren_laysSort with name:=Tryz.f203.name} by kernel_rfl))⟩
 f19:=Eq.trans Tryz.func204 (congrArg some (show Tryz.f204=SlBodyM.n19 ren_laysSort by kernel_rfl))
 f20:=Eq.trans Tryz.func205 (congrArg some (show Tryz.f205=SlBodyM.n20 ren_laysSort by kernel_rfl))
 f30:=⟨Tryz.f214.name,by kernel_rfl,Eq.trans Tryz.func214 (congrArg some (show Tryz.f214={SlBodyM.n30 ren_laysSort with name:=Tryz.f214.name} by kernel_rfl))⟩
 f31:=Eq.trans Tryz.func215 (congrArg some (show Tryz.f215=SlBodyM.n31 ren_laysSort by kernel_rfl))
 f32:=Eq.trans Tryz.func216 (congrArg some (show Tryz.f216=SlBodyM.n32 ren_laysSort by kernel_rfl))
 f33:=⟨Tryz.f217.name,by kernel_rfl,Eq.trans Tryz.func217 (congrArg some (show Tryz.f217={SlBodyM.n33 ren_laysSort with name:=Tryz.f217.name} by kernel_rfl))⟩
 f34:=⟨Tryz.f218.name,by kernel_rfl,Eq.trans Tryz.func218 (congrArg some (show Tryz.f218={SlBodyM.n34 ren_laysSort with name:=Tryz.f218.name} by kernel_rfl))⟩
 f35:=⟨Tryz.f160.name,by kernel_rfl,Eq.trans Tryz.func160 (congrArg some (show Tryz.f160={SlBodyM.n35 ren_laysSort with name:=Tryz.f160.name} by kernel_rfl))⟩
 f40:=⟨Tryz.f221.name,by kernel_rfl,Eq.trans Tryz.func221 (congrArg some (show Tryz.f221={SlBodyM.n40 ren_laysSort with name:=Tryz.f221.name} by kernel_rfl))⟩
 t0:=Tryz.underlying0
 a0:=Tryz.isAgg0
 z0:=Tryz.sizeOf0
 v0:=Tryz.zeroValue0
 t3:=Tryz.underlying3
 a3:=Tryz.isAgg3
 z3:=Tryz.sizeOf3
 v3:=Tryz.zeroValue3
 t4:=Tryz.underlying4
 a4:=Tryz.isAgg4
 z4:=Tryz.sizeOf4
 v4:=Tryz.zeroValue4
 t5:=Tryz.underlying5
 a5:=Tryz.isAgg5
 z5:=Tryz.sizeOf5
 v5:=Tryz.zeroValue5
 t9:=Tryz.underlying9
 a9:=Tryz.isAgg9
 z9:=Tryz.sizeOf9
 v9:=Tryz.zeroValue9
 t22:=Tryz.underlying34
 a22:=Tryz.isAgg34
 z22:=Tryz.sizeOf34
 v22:=Tryz.zeroValue34
 t23:=Tryz.underlying34
 a23:=Tryz.isAgg34
 z23:=Tryz.sizeOf34
 v23:=Tryz.zeroValue34
 t25:=Tryz.underlying2
 a25:=Tryz.isAgg2
 z25:=Tryz.sizeOf2
 v25:=Tryz.zeroValue2
 t32:=Tryz.underlying145
 a32:=Tryz.isAgg145
 z32:=Tryz.sizeOf145
 v32:=Tryz.zeroValue145
 t35:=Tryz.underlying248
 a35:=Tryz.isAgg248
 z35:=Tryz.sizeOf248
 v35:=Tryz.zeroValue248
 t36:=Tryz.underlying249
 a36:=Tryz.isAgg249
 z36:=Tryz.sizeOf249
 v36:=Tryz.zeroValue249
 t41:=Tryz.underlying61
 a41:=Tryz.isAgg61
 z41:=Tryz.sizeOf61
 v41:=Tryz.zeroValue61
 t44:=Tryz.underlying22
 a44:=Tryz.isAgg22
 z44:=Tryz.sizeOf22
 v44:=Tryz.zeroValue22
 t46:=Tryz.underlying37
 a46:=Tryz.isAgg37
 z46:=Tryz.sizeOf37
 v46:=Tryz.zeroValue37
 t53:=Tryz.underlying267
 a53:=Tryz.isAgg267
 z53:=Tryz.sizeOf267
 v53:=Tryz.zeroValue267
 t57:=Tryz.underlying270
 a57:=Tryz.isAgg270
 z57:=Tryz.sizeOf270
 v57:=Tryz.zeroValue270
 t63:=Tryz.underlying273
 a63:=Tryz.isAgg273
 z63:=Tryz.sizeOf273
 v63:=Tryz.zeroValue273
 t64:=Tryz.underlying274
 a64:=Tryz.isAgg274
 z64:=Tryz.sizeOf274
 v64:=Tryz.zeroValue274
def ren_laysCompact:Ren:={
 f:=fun x=>match x with
  |43=>120
  |n=>n
 t:=fun x=>match x with
  |22=>34
  |23=>2
  |3=>3
  |4=>4
  |0=>0
  |n=>n
 g:=fun x=>x}
set_option maxRecDepth 100000 in
theorem laysCompact:SlLaysE.n43 Tryz.prog ren_laysCompact where
 mixed:=by kernel_rfl
 f43:=⟨Tryz.f120.name,by kernel_rfl,Eq.trans Tryz.func120 (congrArg some (show Tryz.f120={SlBodyN.n43 ren_laysCompact with name:=Tryz.f120.name} by kernel_rfl))⟩
 t0:=Tryz.underlying0
 a0:=Tryz.isAgg0
 z0:=Tryz.sizeOf0
 v0:=Tryz.zeroValue0
 t3:=Tryz.underlying3
 a3:=Tryz.isAgg3
 z3:=Tryz.sizeOf3
 v3:=Tryz.zeroValue3
 t4:=Tryz.underlying4
 a4:=Tryz.isAgg4
 z4:=Tryz.sizeOf4
 v4:=Tryz.zeroValue4
 t22:=Tryz.underlying34
 a22:=Tryz.isAgg34
 z22:=Tryz.sizeOf34
 v22:=Tryz.zeroValue34
 a23:=Tryz.isAgg2
 z23:=Tryz.sizeOf2
open Go.Proofs
def cUnlike (sz:Nat) (z:List AV):AC:=
 (.sq (.rg [.mv 4 (.c (.bool false))])
  (.sq (.rg [.mkp 8,
   .mv 5 (.s 8)])
  (.sq (.sq (.rg [.mv 9 (.s 0),
   .ln 10 (.s 9),
   .mv 11 (.c (.int .i64 0))])
  (.bl 0 (.lp (.sq (.rg [.bi 12 .lss (.s 11) (.s 10)])
  (.sq (.cd (.s 12) .sk (.ex 0))
  (.sq (.bl 1 (.sq (.rg [.ia 13 sz (.s 9) (.s 11),
   .lda 14 sz (.s 13),
   .al 7 z,
   .st sz (.s 7) (.s 14)])
  (.rg [.mv 15 (.s 5),
   .mv 16 (.s 1),
   .lda 17 sz (.s 7),
   .cd 18 (.s 16) [(.s 17)],
   .mlk 19 .s (.i .i64 0) (.s 15) (.s 18) false,
   .bi 20 .add (.s 19) (.c (.int .i64 1)),
   .mup .s (.s 15) (.s 18) (.s 20)])))
  (.rg [.bi 21 .add (.s 11) (.c (.int .i64 1)),
   .mv 11 (.s 21)])))))))
  (.sq (.rg [.mv 22 (.s 5),
   .mpl 23 (.s 22),
   .mv 24 (.s 0),
   .ln 25 (.s 24),
   .bi 26 .eql (.s 23) (.s 25),
   .mv 4 (.s 26)])
  .rt))))
theorem unl_eq2:c168=cUnlike 2 [(.str []),(.str [])]:=rfl
theorem unl_eq3:c171=cUnlike 7 [(.str []),(.bool false),(.int .i64 0),(.int .i64 0),(.int .u64 0),(.int .i64 0),(.int .i64 0)]:=rfl
theorem nameL_spec (x:Lb):Sp Tryz.prog gl 169 [.agg x.row] (.str x.n):=by
  refine s169 rfl rfl ?_
  unfold Lb.row
  simp -implicitDefEqProofs [c169]
theorem nameR_spec (x:Ru):Sp Tryz.prog gl 172 [.agg x.row] (.str x.n):=by
  refine s172 rfl rfl ?_
  unfold Ru.row
  simp -implicitDefEqProofs [c172]
theorem unlike_code (sz:Nat) (z:List AV) (f:Nat) (rows:List (List AV)) (names:List (List UInt8)) (hz:z.length=sz) (hl:names.length=rows.length) (hn:rows.length≤1000000)
    (hr: ∀i (h:i<rows.length),rows[i].length=sz∧idsL rows[i]=[]∧Sp Tryz.prog gl f [.agg rows[i]] (.str (names[i]'(by omega)))):
    wpA (SpH Tryz.prog gl) (cUnlike sz z) (postA [.t 4] (.bool (uniq names))) ⟨initE 0 [.sl rows,.fn f []],[],[]⟩:=by
  unfold cUnlike
  have w1:IntKind.i64.wrap 1=1:=by rw [wrap_i64]<;>omega
  simp -implicitDefEqProofs
  refine wp_lpk (α:=Nat×List (List UInt8×Nat)) (fun x=>⟨[(0,.sl rows),(1,.fn f []),(5,.mref (.it 8)),(9,.sl rows),(10,i6 rows.length),(11,i6 x.1)],[(.it 8,[.mpv (cntV x.2)])],[]⟩)
    (fun x=>x.1≤rows.length∧x.2.length=distR (names.take x.1).reverse∧(∀n,n∈x.2.map Prod.fst↔n∈names.take x.1)∧ ∀p∈x.2,p.2≤x.1) (fun x=>rows.length - x.1) ?_ (0,[]) ?_ ?_
  · rintro K ⟨i,l⟩ hK ⟨h1,h2,h3,h4⟩
    simp only at h1 h2 h3 h4
    by_cases g:i<rows.length
    · obtain ⟨r1,r2,r3⟩:=hr i g
      have r3:=Sp.h (d:=18) r3
      have hi:i<names.length:=by omega
      have et:names.take (i+1)=names.take i++[names[i]]:=by rw [List.take_succ_eq_append_getElem hi]
      have fin: ∀σ',Weak σ' ⟨[(0,.sl rows),(1,.fn f []),(5,.mref (.it 8)),(9,.sl rows),(10,i6 rows.length),(11,i6 (i+1:Nat))],[(.it 8,[.mpv (cntV (bump l names[i]))])],[]⟩→K σ':=
        fun σ' hσ=>hK (i+1,bump l names[i]) σ' ⟨by simp only;omega,by
          simp only
          rw [bump_len,et,List.reverse_append,h2]
          simp only [List.reverse_cons,List.reverse_nil,List.nil_append,List.singleton_append,distR,h3,List.mem_reverse],by
          intro n
          rw [bump_mem,et,List.mem_append,h3]
          simp only [List.mem_singleton]
          exact Or.comm,bump_le _ _ _ h4⟩ (by simp only;omega) hσ
      have t1:IntKind.i64.wrap ((i:Int)+1)=(i+1:Nat):=by rw [wrap_i64]<;>omega
      obtain ⟨row,hrow⟩: ∃row,row=rows[i]:=⟨_,rfl⟩
      rw [←hrow] at r1 r2 r3
      have e1:List.take sz row=row:=List.take_of_length_le (by omega)
      have e2:List.drop sz z=[]:=List.drop_eq_nil_of_le (by omega)
      have hat: ∀h,rows[i]'h=row:=fun _=>hrow.symm
      rcases cnt_find names[i] l 0 with ⟨q1,q2⟩|⟨j,c,q0,q1,q2⟩
      · rw [q2] at fin
        generalize names[i]=nm at *
        clear hK hr hrow h2 h3 h4 et
        simp -implicitDefEqProofs [g,hat,r1,e1,hz,e2]
        refine onH_mk _ _ r3 ⟨?_,?_,?_,?_,?_,?_,?_⟩ ?_
        iterate 7 (· simp)
        simp -implicitDefEqProofs [q1]
        refine fin _ (weak_mk ?_ ?_ ?_ ?_ ?_ ?_)<;>simp -implicitDefEqProofs [t1,w1]
      · rw [←q2] at fin
        have w2:IntKind.i64.wrap ((c:Int)+1)=((c+1:Nat):Int):=by have:=h4 _ q0;simp only at this;rw [wrap_i64]<;>omega
        generalize names[i]=nm at *
        clear hK hr hrow h2 h3 h4 et
        rw [Nat.zero_add] at q1
        simp -implicitDefEqProofs [g,hat,r1,e1,hz,e2]
        refine onH_mk _ _ r3 ⟨?_,?_,?_,?_,?_,?_,?_⟩ ?_
        iterate 7 (· simp)
        simp -implicitDefEqProofs [q1]
        refine fin _ (weak_mk ?_ ?_ ?_ ?_ ?_ ?_)<;>simp -implicitDefEqProofs [t1,w2]
    · obtain rfl:i=rows.length:=by omega
      have ud:=uniq_dist names
      rw [List.take_of_length_le (by omega)] at h2
      rw [←h2,hl] at ud
      have cl:(cntV l).length=l.length:=by simp [cntV]
      clear hK hr h3 h4
      generalize uniq names=R at *
      simp -implicitDefEqProofs [cl,ud]
  · exact ⟨Nat.zero_le _,by simp [distR],by simp,by simp⟩
  · refine weak_mk ?_ ?_ ?_ ?_ ?_ ?_<;>simp -implicitDefEqProofs [cntV]
theorem unlL_spec (l:List Lb) (hn:l.length≤1000000):Sp Tryz.prog gl 168 [.sl (l.map Lb.row),.fn 169 []] (.bool (uniq (l.map Lb.n))):=by
  refine s168 rfl rfl ?_
  rw [unl_eq2]
  refine unlike_code 2 _ _ (l.map Lb.row) (l.map Lb.n) rfl (by simp) (by simpa using hn) (fun i h=>?_)
  simp only [List.getElem_map]
  exact ⟨rfl,rfl,nameL_spec _⟩
theorem unlR_spec (l:List Ru) (hn:l.length≤1000000):Sp Tryz.prog gl 171 [.sl (l.map Ru.row),.fn 172 []] (.bool (uniq (l.map Ru.n))):=by
  refine s171 rfl rfl ?_
  rw [unl_eq3]
  refine unlike_code 7 _ _ (l.map Ru.row) (l.map Ru.n) rfl (by simp) (by simpa using hn) (fun i h=>?_)
  simp only [List.getElem_map]
  exact ⟨rfl,rfl,nameR_spec _⟩
end Go.Ai
