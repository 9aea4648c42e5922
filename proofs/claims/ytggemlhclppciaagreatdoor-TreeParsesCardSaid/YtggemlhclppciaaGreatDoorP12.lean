/- P12: a part of the proof: the rules, or what functions compute. Conditions: as each theorem says. -/
import Derived.Test.YtggemlhclppciaaGreatDoorP2
import Derived.Test.YtggemlhclppciaaGreatDoorP11
set_option linter.unusedSimpArgs false
set_option linter.unusedVariables false
set_option maxRecDepth 20000
namespace Go.Ai
open Go.Proofs
theorem item_ok (f:Nat) (hL: ∀g,g<f→LOk g):IOk f:=by
 intro d x l n D b hb hbd hd hn
 refine ⟨fun o l' n' h=>?_,fun c t l' n' h=>?_⟩
 ·refine h81 rfl ?_
  refine item_wp f d x l n D b hb hbd hd hn hL _ _ (by rw [h];simp) (fun o2 l2 n2 h2 σ hp=>?_) (fun c t l' n' h2=>by rw [h] at h2;cases h2)
  rw [h] at h2
  cases h2
  exact hp
 ·refine t81 rfl ?_
  refine item_wp f d x l n D b hb hbd hd hn hL _ _ (by rw [h];simp) (fun o2 l2 n2 h2=>by rw [h] at h2;cases h2) (fun c2 t2 l2 n2 h2 v σ hp=>?_)
  rw [h] at h2
  cases h2
  exact hp
theorem p_ok: ∀f,LOk f∧IOk f:=by
 intro f
 induction f using Nat.strongRecOn with
 |ind f ih=>exact ⟨list_ok f fun g hg=>(ih g hg).2,item_ok f fun g hg=>(ih g hg).1⟩
theorem rec_nil (V:List (List AV)) (a b c:Int) (dm:Nat):SpD Tryz.prog gl 48 dm ⟨[.ptr (.up (.n 2)) 0,.ptr (.up (.n 3)) 0],[(.up (.n 2),[.sl V]),(.up (.n 3),[i6 a,i6 b,i6 c])],[]⟩ .nili ⟨.tup [],[(.up (.n 2),[.sl V]),(.up (.n 3),[i6 a,i6 b,i6 c])],[]⟩:=by
 refine d48 rfl rfl ?_
 simp only [inSt,mpB,mpL,AV.mp,mpP,Pl.mp]
 simp -implicitDefEqProofs [l48,c48]
 refine postH_n ⟨?_,?_,?_,?_,?_,?_⟩<;>simp -implicitDefEqProofs
theorem rec_flt (a b c:Int) (e:Int) (t:Tk) (dm:Nat):SpD Tryz.prog gl 48 dm ⟨[.ptr (.up (.n 2)) 0,.ptr (.up (.n 3)) 0],[(.up (.n 2),[.nils]),(.up (.n 3),[i6 a,i6 b,i6 c])],[]⟩ (fltV e t) ⟨.tup [],[(.up (.n 2),[.nils]),(.up (.n 3),[i6 e,i6 t.ln,i6 t.co])],[]⟩:=by
 refine d48 rfl rfl ?_
 unfold fltV
 simp only [inSt,mpB,mpL,AV.mp,mpP,Pl.mp]
 simp -implicitDefEqProofs [l48,c48]
 refine postH_n ⟨?_,?_,?_,?_,?_,?_⟩<;>simp -implicitDefEqProofs
section
variable {S SP:Nat→Nat→In→Out→Prop} {SD:Nat→Nat→In→AV→Out→Prop} {N sl dm d:Nat} {rs:List AR} {O:Out} {σ:St}
theorem wpDf_sq {a:AC} {r:ACD}:wpDf S SP SD N sl dm d rs O (.sq a r) σ=wpA S a (fun e σ'=>match e with | .n=>wpDf S SP SD N sl dm d rs O r σ'| .r=>postH d rs O .r σ'| .x _=>False) σ:=rfl
theorem wpDf_df {l:List AOp} {x:X} {c2:AC2}:wpDf S SP SD N sl dm d rs O (.df l x c2) σ=wpL S l (fun σ'=>match σ'.v x with
  | .fn g caps=> ∃I M,I.vs.length=N∧CallOk sl σ' ((List.range N).map X.s) I M∧postH d [.t sl] O .r (callSt sl σ' ((List.range N).map X.s) I M)∧
    wpA2 S SP (fun v τ=>(∃T y,v= .ifc T y)∧leftD SD sl dm rs M g caps v τ) c2 (fun e τ=>match e with | .x _=>False|_=>leftD SD sl dm rs M g caps .nili τ) (inSt I)
  |_=>False) σ:=rfl
end
theorem xs22:(List.range 22).map X.s=[.s 0,.s 1,.s 2,.s 3,.s 4,.s 5,.s 6,.s 7,.s 8,.s 9,.s 10,.s 11,.s 12,.s 13,.s 14,.s 15,.s 16,.s 17,.s 18,.s 19,.s 20,.s 21]:=rfl
def parseF (s:List UInt8):List It×Int×Int×Int:=
 if (tokF s).c≠0 then ([],(tokF s).c,(tokF s).a,(tokF s).b)
 else match pL (2*(tokF s).l.length+3) 1 0 [] (tokF s).l 0 with
  | .ok o _ _=>(o,0,0,0)
  | .th c t _ _=>([],c,t.ln,t.co)
  | .no=>([],0,0,0)
def parseV (x:List It×Int×Int×Int):AV:= .tup [.sl (itRows x.1),.agg [i6 x.2.1,i6 x.2.2.1,i6 x.2.2.2]]
def parseX (x:TR):List It×Int×Int×Int:=
 if x.c≠0 then ([],x.c,x.a,x.b)
 else match pL (2*x.l.length+3) 1 0 [] x.l 0 with
  | .ok o _ _=>(o,0,0,0)
  | .th c t _ _=>([],c,t.ln,t.co)
  | .no=>([],0,0,0)
set_option maxHeartbeats 2000000 in
theorem parse_of (s:List UInt8) (x:TR) (TK:Sp Tryz.prog gl 47 [.str s] x.av) (hno:x.c=0→pL (2*x.l.length+3) 1 0 [] x.l 0≠ .no):Sp Tryz.prog gl 22 [.str s] (parseV (parseX x)):=by
 refine Sp.of_h fun D=>?_
 refine x22 1 1 (by decide) (by decide) rfl ?_
 unfold parseX parseV
 obtain ⟨xl,xc,xa,xb⟩:=x
 unfold TR.av at TK
 simp only at *
 simp only [inSt,mpB,mpL,AV.mp,mpP,Pl.mp,c22,wpDf_sq]
 by_cases h0:xc=0
 ·subst h0
  have hno:=hno rfl
  simp -implicitDefEqProofs
  refine onC_mk _ (TK) ?_
  simp -implicitDefEqProofs
  have hL:=fun D h=>(p_ok (2*xl.length+3)).1 1 0 xl 0 D (.n 18) rfl h (by decide) (by decide)
  unfold paB at hL
  cases hP:pL (2*xl.length+3) 1 0 [] xl 0 with
  |no=>exact absurd hP hno
  |ok o l' n'=>
   have LO:=fun D h=>(hL D h).1 _ _ _ hP
   clear hL hno hP
   dsimp only
   generalize itRows o=OR at *
   generalize List.map Tk.row xl=XL at *
   generalize List.map Tk.row l'=L1 at *
   rw [wpDf_df,xs22]
   simp -implicitDefEqProofs
   refine ⟨⟨[.str s,.undef,.ptr (.n 2) 0,.ptr (.n 3) 0,.sl XL,.undef,.tup [.sl XL,.agg [i6 0,i6 xa,i6 xb]],.str s,.tup [.sl XL,.agg [i6 0,i6 xa,i6 xb]],.sl XL,.agg [i6 0,i6 xa,i6 xb],.ptr (.n 3) 0,i6 0,.bool false,.undef,.fn 48 [.ptr (.n 2) 0,.ptr (.n 3) 0],.undef,.undef,.undef,.undef,.undef,.undef],[(.n 2,[.nils]),(.n 3,[i6 0,i6 xa,i6 xb])],[]⟩,rfl,⟨.tup [.sl OR,.agg [i6 0,i6 0,i6 0]],[(.n 2,[.sl OR]),(.n 3,[i6 0,i6 0,i6 0])],[]⟩,⟨?_,?_,?_,?_,?_,?_,?_⟩,?_,?_⟩
   iterate 7 (· simp)
   ·refine postH_r ⟨?_,?_,?_,?_,?_,?_⟩<;>simp -implicitDefEqProofs
   ·simp
    refine onP_h _ _ (LO _ rfl) ⟨?_,?_,?_,?_,?_,?_,?_⟩ ?_
    iterate 7 (· simp)
    simp -implicitDefEqProofs
    refine ⟨_,_,rec_nil OR 0 0 0 1,⟨?_,?_,?_,?_,?_,?_,?_⟩,?_⟩
    iterate 7 (· simp)
    refine postH_r ⟨?_,?_,?_,?_,?_,?_⟩<;>simp -implicitDefEqProofs
  |th c t l' n'=>
   have LT:=fun D h=>(hL D h).2 _ _ _ _ hP
   clear hL hno hP
   dsimp only
   have RF:=rec_flt 0 xa xb c t 1
   generalize List.map Tk.row xl=XL at *
   generalize List.map Tk.row l'=L1 at *
   obtain ⟨tk,tt,tn,tl,tc⟩:=t
   unfold fltV at *
   dsimp only at *
   rw [wpDf_df,xs22]
   simp -implicitDefEqProofs
   refine ⟨⟨[.str s,.undef,.ptr (.n 2) 0,.ptr (.n 3) 0,.sl XL,.undef,.tup [.sl XL,.agg [i6 0,i6 xa,i6 xb]],.str s,.tup [.sl XL,.agg [i6 0,i6 xa,i6 xb]],.sl XL,.agg [i6 0,i6 xa,i6 xb],.ptr (.n 3) 0,i6 0,.bool false,.undef,.fn 48 [.ptr (.n 2) 0,.ptr (.n 3) 0],.undef,.undef,.undef,.undef,.undef,.undef],[(.n 2,[.nils]),(.n 3,[i6 0,i6 xa,i6 xb])],[]⟩,rfl,⟨.tup [.sl [],.agg [i6 c,i6 tl,i6 tc]],[(.n 2,[.nils]),(.n 3,[i6 c,i6 tl,i6 tc])],[]⟩,⟨?_,?_,?_,?_,?_,?_,?_⟩,?_,?_⟩
   iterate 7 (· simp)
   ·refine postH_r ⟨?_,?_,?_,?_,?_,?_⟩<;>simp -implicitDefEqProofs [itRows]
   ·simp
    refine onP_t _ _ (LT _ rfl) ⟨?_,?_,?_,?_,?_,?_,?_⟩ rfl ?_
    iterate 7 (· simp)
    refine ⟨⟨_,_,rfl⟩,_,_,RF,⟨?_,?_,?_,?_,?_,?_,?_⟩,?_⟩
    iterate 7 (· simp)
    refine postH_r ⟨?_,?_,?_,?_,?_,?_⟩<;>simp -implicitDefEqProofs
 ·have h0':(xc !=0)=true:=by simpa using h0
  rw [if_pos h0]
  generalize List.map Tk.row xl=XL at *
  simp -implicitDefEqProofs
  refine onC_mk _ (TK) ?_
  simp -implicitDefEqProofs [h0,h0']
  refine postH_r ⟨?_,?_,?_,?_,?_,?_⟩<;>simp -implicitDefEqProofs [itRows]
theorem parse_any (s:List UInt8) (hno:(tokF s).c=0→pL (2*(tokF s).l.length+3) 1 0 [] (tokF s).l 0≠ .no):Sp Tryz.prog gl 22 [.str s] (parseV (parseF s)):=parse_of s (tokF s) (stok_spec s) hno
open Go.Proofs
structure OkTk (t:Tk):Prop where
 k:1≤t.k∧t.k≤9
 nm:t.k=1→t.n=0
 br:7≤t.k→t.t=[]∧t.n=0
theorem mkOk {k:Int} {w:List UInt8} {n:Nat} {a b:Int} (h1:1≤k∧k≤9) (h2:k=1→n=0) (h3:7≤k→w=[]∧n=0):OkTk ⟨k,w,n,a,b⟩:=⟨h1,h2,h3⟩
def endTk (t:Tk):Prop:=t.k=0∧t.t=[]∧t.n=0
theorem rV_kind {m:List Int} {k:Int} {w:List UInt8} {n:Nat} (h:rV m= .t k w n):(k=1∧n=0)∨(3≤k∧k≤6):=by
 have td: ∀ {j:Int} {q:Nat×Int},toldV j q= .t k w n→k=j:=by
  intro j q h
  unfold toldV at h
  split at h
  ·cases h;rfl
  ·cases h
 unfold rV at h
 split at h
 ·split at h
  ·cases h;exact .inl ⟨rfl,rfl⟩
  ·cases h
 ·unfold wdR at h
  right
  split at h
  ·rw [td h];decide
  split at h
  ·rw [td h];decide
  split at h
  ·rw [td h];decide
  ·rw [td h];decide
theorem rV_e {m:List Int} {c:Int} (h:rV m= .e c):c≠0:=by
 unfold rV at h
 split at h
 ·split at h
  ·cases h
  ·cases h;decide
 ·unfold wdR at h
  repeat' split at h
  all_goals exact toldV_e h
theorem oneF_ok (l:List Int) (i:Nat) (r:Int) (hc:(oneF rV sU l i r).c=0) (a b:Int):OkTk ⟨(oneF rV sU l i r).k,(oneF rV sU l i r).w,(oneF rV sU l i r).n,a,b⟩:=by
 unfold oneF at hc ⊢
 by_cases c1:r=123
 ·rw [if_pos c1];exact mkOk (k:=7) (w:=[]) (n:=0) (by decide) (fun h=>absurd h (by decide)) (fun _=>⟨rfl,rfl⟩)
 rw [if_neg c1] at hc ⊢
 by_cases c2:r=125
 ·rw [if_pos c2];exact mkOk (k:=8) (w:=[]) (n:=0) (by decide) (fun h=>absurd h (by decide)) (fun _=>⟨rfl,rfl⟩)
 rw [if_neg c2] at hc ⊢
 by_cases c3:r=59
 ·rw [if_pos c3];exact mkOk (k:=9) (w:=[]) (n:=0) (by decide) (fun h=>absurd h (by decide)) (fun _=>⟨rfl,rfl⟩)
 rw [if_neg c3] at hc ⊢
 by_cases c4:r=34
 ·rw [if_pos c4] at hc ⊢
  by_cases c5:qGo l (i+1)=0
  ·rw [if_pos c5] at hc;exact absurd hc (by decide)
  ·rw [if_neg c5]
   exact mkOk (k:=2) (n:=0) (by decide) (fun h=>absurd h (by decide)) (fun h=>absurd h (by decide))
 rw [if_neg c4] at hc ⊢
 by_cases c5:wthn r=true
 ·rw [if_pos c5] at hc ⊢
  cases hv:rV (subR l i (wEnd l i)) with
  |e c=>
   rw [hv] at hc
   exact absurd hc (rV_e hv)
  |t k w n=>
   have:=rV_kind hv
   unfold TV.on
   dsimp only
   exact mkOk (by omega) (by omega) (by omega)
 ·rw [if_neg c5] at hc;exact absurd hc (by decide)
theorem refGo_out2 (l:List Int) (P:List (Int×Int)): ∀(f i:Nat) (out:List Tk),l.length - i<f→i≤l.length→(refGo rV sU l P f i out).c=0→ ∃o z,(refGo rV sU l P f i out).l=out++o++[z]∧(∀t∈o,OkTk t)∧endTk z
 |0,i,out,hf,hi,hc=>by omega
 |f+1,i,out,hf,hi,hc=>by
  rw [refGo] at hc ⊢
  cases hl:l[i]? with
  |none=>
   rw [hl] at hc
   refine ⟨[],_,by rw [List.append_nil],(fun t ht=>by cases ht),rfl,rfl,rfl⟩
  |some r=>
   obtain ⟨gi,er⟩:=List.getElem?_eq_some_iff.1 hl
   rw [hl] at hc
   dsimp only at hc ⊢
   by_cases c1:r=32∨r=9∨r=10
   ·rw [if_pos c1] at hc ⊢
    exact refGo_out2 l P f (i+1) out (by omega) (by omega) hc
   rw [if_neg c1] at hc ⊢
   by_cases c2:r=35
   ·rw [if_pos c2] at hc ⊢
    have hs:=skp_le l l.length (i+1) (by omega) (by omega)
    have e:skp l i=skp l (i+1):=by rw [skp_in gi,if_neg (by rw [er,c2];decide)]
    rw [e] at hc ⊢
    exact refGo_out2 l P f _ out (by omega) (by omega) hc
   rw [if_neg c2] at hc ⊢
   by_cases c3:(oneF rV sU l i r).c=0
   ·rw [if_pos c3] at hc ⊢
    have he:=oneF_en rV sU l i gi (by rw [er];exact c3)
    rw [er] at he
    obtain ⟨o,z,h1,h2,h3⟩:=refGo_out2 l P f _ _ (by omega) (by omega) hc
    refine ⟨⟨(oneF rV sU l i r).k,(oneF rV sU l i r).w,(oneF rV sU l i r).n,(P.getD i (0,0)).1,(P.getD i (0,0)).2⟩::o,z,?_,?_,h3⟩
    ·rw [h1];simp only [List.append_assoc,List.singleton_append,List.cons_append,List.nil_append]
    ·intro t ht
     rcases List.mem_cons.1 ht with rfl|ht
     ·exact oneF_ok l i r c3 _ _
     ·exact h2 t ht
   ·rw [if_neg c3] at hc
    exact absurd hc c3
theorem tokF_out {s:List UInt8} (h:(tokF s).c=0): ∃o z,(tokF s).l=o++[z]∧(∀t∈o,OkTk t)∧endTk z:=by
 unfold tokF refF at h ⊢
 split at h
 ·exact absurd h (by decide)
 ·rename_i hl
  rw [if_neg hl]
  obtain ⟨o,z,h1,h2⟩:=refGo_out2 _ _ _ 0 [] (by omega) (Nat.zero_le _) h
  exact ⟨o,z,by rw [h1,List.nil_append],h2⟩
end Go.Ai
namespace Go.Ai
structure Src (l:List Tk):Prop where
 h: ∃o z,l=o++[z]∧(∀t∈o,OkTk t)∧endTk z
theorem Src.ne {l:List Tk} (h:Src l):l≠[]:=by
 obtain ⟨o,z,rfl,_⟩:=h
 simp
theorem Src.cons {t:Tk} {r:List Tk} (h:Src (t::r)):(r=[]∧endTk t∧nxt (t::r)=[t])∨(OkTk t∧Src r∧nxt (t::r)=r):=by
 obtain ⟨o,z,e,ho,hz⟩:=h
 cases o with
 |nil=>
  rw [List.nil_append] at e
  injection e with e1 e2
  subst e1;subst e2
  exact .inl ⟨rfl,hz,rfl⟩
 |cons a o=>
  rw [List.cons_append] at e
  injection e with e1 e2
  subst e1;subst e2
  refine .inr ⟨ho _ (by simp),⟨o,z,rfl,fun t ht=>ho t (by simp [ht]),hz⟩,?_⟩
  cases o with
  |nil=>rfl
  |cons b o=>rfl
mutual
def toksI:It→List Tk
 | .mk n ws b ks ln co=>⟨1,n,0,ln,co⟩::(ws++(if b=false then [⟨9,[],0,0,0⟩] else ⟨7,[],0,0,0⟩::(toksL ks++[⟨8,[],0,0,0⟩])))
def toksL:List It→List Tk
 |[]=>[]
 |x::r=>toksI x++toksL r
end
def unpl (t:Tk):Tk:=⟨t.k,t.t,t.n,if t.k<7 then t.ln else 0,if t.k<7 then t.co else 0⟩
theorem unpl_lo {t:Tk} (h:t.k<7):unpl t=t:=by
 obtain ⟨k,s,n,a,b⟩:=t
 unfold unpl
 dsimp only at *
 rw [if_pos h,if_pos h]
theorem unpl_br {t:Tk} (h:OkTk t) (h7:7≤t.k):unpl t=⟨t.k,[],0,0,0⟩:=by
 obtain ⟨e1,e2⟩:=h.br h7
 unfold unpl
 rw [if_neg (by omega),if_neg (by omega),e1,e2]
def FwL (d:Nat) (e:Int) (out:List It) (l:List Tk) (n:Nat):Pr (List It)→Prop
 | .no=>False
 | .ok o l' n'=> ∃its T t r,o=out++its∧l=T++t::r∧t.k=e∧l'=nxt (t::r)∧Src (t::r)∧T.map unpl=toksL its∧n'=n+cntL its∧(its=[]∨d+depL its≤5)∧wfL its
 | .th c _ _ _=>c≠0
def FwI (d:Nat) (nm:List UInt8) (ln co:Int) (ws l:List Tk) (n:Nat):Pr It→Prop
 | .no=>False
 | .ok y l' n'=> ∃T,l=T++l'∧Src l'∧(⟨1,nm,0,ln,co⟩::(ws++T.map unpl):List Tk)=toksI y∧n'+1=n+cntI y∧d+depI y≤5∧wfI y
 | .th c _ _ _=>c≠0
theorem p_fwd: ∀f:Nat,(∀d e out l n,Src l→2*l.length+1≤f→(e=0∨e=8)→FwL d e out l n (pL f d e out l n))∧
  (∀d nm ln co ws l n,Src l→2*l.length+1≤f→d≤4→ws.length≤6→(∀w∈ws,1≤w.k∧w.k≤6)→FwI d nm ln co ws l n (pI f d nm ln co ws l n))
 |0=>⟨fun d e out l n hs hf=>by omega,fun d nm ln co ws l n hs hf=>by omega⟩
 |f+1=>by
  obtain ⟨ihL,ihI⟩:=p_fwd f
  refine ⟨fun d e out l n hs hf he=>?_,fun d nm ln co ws l n hs hf hd hw hk=>?_⟩
  ·cases l with
   |nil=>exact absurd rfl hs.ne
   |cons t r=>
    rw [pL]
    rw [List.length_cons] at hf
    by_cases c1:t.k=e
    ·rw [if_pos c1]
     exact ⟨[],[],t,r,(List.append_nil _).symm,rfl,c1,rfl,hs,rfl,rfl,.inl rfl,trivial⟩
    rw [if_neg c1]
    by_cases c2:t.k≠1
    ·rw [if_pos c2];show (6:Int)≠0;decide
    rw [if_neg c2]
    by_cases c3:4<d
    ·rw [if_pos c3];show (19:Int)≠0;decide
    rw [if_neg c3]
    by_cases c4:n=300
    ·rw [if_pos c4];show (9:Int)≠0;decide
    rw [if_neg c4]
    rcases hs.cons with ⟨_,hz,_⟩|⟨ht,hr,hn⟩
    ·exact absurd hz.1 (by omega)
    rw [hn]
    have hi:=ihI d t.t t.ln t.co [] r (n+1) hr (by omega) (by omega) (by decide) (fun w hw=>by cases hw)
    split
    ·rename_i x l2 n2 hx
     rw [hx] at hi
     obtain ⟨T1,e1,s1,k1,n1,d1,w1⟩:=hi
     have hl:=ihL d e (out++[x]) l2 n2 s1 (by rw [e1,List.length_append] at hf;omega) he
     generalize pL f d e (out++[x]) l2 n2=R at *
     cases R with
     |no=>exact hl
     |th c t l n=>exact hl
     |ok o l' n'=>
      obtain ⟨its,T2,t2,r2,e2,e3,k2,nx,s2,tk,n2',dd,ww⟩:=hl
      refine ⟨x::its,t::(T1++T2),t2,r2,by rw [e2,List.append_assoc];rfl,by rw [e1,e3];simp,k2,nx,s2,?_,?_,.inr ?_,w1,ww⟩
      ·have eu:unpl t=⟨1,t.t,0,t.ln,t.co⟩:=by
        rw [unpl_lo (by omega)]
        obtain ⟨k,s,m,a,b⟩:=t
        have h1:k=1:=by simpa using c2
        have h2:=ht.nm h1
        dsimp only at h2 ⊢
        rw [h1,h2]
       rw [List.map_cons,List.map_append,tk,eu,toksL,←k1]
       simp
      ·rw [cntL];omega
      ·rw [depL]
       rcases dd with rfl|dd
       ·rw [depL];omega
       ·omega
    ·rename_i c2' t2 l2 n2 hx
     rw [hx] at hi
     exact hi
    ·rename_i hx
     rw [hx] at hi
     exact hi
  ·cases l with
   |nil=>exact absurd rfl hs.ne
   |cons t r=>
    rw [pI]
    rw [List.length_cons] at hf
    rcases hs.cons with ⟨rfl,hz,hn⟩|⟨ht,hr,hn⟩
    ·rw [if_neg (by rw [hz.1];decide),if_neg (by rw [hz.1];decide),if_pos (by rw [hz.1];decide)]
     show (6:Int)≠0
     decide
    rw [hn]
    by_cases c1:t.k=9
    ·rw [if_pos c1]
     refine ⟨[t],rfl,hr,?_,by rw [cntI,cntL],by rw [depI,depL];omega,hw,hk,fun _=>rfl,trivial⟩
     rw [List.map_cons,List.map_nil,unpl_br ht (by omega),c1,toksI,if_pos rfl]
    rw [if_neg c1]
    by_cases c2:t.k=7
    ·rw [if_pos c2]
     have hl:=ihL (d+1) 8 [] r n hr (by omega) (.inr rfl)
     split
     ·rename_i ks l2 n2 hx
      rw [hx] at hl
      obtain ⟨its,T2,t2,r2,e2,e3,k2,nx,s2,tk,n2',dd,ww⟩:=hl
      rw [List.nil_append] at e2
      subst e2
      rcases s2.cons with ⟨_,hz,_⟩|⟨ht2,hr2,hn2⟩
      ·exact absurd hz.1 (by omega)
      rw [hn2] at nx
      subst nx
      refine ⟨t::(T2++[t2]),by rw [e3];simp,hr2,?_,?_,?_,hw,hk,(fun h=>by cases h),ww⟩
      ·rw [List.map_cons,List.map_append,List.map_cons,List.map_nil,unpl_br ht (by omega),unpl_br ht2 (by omega),tk,c2,k2,toksI,if_neg (by decide)]
      ·rw [cntI];omega
      ·rw [depI]
       rcases dd with rfl|dd
       ·rw [depL];omega
       ·omega
     ·rename_i c2' t2 l2 n2 hx
      rw [hx] at hl
      exact hl
     ·rename_i hx
      rw [hx] at hl
      exact hl
    rw [if_neg c2]
    by_cases c3:t.k<1∨6<t.k
    ·rw [if_pos c3];show (6:Int)≠0;decide
    rw [if_neg c3]
    by_cases c4:ws.length=6
    ·rw [if_pos c4];show (9:Int)≠0;decide
    rw [if_neg c4]
    have hi:=ihI d nm ln co (ws++[t]) r n hr (by omega) hd (by rw [List.length_append,List.length_singleton];omega) (fun w hw=>by
     rw [List.mem_append,List.mem_singleton] at hw
     rcases hw with hw|rfl
     ·exact hk w hw
     ·omega)
    generalize pI f d nm ln co (ws++[t]) r n=R at *
    cases R with
    |no=>exact hi
    |th c t l n=>exact hi
    |ok y l' n'=>
     obtain ⟨T,e1,s1,k1,rest⟩:=hi
     refine ⟨t::T,by rw [e1];rfl,s1,?_,rest⟩
     rw [←k1,List.map_cons,unpl_lo (by omega)]
     simp
end Go.Ai
namespace Go.Ai
structure Hd where
 n:List UInt8
 ws:List Tk
 b:Bool
 ln:Int
 co:Int
def Hd.it (h:Hd) (ks:List It):It:= .mk h.n h.ws h.b ks h.ln h.co
def addTop (y:It):List (Hd×List It)→List (Hd×List It)
 |(h,l)::st=>(h,l++[y])::st
 |[]=>[]
def popTop:List (Hd×List It)→List (Hd×List It)
 |(h,l)::st=>addTop (h.it l) st
 |[]=>[]
def topL:List (Hd×List It)→List It
 |(_,l)::_=>l
 |[]=>[]
def rp:List Tk→List (Hd×List It)→Option Hd→Nat→List It×Int×Int×Int
 |[],_,_,_=>([],0,0,0)
 |t::r,st,some x,n=>
  if t.k=9 then rp r (addTop (x.it []) st) none n
  else if t.k=7 then rp r (({x with b:=true},[])::st) none n
  else if t.k<1∨6<t.k then ([],6,t.ln,t.co)
  else if 6≤x.ws.length then ([],9,t.ln,t.co)
  else rp r st (some {x with ws:=x.ws++[t]}) n
 |t::r,st,none,n=>
  if t.k=8∧1<st.length then rp r (popTop st) none n
  else if t.k=0∧st.length=1 then (topL st,0,0,0)
  else if t.k≠1 then ([],6,t.ln,t.co)
  else if 5≤st.length then ([],19,t.ln,t.co)
  else if 300≤n then ([],9,t.ln,t.co)
  else rp r st (some ⟨t.t,[],false,t.ln,t.co⟩) (n+1)
def RpL (h:Hd) (out:List It) (st:List (Hd×List It)) (e:Int) (l:List Tk) (n:Nat):Pr (List It)→Prop
 | .no=>False
 | .ok o l' n'=>if e=0 then rp l ((h,out)::st) none n=(o,0,0,0) else rp l ((h,out)::st) none n=rp l' (addTop (h.it o) st) none n'
 | .th c t _ _=>rp l ((h,out)::st) none n=([],c,t.ln,t.co)
def RpI (st:List (Hd×List It)) (x:Hd) (l:List Tk) (n:Nat):Pr It→Prop
 | .no=>False
 | .ok y l' n'=>rp l st (some x) n=rp l' (addTop y st) none n'
 | .th c t _ _=>rp l st (some x) n=([],c,t.ln,t.co)
theorem rp_ok: ∀f:Nat,(∀d e out l n (h:Hd) (st:List (Hd×List It)),Src l→2*l.length+1≤f→st.length+1=d→(e=0∧d=1∨e=8∧2≤d)→n≤300→RpL h out st e l n (pL f d e out l n))∧
  (∀d nm ln co ws l n (st:List (Hd×List It)),Src l→2*l.length+1≤f→st.length=d→1≤d→d≤4→n≤300→ws.length≤6→RpI st ⟨nm,ws,false,ln,co⟩ l n (pI f d nm ln co ws l n))
 |0=>⟨fun d e out l n h st hs hf=>by omega,fun d nm ln co ws l n st hs hf=>by omega⟩
 |f+1=>by
  obtain ⟨ihL,ihI⟩:=rp_ok f
  have fw:=p_fwd f
  have cn:=p_cnt f
  refine ⟨fun d e out l n h st hs hf hd he hn=>?_,fun d nm ln co ws l n st hs hf hd h1 h4 hn hw=>?_⟩
  ·cases l with
   |nil=>exact absurd rfl hs.ne
   |cons t r=>
    rw [pL]
    rw [List.length_cons] at hf
    by_cases c1:t.k=e
    ·rw [if_pos c1]
     rcases he with ⟨rfl,rfl⟩|⟨rfl,hd2⟩
     ·simp only [RpL]
      rw [if_pos trivial,rp,if_neg (by rintro ⟨q,_⟩;rw [c1] at q;exact absurd q (by decide)),if_pos ⟨c1,by rw [List.length_cons];omega⟩]
      rfl
     ·simp only [RpL]
      rcases hs.cons with ⟨_,hz,_⟩|⟨ht,hr,hnx⟩
      ·exact absurd hz.1 (by omega)
      rw [if_neg (by decide),hnx,rp,if_pos ⟨c1,by rw [List.length_cons];omega⟩]
      rfl
    rw [if_neg c1]
    by_cases c2:t.k≠1
    ·rw [if_pos c2]
     show rp _ _ _ _=_
     have n1: ¬(t.k=8∧1<((h,out)::st).length):=by
      rintro ⟨q1,q2⟩
      rw [List.length_cons] at q2
      rcases he with ⟨rfl,rfl⟩|⟨rfl,hd2⟩
      ·omega
      ·exact c1 q1
     have n2: ¬(t.k=0∧((h,out)::st).length=1):=by
      rintro ⟨q1,q2⟩
      rw [List.length_cons] at q2
      rcases he with ⟨rfl,rfl⟩|⟨rfl,hd2⟩
      ·exact c1 q1
      ·omega
     rw [rp,if_neg n1,if_neg n2,if_pos c2]
    rw [if_neg c2]
    have k1:t.k=1:=by simpa using c2
    have base:rp (t::r) ((h,out)::st) none n=if 5≤st.length+1 then ([],19,t.ln,t.co) else if 300≤n then ([],9,t.ln,t.co) else rp r ((h,out)::st) (some ⟨t.t,[],false,t.ln,t.co⟩) (n+1):=by
     rw [rp,if_neg (by rintro ⟨q,_⟩;omega),if_neg (by rintro ⟨q,_⟩;omega),if_neg c2,List.length_cons]
    by_cases c3:4<d
    ·rw [if_pos c3]
     show rp _ _ _ _=_
     rw [base,if_pos (by omega)]
    rw [if_neg c3]
    rw [if_neg (by omega)] at base
    by_cases c4:n=300
    ·rw [if_pos c4]
     show rp _ _ _ _=_
     rw [base,if_pos (by omega)]
    rw [if_neg c4]
    rw [if_neg (by omega)] at base
    rcases hs.cons with ⟨_,hz,_⟩|⟨ht,hr,hnx⟩
    ·exact absurd hz.1 (by omega)
    rw [hnx]
    have hi:=ihI d t.t t.ln t.co [] r (n+1) ((h,out)::st) hr (by omega) (by simpa using hd) (by omega) (by omega) (by omega) (by simp)
    have hw:=fw.2 d t.t t.ln t.co [] r (n+1) hr (by omega) (by omega) (by decide) (fun w hw=>by cases hw)
    have hc:=cn.2 d t.t t.ln t.co [] r (n+1)
    split
    ·rename_i x l2 n2 hx
     rw [hx] at hi hw
     obtain ⟨T1,e1,s1,_⟩:=hw
     have hi:rp r ((h,out)::st) (some ⟨t.t,[],false,t.ln,t.co⟩) (n+1)=rp l2 ((h,out++[x])::st) none n2:=hi
     have hl:=ihL d e (out++[x]) l2 n2 h st s1 (by rw [e1,List.length_append] at hf;omega) hd he (hc _ _ _ hx (by omega)).2
     generalize pL f d e (out++[x]) l2 n2=R at *
     cases R with
     |no=>exact hl
     |th c t l n=>
      have hl:rp _ _ _ _=_:=hl
      show rp _ _ _ _=_
      rw [base,hi,hl]
     |ok o l' n'=>
      simp only [RpL] at hl ⊢
      rw [base,hi]
      exact hl
    ·rename_i c2' t2 l2 n2 hx
     rw [hx] at hi
     have hi:rp _ _ _ _=_:=hi
     show rp _ _ _ _=_
     rw [base,hi]
    ·rename_i hx
     rw [hx] at hi
     exact hi
  ·cases l with
   |nil=>exact absurd rfl hs.ne
   |cons t r=>
    rw [pI]
    rw [List.length_cons] at hf
    rcases hs.cons with ⟨rfl,hz,hnx⟩|⟨ht,hr,hnx⟩
    ·rw [if_neg (by rw [hz.1];decide),if_neg (by rw [hz.1];decide),if_pos (by rw [hz.1];decide)]
     show rp _ _ _ _=_
     rw [rp,if_neg (by rw [hz.1];decide),if_neg (by rw [hz.1];decide),if_pos (by rw [hz.1];decide)]
    rw [hnx]
    by_cases c1:t.k=9
    ·rw [if_pos c1]
     show rp _ _ _ _=_
     rw [rp,if_pos c1]
     rfl
    rw [if_neg c1]
    by_cases c2:t.k=7
    ·rw [if_pos c2]
     have hl:=ihL (d+1) 8 [] r n ⟨nm,ws,true,ln,co⟩ st hr (by omega) (by omega) (.inr ⟨rfl,by omega⟩) hn
     have base:rp (t::r) st (some ⟨nm,ws,false,ln,co⟩) n=rp r ((⟨nm,ws,true,ln,co⟩,[])::st) none n:=by
      rw [rp,if_neg c1,if_pos c2]
     split
     ·rename_i ks l2 n2 hx
      rw [hx] at hl
      simp only [RpL] at hl
      rw [if_neg (by decide)] at hl
      show rp _ _ _ _=_
      rw [base,hl]
      rfl
     ·rename_i c2' t2 l2 n2 hx
      rw [hx] at hl
      have hl:rp _ _ _ _=_:=hl
      show rp _ _ _ _=_
      rw [base,hl]
     ·rename_i hx
      rw [hx] at hl
      exact hl
    rw [if_neg c2]
    by_cases c3:t.k<1∨6<t.k
    ·rw [if_pos c3]
     show rp _ _ _ _=_
     rw [rp,if_neg c1,if_neg c2,if_pos c3]
    rw [if_neg c3]
    by_cases c4:ws.length=6
    ·rw [if_pos c4]
     show rp _ _ _ _=_
     rw [rp,if_neg c1,if_neg c2,if_neg c3,if_pos (by show 6≤ws.length;omega)]
    rw [if_neg c4]
    have hi:=ihI d nm ln co (ws++[t]) r n st hr (by omega) hd h1 h4 hn (by rw [List.length_append,List.length_singleton];omega)
    have base:rp (t::r) st (some ⟨nm,ws,false,ln,co⟩) n=rp r st (some ⟨nm,ws++[t],false,ln,co⟩) n:=by
     rw [rp,if_neg c1,if_neg c2,if_neg c3,if_neg (by show ¬6≤ws.length;omega)]
    generalize pI f d nm ln co (ws++[t]) r n=R at *
    cases R with
    |no=>exact hi
    |th c t l n=>
     have hi:rp _ _ _ _=_:=hi
     show rp _ _ _ _=_
     rw [base,hi]
    |ok y l' n'=>
     have hi:rp _ _ _ _=_:=hi
     show rp _ _ _ _=_
     rw [base,hi]
open Go.Proofs
theorem tokF_src {s:List UInt8} (h:(tokF s).c=0):Src (tokF s).l:=⟨tokF_out h⟩
theorem parse_no (s:List UInt8) (h:(tokF s).c=0):pL (2*(tokF s).l.length+3) 1 0 [] (tokF s).l 0≠ .no:=by
 have:=(p_fwd (2*(tokF s).l.length+3)).1 1 0 [] _ 0 (tokF_src h) (by omega) (.inl rfl)
 intro e
 rw [e] at this
 exact this
theorem tparse_spec (s:List UInt8):Sp Tryz.prog gl 22 [.str s] (parseV (parseF s)):=parse_any s (parse_no s)
structure ParsedT (s:List UInt8) (its:List It):Prop where
 c:(tokF s).c=0
 h: ∃T z,(tokF s).l=T++[z]∧endTk z∧T.map unpl=toksL its∧(∀t∈T,OkTk t)
 wf:wfL its
 dep:its=[]∨depL its≤4
 cnt:cntL its≤300
 p: ∃T z n,pL (2*(tokF s).l.length+3) 1 0 [] (tokF s).l 0= .ok its T z∧n=z
theorem parse_fwd (s:List UInt8):(parseF s).2.1≠0∧(parseF s).1=[]∨(parseF s).2=(0,0,0)∧ParsedT s (parseF s).1:=by
 unfold parseF
 by_cases h:(tokF s).c=0
 ·rw [if_neg (by simpa using h)]
  have hs:=tokF_src h
  have hf:=(p_fwd (2*(tokF s).l.length+3)).1 1 0 [] _ 0 hs (by omega) (.inl rfl)
  have hc:=(p_cnt (2*(tokF s).l.length+3)).1 1 0 [] (tokF s).l 0
  cases hp:pL (2*(tokF s).l.length+3) 1 0 [] (tokF s).l 0 with
  |no=>rw [hp] at hf;exact hf.elim
  |th c t l n=>
   rw [hp] at hf
   exact .inl ⟨hf,rfl⟩
  |ok o l' n'=>
   rw [hp] at hf
   dsimp only
   obtain ⟨its,T,t,r,e1,e2,k,nx,s2,tk,n1,dd,ww⟩:=hf
   rw [List.nil_append] at e1
   subst e1
   have hc:=hc _ _ _ hp (by decide) (Nat.le_refl _)
   rcases s2.cons with ⟨rfl,hz,_⟩|⟨ht,_,_⟩
   ·refine .inr ⟨rfl,h,⟨T,t,e2,hz,tk,?_⟩,ww,?_,by omega,⟨l',n',n',hp,rfl⟩⟩
    ·obtain ⟨o2,z2,e3,h3,_⟩:=hs.h
     rw [e2] at e3
     have:=List.append_inj_left' e3 rfl
     rw [this]
     exact h3
    ·rcases dd with h|h
     ·exact .inl h
     ·exact .inr (by omega)
   ·have:=ht.k;omega
 ·rw [if_pos h]
  exact .inl ⟨h,rfl⟩
def exT:List UInt8:=[114,117,108,101,32,97,32,112,97,103,101,32,123,32,102,111,114,32,50,109,59,32,125]
def exTL:List Int:=[114,117,108,101,32,97,32,112,97,103,101,32,123,32,102,111,114,32,50,109,59,32,125]
set_option maxRecDepth 100000 in
theorem exTL_runes:runesL exT 0=exTL:=by
 have h:textR exTL=exT:=by decide
 rw [←h]
 refine runesL_textR exTL (fun r hr=>?_)
 unfold okR
 simp [exTL] at hr
 omega
theorem refGo_sym (VR:List Int→TV) (U:List UInt8→List UInt8×Int) (l:List Int) (P:List (Int×Int)) (f k:Nat) (out:List Tk) {r kk:Int} (h:l[k]?=some r) (hr: ¬(r=32∨r=9∨r=10)∧r≠35) (ho:oneF VR U l k r=⟨kk,[],0,k+1,0⟩):
  refGo VR U l P (f+1) k out=refGo VR U l P f (k+1) (out++[⟨kk,[],0,(P.getD k (0,0)).1,(P.getD k (0,0)).2⟩]):=by
 rw [refGo,h]
 dsimp only
 rw [if_neg hr.1,if_neg hr.2,ho,if_pos rfl]
theorem rV_name (m:List Int) (s:List UInt8) (h:textR m=s) (hk:m.all (fun r=>decide (0≤r∧r<128))=true) (hd:digR (m.headD 0)=false) (hn:nameGo 0 32 m=true):rV m= .t 1 s 0:=by
 have hr:runesL s 0=m:=by
  rw [←h]
  refine runesL_textR m fun r hr=>?_
  have:=of_decide_eq_true (List.all_eq_true.1 hk r hr)
  unfold okR
  omega
 unfold rV
 rw [if_pos (Or.inr hd),h]
 unfold nameT
 rw [hr,hn]
 rfl
set_option maxRecDepth 100000 in
theorem tok_exT:tokF exT=⟨[⟨1,[114,117,108,101],0,1,1⟩,⟨1,[97],0,1,6⟩,⟨1,[112,97,103,101],0,1,8⟩,⟨7,[],0,1,13⟩,⟨1,[102,111,114],0,1,15⟩,⟨6,[],120,1,19⟩,⟨9,[],0,1,21⟩,⟨8,[],0,1,23⟩,⟨0,[],0,1,24⟩],0,0,0⟩:=by
 unfold tokF refF
 rw [if_neg (by decide),exTL_runes]
 refine (refGo_word rV sU exTL _ 23 0 [] (r:=114) (e:=4) (kk:=1) (w:=[114,117,108,101]) (n:=0) rfl (by decide) (by decide) (rV_name _ _ (by decide) (by decide) (by decide) (by decide))).trans ?_
 refine (refGo_gap rV sU exTL _ 22 4 _ rfl).trans ?_
 refine (refGo_word rV sU exTL _ 21 5 _ (r:=97) (e:=6) (kk:=1) (w:=[97]) (n:=0) rfl (by decide) (by decide) (rV_name _ _ (by decide) (by decide) (by decide) (by decide))).trans ?_
 refine (refGo_gap rV sU exTL _ 20 6 _ rfl).trans ?_
 refine (refGo_word rV sU exTL _ 19 7 _ (r:=112) (e:=11) (kk:=1) (w:=[112,97,103,101]) (n:=0) rfl (by decide) (by decide) (rV_name _ _ (by decide) (by decide) (by decide) (by decide))).trans ?_
 refine (refGo_gap rV sU exTL _ 18 11 _ rfl).trans ?_
 refine (refGo_sym rV sU exTL _ 17 12 _ (r:=123) (kk:=7) rfl (by decide) rfl).trans ?_
 refine (refGo_gap rV sU exTL _ 16 13 _ rfl).trans ?_
 refine (refGo_word rV sU exTL _ 15 14 _ (r:=102) (e:=17) (kk:=1) (w:=[102,111,114]) (n:=0) rfl (by decide) (by decide) (rV_name _ _ (by decide) (by decide) (by decide) (by decide))).trans ?_
 refine (refGo_gap rV sU exTL _ 14 17 _ rfl).trans ?_
 refine (refGo_word rV sU exTL _ 13 18 _ (r:=50) (e:=20) (kk:=6) (w:=[]) (n:=120) rfl (by decide) (by decide) (by rfl)).trans ?_
 refine (refGo_sym rV sU exTL _ 12 20 _ (r:=59) (kk:=9) rfl (by decide) rfl).trans ?_
 refine (refGo_gap rV sU exTL _ 11 21 _ rfl).trans ?_
 refine (refGo_sym rV sU exTL _ 10 22 _ (r:=125) (kk:=8) rfl (by decide) rfl).trans ?_
 refine (refGo_fin rV sU exTL _ 9 23 _ rfl).trans ?_
 rfl
set_option maxRecDepth 100000 in
theorem parse_exT:parseF exT=([.mk [114,117,108,101] [⟨1,[97],0,1,6⟩,⟨1,[112,97,103,101],0,1,8⟩] true [.mk [102,111,114] [⟨6,[],120,1,19⟩] false [] 1 15] 1 1],0,0,0):=by
 unfold parseF
 rw [tok_exT]
 rfl
set_option maxHeartbeats 1000000 in
theorem awake14_spec:Sp Tryz.prog gl 23 [] (.bool true):=by
 refine s23 rfl rfl ?_
 have T:=tparse_spec exT
 rw [parse_exT] at T
 unfold exT parseV at T
 simp only [itRows,It.row,List.map_cons,List.map_nil,Tk.row] at T
 simp -implicitDefEqProofs [c23]
 refine onC_mk _ (T) ?_
 simp -implicitDefEqProofs
open Go.Proofs
def hdC (h:Hd):List AV:=[.str h.n,.sl (h.ws.map Tk.row),.bool h.b,.sl [],i6 h.ln,i6 h.co]
def frC (f:Hd×List It):List AV:=hdC f.1++[.sl (itRows f.2)]
def stC:List (Hd×List It)→List AV
 |[]=>[]
 |f::st=>stC st++frC f
def stP (q:Id):Nat→List (Pl×Nat)
 |0=>[]
 |m+1=>(.b q (7*m+6),6)::stP q m
def rpS (TR:List (List AV)) (i:Nat) (st:List (Hd×List It)) (wi:Bool) (h:Hd) (n:Nat) (q:Id):St:=
 ⟨[(3,.ptr (.n 3) 0),(4,.sl TR),(6,.ms q 0 st.length 7),(7,i6 n),(8,.bool wi),(9,.ptr (.n 9) 0),(10,i6 i)],[(.n 3,[i6 0,i6 0,i6 0]),(.n 9,hdC h),(q,stC st)],stP q st.length⟩
def rpF (s:List UInt8):List It×Int×Int×Int:=if (tokF s).c≠0 then ([],(tokF s).c,(tokF s).a,(tokF s).b) else rp (tokF s).l [(⟨[],[],false,0,0⟩,[])] none 0
theorem addTop_len (y:It) (st:List (Hd×List It)):(addTop y st).length=st.length:=by cases st<;>rfl
theorem addTop_mem {y:It} {st:List (Hd×List It)} {i:Nat} (h: ∀f∈st,f.2.length≤i): ∀f∈addTop y st,f.2.length≤i+1:=by
 intro f hf
 cases st with
 |nil=>cases hf
 |cons q st=>
  obtain ⟨hd,l⟩:=q
  rw [addTop,List.mem_cons] at hf
  rcases hf with rfl|hf
  ·have:=h (hd,l) (by simp)
   simp at this ⊢
   omega
  ·have:=h f (by simp [hf]);omega
theorem popTop_len {st:List (Hd×List It)} (h:1<st.length):(popTop st).length=st.length - 1:=by
 cases st with
 |nil=>simp at h
 |cons q st=>obtain ⟨hd,l⟩:=q;rw [popTop,addTop_len];rfl
theorem popTop_mem {st:List (Hd×List It)} {i:Nat} (h: ∀f∈st,f.2.length≤i): ∀f∈popTop st,f.2.length≤i+1:=by
 cases st with
 |nil=>intro f hf;cases hf
 |cons q st=>obtain ⟨hd,l⟩:=q;exact addTop_mem fun f hf=>h f (by simp [hf])
theorem st_five {α:Type} (st:List α) (h1:1≤st.length) (h5:st.length≤5):(∃a,st=[a])∨(∃a b,st=[a,b])∨(∃a b c,st=[a,b,c])∨(∃a b c d,st=[a,b,c,d])∨(∃a b c d e,st=[a,b,c,d,e]):=by
 match st with
 |[]=>simp at h1
 |[a]=>exact .inl ⟨a,rfl⟩
 |[a,b]=>exact .inr (.inl ⟨a,b,rfl⟩)
 |[a,b,c]=>exact .inr (.inr (.inl ⟨a,b,c,rfl⟩))
 |[a,b,c,d]=>exact .inr (.inr (.inr (.inl ⟨a,b,c,d,rfl⟩)))
 |[a,b,c,d,e]=>exact .inr (.inr (.inr (.inr ⟨a,b,c,d,e,rfl⟩)))
 |_::_::_::_::_::_::_=>simp at h5
theorem st_four {α:Type} (st:List α) (h1:1≤st.length) (h5:st.length≤4):(∃a,st=[a])∨(∃a b,st=[a,b])∨(∃a b c,st=[a,b,c])∨(∃a b c d,st=[a,b,c,d]):=by
 rcases st_five st h1 (by omega) with h|h|h|h|⟨a,b,c,d,e,rfl⟩
 ·exact .inl h
 ·exact .inr (.inl h)
 ·exact .inr (.inr (.inl h))
 ·exact .inr (.inr (.inr h))
 ·simp at h5
set_option maxHeartbeats 4000000 in
theorem r14parse_spec (s:List UInt8):Sp Tryz.prog gl 24 [.str s] (parseV (rpF s)):=by
 refine s24 rfl rfl ?_
 have TK:=rtok_spec s
 have hTl:=tokF_len s
 unfold rpF parseV
 have hlim:lim=140737488355328:=rfl
 by_cases hc:(tokF s).c=0
 ·rw [if_neg (by simpa using hc)]
  have hL:(tokF s).l.length≤40001:=by
   by_cases hl:40000<s.length
   ·rw [tokF_long hl] at hc;cases hc
   ·omega
  generalize tokF s=X at *
  obtain ⟨TL,xc,xa,xb⟩:=X
  unfold TR.av at TK
  dsimp only at *
  subst hc
  have rl:(TL.map Tk.row).length=TL.length:=List.length_map _
  have rat: ∀i (h:i<TL.length),∀h2,(TL.map Tk.row)[i]'h2=TL[i].row:=fun i h h2=>by simp
  obtain ⟨R,hR⟩: ∃R,R=rp TL [(⟨[],[],false,0,0⟩,[])] none 0:=⟨_,rfl⟩
  rw [←hR]
  generalize hTR:List.map Tk.row TL=TRR at *
  simp -implicitDefEqProofs [c24]
  refine onC_mk _ (TK) ?_
  simp -implicitDefEqProofs
  refine wp_lpk (α:=Nat×List (Hd×List It)×Option Hd×Hd×Nat×Id) (fun y=>rpS TRR y.1 y.2.1 y.2.2.1.isSome y.2.2.2.1 y.2.2.2.2.1 y.2.2.2.2.2)
   (fun y=>y.1≤TL.length∧1≤y.2.1.length∧y.2.1.length≤5∧(∀x,y.2.2.1=some x→y.2.2.2.1=x∧y.2.1.length≤4)∧(∀f∈y.2.1,f.2.length≤y.1)∧y.2.2.2.1.ws.length≤y.1∧y.2.2.2.2.1≤y.1∧(y.2.2.2.2.2= .n 26∨y.2.2.2.2.2= .n 69)∧R=rp (TL.drop y.1) y.2.1 y.2.2.1 y.2.2.2.2.1) (fun y=>TL.length - y.1) ?_ (0,[(⟨[],[],false,0,0⟩,[])],none,⟨[],[],false,0,0⟩,0,.n 26) ?_ ?_
  ·rintro K ⟨i,st,w,hd,n,q⟩ hK ⟨h1,h2,h3,h4,h5,h6,h7,h8,h9⟩
   simp only at h1 h2 h3 h4 h5 h6 h7 h8 h9 ⊢
   have t1:IntKind.i64.wrap ((i:Int)+1)=(i+1:Nat):=by rw [wrap_i64]<;>omega
   have z0:IntKind.i64.wrap 0=0:=by decide
   have z1:IntKind.i64.wrap 1=1:=by decide
   have z2:IntKind.i64.wrap 2=2:=by decide
   have z3:IntKind.i64.wrap 3=3:=by decide
   have z4:IntKind.i64.wrap 4=4:=by decide
   by_cases g:i<TL.length
   ·have g':(i:Int)<TRR.length:=by omega
    have g2:(i:Int)<TL.length:=by omega
    have gR:i<TRR.length:=by omega
    have rai:=rat i g gR
    rw [List.drop_eq_getElem_cons g] at h9
    clear rat
    generalize TL[i]=t at *
    obtain ⟨tk,tt,tn,tl,tc⟩:=t
    simp only [Tk.row] at rai
    cases w with
    |some x=>
     obtain ⟨rfl,h44⟩:=h4 x rfl
     rw [rp] at h9
     dsimp only at h9
     by_cases k9:tk=9
     ·have k9':(tk==9)=true:=by simp [k9]
      rw [if_pos k9] at h9
      have fin:=fun σ' hσ=>hK (i+1,addTop (hd.it []) st,none,hd,n,q) σ' ⟨by simp only;omega,by simp only [addTop_len];omega,by simp only [addTop_len];omega,(fun x hx=>by cases hx),addTop_mem h5,by simp only;omega,by simp only;omega,h8,h9⟩ (by simp only;omega) hσ
      have S1:=fun f:Hd×List It=>it_six f.2
      have L1:=fun f:Hd×List It=>itRows_len f.2
      clear hK h9 h6 h4
      rcases st_four st h2 h44 with ⟨f1,rfl⟩|⟨f1,f2,rfl⟩|⟨f1,f2,f3,rfl⟩|⟨f1,f2,f3,f4,rfl⟩
      all_goals
       have B1:=h5 f1 (by simp)
       have L1:=L1 f1
       have S1:=S1 f1
       simp only [addTop,rpS,stC,frC,hdC,stP,Hd.it,itRows_app,itRows,It.row,Option.isSome_some,Option.isSome_none,List.nil_append,List.cons_append,List.length_cons,List.length_nil,Nat.zero_add,Nat.reduceAdd,Nat.reduceMul,Nat.mul_zero] at fin ⊢
       generalize List.map Tk.row hd.ws=XW at *
       generalize itRows f1.2=R1 at *
       rcases h8 with rfl|rfl
      all_goals
       simp -implicitDefEqProofs [g,g',g2,gR,rai,rl,k9,k9',z0,z1,z2,z3,z4]
       refine pendW_of ?_
       simp -implicitDefEqProofs [onP2]
       refine ⟨by rw [L1,hlim];omega,S1,fin _ ?_⟩
       refine weak_mk ?_ ?_ ?_ ?_ ?_ ?_<;>simp -implicitDefEqProofs [t1]
     have k9':(tk==9)=false:=by simp [k9]
     rw [if_neg k9] at h9
     by_cases k7:tk=7
     ·have k7':(tk==7)=true:=by simp [k7]
      rw [if_pos k7] at h9
      have fin:=fun σ' hσ=>hK (i+1,({hd with b:=true},[])::st,none,{hd with b:=true},n,.n 69) σ' ⟨by simp only;omega,by simp only [List.length_cons];omega,by simp only [List.length_cons];omega,(fun x hx=>by cases hx),(fun f hf=>by
       rcases List.mem_cons.1 hf with rfl|hf
       ·exact Nat.zero_le _
       ·exact Nat.le_succ_of_le (h5 f hf)),by simp only;omega,by simp only;omega,.inr rfl,h9⟩ (by simp only;omega) hσ
      clear hK h9 h6 h4 h5
      rcases st_four st h2 h44 with ⟨f1,rfl⟩|⟨f1,f2,rfl⟩|⟨f1,f2,f3,rfl⟩|⟨f1,f2,f3,f4,rfl⟩
      all_goals
       simp only [addTop,popTop,topL,rpS,stC,frC,hdC,stP,Hd.it,itRows_app,itRows,It.row,Option.isSome_some,Option.isSome_none,List.nil_append,List.cons_append,List.length_cons,List.length_nil,List.map_append,List.map_cons,List.map_nil,Nat.zero_add,Nat.reduceAdd,Nat.reduceMul,Nat.mul_zero] at fin ⊢
       generalize List.map Tk.row hd.ws=XW at *
       rcases h8 with rfl|rfl
      all_goals
       simp -implicitDefEqProofs [g,g',g2,gR,rai,rl,k9,k9',k7,k7',z0,z1,z2,z3,z4,hlim]
       refine fin _ ?_
       refine weak_mk ?_ ?_ ?_ ?_ ?_ ?_<;>simp -implicitDefEqProofs [t1]
     have k7':(tk==7)=false:=by simp [k7]
     rw [if_neg k7] at h9
     by_cases k16:tk<1∨6<tk
     ·rw [if_pos k16] at h9
      rw [h9]
      dsimp only
      have k16':(tk<1)∨(¬tk<1∧6<tk):=by omega
      clear hK h4 h5 h9
      rcases st_four st h2 h44 with ⟨f1,rfl⟩|⟨f1,f2,rfl⟩|⟨f1,f2,f3,rfl⟩|⟨f1,f2,f3,f4,rfl⟩
      all_goals
       simp only [addTop,popTop,topL,rpS,stC,frC,hdC,stP,Hd.it,itRows_app,itRows,It.row,Option.isSome_some,Option.isSome_none,List.nil_append,List.cons_append,List.length_cons,List.length_nil,List.map_append,List.map_cons,List.map_nil,Nat.zero_add,Nat.reduceAdd,Nat.reduceMul,Nat.mul_zero] at ⊢
       generalize List.map Tk.row hd.ws=XW at *
       rcases h8 with rfl|rfl
       all_goals rcases k16' with k16'|⟨k17,k18⟩
      all_goals
       simp -implicitDefEqProofs [g,g',g2,gR,rai,rl,z0,z1,z2,z3,z4,k9,k9',k7,k7', *]
     rw [if_neg k16] at h9
     have k1: ¬tk<1:=by omega
     have k6: ¬6<tk:=by omega
     have XL:(hd.ws.map Tk.row).length=hd.ws.length:=List.length_map _
     by_cases kw:6≤hd.ws.length
     ·have kw':(6:Int)≤(hd.ws.length:Int):=by omega
      rw [if_pos kw] at h9
      rw [h9]
      dsimp only
      clear hK h4 h5 h9
      rcases st_four st h2 h44 with ⟨f1,rfl⟩|⟨f1,f2,rfl⟩|⟨f1,f2,f3,rfl⟩|⟨f1,f2,f3,f4,rfl⟩
      all_goals
       simp only [addTop,popTop,topL,rpS,stC,frC,hdC,stP,Hd.it,itRows_app,itRows,It.row,Option.isSome_some,Option.isSome_none,List.nil_append,List.cons_append,List.length_cons,List.length_nil,List.map_append,List.map_cons,List.map_nil,Nat.zero_add,Nat.reduceAdd,Nat.reduceMul,Nat.mul_zero] at ⊢
       generalize List.map Tk.row hd.ws=XW at *
       rcases h8 with rfl|rfl
      all_goals
       simp -implicitDefEqProofs [g,g',g2,gR,rai,rl,z0,z1,z2,z3,z4,k9,k9',k7,k7',k1,k6,XL,kw,kw']
     have kw': ¬(6:Int)≤(hd.ws.length:Int):=by omega
     rw [if_neg kw] at h9
     have fin:=fun σ' hσ=>hK (i+1,st,some {hd with ws:=hd.ws++[⟨tk,tt,tn,tl,tc⟩]},{hd with ws:=hd.ws++[⟨tk,tt,tn,tl,tc⟩]},n,q) σ' ⟨by simp only;omega,h2,h3,(fun x hx=>⟨by cases hx;rfl,h44⟩),(fun f hf=>Nat.le_succ_of_le (h5 f hf)),by simp only [List.length_append,List.length_singleton];omega,by simp only;omega,h8,h9⟩ (by simp only;omega) hσ
     have X5:=tk_five hd.ws
     clear hK h9 h4 h5
     rcases st_four st h2 h44 with ⟨f1,rfl⟩|⟨f1,f2,rfl⟩|⟨f1,f2,f3,rfl⟩|⟨f1,f2,f3,f4,rfl⟩
     all_goals
      simp only [addTop,popTop,topL,rpS,stC,frC,hdC,stP,Hd.it,itRows_app,itRows,It.row,Option.isSome_some,Option.isSome_none,List.nil_append,List.cons_append,List.length_cons,List.length_nil,List.map_append,Tk.row,List.map_cons,List.map_nil,Nat.zero_add,Nat.reduceAdd,Nat.reduceMul,Nat.mul_zero] at fin ⊢
      generalize List.map Tk.row hd.ws=XW at *
      rcases h8 with rfl|rfl
     all_goals
      simp -implicitDefEqProofs [g,g',g2,gR,rai,rl,k9,k9',k7,k7',k1,k6,XL,kw,kw',z0,z1,z2,z3,z4,hlim]
      refine ⟨by omega,X5,by omega,X5,fin _ ?_⟩
      refine weak_mk ?_ ?_ ?_ ?_ ?_ ?_<;>simp -implicitDefEqProofs [t1]
    |none=>
     rw [rp] at h9
     dsimp only at h9
     by_cases c8:tk=8∧1<st.length
     ·rw [if_pos c8] at h9
      obtain ⟨k8,hm⟩:=c8
      have k8':(tk==8)=true:=by simp [k8]
      have fin:=fun σ' hσ=>hK (i+1,popTop st,none,hd,n,q) σ' ⟨by simp only;omega,by simp only [popTop_len hm];omega,by simp only [popTop_len hm];omega,(fun x hx=>by cases hx),popTop_mem h5,by simp only;omega,by simp only;omega,h8,h9⟩ (by simp only;omega) hσ
      have S1:=fun f:Hd×List It=>it_six f.2
      have L1:=fun f:Hd×List It=>itRows_len f.2
      clear hK h9 h6 h4
      rcases st_five st h2 h3 with ⟨f1,rfl⟩|⟨f1,f2,rfl⟩|⟨f1,f2,f3,rfl⟩|⟨f1,f2,f3,f4,rfl⟩|⟨f1,f2,f3,f4,f5,rfl⟩
      ·simp at hm
      all_goals
       have B1:=h5 f2 (by simp)
       have L1:=L1 f2
       have S1:=S1 f2
       simp only [addTop,popTop,topL,rpS,stC,frC,hdC,stP,Hd.it,itRows_app,itRows,It.row,Option.isSome_some,Option.isSome_none,List.nil_append,List.cons_append,List.length_cons,List.length_nil,List.map_append,List.map_cons,List.map_nil,Nat.zero_add,Nat.reduceAdd,Nat.reduceMul,Nat.mul_zero] at fin ⊢
       generalize List.map Tk.row hd.ws=XW at *
       generalize itRows f2.2=R2 at *
       generalize itRows f1.2=R1 at *
       rcases h8 with rfl|rfl
      all_goals
       simp -implicitDefEqProofs [g,g',g2,gR,rai,rl,k8,k8',z0,z1,z2,z3,z4,nbL]
       refine ⟨?_,?_⟩
       ·refine ⟨by rw [L1,hlim];omega,S1,fin _ ?_⟩
        refine weak_mk ?_ ?_ ?_ ?_ ?_ ?_<;>simp -implicitDefEqProofs [t1]
       ·refine pendW_of ?_
        simp -implicitDefEqProofs [onP2]
        refine ⟨by rw [L1,hlim];omega,S1,fin _ ?_⟩
        refine weak_mk ?_ ?_ ?_ ?_ ?_ ?_<;>simp -implicitDefEqProofs [t1]
     rw [if_neg c8] at h9
     by_cases c0:tk=0∧st.length=1
     ·rw [if_pos c0] at h9
      rw [h9]
      dsimp only
      obtain ⟨k0,hm⟩:=c0
      have k0':(tk==0)=true:=by simp [k0]
      have k8':(tk==8)=false:=by simp [k0]
      clear hK h9 h6 h4 h5
      obtain ⟨f1,rfl⟩: ∃f1,st=[f1]:=by
       match st,hm with
       |[a],_=>exact ⟨a,rfl⟩
      simp only [addTop,popTop,topL,rpS,stC,frC,hdC,stP,Hd.it,itRows_app,itRows,It.row,Option.isSome_some,Option.isSome_none,List.nil_append,List.cons_append,List.length_cons,List.length_nil,List.map_append,List.map_cons,List.map_nil,Nat.zero_add,Nat.reduceAdd,Nat.reduceMul,Nat.mul_zero]
      generalize List.map Tk.row hd.ws=XW at *
      generalize itRows f1.2=R1 at *
      rcases h8 with rfl|rfl
      all_goals
       simp -implicitDefEqProofs [g,g',g2,gR,rai,rl,k0,k0',k8',z0,z1,z2,z3,z4]
     rw [if_neg c0] at h9
     by_cases k1:tk≠1
     ·rw [if_pos k1] at h9
      rw [h9]
      dsimp only
      have k1':(tk !=1)=true:=by simpa using k1
      clear hK h4 h5 h9
      have three:(tk=8∧st.length=1)∨(tk=0∧1<st.length)∨(tk≠8∧tk≠0):=by omega
      rcases three with ⟨k8,hm⟩|⟨k0,hm⟩|⟨k8,k0⟩
      ·have k8':(tk==8)=true:=by simp [k8]
       have k0':(tk==0)=false:=by simp [k8]
       obtain ⟨f1,rfl⟩: ∃f1,st=[f1]:=by
        match st,hm with
        |[a],_=>exact ⟨a,rfl⟩
       simp only [addTop,popTop,topL,rpS,stC,frC,hdC,stP,Hd.it,itRows_app,itRows,It.row,Option.isSome_some,Option.isSome_none,List.nil_append,List.cons_append,List.length_cons,List.length_nil,List.map_append,List.map_cons,List.map_nil,Nat.zero_add,Nat.reduceAdd,Nat.reduceMul,Nat.mul_zero]
       generalize List.map Tk.row hd.ws=XW at *
       rcases h8 with rfl|rfl
       all_goals
        simp -implicitDefEqProofs [g,g',g2,gR,rai,rl,k1,k1',k8,k8',k0',z0,z1,z2,z3,z4]
      ·have k8':(tk==8)=false:=by simp [k0]
       have k0':(tk==0)=true:=by simp [k0]
       rcases st_five st h2 h3 with ⟨f1,rfl⟩|⟨f1,f2,rfl⟩|⟨f1,f2,f3,rfl⟩|⟨f1,f2,f3,f4,rfl⟩|⟨f1,f2,f3,f4,f5,rfl⟩
       ·simp at hm
       all_goals
        simp only [addTop,popTop,topL,rpS,stC,frC,hdC,stP,Hd.it,itRows_app,itRows,It.row,Option.isSome_some,Option.isSome_none,List.nil_append,List.cons_append,List.length_cons,List.length_nil,List.map_append,List.map_cons,List.map_nil,Nat.zero_add,Nat.reduceAdd,Nat.reduceMul,Nat.mul_zero]
        generalize List.map Tk.row hd.ws=XW at *
        rcases h8 with rfl|rfl
       all_goals
        simp -implicitDefEqProofs [g,g',g2,gR,rai,rl,k1,k1',k0,k8',k0',z0,z1,z2,z3,z4]
      ·have k8':(tk==8)=false:=by simp [k8]
       have k0':(tk==0)=false:=by simp [k0]
       rcases st_five st h2 h3 with ⟨f1,rfl⟩|⟨f1,f2,rfl⟩|⟨f1,f2,f3,rfl⟩|⟨f1,f2,f3,f4,rfl⟩|⟨f1,f2,f3,f4,f5,rfl⟩
       all_goals
        simp only [addTop,popTop,topL,rpS,stC,frC,hdC,stP,Hd.it,itRows_app,itRows,It.row,Option.isSome_some,Option.isSome_none,List.nil_append,List.cons_append,List.length_cons,List.length_nil,List.map_append,List.map_cons,List.map_nil,Nat.zero_add,Nat.reduceAdd,Nat.reduceMul,Nat.mul_zero]
        generalize List.map Tk.row hd.ws=XW at *
        rcases h8 with rfl|rfl
       all_goals
        simp -implicitDefEqProofs [g,g',g2,gR,rai,rl,k1,k1',k8,k0,k8',k0',z0,z1,z2,z3,z4]
     rw [if_neg k1] at h9
     have k1:tk=1:=by simpa using k1
     have k1':(tk !=1)=false:=by simp [k1]
     have k8':(tk==8)=false:=by simp [k1]
     have k0':(tk==0)=false:=by simp [k1]
     clear c8 c0
     by_cases hm:5≤st.length
     ·rw [if_pos hm] at h9
      rw [h9]
      dsimp only
      clear hK h4 h5 h9
      rcases st_five st h2 h3 with ⟨f1,rfl⟩|⟨f1,f2,rfl⟩|⟨f1,f2,f3,rfl⟩|⟨f1,f2,f3,f4,rfl⟩|⟨f1,f2,f3,f4,f5,rfl⟩
      all_goals first
       |(simp at hm;done)
       |skip
      simp only [addTop,popTop,topL,rpS,stC,frC,hdC,stP,Hd.it,itRows_app,itRows,It.row,Option.isSome_some,Option.isSome_none,List.nil_append,List.cons_append,List.length_cons,List.length_nil,List.map_append,List.map_cons,List.map_nil,Nat.zero_add,Nat.reduceAdd,Nat.reduceMul,Nat.mul_zero]
      generalize List.map Tk.row hd.ws=XW at *
      rcases h8 with rfl|rfl
      all_goals
       simp -implicitDefEqProofs [g,g',g2,gR,rai,rl,k1,k1',k8',k0',z0,z1,z2,z3,z4]
     rw [if_neg hm] at h9
     have h44:st.length≤4:=by omega
     by_cases hn:300≤n
     ·rw [if_pos hn] at h9
      have hn':(300:Int)≤(n:Int):=by omega
      rw [h9]
      dsimp only
      clear hK h4 h5 h9
      rcases st_four st h2 h44 with ⟨f1,rfl⟩|⟨f1,f2,rfl⟩|⟨f1,f2,f3,rfl⟩|⟨f1,f2,f3,f4,rfl⟩
      all_goals
       simp only [addTop,popTop,topL,rpS,stC,frC,hdC,stP,Hd.it,itRows_app,itRows,It.row,Option.isSome_some,Option.isSome_none,List.nil_append,List.cons_append,List.length_cons,List.length_nil,List.map_append,List.map_cons,List.map_nil,Nat.zero_add,Nat.reduceAdd,Nat.reduceMul,Nat.mul_zero]
       generalize List.map Tk.row hd.ws=XW at *
       rcases h8 with rfl|rfl
      all_goals
       simp -implicitDefEqProofs [g,g',g2,gR,rai,rl,k1,k1',k8',k0',hn,hn',z0,z1,z2,z3,z4]
     rw [if_neg hn] at h9
     have hn': ¬(300:Int)≤(n:Int):=by omega
     have t2:IntKind.i64.wrap ((n:Int)+1)=(n+1:Nat):=by rw [wrap_i64]<;>omega
     have fin:=fun σ' hσ=>hK (i+1,st,some ⟨tt,[],false,tl,tc⟩,⟨tt,[],false,tl,tc⟩,n+1,q) σ' ⟨by simp only;omega,h2,h3,(fun x hx=>⟨by cases hx;rfl,h44⟩),(fun f hf=>Nat.le_succ_of_le (h5 f hf)),Nat.zero_le _,by simp only;omega,h8,h9⟩ (by simp only;omega) hσ
     clear hK h4 h5 h9
     rcases st_four st h2 h44 with ⟨f1,rfl⟩|⟨f1,f2,rfl⟩|⟨f1,f2,f3,rfl⟩|⟨f1,f2,f3,f4,rfl⟩
     all_goals
      simp only [addTop,popTop,topL,rpS,stC,frC,hdC,stP,Hd.it,itRows_app,itRows,It.row,Option.isSome_some,Option.isSome_none,List.nil_append,List.cons_append,List.length_cons,List.length_nil,List.map_append,List.map_cons,List.map_nil,Nat.zero_add,Nat.reduceAdd,Nat.reduceMul,Nat.mul_zero] at fin ⊢
      generalize List.map Tk.row hd.ws=XW at *
      rcases h8 with rfl|rfl
     all_goals
      simp -implicitDefEqProofs [g,g',g2,gR,rai,rl,k1,k1',k8',k0',hn,hn',z0,z1,z2,z3,z4,t2]
      refine fin _ ?_
      refine weak_mk ?_ ?_ ?_ ?_ ?_ ?_<;>simp -implicitDefEqProofs [t1,t2]
   ·obtain rfl:i=TL.length:=by omega
    have g': ¬(TL.length:Int)<TRR.length:=by omega
    rw [List.drop_length] at h9
    have h9:R=([],0,0,0):=by
     rw [h9]
     cases w<;>rw [rp]
    rw [h9]
    dsimp only
    clear hK h4 h5
    rcases st_five st h2 h3 with ⟨f1,rfl⟩|⟨f1,f2,rfl⟩|⟨f1,f2,f3,rfl⟩|⟨f1,f2,f3,f4,rfl⟩|⟨f1,f2,f3,f4,f5,rfl⟩
    all_goals
     simp only [addTop,popTop,topL,rpS,stC,frC,hdC,stP,Hd.it,itRows_app,itRows,It.row,Option.isSome_some,Option.isSome_none,List.nil_append,List.cons_append,List.length_cons,List.length_nil,List.map_append,List.map_cons,List.map_nil,Nat.zero_add,Nat.reduceAdd,Nat.reduceMul,Nat.mul_zero]
     generalize List.map Tk.row hd.ws=XW at *
     rcases h8 with rfl|rfl
    all_goals
     simp -implicitDefEqProofs [g',rl]
  ·refine ⟨Nat.zero_le _,by simp,by simp,by simp,by simp,by simp,by simp,.inl rfl,by simpa using hR⟩
  ·unfold rpS
   simp only [stC,frC,hdC,stP,itRows,List.map_nil,List.nil_append,Option.isSome_none]
   refine weak_mk ?_ ?_ ?_ ?_ ?_ ?_<;>simp -implicitDefEqProofs [stP]
 ·rw [if_pos (by simpa using hc)]
  generalize tokF s=X at *
  obtain ⟨TL,xc,xa,xb⟩:=X
  unfold TR.av at TK
  dsimp only at *
  have hc':(xc !=0)=true:=by simpa using hc
  generalize List.map Tk.row TL=TRR at *
  rw [itRows]
  simp -implicitDefEqProofs [c24]
  refine onC_mk _ (TK) ?_
  simp -implicitDefEqProofs [hc,hc']
open Go.Proofs
end Go.Ai
namespace Go.Ai
structure InL (A l:List Int) (m:Nat):Prop where
 h: ∀q,q<A.length→l[m+q]?=A[q]?
 n:l[m+A.length]?=some 10∨l[m+A.length]?=none
theorem InL.at {A l:List Int} {m:Nat} (h:InL A l m) {i:Nat} (hi:i<A.length): ∃g:m+i<l.length,l[m+i]=A[i]:=by
 have:=h.h i hi
 rw [List.getElem?_eq_getElem hi] at this
 exact List.getElem?_eq_some_iff.1 this
theorem InL.fin {A l:List Int} {m:Nat} (h:InL A l m):(∃g:m+A.length<l.length,l[m+A.length]=10)∨ ¬m+A.length<l.length:=h.n.imp (fun h=>List.getElem?_eq_some_iff.1 h) (fun h=>by have:=List.getElem?_eq_none_iff.1 h;omega)
end Go.Ai
namespace Go.Ai
def Rds (l:List Int) (P:List (Int×Int)) (j e:Nat) (out out':List Tk):Prop:= ∀f,l.length - j<f→ ∃f',l.length - e<f'∧refGo rV sU l P f j out=refGo rV sU l P f' e out'
theorem Rds.trans {l:List Int} {P:List (Int×Int)} {j e g:Nat} {o1 o2 o3:List Tk} (h1:Rds l P j e o1 o2) (h2:Rds l P e g o2 o3):Rds l P j g o1 o3:=fun f h=>by
 obtain ⟨f1,a1,b1⟩:=h1 f h
 obtain ⟨f2,a2,b2⟩:=h2 f1 a1
 exact ⟨f2,a2,b1.trans b2⟩
theorem Rds.one {l:List Int} {P:List (Int×Int)} {j e:Nat} {o1 o2:List Tk} (hj:j<l.length) (he:j<e) (h: ∀f,refGo rV sU l P (f+1) j o1=refGo rV sU l P f e o2):Rds l P j e o1 o2:=fun f hf=>by
 cases f with
 |zero=>omega
 |succ f=>exact ⟨f,by omega,h f⟩
end Go.Ai
namespace Go.Ai
def Why (c:Int) (dp cn:Nat):Prop:=c=19∧5<dp∨c=9∧300<cn
theorem Why.mono {c:Int} {d n d' n':Nat} (h:Why c d n) (h1:d≤d') (h2:n≤n'):Why c d' n':=by
 rcases h with ⟨h,g⟩|⟨h,g⟩
 ·exact .inl ⟨h,by omega⟩
 ·exact .inr ⟨h,by omega⟩
open Go.Proofs
end Go.Ai
namespace Go.Ai
open Go.Proofs
end Go.Ai
