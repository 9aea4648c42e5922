/- P15: a part of the proof: the rules, or what functions compute. Conditions: as each theorem says. -/
import Derived.Test.YtpaipepdakekbaaGreatDoorP14
import Derived.Test.YtpaipepdakekbaaGreatDoorP12
import Derived.Test.YtpaipepdakekbaaGreatDoorP5
import Derived.Test.YtpaipepdakekbaaGreatDoorP2
set_option linter.unusedSimpArgs false
set_option linter.unusedVariables false
set_option maxRecDepth 20000
namespace Go.Ai
open Go.Proofs Go.Shelf
end Go.Ai
namespace Go.Ai
open Go.Proofs Go.Shelf
open Go.Proofs
def sU (w:List UInt8):List UInt8×Int:=unqF (runesL w 0)
theorem wthn_okR {r:Int} (h:wthn r=true):okR r∧r≠ -1:=by
 unfold wthn letter digR at h
 simp only [Bool.or_eq_true,decide_eq_true_iff] at h
 unfold okR
 omega
theorem toldV_e {k:Int} {q:Nat×Int} {c:Int} (h:toldV k q= .e c):c≠0:=by
 unfold toldV at h
 split at h
 ·cases h
 ·cases h;assumption
theorem sV_e (w:List UInt8) (c:Int) (h:sV w= .e c):c≠0:=by
 unfold sV at h
 split at h
 ·split at h
  ·cases h
  ·cases h;decide
 ·split at h
  ·exact toldV_e h
  ·split at h
   ·exact toldV_e h
   ·split at h
    ·exact toldV_e h
    ·exact toldV_e h
theorem rV_sV (m:List Int) (h0:m≠[]) (hw: ∀r∈m,wthn r=true):rV m=sV (textR m):=by
 have hr:=runesL_textR m (fun r hr=>(wthn_okR (hw r hr)).1)
 have hpos:0<(textR m).length:=by
  by_cases g:0<(textR m).length
  ·exact g
  ·rw [runesL_out g] at hr
   exact absurd hr.symm h0
 have hv:vR (textR m)=m.headD 0:=by
  unfold vR
  rw [if_neg (fun e=>by rw [e] at hpos;cases hpos)]
  rw [runesL_in hpos] at hr
  cases m with
  |nil=>exact absurd rfl h0
  |cons r t=>
   injection hr with h1 h2
   rw [h1,List.headD_cons]
   unfold r65
   rw [if_neg (wthn_okR (hw r (by simp))).2]
 unfold rV sV
 rw [hv]
 cases hd:digR (m.headD 0)
 ·rw [if_pos (Or.inr rfl),if_pos rfl]
 ·rw [if_neg (by rintro (h|h);exact h0 h;cases h),if_neg (by decide)]
  unfold wdR
  generalize textR m=w at *
  have e1:dgsF w=w.all isDig:=by
   unfold dgsF
   rw [decide_eq_true hpos,Bool.and_true]
  have e2:sufB w [37]=true↔byt w (w.length - 1)=37:=by
   rw [sufB_one]
   constructor
   ·exact fun h=>h.2
   ·exact fun h=>⟨hpos,h⟩
  rw [e1,ppF_eq,spanU_eq]
  by_cases c1:w.all isDig=true
  ·rw [if_pos c1,if_pos c1]
  ·rw [if_neg c1,if_neg c1]
   by_cases c2:byt w (w.length - 1)=37
   ·rw [if_pos c2,if_pos (e2.2 c2)]
   ·rw [if_neg c2,if_neg (fun h=>c2 (e2.1 h))]
theorem sHyp:SHyp sV sU rV unqF:=⟨fun _=>rfl,rV_sV,sV_e⟩
def tokF (s:List UInt8):TR:=refF rV sU s
theorem tokF_long {s:List UInt8} (h:40000<s.length):tokF s=⟨[],9,1,1⟩:=by
 unfold tokF refF
 rw [if_pos h]
theorem stokL_spec (s:List UInt8) (h:40000<s.length):Sp Tryz.prog gl 16 [.str s] (tokF s).av:=by
 refine s16 rfl rfl ?_
 have B:=fun (e:Nat) (he:(Id.n 10).isNw e=false)=>sbegin_spec s ⟨[],0,0,0,0,1,1,0,0,0⟩ 0 0 e (.n 10) rfl he
 have hB:Sc.begin ⟨[],0,0,0,0,1,1,0,0,0⟩ 0 0=sc0:=rfl
 rw [hB] at B
 rw [tokF_long h]
 have hl':(40000:Int)<s.length:=by omega
 have W:=fun (e:Nat) (he:(Id.n 10).isNw e=false)=>swrong_spec s sc0 9 e (.n 10) rfl he
 unfold scB Sc.wrong sc0 at *
 simp only [List.map_nil] at B W
 unfold TR.av
 simp -implicitDefEqProofs [c16]
 refine onH_mk _ _ (B _ rfl) ⟨?_,?_,?_,?_,?_,?_,?_⟩ ?_
 iterate 7 (· simp)
 simp -implicitDefEqProofs [h,hl']
 refine onH_mk _ _ (W _ rfl) ⟨?_,?_,?_,?_,?_,?_,?_⟩ ?_
 iterate 7 (· simp)
 simp -implicitDefEqProofs
theorem stok_spec (s:List UInt8):Sp Tryz.prog gl 16 [.str s] (tokF s).av:=by
 by_cases h:40000<s.length
 ·exact stokL_spec s h
 ·have:=stokens_spec sV sU s (fun w hw=>tunquote_spec w (by omega)) (fun w hw=>svalue_spec w (by omega))
  rw [scan_ref sHyp s] at this
  exact this
def wEf:Nat→List Int→Nat→Nat
 |0,_,i=>i
 |f+1,l,i=>match l[i]? with
  |some r=>if wthn r=true then wEf f l (i+1) else i
  |none=>i
theorem wEnd_f (l:List Int): ∀(f i:Nat),l.length - i≤f→wEnd l i=wEf f l i
 |0,i,h=>by rw [wEnd_out (by omega)];rfl
 |f+1,i,h=>by
  rw [wEf]
  by_cases g:i<l.length
  ·rw [wEnd_in g,List.getElem?_eq_getElem g]
   dsimp only
   rw [wEnd_f l f (i+1) (by omega)]
  ·rw [wEnd_out g,List.getElem?_eq_none (by omega)]
theorem refGo_word (VR:List Int→TV) (U:List UInt8→List UInt8×Int) (l:List Int) (P:List (Int×Int)) (f k:Nat) (out:List Tk) {r:Int} {e:Nat} {kk:Int} {w:List UInt8} {n:Nat} (h:l[k]?=some r) (hw:wthn r=true) (he:wEf l.length l k=e) (hv:VR (subR l k e)= .t kk w n):
  refGo VR U l P (f+1) k out=refGo VR U l P f e (out++[⟨kk,w,n,(P.getD k (0,0)).1,(P.getD k (0,0)).2⟩]):=by
 have hne: ∀z:Int,wthn z=false→r≠z:=fun z hz e=>by rw [←e,hw] at hz;cases hz
 have o:oneF VR U l k r=⟨kk,w,n,e,0⟩:=by
  unfold oneF
  rw [if_neg (hne 123 rfl),if_neg (hne 125 rfl),if_neg (hne 59 rfl),if_neg (hne 34 rfl),if_pos hw,wEnd_f l l.length k (by omega),he,hv]
  rfl
 rw [refGo,h]
 dsimp only
 rw [if_neg (by rintro (h|h|h);exact hne 32 rfl h;exact hne 9 rfl h;exact hne 10 rfl h),if_neg (hne 35 rfl),o,if_pos rfl]
theorem refGo_gap (VR:List Int→TV) (U:List UInt8→List UInt8×Int) (l:List Int) (P:List (Int×Int)) (f k:Nat) (out:List Tk) (h:l[k]?=some 32):refGo VR U l P (f+1) k out=refGo VR U l P f (k+1) out:=by
 rw [refGo,h]
 dsimp only
 rw [if_pos (Or.inl rfl)]
theorem refGo_fin (VR:List Int→TV) (U:List UInt8→List UInt8×Int) (l:List Int) (P:List (Int×Int)) (f k:Nat) (out:List Tk) (h:l[k]?=none):refGo VR U l P (f+1) k out=⟨out++[⟨0,[],0,(P.getD l.length (0,0)).1,(P.getD l.length (0,0)).2⟩],0,0,0⟩:=by
 rw [refGo,h]
open Go.Proofs
theorem item_ok (f:Nat) (hL: ∀g,g<f→LOk g):IOk f:=by
 intro d x l n D b hb hbd hd hn
 refine ⟨fun o l' n' h=>?_,fun c t l' n' h=>?_⟩
 ·refine h29 rfl ?_
  refine item_wp f d x l n D b hb hbd hd hn hL _ _ (by rw [h];simp) (fun o2 l2 n2 h2 σ hp=>?_) (fun c t l' n' h2=>by rw [h] at h2;cases h2)
  rw [h] at h2
  cases h2
  exact hp
 ·refine t29 rfl ?_
  refine item_wp f d x l n D b hb hbd hd hn hL _ _ (by rw [h];simp) (fun o2 l2 n2 h2=>by rw [h] at h2;cases h2) (fun c2 t2 l2 n2 h2 v σ hp=>?_)
  rw [h] at h2
  cases h2
  exact hp
theorem p_ok: ∀f,LOk f∧IOk f:=by
 intro f
 induction f using Nat.strongRecOn with
 |ind f ih=>exact ⟨list_ok f fun g hg=>(ih g hg).2,item_ok f fun g hg=>(ih g hg).1⟩
theorem rec_nil (V:List (List AV)) (a b c:Int) (dm:Nat):SpD Tryz.prog gl 17 dm ⟨[.ptr (.up (.n 2)) 0,.ptr (.up (.n 3)) 0],[(.up (.n 2),[.sl V]),(.up (.n 3),[i6 a,i6 b,i6 c])],[]⟩ .nili ⟨.tup [],[(.up (.n 2),[.sl V]),(.up (.n 3),[i6 a,i6 b,i6 c])],[]⟩:=by
 refine d17 rfl rfl ?_
 simp only [inSt,mpB,mpL,AV.mp,mpP,Pl.mp]
 simp -implicitDefEqProofs [l17,c17]
 refine postH_n ⟨?_,?_,?_,?_,?_,?_⟩<;>simp -implicitDefEqProofs
theorem rec_flt (a b c:Int) (e:Int) (t:Tk) (dm:Nat):SpD Tryz.prog gl 17 dm ⟨[.ptr (.up (.n 2)) 0,.ptr (.up (.n 3)) 0],[(.up (.n 2),[.nils]),(.up (.n 3),[i6 a,i6 b,i6 c])],[]⟩ (fltV e t) ⟨.tup [],[(.up (.n 2),[.nils]),(.up (.n 3),[i6 e,i6 t.ln,i6 t.co])],[]⟩:=by
 refine d17 rfl rfl ?_
 unfold fltV
 simp only [inSt,mpB,mpL,AV.mp,mpP,Pl.mp]
 simp -implicitDefEqProofs [l17,c17]
 refine postH_n ⟨?_,?_,?_,?_,?_,?_⟩<;>simp -implicitDefEqProofs
section
variable {S SP:Nat→Nat→In→Out→Prop} {SD:Nat→Nat→In→AV→Out→Prop} {N sl dm d:Nat} {rs:List AR} {O:Out} {σ:St}
theorem wpDf_sq {a:AC} {r:ACD}:wpDf S SP SD N sl dm d rs O (.sq a r) σ=wpA S a (fun e σ'=>match e with | .n=>wpDf S SP SD N sl dm d rs O r σ'| .r=>postH d rs O .r σ'| .x _=>False) σ:=rfl
theorem wpDf_df {l:List AOp} {x:X} {c2:AC2}:wpDf S SP SD N sl dm d rs O (.df l x c2) σ=wpL S l (fun σ'=>match σ'.v x with
  | .fn g caps=> ∃I M,I.vs.length=N∧CallOk sl σ' ((List.range N).map X.s) I M∧postH d [.t sl] O .r (callSt sl σ' ((List.range N).map X.s) I M)∧
    wpA2 S SP (fun v τ=>(∃T y,v= .ifc T y)∧leftD SD sl dm rs M g caps v τ) c2 (fun e τ=>match e with | .x _=>False|_=>leftD SD sl dm rs M g caps .nili τ) (inSt I)
  |_=>False) σ:=rfl
end
theorem xs22:(List.range 22).map X.s=[.s 0,.s 1,.s 2,.s 3,.s 4,.s 5,.s 6,.s 7,.s 8,.s 9,.s 10,.s 11,.s 12,.s 13,.s 14,.s 15,.s 16,.s 17,.s 18,.s 19,.s 20,.s 21]:=rfl
def parseF (s:List UInt8):List It×Int×Int×Int:=
 if (tokF s).c≠0 then ([],(tokF s).c,(tokF s).a,(tokF s).b)
 else match pL (2*(tokF s).l.length+3) 1 0 [] (tokF s).l 0 with
  | .ok o _ _=>(o,0,0,0)
  | .th c t _ _=>([],c,t.ln,t.co)
  | .no=>([],0,0,0)
def parseV (x:List It×Int×Int×Int):AV:= .tup [.sl (itRows x.1),.agg [i6 x.2.1,i6 x.2.2.1,i6 x.2.2.2]]
set_option maxHeartbeats 2000000 in
theorem parse_any (s:List UInt8) (hno:(tokF s).c=0→pL (2*(tokF s).l.length+3) 1 0 [] (tokF s).l 0≠ .no):Sp Tryz.prog gl 8 [.str s] (parseV (parseF s)):=by
 refine Sp.of_h fun D=>?_
 refine x8 1 1 (by decide) (by decide) rfl ?_
 have TK:=stok_spec s
 unfold parseF parseV
 generalize tokF s=x at *
 obtain ⟨xl,xc,xa,xb⟩:=x
 unfold TR.av at TK
 simp only at *
 simp only [inSt,mpB,mpL,AV.mp,mpP,Pl.mp,c8,wpDf_sq]
 by_cases h0:xc=0
 ·subst h0
  have hno:=hno rfl
  simp -implicitDefEqProofs
  refine onC_mk _ (TK) ?_
  simp -implicitDefEqProofs
  have hL:=fun D h=>(p_ok (2*xl.length+3)).1 1 0 xl 0 D (.n 18) rfl h (by decide) (by decide)
  unfold paB at hL
  cases hP:pL (2*xl.length+3) 1 0 [] xl 0 with
  |no=>exact absurd hP hno
  |ok o l' n'=>
   have LO:=fun D h=>(hL D h).1 _ _ _ hP
   clear hL hno hP
   dsimp only
   generalize itRows o=OR at *
   generalize List.map Tk.row xl=XL at *
   generalize List.map Tk.row l'=L1 at *
   rw [wpDf_df,xs22]
   simp -implicitDefEqProofs
   refine ⟨⟨[.str s,.undef,.ptr (.n 2) 0,.ptr (.n 3) 0,.sl XL,.undef,.tup [.sl XL,.agg [i6 0,i6 xa,i6 xb]],.str s,.tup [.sl XL,.agg [i6 0,i6 xa,i6 xb]],.sl XL,.agg [i6 0,i6 xa,i6 xb],.ptr (.n 3) 0,i6 0,.bool false,.undef,.fn 17 [.ptr (.n 2) 0,.ptr (.n 3) 0],.undef,.undef,.undef,.undef,.undef,.undef],[(.n 2,[.nils]),(.n 3,[i6 0,i6 xa,i6 xb])],[]⟩,rfl,⟨.tup [.sl OR,.agg [i6 0,i6 0,i6 0]],[(.n 2,[.sl OR]),(.n 3,[i6 0,i6 0,i6 0])],[]⟩,⟨?_,?_,?_,?_,?_,?_,?_⟩,?_,?_⟩
   iterate 7 (· simp)
   ·refine postH_r ⟨?_,?_,?_,?_,?_,?_⟩<;>simp -implicitDefEqProofs
   ·simp
    refine onP_h _ _ (LO _ rfl) ⟨?_,?_,?_,?_,?_,?_,?_⟩ ?_
    iterate 7 (· simp)
    simp -implicitDefEqProofs
    refine ⟨_,_,rec_nil OR 0 0 0 1,⟨?_,?_,?_,?_,?_,?_,?_⟩,?_⟩
    iterate 7 (· simp)
    refine postH_r ⟨?_,?_,?_,?_,?_,?_⟩<;>simp -implicitDefEqProofs
  |th c t l' n'=>
   have LT:=fun D h=>(hL D h).2 _ _ _ _ hP
   clear hL hno hP
   dsimp only
   have RF:=rec_flt 0 xa xb c t 1
   generalize List.map Tk.row xl=XL at *
   generalize List.map Tk.row l'=L1 at *
   obtain ⟨tk,tt,tn,tl,tc⟩:=t
   unfold fltV at *
   dsimp only at *
   rw [wpDf_df,xs22]
   simp -implicitDefEqProofs
   refine ⟨⟨[.str s,.undef,.ptr (.n 2) 0,.ptr (.n 3) 0,.sl XL,.undef,.tup [.sl XL,.agg [i6 0,i6 xa,i6 xb]],.str s,.tup [.sl XL,.agg [i6 0,i6 xa,i6 xb]],.sl XL,.agg [i6 0,i6 xa,i6 xb],.ptr (.n 3) 0,i6 0,.bool false,.undef,.fn 17 [.ptr (.n 2) 0,.ptr (.n 3) 0],.undef,.undef,.undef,.undef,.undef,.undef],[(.n 2,[.nils]),(.n 3,[i6 0,i6 xa,i6 xb])],[]⟩,rfl,⟨.tup [.sl [],.agg [i6 c,i6 tl,i6 tc]],[(.n 2,[.nils]),(.n 3,[i6 c,i6 tl,i6 tc])],[]⟩,⟨?_,?_,?_,?_,?_,?_,?_⟩,?_,?_⟩
   iterate 7 (· simp)
   ·refine postH_r ⟨?_,?_,?_,?_,?_,?_⟩<;>simp -implicitDefEqProofs [itRows]
   ·simp
    refine onP_t _ _ (LT _ rfl) ⟨?_,?_,?_,?_,?_,?_,?_⟩ rfl ?_
    iterate 7 (· simp)
    refine ⟨⟨_,_,rfl⟩,_,_,RF,⟨?_,?_,?_,?_,?_,?_,?_⟩,?_⟩
    iterate 7 (· simp)
    refine postH_r ⟨?_,?_,?_,?_,?_,?_⟩<;>simp -implicitDefEqProofs
 ·have h0':(xc !=0)=true:=by simpa using h0
  rw [if_pos h0]
  generalize List.map Tk.row xl=XL at *
  simp -implicitDefEqProofs
  refine onC_mk _ (TK) ?_
  simp -implicitDefEqProofs [h0,h0']
  refine postH_r ⟨?_,?_,?_,?_,?_,?_⟩<;>simp -implicitDefEqProofs [itRows]
open Go.Proofs
structure OkTk (t:Tk):Prop where
 k:1≤t.k∧t.k≤9
 nm:t.k=1→t.n=0
 br:7≤t.k→t.t=[]∧t.n=0
theorem mkOk {k:Int} {w:List UInt8} {n:Nat} {a b:Int} (h1:1≤k∧k≤9) (h2:k=1→n=0) (h3:7≤k→w=[]∧n=0):OkTk ⟨k,w,n,a,b⟩:=⟨h1,h2,h3⟩
def endTk (t:Tk):Prop:=t.k=0∧t.t=[]∧t.n=0
theorem rV_kind {m:List Int} {k:Int} {w:List UInt8} {n:Nat} (h:rV m= .t k w n):(k=1∧n=0)∨(3≤k∧k≤6):=by
 have td: ∀ {j:Int} {q:Nat×Int},toldV j q= .t k w n→k=j:=by
  intro j q h
  unfold toldV at h
  split at h
  ·cases h;rfl
  ·cases h
 unfold rV at h
 split at h
 ·split at h
  ·cases h;exact .inl ⟨rfl,rfl⟩
  ·cases h
 ·unfold wdR at h
  right
  split at h
  ·rw [td h];decide
  split at h
  ·rw [td h];decide
  split at h
  ·rw [td h];decide
  ·rw [td h];decide
theorem rV_e {m:List Int} {c:Int} (h:rV m= .e c):c≠0:=by
 unfold rV at h
 split at h
 ·split at h
  ·cases h
  ·cases h;decide
 ·unfold wdR at h
  repeat' split at h
  all_goals exact toldV_e h
theorem oneF_ok (l:List Int) (i:Nat) (r:Int) (hc:(oneF rV sU l i r).c=0) (a b:Int):OkTk ⟨(oneF rV sU l i r).k,(oneF rV sU l i r).w,(oneF rV sU l i r).n,a,b⟩:=by
 unfold oneF at hc ⊢
 by_cases c1:r=123
 ·rw [if_pos c1];exact mkOk (k:=7) (w:=[]) (n:=0) (by decide) (fun h=>absurd h (by decide)) (fun _=>⟨rfl,rfl⟩)
 rw [if_neg c1] at hc ⊢
 by_cases c2:r=125
 ·rw [if_pos c2];exact mkOk (k:=8) (w:=[]) (n:=0) (by decide) (fun h=>absurd h (by decide)) (fun _=>⟨rfl,rfl⟩)
 rw [if_neg c2] at hc ⊢
 by_cases c3:r=59
 ·rw [if_pos c3];exact mkOk (k:=9) (w:=[]) (n:=0) (by decide) (fun h=>absurd h (by decide)) (fun _=>⟨rfl,rfl⟩)
 rw [if_neg c3] at hc ⊢
 by_cases c4:r=34
 ·rw [if_pos c4] at hc ⊢
  by_cases c5:qGo l (i+1)=0
  ·rw [if_pos c5] at hc;exact absurd hc (by decide)
  ·rw [if_neg c5]
   exact mkOk (k:=2) (n:=0) (by decide) (fun h=>absurd h (by decide)) (fun h=>absurd h (by decide))
 rw [if_neg c4] at hc ⊢
 by_cases c5:wthn r=true
 ·rw [if_pos c5] at hc ⊢
  cases hv:rV (subR l i (wEnd l i)) with
  |e c=>
   rw [hv] at hc
   exact absurd hc (rV_e hv)
  |t k w n=>
   have:=rV_kind hv
   unfold TV.on
   dsimp only
   exact mkOk (by omega) (by omega) (by omega)
 ·rw [if_neg c5] at hc;exact absurd hc (by decide)
theorem refGo_out2 (l:List Int) (P:List (Int×Int)): ∀(f i:Nat) (out:List Tk),l.length - i<f→i≤l.length→(refGo rV sU l P f i out).c=0→ ∃o z,(refGo rV sU l P f i out).l=out++o++[z]∧(∀t∈o,OkTk t)∧endTk z
 |0,i,out,hf,hi,hc=>by omega
 |f+1,i,out,hf,hi,hc=>by
  rw [refGo] at hc ⊢
  cases hl:l[i]? with
  |none=>
   rw [hl] at hc
   refine ⟨[],_,by rw [List.append_nil],(fun t ht=>by cases ht),rfl,rfl,rfl⟩
  |some r=>
   obtain ⟨gi,er⟩:=List.getElem?_eq_some_iff.1 hl
   rw [hl] at hc
   dsimp only at hc ⊢
   by_cases c1:r=32∨r=9∨r=10
   ·rw [if_pos c1] at hc ⊢
    exact refGo_out2 l P f (i+1) out (by omega) (by omega) hc
   rw [if_neg c1] at hc ⊢
   by_cases c2:r=35
   ·rw [if_pos c2] at hc ⊢
    have hs:=skp_le l l.length (i+1) (by omega) (by omega)
    have e:skp l i=skp l (i+1):=by rw [skp_in gi,if_neg (by rw [er,c2];decide)]
    rw [e] at hc ⊢
    exact refGo_out2 l P f _ out (by omega) (by omega) hc
   rw [if_neg c2] at hc ⊢
   by_cases c3:(oneF rV sU l i r).c=0
   ·rw [if_pos c3] at hc ⊢
    have he:=oneF_en rV sU l i gi (by rw [er];exact c3)
    rw [er] at he
    obtain ⟨o,z,h1,h2,h3⟩:=refGo_out2 l P f _ _ (by omega) (by omega) hc
    refine ⟨⟨(oneF rV sU l i r).k,(oneF rV sU l i r).w,(oneF rV sU l i r).n,(P.getD i (0,0)).1,(P.getD i (0,0)).2⟩::o,z,?_,?_,h3⟩
    ·rw [h1];simp only [List.append_assoc,List.singleton_append,List.cons_append,List.nil_append]
    ·intro t ht
     rcases List.mem_cons.1 ht with rfl|ht
     ·exact oneF_ok l i r c3 _ _
     ·exact h2 t ht
   ·rw [if_neg c3] at hc
    exact absurd hc c3
theorem tokF_out {s:List UInt8} (h:(tokF s).c=0): ∃o z,(tokF s).l=o++[z]∧(∀t∈o,OkTk t)∧endTk z:=by
 unfold tokF refF at h ⊢
 split at h
 ·exact absurd h (by decide)
 ·rename_i hl
  rw [if_neg hl]
  obtain ⟨o,z,h1,h2⟩:=refGo_out2 _ _ _ 0 [] (by omega) (Nat.zero_le _) h
  exact ⟨o,z,by rw [h1,List.nil_append],h2⟩
end Go.Ai
namespace Go.Ai
structure Src (l:List Tk):Prop where
 h: ∃o z,l=o++[z]∧(∀t∈o,OkTk t)∧endTk z
theorem Src.ne {l:List Tk} (h:Src l):l≠[]:=by
 obtain ⟨o,z,rfl,_⟩:=h
 simp
theorem Src.cons {t:Tk} {r:List Tk} (h:Src (t::r)):(r=[]∧endTk t∧nxt (t::r)=[t])∨(OkTk t∧Src r∧nxt (t::r)=r):=by
 obtain ⟨o,z,e,ho,hz⟩:=h
 cases o with
 |nil=>
  rw [List.nil_append] at e
  injection e with e1 e2
  subst e1;subst e2
  exact .inl ⟨rfl,hz,rfl⟩
 |cons a o=>
  rw [List.cons_append] at e
  injection e with e1 e2
  subst e1;subst e2
  refine .inr ⟨ho _ (by simp),⟨o,z,rfl,fun t ht=>ho t (by simp [ht]),hz⟩,?_⟩
  cases o with
  |nil=>rfl
  |cons b o=>rfl
mutual
def cntI:It→Nat
 | .mk _ _ _ ks _ _=>1+cntL ks
def cntL:List It→Nat
 |[]=>0
 |x::r=>cntI x+cntL r
end
mutual
def depI:It→Nat
 | .mk _ _ _ ks _ _=>1+depL ks
def depL:List It→Nat
 |[]=>0
 |x::r=>max (depI x) (depL r)
end
mutual
def wfI:It→Prop
 | .mk _ ws b ks _ _=>ws.length≤6∧(∀w∈ws,1≤w.k∧w.k≤6)∧(b=false→ks=[])∧wfL ks
def wfL:List It→Prop
 |[]=>True
 |x::r=>wfI x∧wfL r
end
mutual
def toksI:It→List Tk
 | .mk n ws b ks ln co=>⟨1,n,0,ln,co⟩::(ws++(if b=false then [⟨9,[],0,0,0⟩] else ⟨7,[],0,0,0⟩::(toksL ks++[⟨8,[],0,0,0⟩])))
def toksL:List It→List Tk
 |[]=>[]
 |x::r=>toksI x++toksL r
end
theorem toksL_app: ∀a b:List It,toksL (a++b)=toksL a++toksL b
 |[],b=>rfl
 |x::a,b=>by rw [List.cons_append,toksL,toksL,toksL_app a b,List.append_assoc]
theorem cntL_app: ∀a b:List It,cntL (a++b)=cntL a+cntL b
 |[],b=>by rw [cntL,List.nil_append,Nat.zero_add]
 |x::a,b=>by rw [List.cons_append,cntL,cntL,cntL_app a b,Nat.add_assoc]
theorem depL_app: ∀a b:List It,depL (a++b)=max (depL a) (depL b)
 |[],b=>by rw [depL,List.nil_append,Nat.zero_max]
 |x::a,b=>by rw [List.cons_append,depL,depL,depL_app a b,Nat.max_assoc]
theorem wfL_app: ∀a b:List It,wfL (a++b)↔wfL a∧wfL b
 |[],b=>by rw [wfL,List.nil_append];simp
 |x::a,b=>by rw [List.cons_append,wfL,wfL,wfL_app a b,and_assoc]
def unpl (t:Tk):Tk:=⟨t.k,t.t,t.n,if t.k<7 then t.ln else 0,if t.k<7 then t.co else 0⟩
theorem unpl_lo {t:Tk} (h:t.k<7):unpl t=t:=by
 obtain ⟨k,s,n,a,b⟩:=t
 unfold unpl
 dsimp only at *
 rw [if_pos h,if_pos h]
theorem unpl_br {t:Tk} (h:OkTk t) (h7:7≤t.k):unpl t=⟨t.k,[],0,0,0⟩:=by
 obtain ⟨e1,e2⟩:=h.br h7
 unfold unpl
 rw [if_neg (by omega),if_neg (by omega),e1,e2]
def FwL (d:Nat) (e:Int) (out:List It) (l:List Tk) (n:Nat):Pr (List It)→Prop
 | .no=>False
 | .ok o l' n'=> ∃its T t r,o=out++its∧l=T++t::r∧t.k=e∧l'=nxt (t::r)∧Src (t::r)∧T.map unpl=toksL its∧n'=n+cntL its∧(its=[]∨d+depL its≤5)∧wfL its
 | .th c _ _ _=>c≠0
def FwI (d:Nat) (nm:List UInt8) (ln co:Int) (ws l:List Tk) (n:Nat):Pr It→Prop
 | .no=>False
 | .ok y l' n'=> ∃T,l=T++l'∧Src l'∧(⟨1,nm,0,ln,co⟩::(ws++T.map unpl):List Tk)=toksI y∧n'+1=n+cntI y∧d+depI y≤5∧wfI y
 | .th c _ _ _=>c≠0
theorem p_fwd: ∀f:Nat,(∀d e out l n,Src l→2*l.length+1≤f→(e=0∨e=8)→FwL d e out l n (pL f d e out l n))∧
  (∀d nm ln co ws l n,Src l→2*l.length+1≤f→d≤4→ws.length≤6→(∀w∈ws,1≤w.k∧w.k≤6)→FwI d nm ln co ws l n (pI f d nm ln co ws l n))
 |0=>⟨fun d e out l n hs hf=>by omega,fun d nm ln co ws l n hs hf=>by omega⟩
 |f+1=>by
  obtain ⟨ihL,ihI⟩:=p_fwd f
  refine ⟨fun d e out l n hs hf he=>?_,fun d nm ln co ws l n hs hf hd hw hk=>?_⟩
  ·cases l with
   |nil=>exact absurd rfl hs.ne
   |cons t r=>
    rw [pL]
    rw [List.length_cons] at hf
    by_cases c1:t.k=e
    ·rw [if_pos c1]
     exact ⟨[],[],t,r,(List.append_nil _).symm,rfl,c1,rfl,hs,rfl,rfl,.inl rfl,trivial⟩
    rw [if_neg c1]
    by_cases c2:t.k≠1
    ·rw [if_pos c2];show (6:Int)≠0;decide
    rw [if_neg c2]
    by_cases c3:4<d
    ·rw [if_pos c3];show (19:Int)≠0;decide
    rw [if_neg c3]
    by_cases c4:n=300
    ·rw [if_pos c4];show (9:Int)≠0;decide
    rw [if_neg c4]
    rcases hs.cons with ⟨_,hz,_⟩|⟨ht,hr,hn⟩
    ·exact absurd hz.1 (by omega)
    rw [hn]
    have hi:=ihI d t.t t.ln t.co [] r (n+1) hr (by omega) (by omega) (by decide) (fun w hw=>by cases hw)
    split
    ·rename_i x l2 n2 hx
     rw [hx] at hi
     obtain ⟨T1,e1,s1,k1,n1,d1,w1⟩:=hi
     have hl:=ihL d e (out++[x]) l2 n2 s1 (by rw [e1,List.length_append] at hf;omega) he
     generalize pL f d e (out++[x]) l2 n2=R at *
     cases R with
     |no=>exact hl
     |th c t l n=>exact hl
     |ok o l' n'=>
      obtain ⟨its,T2,t2,r2,e2,e3,k2,nx,s2,tk,n2',dd,ww⟩:=hl
      refine ⟨x::its,t::(T1++T2),t2,r2,by rw [e2,List.append_assoc];rfl,by rw [e1,e3];simp,k2,nx,s2,?_,?_,.inr ?_,w1,ww⟩
      ·have eu:unpl t=⟨1,t.t,0,t.ln,t.co⟩:=by
        rw [unpl_lo (by omega)]
        obtain ⟨k,s,m,a,b⟩:=t
        have h1:k=1:=by simpa using c2
        have h2:=ht.nm h1
        dsimp only at h2 ⊢
        rw [h1,h2]
       rw [List.map_cons,List.map_append,tk,eu,toksL,←k1]
       simp
      ·rw [cntL];omega
      ·rw [depL]
       rcases dd with rfl|dd
       ·rw [depL];omega
       ·omega
    ·rename_i c2' t2 l2 n2 hx
     rw [hx] at hi
     exact hi
    ·rename_i hx
     rw [hx] at hi
     exact hi
  ·cases l with
   |nil=>exact absurd rfl hs.ne
   |cons t r=>
    rw [pI]
    rw [List.length_cons] at hf
    rcases hs.cons with ⟨rfl,hz,hn⟩|⟨ht,hr,hn⟩
    ·rw [if_neg (by rw [hz.1];decide),if_neg (by rw [hz.1];decide),if_pos (by rw [hz.1];decide)]
     show (6:Int)≠0
     decide
    rw [hn]
    by_cases c1:t.k=9
    ·rw [if_pos c1]
     refine ⟨[t],rfl,hr,?_,by rw [cntI,cntL],by rw [depI,depL];omega,hw,hk,fun _=>rfl,trivial⟩
     rw [List.map_cons,List.map_nil,unpl_br ht (by omega),c1,toksI,if_pos rfl]
    rw [if_neg c1]
    by_cases c2:t.k=7
    ·rw [if_pos c2]
     have hl:=ihL (d+1) 8 [] r n hr (by omega) (.inr rfl)
     split
     ·rename_i ks l2 n2 hx
      rw [hx] at hl
      obtain ⟨its,T2,t2,r2,e2,e3,k2,nx,s2,tk,n2',dd,ww⟩:=hl
      rw [List.nil_append] at e2
      subst e2
      rcases s2.cons with ⟨_,hz,_⟩|⟨ht2,hr2,hn2⟩
      ·exact absurd hz.1 (by omega)
      rw [hn2] at nx
      subst nx
      refine ⟨t::(T2++[t2]),by rw [e3];simp,hr2,?_,?_,?_,hw,hk,(fun h=>by cases h),ww⟩
      ·rw [List.map_cons,List.map_append,List.map_cons,List.map_nil,unpl_br ht (by omega),unpl_br ht2 (by omega),tk,c2,k2,toksI,if_neg (by decide)]
      ·rw [cntI];omega
      ·rw [depI]
       rcases dd with rfl|dd
       ·rw [depL];omega
       ·omega
     ·rename_i c2' t2 l2 n2 hx
      rw [hx] at hl
      exact hl
     ·rename_i hx
      rw [hx] at hl
      exact hl
    rw [if_neg c2]
    by_cases c3:t.k<1∨6<t.k
    ·rw [if_pos c3];show (6:Int)≠0;decide
    rw [if_neg c3]
    by_cases c4:ws.length=6
    ·rw [if_pos c4];show (9:Int)≠0;decide
    rw [if_neg c4]
    have hi:=ihI d nm ln co (ws++[t]) r n hr (by omega) hd (by rw [List.length_append,List.length_singleton];omega) (fun w hw=>by
     rw [List.mem_append,List.mem_singleton] at hw
     rcases hw with hw|rfl
     ·exact hk w hw
     ·omega)
    generalize pI f d nm ln co (ws++[t]) r n=R at *
    cases R with
    |no=>exact hi
    |th c t l n=>exact hi
    |ok y l' n'=>
     obtain ⟨T,e1,s1,k1,rest⟩:=hi
     refine ⟨t::T,by rw [e1];rfl,s1,?_,rest⟩
     rw [←k1,List.map_cons,unpl_lo (by omega)]
     simp
end Go.Ai
