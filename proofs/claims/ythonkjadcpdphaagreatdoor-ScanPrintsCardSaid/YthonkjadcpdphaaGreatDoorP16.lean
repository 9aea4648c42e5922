/- P16: a part of the proof: the rules, or what functions compute. Conditions: as each theorem says. -/
import Derived.Test.YthonkjadcpdphaaGreatDoorP13
import Derived.Test.YthonkjadcpdphaaGreatDoorP9
import Derived.Test.YthonkjadcpdphaaGreatDoorP15
import Derived.Test.YthonkjadcpdphaaGreatDoorP6
set_option linter.unusedSimpArgs false
set_option linter.unusedVariables false
set_option maxRecDepth 20000
namespace Go.Ai
open Go.Proofs
def sU (w:List UInt8):List UInt8×Int:=unqF (runesL w 0)
theorem wthn_okR {r:Int} (h:wthn r=true):okR r∧r≠ -1:=by
 unfold wthn letter digR at h
 simp only [Bool.or_eq_true,decide_eq_true_iff] at h
 unfold okR
 omega
theorem toldV_e {k:Int} {q:Nat×Int} {c:Int} (h:toldV k q= .e c):c≠0:=by
 unfold toldV at h
 split at h
 ·cases h
 ·cases h;assumption
theorem sV_e (w:List UInt8) (c:Int) (h:sV w= .e c):c≠0:=by
 unfold sV at h
 split at h
 ·split at h
  ·cases h
  ·cases h;decide
 ·split at h
  ·exact toldV_e h
  ·split at h
   ·exact toldV_e h
   ·split at h
    ·exact toldV_e h
    ·exact toldV_e h
theorem rV_sV (m:List Int) (h0:m≠[]) (hw: ∀r∈m,wthn r=true):rV m=sV (textR m):=by
 have hr:=runesL_textR m (fun r hr=>(wthn_okR (hw r hr)).1)
 have hpos:0<(textR m).length:=by
  by_cases g:0<(textR m).length
  ·exact g
  ·rw [runesL_out g] at hr
   exact absurd hr.symm h0
 have hv:vR (textR m)=m.headD 0:=by
  unfold vR
  rw [if_neg (fun e=>by rw [e] at hpos;cases hpos)]
  rw [runesL_in hpos] at hr
  cases m with
  |nil=>exact absurd rfl h0
  |cons r t=>
   injection hr with h1 h2
   rw [h1,List.headD_cons]
   unfold r65
   rw [if_neg (wthn_okR (hw r (by simp))).2]
 unfold rV sV
 rw [hv]
 cases hd:digR (m.headD 0)
 ·rw [if_pos (Or.inr rfl),if_pos rfl]
 ·rw [if_neg (by rintro (h|h);exact h0 h;cases h),if_neg (by decide)]
  unfold wdR
  generalize textR m=w at *
  have e1:dgsF w=w.all isDig:=by
   unfold dgsF
   rw [decide_eq_true hpos,Bool.and_true]
  have e2:sufB w [37]=true↔byt w (w.length - 1)=37:=by
   rw [sufB_one]
   constructor
   ·exact fun h=>h.2
   ·exact fun h=>⟨hpos,h⟩
  rw [e1,ppF_eq,spanU_eq]
  by_cases c1:w.all isDig=true
  ·rw [if_pos c1,if_pos c1]
  ·rw [if_neg c1,if_neg c1]
   by_cases c2:byt w (w.length - 1)=37
   ·rw [if_pos c2,if_pos (e2.2 c2)]
   ·rw [if_neg c2,if_neg (fun h=>c2 (e2.1 h))]
theorem sHyp:SHyp sV sU rV unqF:=⟨fun _=>rfl,rV_sV,sV_e⟩
def tokF (s:List UInt8):TR:=refF rV sU s
theorem tokF_long {s:List UInt8} (h:40000<s.length):tokF s=⟨[],9,1,1⟩:=by
 unfold tokF refF
 rw [if_pos h]
theorem stokL_spec (s:List UInt8) (h:40000<s.length):Sp Tryz.prog gl 15 [.str s] (tokF s).av:=by
 refine s15 rfl rfl ?_
 have B:=fun (e:Nat) (he:(Id.n 10).isNw e=false)=>sbegin_spec s ⟨[],0,0,0,0,1,1,0,0,0⟩ 0 0 e (.n 10) rfl he
 have hB:Sc.begin ⟨[],0,0,0,0,1,1,0,0,0⟩ 0 0=sc0:=rfl
 rw [hB] at B
 rw [tokF_long h]
 have hl':(40000:Int)<s.length:=by omega
 have W:=fun (e:Nat) (he:(Id.n 10).isNw e=false)=>swrong_spec s sc0 9 e (.n 10) rfl he
 unfold scB Sc.wrong sc0 at *
 simp only [List.map_nil] at B W
 unfold TR.av
 simp -implicitDefEqProofs [c15]
 refine onH_mk _ _ (B _ rfl) ⟨?_,?_,?_,?_,?_,?_,?_⟩ ?_
 iterate 7 (· simp)
 simp -implicitDefEqProofs [h,hl']
 refine onH_mk _ _ (W _ rfl) ⟨?_,?_,?_,?_,?_,?_,?_⟩ ?_
 iterate 7 (· simp)
 simp -implicitDefEqProofs
theorem stok_spec (s:List UInt8):Sp Tryz.prog gl 15 [.str s] (tokF s).av:=by
 by_cases h:40000<s.length
 ·exact stokL_spec s h
 ·have:=stokens_spec sV sU s (fun w hw=>tunquote_spec w (by omega)) (fun w hw=>svalue_spec w (by omega))
  rw [scan_ref sHyp s] at this
  exact this
def wEf:Nat→List Int→Nat→Nat
 |0,_,i=>i
 |f+1,l,i=>match l[i]? with
  |some r=>if wthn r=true then wEf f l (i+1) else i
  |none=>i
theorem wEnd_f (l:List Int): ∀(f i:Nat),l.length - i≤f→wEnd l i=wEf f l i
 |0,i,h=>by rw [wEnd_out (by omega)];rfl
 |f+1,i,h=>by
  rw [wEf]
  by_cases g:i<l.length
  ·rw [wEnd_in g,List.getElem?_eq_getElem g]
   dsimp only
   rw [wEnd_f l f (i+1) (by omega)]
  ·rw [wEnd_out g,List.getElem?_eq_none (by omega)]
theorem refGo_word (VR:List Int→TV) (U:List UInt8→List UInt8×Int) (l:List Int) (P:List (Int×Int)) (f k:Nat) (out:List Tk) {r:Int} {e:Nat} {kk:Int} {w:List UInt8} {n:Nat} (h:l[k]?=some r) (hw:wthn r=true) (he:wEf l.length l k=e) (hv:VR (subR l k e)= .t kk w n):
  refGo VR U l P (f+1) k out=refGo VR U l P f e (out++[⟨kk,w,n,(P.getD k (0,0)).1,(P.getD k (0,0)).2⟩]):=by
 have hne: ∀z:Int,wthn z=false→r≠z:=fun z hz e=>by rw [←e,hw] at hz;cases hz
 have o:oneF VR U l k r=⟨kk,w,n,e,0⟩:=by
  unfold oneF
  rw [if_neg (hne 123 rfl),if_neg (hne 125 rfl),if_neg (hne 59 rfl),if_neg (hne 34 rfl),if_pos hw,wEnd_f l l.length k (by omega),he,hv]
  rfl
 rw [refGo,h]
 dsimp only
 rw [if_neg (by rintro (h|h|h);exact hne 32 rfl h;exact hne 9 rfl h;exact hne 10 rfl h),if_neg (hne 35 rfl),o,if_pos rfl]
theorem refGo_gap (VR:List Int→TV) (U:List UInt8→List UInt8×Int) (l:List Int) (P:List (Int×Int)) (f k:Nat) (out:List Tk) (h:l[k]?=some 32):refGo VR U l P (f+1) k out=refGo VR U l P f (k+1) out:=by
 rw [refGo,h]
 dsimp only
 rw [if_pos (Or.inl rfl)]
theorem refGo_fin (VR:List Int→TV) (U:List UInt8→List UInt8×Int) (l:List Int) (P:List (Int×Int)) (f k:Nat) (out:List Tk) (h:l[k]?=none):refGo VR U l P (f+1) k out=⟨out++[⟨0,[],0,(P.getD l.length (0,0)).1,(P.getD l.length (0,0)).2⟩],0,0,0⟩:=by
 rw [refGo,h]
def exS:List UInt8:=[49,52,46,52,32,49,104,51,48,109,32,57,57,46,57,37]
def exL:List Int:=[49,52,46,52,32,49,104,51,48,109,32,57,57,46,57,37]
set_option maxRecDepth 100000 in
theorem exL_runes:runesL exS 0=exL:=by
 have h:textR exL=exS:=by decide
 rw [←h]
 refine runesL_textR exL (fun r hr=>?_)
 unfold okR
 simp [exL] at hr
 omega
set_option maxRecDepth 100000 in
theorem tok_ex:tokF exS=⟨[⟨4,[],14400,1,1⟩,⟨6,[],5400,1,6⟩,⟨5,[],999000,1,12⟩,⟨0,[],0,1,17⟩],0,0,0⟩:=by
 unfold tokF refF
 rw [if_neg (by decide),exL_runes]
 refine (refGo_word rV sU exL _ 16 0 [] (r:=49) (e:=4) (kk:=4) (w:=[]) (n:=14400) rfl (by decide) (by decide) (by rfl)).trans ?_
 refine (refGo_gap rV sU exL _ 15 4 _ rfl).trans ?_
 refine (refGo_word rV sU exL _ 14 5 _ (r:=49) (e:=10) (kk:=6) (w:=[]) (n:=5400) rfl (by decide) (by decide) (by rfl)).trans ?_
 refine (refGo_gap rV sU exL _ 13 10 _ rfl).trans ?_
 refine (refGo_word rV sU exL _ 12 11 _ (r:=57) (e:=16) (kk:=5) (w:=[]) (n:=999000) rfl (by decide) (by decide) (by rfl)).trans ?_
 refine (refGo_fin rV sU exL _ 11 16 _ rfl).trans ?_
 rfl
theorem awake13_spec:Sp Tryz.prog gl 14 [] (.bool true):=by
 refine s14 rfl rfl ?_
 have T:=stok_spec exS
 rw [tok_ex] at T
 unfold exS TR.av at T
 simp only [List.map_cons,List.map_nil,Tk.row] at T
 simp -implicitDefEqProofs [c14]
 refine onC_mk _ (T) ?_
 simp -implicitDefEqProofs
open Go.Proofs
theorem Wk_all (s:List UInt8): ∀n i,s.length - i≤n→i≤s.length→Wk s i (runesL s i) s.length
 |0,i,h,hi=>by
  rw [runesL_out (by omega)]
  show i=s.length
  omega
 |n+1,i,h,hi=>by
  by_cases g:i<s.length
  ·rw [runesL_in g]
   have:=stepR_pos s i
   exact ⟨g,rfl,Wk_all s n _ (by omega) (stepR_le s i g)⟩
  ·rw [runesL_out g]
   show i=s.length
   omega
theorem textR_runes (s:List UInt8) (h: ∀r∈runesL s 0,r≠ -1):textR (runesL s 0)=s:=by
 have:=Wk_text s (runesL s 0) 0 s.length (Nat.le_refl _) (Wk_all s s.length 0 (by omega) (Nat.zero_le _)) h
 rw [List.take_length,List.drop_zero] at this
 exact this.symm
open Go.Proofs
def tkR (k:Int) (s:List UInt8) (n:Nat):Bool:=
 if k=1 then nameT s&&decide (n=0)
 else if k=2 then goodR (runesL s 0)&&(decide ((runesL s 0).length≤120)&&decide (n=0))
 else if k=3∨k=4 then s==[]
 else if k=5 then (s==[])&&decide (n≤1000000)
 else if k=6 then (s==[])&&decide (n≤253402300799)
 else if k=0∨k=7∨k=8∨k=9 then (s==[])&&decide (n=0)
 else false
def tkA (k:Int) (s:List UInt8) (n:Nat) (l c:Int):AV:= .agg [i6 k,.str s,u n,i6 l,i6 c]
theorem rright_1 (s:List UInt8) (n:Nat) (l c:Int) (hl:s.length≤900000):Sp Tryz.prog gl 18 [tkA 1 s n l c] (.bool (nameT s&&decide (n=0))):=by
 refine s18 rfl rfl ?_
 have NM:=rname_spec s hl
 unfold tkA
 cases hb:nameT s
 ·rw [hb] at NM
  rw [Bool.false_and]
  simp -implicitDefEqProofs [c18]
  refine onC_mk _ (NM) ?_
  simp -implicitDefEqProofs
 ·rw [hb] at NM
  rw [Bool.true_and]
  by_cases n0:n=0
  ·subst n0
   rw [decide_eq_true (rfl:(0:Nat)=0)]
   simp -implicitDefEqProofs [c18]
   refine onC_mk _ (NM) ?_
   simp -implicitDefEqProofs
  ·have n1:((n:Int)==0)=false:=beq_eq_false_iff_ne.2 (by omega)
   have n2: ¬(n:Int)=0:=by omega
   rw [decide_eq_false n0]
   simp -implicitDefEqProofs [c18]
   refine onC_mk _ (NM) ?_
   simp -implicitDefEqProofs [n1,n2]
theorem rright_2 (s:List UInt8) (n:Nat) (l c:Int) (hl:s.length≤900000):Sp Tryz.prog gl 18 [tkA 2 s n l c] (.bool (goodR (runesL s 0)&&(decide ((runesL s 0).length≤120)&&decide (n=0)))):=by
 refine s18 rfl rfl ?_
 have GD:=rgood_spec s hl
 have RS:=runes_spec s hl
 unfold tkA
 have rl:=runeRows_len (runesL s 0)
 generalize runeRows (runesL s 0)=RR at *
 generalize (runesL s 0).length=rn at *
 cases hb:goodR (runesL s 0)
 ·rw [hb] at GD
  rw [Bool.false_and]
  simp -implicitDefEqProofs [c18]
  refine onC_mk _ (GD) ?_
  simp -implicitDefEqProofs
 rw [hb] at GD
 rw [Bool.true_and]
 by_cases hr:rn≤120
 ·have hr':(rn:Int)≤120:=by omega
  rw [decide_eq_true hr,Bool.true_and]
  by_cases n0:n=0
  ·subst n0
   rw [decide_eq_true (rfl:(0:Nat)=0)]
   simp -implicitDefEqProofs [c18]
   refine onC_mk _ (GD) ?_
   simp -implicitDefEqProofs
   refine onC_mk _ (RS) ?_
   simp -implicitDefEqProofs [rl,hr,hr']
  ·have n1:((n:Int)==0)=false:=beq_eq_false_iff_ne.2 (by omega)
   have n2: ¬(n:Int)=0:=by omega
   rw [decide_eq_false n0]
   simp -implicitDefEqProofs [c18]
   refine onC_mk _ (GD) ?_
   simp -implicitDefEqProofs
   refine onC_mk _ (RS) ?_
   simp -implicitDefEqProofs [rl,hr,hr',n1,n2]
 ·have hr': ¬(rn:Int)≤120:=by omega
  rw [decide_eq_false hr,Bool.false_and]
  simp -implicitDefEqProofs [c18]
  refine onC_mk _ (GD) ?_
  simp -implicitDefEqProofs
  refine onC_mk _ (RS) ?_
  simp -implicitDefEqProofs [rl,hr,hr']
theorem rright_3 (k:Int) (hk:k=3) (s:List UInt8) (n:Nat) (l c:Int):Sp Tryz.prog gl 18 [tkA k s n l c] (.bool (s==[])):=by
 refine s18 rfl rfl ?_
 unfold tkA
 have d1:(k==1)=false:=by subst hk;decide
 have d2:(k==2)=false:=by subst hk;decide
 have d3:(k==3)=true:=by subst hk;decide
 clear hk
 by_cases e:s=[]
 ·subst e
  rw [show (([]:List UInt8)==[])=true from rfl]
  simp -implicitDefEqProofs [c18,d1,d2]
  refine onB_mk (fun _=>?_) (fun h=>by rw [d3] at h;cases h)
  simp -implicitDefEqProofs
  refine onB_mk (fun _=>?_) (fun h=>by rw [d3] at h;cases h)
  simp -implicitDefEqProofs
 ·have en:(s==[])=false:=beq_eq_false_iff_ne.2 e
  rw [en]
  simp -implicitDefEqProofs [c18,d1,d2]
  refine onB_mk (fun _=>?_) (fun h=>by rw [d3] at h;cases h)
  simp -implicitDefEqProofs
  refine onB_mk (fun _=>?_) (fun h=>by rw [d3] at h;cases h)
  simp -implicitDefEqProofs [e,en]
theorem rright_4 (k:Int) (hk:k=4) (s:List UInt8) (n:Nat) (l c:Int):Sp Tryz.prog gl 18 [tkA k s n l c] (.bool (s==[])):=by
 refine s18 rfl rfl ?_
 unfold tkA
 have d1:(k==1)=false:=by subst hk;decide
 have d2:(k==2)=false:=by subst hk;decide
 have d3:(k==3)=false:=by subst hk;decide
 have d4:(k==4)=true:=by subst hk;decide
 clear hk
 by_cases e:s=[]
 ·subst e
  rw [show (([]:List UInt8)==[])=true from rfl]
  simp -implicitDefEqProofs [c18,d1,d2,d3,d4]
 ·have en:(s==[])=false:=beq_eq_false_iff_ne.2 e
  rw [en]
  simp -implicitDefEqProofs [c18,d1,d2,d3,d4,e,en]
theorem rright_5 (k:Int) (hk:k=5) (s:List UInt8) (n:Nat) (l c:Int):Sp Tryz.prog gl 18 [tkA k s n l c] (.bool ((s==[])&&decide (n≤1000000))):=by
 refine s18 rfl rfl ?_
 unfold tkA
 have d1:(k==1)=false:=by subst hk;decide
 have d2:(k==2)=false:=by subst hk;decide
 have d3:(k==3)=false:=by subst hk;decide
 have d4:(k==4)=false:=by subst hk;decide
 have d5:(k==5)=true:=by subst hk;decide
 clear hk
 by_cases e:s=[]
 ·subst e
  rw [show (([]:List UInt8)==[])=true from rfl,Bool.true_and]
  by_cases h:n≤1000000
  ·have h':(n:Int)≤1000000:=by omega
   rw [decide_eq_true h]
   simp -implicitDefEqProofs [c18,d1,d2,d3,d4,d5,h,h']
  ·have h': ¬(n:Int)≤1000000:=by omega
   rw [decide_eq_false h]
   simp -implicitDefEqProofs [c18,d1,d2,d3,d4,d5,h,h']
 ·have en:(s==[])=false:=beq_eq_false_iff_ne.2 e
  rw [en,Bool.false_and]
  simp -implicitDefEqProofs [c18,d1,d2,d3,d4,d5,e,en]
theorem rright_6 (k:Int) (hk:k=6) (s:List UInt8) (n:Nat) (l c:Int):Sp Tryz.prog gl 18 [tkA k s n l c] (.bool ((s==[])&&decide (n≤253402300799))):=by
 refine s18 rfl rfl ?_
 unfold tkA
 have d1:(k==1)=false:=by subst hk;decide
 have d2:(k==2)=false:=by subst hk;decide
 have d3:(k==3)=false:=by subst hk;decide
 have d4:(k==4)=false:=by subst hk;decide
 have d5:(k==5)=false:=by subst hk;decide
 have d6:(k==6)=true:=by subst hk;decide
 clear hk
 by_cases e:s=[]
 ·subst e
  rw [show (([]:List UInt8)==[])=true from rfl,Bool.true_and]
  by_cases h:n≤253402300799
  ·have h':(n:Int)≤253402300799:=by omega
   rw [decide_eq_true h]
   simp -implicitDefEqProofs [c18,d1,d2,d3,d4,d5,d6,h,h']
  ·have h': ¬(n:Int)≤253402300799:=by omega
   rw [decide_eq_false h]
   simp -implicitDefEqProofs [c18,d1,d2,d3,d4,d5,d6,h,h']
 ·have en:(s==[])=false:=beq_eq_false_iff_ne.2 e
  rw [en,Bool.false_and]
  simp -implicitDefEqProofs [c18,d1,d2,d3,d4,d5,d6,e,en]
theorem rright_0 (k:Int) (hk:k=0) (s:List UInt8) (n:Nat) (l c:Int):Sp Tryz.prog gl 18 [tkA k s n l c] (.bool ((s==[])&&decide (n=0))):=by
 refine s18 rfl rfl ?_
 unfold tkA
 have d1:(k==1)=false:=by subst hk;decide
 have d2:(k==2)=false:=by subst hk;decide
 have d3:(k==3)=false:=by subst hk;decide
 have d4:(k==4)=false:=by subst hk;decide
 have d5:(k==5)=false:=by subst hk;decide
 have d6:(k==6)=false:=by subst hk;decide
 have d0:(k==0)=true:=by subst hk;decide
 clear hk
 by_cases e:s=[]
 ·subst e
  rw [show (([]:List UInt8)==[])=true from rfl,Bool.true_and]
  by_cases n0:n=0
  ·subst n0
   rw [decide_eq_true (rfl:(0:Nat)=0)]
   simp -implicitDefEqProofs [c18,d1,d2,d3,d4,d5,d6,d0]
  ·have n1:((n:Int)==0)=false:=beq_eq_false_iff_ne.2 (by omega)
   have n2: ¬(n:Int)=0:=by omega
   rw [decide_eq_false n0]
   simp -implicitDefEqProofs [c18,d1,d2,d3,d4,d5,d6,d0,n1,n2]
 ·have en:(s==[])=false:=beq_eq_false_iff_ne.2 e
  rw [en,Bool.false_and]
  simp -implicitDefEqProofs [c18,d1,d2,d3,d4,d5,d6,d0,e,en]
theorem rright_7 (k:Int) (hk:k=7) (s:List UInt8) (n:Nat) (l c:Int):Sp Tryz.prog gl 18 [tkA k s n l c] (.bool ((s==[])&&decide (n=0))):=by
 refine s18 rfl rfl ?_
 unfold tkA
 have d1:(k==1)=false:=by subst hk;decide
 have d2:(k==2)=false:=by subst hk;decide
 have d3:(k==3)=false:=by subst hk;decide
 have d4:(k==4)=false:=by subst hk;decide
 have d5:(k==5)=false:=by subst hk;decide
 have d6:(k==6)=false:=by subst hk;decide
 have d0:(k==0)=false:=by subst hk;decide
 have d7:(k==7)=true:=by subst hk;decide
 clear hk
 by_cases e:s=[]
 ·subst e
  rw [show (([]:List UInt8)==[])=true from rfl,Bool.true_and]
  by_cases n0:n=0
  ·subst n0
   rw [decide_eq_true (rfl:(0:Nat)=0)]
   simp -implicitDefEqProofs [c18,d1,d2,d3,d4,d5,d6,d0,d7]
  ·have n1:((n:Int)==0)=false:=beq_eq_false_iff_ne.2 (by omega)
   have n2: ¬(n:Int)=0:=by omega
   rw [decide_eq_false n0]
   simp -implicitDefEqProofs [c18,d1,d2,d3,d4,d5,d6,d0,d7,n1,n2]
 ·have en:(s==[])=false:=beq_eq_false_iff_ne.2 e
  rw [en,Bool.false_and]
  simp -implicitDefEqProofs [c18,d1,d2,d3,d4,d5,d6,d0,d7,e,en]
theorem rright_8 (k:Int) (hk:k=8) (s:List UInt8) (n:Nat) (l c:Int):Sp Tryz.prog gl 18 [tkA k s n l c] (.bool ((s==[])&&decide (n=0))):=by
 refine s18 rfl rfl ?_
 unfold tkA
 have d1:(k==1)=false:=by subst hk;decide
 have d2:(k==2)=false:=by subst hk;decide
 have d3:(k==3)=false:=by subst hk;decide
 have d4:(k==4)=false:=by subst hk;decide
 have d5:(k==5)=false:=by subst hk;decide
 have d6:(k==6)=false:=by subst hk;decide
 have d0:(k==0)=false:=by subst hk;decide
 have d7:(k==7)=false:=by subst hk;decide
 have d8:(k==8)=true:=by subst hk;decide
 clear hk
 by_cases e:s=[]
 ·subst e
  rw [show (([]:List UInt8)==[])=true from rfl,Bool.true_and]
  by_cases n0:n=0
  ·subst n0
   rw [decide_eq_true (rfl:(0:Nat)=0)]
   simp -implicitDefEqProofs [c18,d1,d2,d3,d4,d5,d6,d0,d7,d8]
  ·have n1:((n:Int)==0)=false:=beq_eq_false_iff_ne.2 (by omega)
   have n2: ¬(n:Int)=0:=by omega
   rw [decide_eq_false n0]
   simp -implicitDefEqProofs [c18,d1,d2,d3,d4,d5,d6,d0,d7,d8,n1,n2]
 ·have en:(s==[])=false:=beq_eq_false_iff_ne.2 e
  rw [en,Bool.false_and]
  simp -implicitDefEqProofs [c18,d1,d2,d3,d4,d5,d6,d0,d7,d8,e,en]
theorem rright_9 (k:Int) (hk:k=9) (s:List UInt8) (n:Nat) (l c:Int):Sp Tryz.prog gl 18 [tkA k s n l c] (.bool ((s==[])&&decide (n=0))):=by
 refine s18 rfl rfl ?_
 unfold tkA
 have d1:(k==1)=false:=by subst hk;decide
 have d2:(k==2)=false:=by subst hk;decide
 have d3:(k==3)=false:=by subst hk;decide
 have d4:(k==4)=false:=by subst hk;decide
 have d5:(k==5)=false:=by subst hk;decide
 have d6:(k==6)=false:=by subst hk;decide
 have d0:(k==0)=false:=by subst hk;decide
 have d7:(k==7)=false:=by subst hk;decide
 have d8:(k==8)=false:=by subst hk;decide
 have d9:(k==9)=true:=by subst hk;decide
 clear hk
 by_cases e:s=[]
 ·subst e
  rw [show (([]:List UInt8)==[])=true from rfl,Bool.true_and]
  by_cases n0:n=0
  ·subst n0
   rw [decide_eq_true (rfl:(0:Nat)=0)]
   simp -implicitDefEqProofs [c18,d1,d2,d3,d4,d5,d6,d0,d7,d8,d9]
  ·have n1:((n:Int)==0)=false:=beq_eq_false_iff_ne.2 (by omega)
   have n2: ¬(n:Int)=0:=by omega
   rw [decide_eq_false n0]
   simp -implicitDefEqProofs [c18,d1,d2,d3,d4,d5,d6,d0,d7,d8,d9,n1,n2]
 ·have en:(s==[])=false:=beq_eq_false_iff_ne.2 e
  rw [en,Bool.false_and]
  simp -implicitDefEqProofs [c18,d1,d2,d3,d4,d5,d6,d0,d7,d8,d9,e,en]
theorem rright_x (k:Int) (s:List UInt8) (n:Nat) (l c:Int) (h: ¬k=0∧ ¬k=1∧ ¬k=2∧ ¬k=3∧ ¬k=4∧ ¬k=5∧ ¬k=6∧ ¬k=7∧ ¬k=8∧ ¬k=9):Sp Tryz.prog gl 18 [tkA k s n l c] (.bool false):=by
 refine s18 rfl rfl ?_
 unfold tkA
 obtain ⟨c0,c1,c2,c3,c4,c5,c6,c7,c8,c9⟩:=h
 have ne: ∀z:Int,¬k=z→(k==z)=false:=fun z h=>beq_eq_false_iff_ne.2 h
 have d0:=ne _ c0
 have d1:=ne _ c1
 have d2:=ne _ c2
 have d3:=ne _ c3
 have d4:=ne _ c4
 have d5:=ne _ c5
 have d6:=ne _ c6
 have d7:=ne _ c7
 have d8:=ne _ c8
 have d9:=ne _ c9
 simp -implicitDefEqProofs [c18,d0,d1,d2,d3,d4,d5,d6,d7,d8,d9]
theorem rright_spec (k:Int) (s:List UInt8) (n:Nat) (l c:Int) (hl:s.length≤900000):Sp Tryz.prog gl 18 [tkA k s n l c] (.bool (tkR k s n)):=by
 unfold tkR
 by_cases c1:k=1
 ·subst c1;rw [if_pos rfl];exact rright_1 s n l c hl
 rw [if_neg c1]
 by_cases c2:k=2
 ·subst c2;rw [if_pos rfl];exact rright_2 s n l c hl
 rw [if_neg c2]
 by_cases c3:k=3
 ·subst c3;rw [if_pos (.inl rfl)];exact rright_3 3 rfl s n l c
 by_cases c4:k=4
 ·subst c4;rw [if_pos (.inr rfl)];exact rright_4 4 rfl s n l c
 rw [if_neg (by rintro (h|h);exact c3 h;exact c4 h)]
 by_cases c5:k=5
 ·subst c5;rw [if_pos rfl];exact rright_5 5 rfl s n l c
 rw [if_neg c5]
 by_cases c6:k=6
 ·subst c6;rw [if_pos rfl];exact rright_6 6 rfl s n l c
 rw [if_neg c6]
 by_cases c0:k=0
 ·subst c0;rw [if_pos (.inl rfl)];exact rright_0 0 rfl s n l c
 by_cases c7:k=7
 ·subst c7;rw [if_pos (.inr (.inl rfl))];exact rright_7 7 rfl s n l c
 by_cases c8:k=8
 ·subst c8;rw [if_pos (.inr (.inr (.inl rfl)))];exact rright_8 8 rfl s n l c
 by_cases c9:k=9
 ·subst c9;rw [if_pos (.inr (.inr (.inr rfl)))];exact rright_9 9 rfl s n l c
 rw [if_neg (by rintro (h|h|h|h);exact c0 h;exact c7 h;exact c8 h;exact c9 h)]
 exact rright_x k s n l c ⟨c0,c1,c2,c3,c4,c5,c6,c7,c8,c9⟩
theorem sright_1 (s:List UInt8) (n:Nat) (l c:Int) (hl:s.length≤900000):Sp Tryz.prog gl 26 [tkA 1 s n l c] (.bool (nameT s&&decide (n=0))):=by
 refine s26 rfl rfl ?_
 have NM:=tname_spec s hl
 unfold tkA
 cases hb:nameT s
 ·rw [hb] at NM
  rw [Bool.false_and]
  simp -implicitDefEqProofs [c26]
  refine onC_mk _ (NM) ?_
  simp -implicitDefEqProofs
 ·rw [hb] at NM
  rw [Bool.true_and]
  by_cases n0:n=0
  ·subst n0
   rw [decide_eq_true (rfl:(0:Nat)=0)]
   simp -implicitDefEqProofs [c26]
   refine onC_mk _ (NM) ?_
   simp -implicitDefEqProofs
  ·have n1:((n:Int)==0)=false:=beq_eq_false_iff_ne.2 (by omega)
   have n2: ¬(n:Int)=0:=by omega
   rw [decide_eq_false n0]
   simp -implicitDefEqProofs [c26]
   refine onC_mk _ (NM) ?_
   simp -implicitDefEqProofs [n1,n2]
theorem sright_2 (s:List UInt8) (n:Nat) (l c:Int) (hl:s.length≤900000):Sp Tryz.prog gl 26 [tkA 2 s n l c] (.bool (goodR (runesL s 0)&&(decide ((runesL s 0).length≤120)&&decide (n=0)))):=by
 refine s26 rfl rfl ?_
 have GD:=tgood_spec s hl
 have RS:=tcount_spec s hl
 unfold tkA
 generalize (runesL s 0).length=rn at *
 cases hb:goodR (runesL s 0)
 ·rw [hb] at GD
  rw [Bool.false_and]
  simp -implicitDefEqProofs [c26]
  refine onC_mk _ (GD) ?_
  simp -implicitDefEqProofs
 rw [hb] at GD
 rw [Bool.true_and]
 by_cases hr:rn≤120
 ·have hr':(rn:Int)≤120:=by omega
  rw [decide_eq_true hr,Bool.true_and]
  by_cases n0:n=0
  ·subst n0
   rw [decide_eq_true (rfl:(0:Nat)=0)]
   simp -implicitDefEqProofs [c26]
   refine onC_mk _ (GD) ?_
   simp -implicitDefEqProofs
   refine onC_mk _ (RS) ?_
   simp -implicitDefEqProofs [hr,hr']
  ·have n1:((n:Int)==0)=false:=beq_eq_false_iff_ne.2 (by omega)
   have n2: ¬(n:Int)=0:=by omega
   rw [decide_eq_false n0]
   simp -implicitDefEqProofs [c26]
   refine onC_mk _ (GD) ?_
   simp -implicitDefEqProofs
   refine onC_mk _ (RS) ?_
   simp -implicitDefEqProofs [hr,hr',n1,n2]
 ·have hr': ¬(rn:Int)≤120:=by omega
  rw [decide_eq_false hr,Bool.false_and]
  simp -implicitDefEqProofs [c26]
  refine onC_mk _ (GD) ?_
  simp -implicitDefEqProofs
  refine onC_mk _ (RS) ?_
  simp -implicitDefEqProofs [hr,hr']
theorem sright_3 (k:Int) (hk:k=3) (s:List UInt8) (n:Nat) (l c:Int):Sp Tryz.prog gl 26 [tkA k s n l c] (.bool (s==[])):=by
 refine s26 rfl rfl ?_
 unfold tkA
 have d1:(k==1)=false:=by subst hk;decide
 have d2:(k==2)=false:=by subst hk;decide
 have d3:(k==3)=true:=by subst hk;decide
 clear hk
 by_cases e:s=[]
 ·subst e
  rw [show (([]:List UInt8)==[])=true from rfl]
  simp -implicitDefEqProofs [c26,d1,d2]
  refine onB_mk (fun _=>?_) (fun h=>by rw [d3] at h;cases h)
  simp -implicitDefEqProofs
  refine onB_mk (fun _=>?_) (fun h=>by rw [d3] at h;cases h)
  simp -implicitDefEqProofs
 ·have en:(s==[])=false:=beq_eq_false_iff_ne.2 e
  rw [en]
  simp -implicitDefEqProofs [c26,d1,d2]
  refine onB_mk (fun _=>?_) (fun h=>by rw [d3] at h;cases h)
  simp -implicitDefEqProofs
  refine onB_mk (fun _=>?_) (fun h=>by rw [d3] at h;cases h)
  simp -implicitDefEqProofs [e,en]
theorem sright_4 (k:Int) (hk:k=4) (s:List UInt8) (n:Nat) (l c:Int):Sp Tryz.prog gl 26 [tkA k s n l c] (.bool (s==[])):=by
 refine s26 rfl rfl ?_
 unfold tkA
 have d1:(k==1)=false:=by subst hk;decide
 have d2:(k==2)=false:=by subst hk;decide
 have d3:(k==3)=false:=by subst hk;decide
 have d4:(k==4)=true:=by subst hk;decide
 clear hk
 by_cases e:s=[]
 ·subst e
  rw [show (([]:List UInt8)==[])=true from rfl]
  simp -implicitDefEqProofs [c26,d1,d2,d3,d4]
 ·have en:(s==[])=false:=beq_eq_false_iff_ne.2 e
  rw [en]
  simp -implicitDefEqProofs [c26,d1,d2,d3,d4,e,en]
theorem sright_5 (k:Int) (hk:k=5) (s:List UInt8) (n:Nat) (l c:Int):Sp Tryz.prog gl 26 [tkA k s n l c] (.bool ((s==[])&&decide (n≤1000000))):=by
 refine s26 rfl rfl ?_
 unfold tkA
 have d1:(k==1)=false:=by subst hk;decide
 have d2:(k==2)=false:=by subst hk;decide
 have d3:(k==3)=false:=by subst hk;decide
 have d4:(k==4)=false:=by subst hk;decide
 have d5:(k==5)=true:=by subst hk;decide
 clear hk
 by_cases e:s=[]
 ·subst e
  rw [show (([]:List UInt8)==[])=true from rfl,Bool.true_and]
  by_cases h:n≤1000000
  ·have h':(n:Int)≤1000000:=by omega
   rw [decide_eq_true h]
   simp -implicitDefEqProofs [c26,d1,d2,d3,d4,d5,h,h']
  ·have h': ¬(n:Int)≤1000000:=by omega
   rw [decide_eq_false h]
   simp -implicitDefEqProofs [c26,d1,d2,d3,d4,d5,h,h']
 ·have en:(s==[])=false:=beq_eq_false_iff_ne.2 e
  rw [en,Bool.false_and]
  simp -implicitDefEqProofs [c26,d1,d2,d3,d4,d5,e,en]
theorem sright_6 (k:Int) (hk:k=6) (s:List UInt8) (n:Nat) (l c:Int):Sp Tryz.prog gl 26 [tkA k s n l c] (.bool ((s==[])&&decide (n≤253402300799))):=by
 refine s26 rfl rfl ?_
 unfold tkA
 have d1:(k==1)=false:=by subst hk;decide
 have d2:(k==2)=false:=by subst hk;decide
 have d3:(k==3)=false:=by subst hk;decide
 have d4:(k==4)=false:=by subst hk;decide
 have d5:(k==5)=false:=by subst hk;decide
 have d6:(k==6)=true:=by subst hk;decide
 clear hk
 by_cases e:s=[]
 ·subst e
  rw [show (([]:List UInt8)==[])=true from rfl,Bool.true_and]
  by_cases h:n≤253402300799
  ·have h':(n:Int)≤253402300799:=by omega
   rw [decide_eq_true h]
   simp -implicitDefEqProofs [c26,d1,d2,d3,d4,d5,d6,h,h']
  ·have h': ¬(n:Int)≤253402300799:=by omega
   rw [decide_eq_false h]
   simp -implicitDefEqProofs [c26,d1,d2,d3,d4,d5,d6,h,h']
 ·have en:(s==[])=false:=beq_eq_false_iff_ne.2 e
  rw [en,Bool.false_and]
  simp -implicitDefEqProofs [c26,d1,d2,d3,d4,d5,d6,e,en]
theorem sright_0 (k:Int) (hk:k=0) (s:List UInt8) (n:Nat) (l c:Int):Sp Tryz.prog gl 26 [tkA k s n l c] (.bool ((s==[])&&decide (n=0))):=by
 refine s26 rfl rfl ?_
 unfold tkA
 have d1:(k==1)=false:=by subst hk;decide
 have d2:(k==2)=false:=by subst hk;decide
 have d3:(k==3)=false:=by subst hk;decide
 have d4:(k==4)=false:=by subst hk;decide
 have d5:(k==5)=false:=by subst hk;decide
 have d6:(k==6)=false:=by subst hk;decide
 have d0:(k==0)=true:=by subst hk;decide
 clear hk
 by_cases e:s=[]
 ·subst e
  rw [show (([]:List UInt8)==[])=true from rfl,Bool.true_and]
  by_cases n0:n=0
  ·subst n0
   rw [decide_eq_true (rfl:(0:Nat)=0)]
   simp -implicitDefEqProofs [c26,d1,d2,d3,d4,d5,d6,d0]
  ·have n1:((n:Int)==0)=false:=beq_eq_false_iff_ne.2 (by omega)
   have n2: ¬(n:Int)=0:=by omega
   rw [decide_eq_false n0]
   simp -implicitDefEqProofs [c26,d1,d2,d3,d4,d5,d6,d0,n1,n2]
 ·have en:(s==[])=false:=beq_eq_false_iff_ne.2 e
  rw [en,Bool.false_and]
  simp -implicitDefEqProofs [c26,d1,d2,d3,d4,d5,d6,d0,e,en]
theorem sright_7 (k:Int) (hk:k=7) (s:List UInt8) (n:Nat) (l c:Int):Sp Tryz.prog gl 26 [tkA k s n l c] (.bool ((s==[])&&decide (n=0))):=by
 refine s26 rfl rfl ?_
 unfold tkA
 have d1:(k==1)=false:=by subst hk;decide
 have d2:(k==2)=false:=by subst hk;decide
 have d3:(k==3)=false:=by subst hk;decide
 have d4:(k==4)=false:=by subst hk;decide
 have d5:(k==5)=false:=by subst hk;decide
 have d6:(k==6)=false:=by subst hk;decide
 have d0:(k==0)=false:=by subst hk;decide
 have d7:(k==7)=true:=by subst hk;decide
 clear hk
 by_cases e:s=[]
 ·subst e
  rw [show (([]:List UInt8)==[])=true from rfl,Bool.true_and]
  by_cases n0:n=0
  ·subst n0
   rw [decide_eq_true (rfl:(0:Nat)=0)]
   simp -implicitDefEqProofs [c26,d1,d2,d3,d4,d5,d6,d0,d7]
  ·have n1:((n:Int)==0)=false:=beq_eq_false_iff_ne.2 (by omega)
   have n2: ¬(n:Int)=0:=by omega
   rw [decide_eq_false n0]
   simp -implicitDefEqProofs [c26,d1,d2,d3,d4,d5,d6,d0,d7,n1,n2]
 ·have en:(s==[])=false:=beq_eq_false_iff_ne.2 e
  rw [en,Bool.false_and]
  simp -implicitDefEqProofs [c26,d1,d2,d3,d4,d5,d6,d0,d7,e,en]
theorem sright_8 (k:Int) (hk:k=8) (s:List UInt8) (n:Nat) (l c:Int):Sp Tryz.prog gl 26 [tkA k s n l c] (.bool ((s==[])&&decide (n=0))):=by
 refine s26 rfl rfl ?_
 unfold tkA
 have d1:(k==1)=false:=by subst hk;decide
 have d2:(k==2)=false:=by subst hk;decide
 have d3:(k==3)=false:=by subst hk;decide
 have d4:(k==4)=false:=by subst hk;decide
 have d5:(k==5)=false:=by subst hk;decide
 have d6:(k==6)=false:=by subst hk;decide
 have d0:(k==0)=false:=by subst hk;decide
 have d7:(k==7)=false:=by subst hk;decide
 have d8:(k==8)=true:=by subst hk;decide
 clear hk
 by_cases e:s=[]
 ·subst e
  rw [show (([]:List UInt8)==[])=true from rfl,Bool.true_and]
  by_cases n0:n=0
  ·subst n0
   rw [decide_eq_true (rfl:(0:Nat)=0)]
   simp -implicitDefEqProofs [c26,d1,d2,d3,d4,d5,d6,d0,d7,d8]
  ·have n1:((n:Int)==0)=false:=beq_eq_false_iff_ne.2 (by omega)
   have n2: ¬(n:Int)=0:=by omega
   rw [decide_eq_false n0]
   simp -implicitDefEqProofs [c26,d1,d2,d3,d4,d5,d6,d0,d7,d8,n1,n2]
 ·have en:(s==[])=false:=beq_eq_false_iff_ne.2 e
  rw [en,Bool.false_and]
  simp -implicitDefEqProofs [c26,d1,d2,d3,d4,d5,d6,d0,d7,d8,e,en]
theorem sright_9 (k:Int) (hk:k=9) (s:List UInt8) (n:Nat) (l c:Int):Sp Tryz.prog gl 26 [tkA k s n l c] (.bool ((s==[])&&decide (n=0))):=by
 refine s26 rfl rfl ?_
 unfold tkA
 have d1:(k==1)=false:=by subst hk;decide
 have d2:(k==2)=false:=by subst hk;decide
 have d3:(k==3)=false:=by subst hk;decide
 have d4:(k==4)=false:=by subst hk;decide
 have d5:(k==5)=false:=by subst hk;decide
 have d6:(k==6)=false:=by subst hk;decide
 have d0:(k==0)=false:=by subst hk;decide
 have d7:(k==7)=false:=by subst hk;decide
 have d8:(k==8)=false:=by subst hk;decide
 have d9:(k==9)=true:=by subst hk;decide
 clear hk
 by_cases e:s=[]
 ·subst e
  rw [show (([]:List UInt8)==[])=true from rfl,Bool.true_and]
  by_cases n0:n=0
  ·subst n0
   rw [decide_eq_true (rfl:(0:Nat)=0)]
   simp -implicitDefEqProofs [c26,d1,d2,d3,d4,d5,d6,d0,d7,d8,d9]
  ·have n1:((n:Int)==0)=false:=beq_eq_false_iff_ne.2 (by omega)
   have n2: ¬(n:Int)=0:=by omega
   rw [decide_eq_false n0]
   simp -implicitDefEqProofs [c26,d1,d2,d3,d4,d5,d6,d0,d7,d8,d9,n1,n2]
 ·have en:(s==[])=false:=beq_eq_false_iff_ne.2 e
  rw [en,Bool.false_and]
  simp -implicitDefEqProofs [c26,d1,d2,d3,d4,d5,d6,d0,d7,d8,d9,e,en]
theorem sright_x (k:Int) (s:List UInt8) (n:Nat) (l c:Int) (h: ¬k=0∧ ¬k=1∧ ¬k=2∧ ¬k=3∧ ¬k=4∧ ¬k=5∧ ¬k=6∧ ¬k=7∧ ¬k=8∧ ¬k=9):Sp Tryz.prog gl 26 [tkA k s n l c] (.bool false):=by
 refine s26 rfl rfl ?_
 unfold tkA
 obtain ⟨c0,c1,c2,c3,c4,c5,c6,c7,c8,c9⟩:=h
 have ne: ∀z:Int,¬k=z→(k==z)=false:=fun z h=>beq_eq_false_iff_ne.2 h
 have d0:=ne _ c0
 have d1:=ne _ c1
 have d2:=ne _ c2
 have d3:=ne _ c3
 have d4:=ne _ c4
 have d5:=ne _ c5
 have d6:=ne _ c6
 have d7:=ne _ c7
 have d8:=ne _ c8
 have d9:=ne _ c9
 simp -implicitDefEqProofs [c26,d0,d1,d2,d3,d4,d5,d6,d7,d8,d9]
theorem sright_spec (k:Int) (s:List UInt8) (n:Nat) (l c:Int) (hl:s.length≤900000):Sp Tryz.prog gl 26 [tkA k s n l c] (.bool (tkR k s n)):=by
 unfold tkR
 by_cases c1:k=1
 ·subst c1;rw [if_pos rfl];exact sright_1 s n l c hl
 rw [if_neg c1]
 by_cases c2:k=2
 ·subst c2;rw [if_pos rfl];exact sright_2 s n l c hl
 rw [if_neg c2]
 by_cases c3:k=3
 ·subst c3;rw [if_pos (.inl rfl)];exact sright_3 3 rfl s n l c
 by_cases c4:k=4
 ·subst c4;rw [if_pos (.inr rfl)];exact sright_4 4 rfl s n l c
 rw [if_neg (by rintro (h|h);exact c3 h;exact c4 h)]
 by_cases c5:k=5
 ·subst c5;rw [if_pos rfl];exact sright_5 5 rfl s n l c
 rw [if_neg c5]
 by_cases c6:k=6
 ·subst c6;rw [if_pos rfl];exact sright_6 6 rfl s n l c
 rw [if_neg c6]
 by_cases c0:k=0
 ·subst c0;rw [if_pos (.inl rfl)];exact sright_0 0 rfl s n l c
 by_cases c7:k=7
 ·subst c7;rw [if_pos (.inr (.inl rfl))];exact sright_7 7 rfl s n l c
 by_cases c8:k=8
 ·subst c8;rw [if_pos (.inr (.inr (.inl rfl)))];exact sright_8 8 rfl s n l c
 by_cases c9:k=9
 ·subst c9;rw [if_pos (.inr (.inr (.inr rfl)))];exact sright_9 9 rfl s n l c
 rw [if_neg (by rintro (h|h|h|h);exact c0 h;exact c7 h;exact c8 h;exact c9 h)]
 exact sright_x k s n l c ⟨c0,c1,c2,c3,c4,c5,c6,c7,c8,c9⟩
open Go.Proofs
def frc (m:Nat):Nat→Nat→List UInt8
 |0,_=>[]
 |f+1,x=>if x=0 then [] else UInt8.ofNat (48+x / m)::frc m f (x%m*10)
def shP (p:Nat):List UInt8:=if 1000000<p then [63] else dec (p / 10000)++((if p%10000=0 then [] else [46])++(frc 1000 4 (p%10000)++[37]))
def p10:Nat→Nat
 |4=>1
 |3=>10
 |2=>100
 |1=>1000
 |_=>10000
theorem rshare_spec (p:Nat) (hp:p<4294967296):Sp Tryz.prog gl 61 [.int .u32 p] (.str (shP p)):=by
 refine s61 rfl rfl ?_
 unfold shP
 by_cases c:1000000<p
 ·have c':(1000000:Int)<p:=by omega
  rw [if_pos c]
  simp -implicitDefEqProofs [c61,c,c']
 have c': ¬(1000000:Int)<p:=by omega
 rw [if_neg c]
 have w1:IntKind.u32.wrap ((p:Int) / 10000)=((p / 10000:Nat):Int):=by rw [wrap_u32]<;>omega
 have w2:IntKind.u64.wrap ((p / 10000:Nat):Int)=((p / 10000:Nat):Int):=by rw [wrap_u64]<;>omega
 have w3:(p:Int).tmod 10000=((p%10000:Nat):Int):=rfl
 have w4:IntKind.u32.wrap ((p%10000:Nat):Int)=((p%10000:Nat):Int):=by rw [wrap_u32]<;>omega
 have BS:=bits_spec (p / 10000) (by omega)
 have hw:wide (p / 10000)= .agg [u 0,u (p / 10000:Nat)]:=by
  unfold wide
  rw [Nat.div_eq_of_lt (by omega),Nat.mod_eq_of_lt (by omega)]
 rw [hw] at BS
 have DG:=digits_spec (bitsOf (p / 10000) 128) (by simp [bitsOf])
 rw [bitsOf_val128 (p / 10000) (by omega)] at DG
 unfold bl at BS DG
 have bq:p%10000<10000:=Nat.mod_lt _ (by decide)
 clear c hw
 have hdl:(dec (p / 10000)).length≤20:=dec_len 19 _ (by omega)
 generalize dec (p / 10000)=hd at *
 generalize List.map (fun b=>[AV.bool b]) (bitsOf (p / 10000) 128)=bs at *
 generalize p / 10000=z at *
 obtain ⟨R,hR⟩: ∃R,R=hd++((if p%10000=0 then [] else [46])++(frc 1000 4 (p%10000)++[37])):=⟨_,rfl⟩
 rw [←hR]
 by_cases c0:p%10000=0
 ·rw [if_pos c0,c0] at hR
  rw [c0] at w3 w4
  have e0:frc 1000 4 0=[]:=rfl
  rw [e0,List.nil_append,List.nil_append] at hR
  simp -implicitDefEqProofs [c61,c',w1,w2,w3,w4]
  refine onC_mk _ (BS) ?_
  simp -implicitDefEqProofs
  refine onC_mk _ (DG) ?_
  simp -implicitDefEqProofs [w3,w4]
  refine wp_lpk (α:=List UInt8×Nat×Nat) (fun y=>⟨[(3,.str y.1),(4,.int .u32 y.2.1)],[],[]⟩) (fun y=>y.2.1<10000∧y.2.2≤4∧y.2.1%p10 y.2.2=0∧y.1.length≤100∧y.1++(frc 1000 y.2.2 y.2.1++[37])=R∧y.1.length+y.2.2≤100) (fun y=>y.2.2) ?_ (hd,0,4) ?_ ?_
  ·rintro K ⟨cur,x,f⟩ hK ⟨h1,h2,h3,h4,h5,h6⟩
   simp only at h1 h2 h3 h4 h5 h6
   by_cases x0:x=0
   ·subst x0
    have e0:frc 1000 f 0=[]:=by cases f<;>rfl
    rw [e0,List.nil_append] at h5
    subst h5
    have l1:cur.length+1≤9223372036854775807:=by omega
    have l2:cur.length≤9223372036854775806:=by omega
    clear hK
    simp -implicitDefEqProofs [l1,l2]
   ·obtain ⟨f,rfl⟩: ∃g,f=g+1:=by
     refine ⟨f - 1,?_⟩
     rcases Nat.eq_zero_or_pos f with hf|hf
     ·subst hf
      have h3:x%10000=0:=h3
      omega
     ·omega
    rw [frc,if_neg x0] at h5
    have fin:=fun σ' hσ=>hK (cur++[UInt8.ofNat (48+x / 1000)],x%1000*10,f) σ' ⟨by simp only;omega,by simp only;omega,by
     simp only
     obtain rfl|rfl|rfl|rfl:f=0∨f=1∨f=2∨f=3:=by omega
     ·have h3:x%1000=0:=h3
      show x%1000*10%10000=0
      omega
     ·have h3:x%100=0:=h3
      show x%1000*10%1000=0
      omega
     ·have h3:x%10=0:=h3
      show x%1000*10%100=0
      omega
     ·show x%1000*10%10=0
      omega,by simp only [List.length_append,List.length_singleton];omega,by rw [List.append_assoc];exact h5,by simp only [List.length_append,List.length_singleton];omega⟩ (by simp only;omega) hσ
    have xp:(0:Int)<x:=by omega
    have xp':0<x:=by omega
    have l1:cur.length+1≤9223372036854775807:=by omega
    have l2:cur.length≤9223372036854775806:=by omega
    have v1:IntKind.u32.wrap ((x:Int) / 1000)=((x / 1000:Nat):Int):=by rw [wrap_u32]<;>omega
    have v5:(x:Int).tmod 1000=((x%1000:Nat):Int):=rfl
    have v6:IntKind.u32.wrap ((x%1000:Nat):Int)=((x%1000:Nat):Int):=by rw [wrap_u32]<;>omega
    have v7:IntKind.u32.wrap (((x%1000:Nat):Int)*10)=((x%1000*10:Nat):Int):=by rw [wrap_u32]<;>omega
    have q9:x / 1000≤9:=by omega
    generalize x%1000*10=x' at *
    generalize ((x%1000:Nat):Int)=r at *
    generalize x / 1000=q at *
    have v2:IntKind.u8.wrap (q:Int)=q:=by rw [wrap_u8]<;>omega
    have v3:IntKind.u8.wrap (48+(q:Int))=48+q:=by rw [wrap_u8]<;>omega
    have v4:((48:Int)+(q:Int)).toNat=48+q:=by omega
    clear hK h5 h3
    have vD:48+UInt8.ofNat q=UInt8.ofNat (48+q):=by simp
    generalize UInt8.ofNat (48+q)=D at *
    simp -implicitDefEqProofs [xp,xp',v1,v2,v3,v4,v5,v6,v7,l1,l2]
    refine fin _ ?_
    refine weak_mk ?_ ?_ ?_ ?_ ?_ ?_<;>simp -implicitDefEqProofs [v1,v2,v3,v4,v5,v6,v7,vD]
  ·exact ⟨by simp only;omega,Nat.le_refl _,rfl,by simp only;omega,hR.symm,by simp only;omega⟩
  ·refine weak_mk ?_ ?_ ?_ ?_ ?_ ?_<;>simp -implicitDefEqProofs
 ·rw [if_neg c0] at hR
  have c0':(0:Int)<((p%10000:Nat):Int):=by omega
  have c0'':0<p%10000:=by omega
  generalize p%10000=pr at *
  have ll:hd.length≤9223372036854775806:=by omega
  simp -implicitDefEqProofs [c61,c',w1,w2,w3,w4]
  refine onC_mk _ (BS) ?_
  simp -implicitDefEqProofs
  refine onC_mk _ (DG) ?_
  simp -implicitDefEqProofs [w3,w4,c0',c0'',ll]
  refine wp_lpk (α:=List UInt8×Nat×Nat) (fun y=>⟨[(3,.str y.1),(4,.int .u32 y.2.1)],[],[]⟩) (fun y=>y.2.1<10000∧y.2.2≤4∧y.2.1%p10 y.2.2=0∧y.1.length≤100∧y.1++(frc 1000 y.2.2 y.2.1++[37])=R∧y.1.length+y.2.2≤100) (fun y=>y.2.2) ?_ (hd++[46],pr,4) ?_ ?_
  ·rintro K ⟨cur,x,f⟩ hK ⟨h1,h2,h3,h4,h5,h6⟩
   simp only at h1 h2 h3 h4 h5 h6
   by_cases x0:x=0
   ·subst x0
    have e0:frc 1000 f 0=[]:=by cases f<;>rfl
    rw [e0,List.nil_append] at h5
    subst h5
    have l1:cur.length+1≤9223372036854775807:=by omega
    have l2:cur.length≤9223372036854775806:=by omega
    clear hK
    simp -implicitDefEqProofs [l1,l2]
   ·obtain ⟨f,rfl⟩: ∃g,f=g+1:=by
     refine ⟨f - 1,?_⟩
     rcases Nat.eq_zero_or_pos f with hf|hf
     ·subst hf
      have h3:x%10000=0:=h3
      omega
     ·omega
    rw [frc,if_neg x0] at h5
    have fin:=fun σ' hσ=>hK (cur++[UInt8.ofNat (48+x / 1000)],x%1000*10,f) σ' ⟨by simp only;omega,by simp only;omega,by
     simp only
     obtain rfl|rfl|rfl|rfl:f=0∨f=1∨f=2∨f=3:=by omega
     ·have h3:x%1000=0:=h3
      show x%1000*10%10000=0
      omega
     ·have h3:x%100=0:=h3
      show x%1000*10%1000=0
      omega
     ·have h3:x%10=0:=h3
      show x%1000*10%100=0
      omega
     ·show x%1000*10%10=0
      omega,by simp only [List.length_append,List.length_singleton];omega,by rw [List.append_assoc];exact h5,by simp only [List.length_append,List.length_singleton];omega⟩ (by simp only;omega) hσ
    have xp:(0:Int)<x:=by omega
    have xp':0<x:=by omega
    have l1:cur.length+1≤9223372036854775807:=by omega
    have l2:cur.length≤9223372036854775806:=by omega
    have v1:IntKind.u32.wrap ((x:Int) / 1000)=((x / 1000:Nat):Int):=by rw [wrap_u32]<;>omega
    have v5:(x:Int).tmod 1000=((x%1000:Nat):Int):=rfl
    have v6:IntKind.u32.wrap ((x%1000:Nat):Int)=((x%1000:Nat):Int):=by rw [wrap_u32]<;>omega
    have v7:IntKind.u32.wrap (((x%1000:Nat):Int)*10)=((x%1000*10:Nat):Int):=by rw [wrap_u32]<;>omega
    have q9:x / 1000≤9:=by omega
    generalize x%1000*10=x' at *
    generalize ((x%1000:Nat):Int)=r at *
    generalize x / 1000=q at *
    have v2:IntKind.u8.wrap (q:Int)=q:=by rw [wrap_u8]<;>omega
    have v3:IntKind.u8.wrap (48+(q:Int))=48+q:=by rw [wrap_u8]<;>omega
    have v4:((48:Int)+(q:Int)).toNat=48+q:=by omega
    clear hK h5 h3
    have vD:48+UInt8.ofNat q=UInt8.ofNat (48+q):=by simp
    generalize UInt8.ofNat (48+q)=D at *
    simp -implicitDefEqProofs [xp,xp',v1,v2,v3,v4,v5,v6,v7,l1,l2]
    refine fin _ ?_
    refine weak_mk ?_ ?_ ?_ ?_ ?_ ?_<;>simp -implicitDefEqProofs [v1,v2,v3,v4,v5,v6,v7,vD]
  ·exact ⟨bq,Nat.le_refl _,Nat.mod_one _,by simp only [List.length_append,List.length_singleton];omega,by rw [hR];exact List.append_assoc _ _ _,by simp only [List.length_append,List.length_singleton];omega⟩
  ·refine weak_mk ?_ ?_ ?_ ?_ ?_ ?_<;>simp -implicitDefEqProofs
open Go.Proofs
theorem dec_cons (n:Nat) (s:List UInt8) (h:0<n):dec n++s=if n / 10=0 then UInt8.ofNat (48+n%10)::s else dec (n / 10)++(UInt8.ofNat (48+n%10)::s):=by
 by_cases g:n<10
 ·rw [dec_lt g,if_pos (by omega),show n%10=n by omega]
  rfl
 ·rw [dec_ge g,if_neg (by omega),List.append_assoc]
  rfl
theorem rdig04_spec (n:Nat) (hn:n≤253402300799):Sp Tryz.prog gl 115 [i6 n] (.str (dec n)):=by
 refine s115 rfl rfl ?_
 obtain ⟨R,hR⟩: ∃R,R=dec n:=⟨_,rfl⟩
 rw [←hR]
 have byte: ∀m:Nat,m≤253402300799→(m:Int).tmod 10=((m%10:Nat):Int)∧IntKind.i64.wrap ((m%10:Nat):Int)=((m%10:Nat):Int)∧IntKind.u8.wrap ((m%10:Nat):Int)=((m%10:Nat):Int)∧IntKind.u8.wrap (48+((m%10:Nat):Int))=48+((m%10:Nat):Int)∧
   ((48:Int)+((m%10:Nat):Int)).toNat=48+m%10∧IntKind.i64.wrap ((m:Int) / 10)=((m / 10:Nat):Int):=fun m hm=>by
  refine ⟨rfl,?_,?_,?_,?_,?_⟩
  ·rw [wrap_i64]<;>omega
  ·rw [wrap_u8]<;>omega
  ·rw [wrap_u8]<;>omega
  ·omega
  ·rw [wrap_i64]<;>omega
 have h0:(if n / 10=0 then [UInt8.ofNat (48+n%10)] else dec (n / 10)++[UInt8.ofNat (48+n%10)])=R:=by
  rw [hR]
  by_cases c:n<10
  ·rw [dec_lt c,if_pos (by omega),show n%10=n by omega]
  ·rw [dec_ge c,if_neg (by omega)]
 obtain ⟨b1,b2,b3,b4,b5,b6⟩:=byte n hn
 have hl:n / 10≤253402300799:=by omega
 have vD:48+UInt8.ofNat (n%10)=UInt8.ofNat (48+n%10):=by simp
 have RL:R.length≤100:=by
  rw [hR]
  have:=dec_len 19 n (by omega)
  omega
 clear hR
 generalize UInt8.ofNat (48+n%10)=D0 at *
 generalize n%10=r0 at *
 generalize n / 10=q0 at *
 simp -implicitDefEqProofs [c115,b1,b2,b3,b4,b5,b6,vD]
 refine wp_lpk (α:=List UInt8×Nat) (fun y=>⟨[(0,i6 y.2),(3,.str y.1)],[],[]⟩) (fun y=>y.2≤253402300799∧(if y.2=0 then y.1 else dec y.2++y.1)=R) (fun y=>y.2) ?_ ([D0],q0) ?_ ?_
 ·rintro K ⟨cur,m⟩ hK ⟨h1,h2⟩
  simp only at h1 h2
  by_cases m0:m=0
  ·subst m0
   rw [if_pos rfl] at h2
   subst h2
   clear hK
   simp -implicitDefEqProofs
  ·rw [if_neg m0] at h2
   have cl:cur.length≤100:=by
    rw [←h2,List.length_append] at RL
    omega
   rw [dec_cons m cur (by omega)] at h2
   have fin:=fun σ' hσ=>hK (UInt8.ofNat (48+m%10)::cur,m / 10) σ' ⟨by simp only;omega,h2⟩ (by simp only;omega) hσ
   obtain ⟨b1,b2,b3,b4,b5,b6⟩:=byte m h1
   have vD:48+UInt8.ofNat (m%10)=UInt8.ofNat (48+m%10):=by simp
   have mp:(0:Int)<m:=by omega
   have mp':0<m:=by omega
   have l1:cur.length+1≤9223372036854775807:=by omega
   have l2:1+cur.length≤9223372036854775807:=by omega
   clear hK h2 byte
   generalize UInt8.ofNat (48+m%10)=D at *
   generalize m%10=r at *
   generalize m / 10=q at *
   simp -implicitDefEqProofs [mp,mp',b1,b2,b3,b4,b5,b6,vD,l1,l2]
   refine fin _ ?_
   refine weak_mk ?_ ?_ ?_ ?_ ?_ ?_<;>simp -implicitDefEqProofs [b1,b2,b3,b4,b5,b6,vD]
 ·exact ⟨hl,h0⟩
 ·refine weak_mk ?_ ?_ ?_ ?_ ?_ ?_<;>simp -implicitDefEqProofs [b1,b2,b3,b4,b5,b6,vD]
def unL:List (Nat×UInt8):=[(604800,119),(86400,100),(3600,104),(60,109),(1,115)]
def spG:List (Nat×UInt8)→Nat→List UInt8
 |[],_=>[]
 |(u,c)::l,n=>if u≤n then dec (n / u)++(c::spG l (n%u)) else spG l n
def spP (n:Nat):List UInt8:=if n=0 then [48,115] else spG unL n
open Go.Proofs
theorem spG_len: ∀(l:List (Nat×UInt8)) (n:Nat),n≤253402300799→(spG l n).length≤21*l.length
 |[],n,h=>by simp [spG]
 |(u,c)::l,n,h=>by
  rw [spG]
  split
  ·have h1:n / u≤n:=Nat.div_le_self _ _
   have h2:n%u≤n:=Nat.mod_le _ _
   have a:=spG_len l (n%u) (by omega)
   have b:=dec_len 19 (n / u) (by omega)
   simp only [List.length_append,List.length_cons]
   omega
  ·have a:=spG_len l n h
   simp only [List.length_cons]
   omega
theorem spG_nil (n:Nat):spG unL n=[]↔n=0:=by
 constructor
 ·intro h
  unfold unL at h
  simp only [spG] at h
  repeat' (split at h)
  all_goals first|omega|(simp at h)
 ·rintro rfl
  rfl
set_option maxHeartbeats 1000000 in
theorem rspan04_spec (n:Nat) (hn:n≤253402300799):Sp Tryz.prog gl 62 [i6 n] (.str (spP n)):=by
 refine s62 rfl rfl ?_
 have g1: ¬(n:Int)<0:=by omega
 have g2: ¬(253402300799:Int)<n:=by omega
 have RL:=spG_len unL n hn
 have RN:=spG_nil n
 have hl5:unL.length=5:=rfl
 unfold spP
 obtain ⟨R,hR⟩: ∃R,R=spG unL n:=⟨_,rfl⟩
 rw [←hR] at RL RN ⊢
 rw [hl5] at RL
 simp -implicitDefEqProofs [c62,g1,g2]
 refine wp_lpk (α:=Nat×List UInt8×Nat) (fun y=>⟨[(0,i6 y.2.2),(3,.str y.2.1),(4,.str [119,100,104,109,115]),(5,i6 y.1)],[],[]⟩) (fun y=>y.1≤5∧y.2.2≤253402300799∧y.2.1++spG (unL.drop y.1) y.2.2=R) (fun y=>5 - y.1) ?_ (0,[],n) ?_ ?_
 ·rintro K ⟨i,s,m⟩ hK ⟨h1,h2,h3⟩
  simp only at h1 h2 h3
  have sl:s.length≤105:=by
   rw [←h3,List.length_append] at RL
   omega
  obtain rfl|rfl|rfl|rfl|rfl|rfl:i=0∨i=1∨i=2∨i=3∨i=4∨i=5:=by omega
  ·have U:=runit04_spec 119
   rw [show unitZ 119=604800 from rfl] at U
   rw [show unL.drop 0=(604800,119)::unL.drop 1 from rfl,spG] at h3
   have fin:=fun s' m' b1 b2 σ' hσ=>hK (1,s',m') σ' ⟨by omega,b1,b2⟩ (by simp only;omega) hσ
   have wi:IntKind.i64.wrap 1=1:=by decide
   clear hK
   by_cases gu:604800≤m
   ·have gu':(604800:Int)≤m:=by omega
    rw [if_pos gu] at h3
    have DG:=rdig04_spec (m / 604800) (by omega)
    have dl:=dec_len 19 (m / 604800) (by omega)
    have d0:(m:Int).tdiv 604800=((m / 604800:Nat):Int):=rfl
    have d1:IntKind.i64.wrap ((m:Int) / 604800)=((m / 604800:Nat):Int):=by rw [wrap_i64]<;>omega
    have d2:(m:Int).tmod 604800=((m%604800:Nat):Int):=rfl
    have d3:IntKind.i64.wrap ((m%604800:Nat):Int)=((m%604800:Nat):Int):=by rw [wrap_i64]<;>omega
    have d4:IntKind.i64.wrap ((m / 604800:Nat):Int)=((m / 604800:Nat):Int):=by rw [wrap_i64]<;>omega
    have d5:IntKind.i64.wrap ((m:Int)%604800)=((m%604800:Nat):Int):=by rw [wrap_i64]<;>omega
    have mb:m%604800≤253402300799:=by omega
    have fin:=fin (s++(dec (m / 604800)++[119])) (m%604800) mb (by rw [←h3];simp)
    generalize dec (m / 604800)=D at *
    generalize m / 604800=q at *
    generalize m%604800=r at *
    have l1:s.length+D.length≤9223372036854775807:=by omega
    have l2:s.length+(D.length+1)≤9223372036854775807:=by omega
    have l3:s.length+D.length+1≤9223372036854775807:=by omega
    have l4:s.length+D.length≤9223372036854775806:=by omega
    simp -implicitDefEqProofs
    refine onC_mk _ (U) ?_
    simp -implicitDefEqProofs [gu,gu',d0,d1,d2,d3,d4,d5]
    refine onC_mk _ (DG) ?_
    simp -implicitDefEqProofs [l1,l2,l3,l4,wi]
    refine fin _ ?_
    refine weak_mk ?_ ?_ ?_ ?_ ?_ ?_<;>simp -implicitDefEqProofs [wi,d0,d1,d2,d3,d4,d5]
   ·have gu': ¬(604800:Int)≤m:=by omega
    rw [if_neg gu] at h3
    have fin:=fin s m h2 h3
    simp -implicitDefEqProofs
    refine onC_mk _ (U) ?_
    simp -implicitDefEqProofs [gu,gu']
    refine fin _ ?_
    refine weak_mk ?_ ?_ ?_ ?_ ?_ ?_<;>simp -implicitDefEqProofs [wi]
  ·have U:=runit04_spec 100
   rw [show unitZ 100=86400 from rfl] at U
   rw [show unL.drop 1=(86400,100)::unL.drop 2 from rfl,spG] at h3
   have fin:=fun s' m' b1 b2 σ' hσ=>hK (2,s',m') σ' ⟨by omega,b1,b2⟩ (by simp only;omega) hσ
   have wi:IntKind.i64.wrap 2=2:=by decide
   clear hK
   by_cases gu:86400≤m
   ·have gu':(86400:Int)≤m:=by omega
    rw [if_pos gu] at h3
    have DG:=rdig04_spec (m / 86400) (by omega)
    have dl:=dec_len 19 (m / 86400) (by omega)
    have d0:(m:Int).tdiv 86400=((m / 86400:Nat):Int):=rfl
    have d1:IntKind.i64.wrap ((m:Int) / 86400)=((m / 86400:Nat):Int):=by rw [wrap_i64]<;>omega
    have d2:(m:Int).tmod 86400=((m%86400:Nat):Int):=rfl
    have d3:IntKind.i64.wrap ((m%86400:Nat):Int)=((m%86400:Nat):Int):=by rw [wrap_i64]<;>omega
    have d4:IntKind.i64.wrap ((m / 86400:Nat):Int)=((m / 86400:Nat):Int):=by rw [wrap_i64]<;>omega
    have d5:IntKind.i64.wrap ((m:Int)%86400)=((m%86400:Nat):Int):=by rw [wrap_i64]<;>omega
    have mb:m%86400≤253402300799:=by omega
    have fin:=fin (s++(dec (m / 86400)++[100])) (m%86400) mb (by rw [←h3];simp)
    generalize dec (m / 86400)=D at *
    generalize m / 86400=q at *
    generalize m%86400=r at *
    have l1:s.length+D.length≤9223372036854775807:=by omega
    have l2:s.length+(D.length+1)≤9223372036854775807:=by omega
    have l3:s.length+D.length+1≤9223372036854775807:=by omega
    have l4:s.length+D.length≤9223372036854775806:=by omega
    simp -implicitDefEqProofs
    refine onC_mk _ (U) ?_
    simp -implicitDefEqProofs [gu,gu',d0,d1,d2,d3,d4,d5]
    refine onC_mk _ (DG) ?_
    simp -implicitDefEqProofs [l1,l2,l3,l4,wi]
    refine fin _ ?_
    refine weak_mk ?_ ?_ ?_ ?_ ?_ ?_<;>simp -implicitDefEqProofs [wi,d0,d1,d2,d3,d4,d5]
   ·have gu': ¬(86400:Int)≤m:=by omega
    rw [if_neg gu] at h3
    have fin:=fin s m h2 h3
    simp -implicitDefEqProofs
    refine onC_mk _ (U) ?_
    simp -implicitDefEqProofs [gu,gu']
    refine fin _ ?_
    refine weak_mk ?_ ?_ ?_ ?_ ?_ ?_<;>simp -implicitDefEqProofs [wi]
  ·have U:=runit04_spec 104
   rw [show unitZ 104=3600 from rfl] at U
   rw [show unL.drop 2=(3600,104)::unL.drop 3 from rfl,spG] at h3
   have fin:=fun s' m' b1 b2 σ' hσ=>hK (3,s',m') σ' ⟨by omega,b1,b2⟩ (by simp only;omega) hσ
   have wi:IntKind.i64.wrap 3=3:=by decide
   clear hK
   by_cases gu:3600≤m
   ·have gu':(3600:Int)≤m:=by omega
    rw [if_pos gu] at h3
    have DG:=rdig04_spec (m / 3600) (by omega)
    have dl:=dec_len 19 (m / 3600) (by omega)
    have d0:(m:Int).tdiv 3600=((m / 3600:Nat):Int):=rfl
    have d1:IntKind.i64.wrap ((m:Int) / 3600)=((m / 3600:Nat):Int):=by rw [wrap_i64]<;>omega
    have d2:(m:Int).tmod 3600=((m%3600:Nat):Int):=rfl
    have d3:IntKind.i64.wrap ((m%3600:Nat):Int)=((m%3600:Nat):Int):=by rw [wrap_i64]<;>omega
    have d4:IntKind.i64.wrap ((m / 3600:Nat):Int)=((m / 3600:Nat):Int):=by rw [wrap_i64]<;>omega
    have d5:IntKind.i64.wrap ((m:Int)%3600)=((m%3600:Nat):Int):=by rw [wrap_i64]<;>omega
    have mb:m%3600≤253402300799:=by omega
    have fin:=fin (s++(dec (m / 3600)++[104])) (m%3600) mb (by rw [←h3];simp)
    generalize dec (m / 3600)=D at *
    generalize m / 3600=q at *
    generalize m%3600=r at *
    have l1:s.length+D.length≤9223372036854775807:=by omega
    have l2:s.length+(D.length+1)≤9223372036854775807:=by omega
    have l3:s.length+D.length+1≤9223372036854775807:=by omega
    have l4:s.length+D.length≤9223372036854775806:=by omega
    simp -implicitDefEqProofs
    refine onC_mk _ (U) ?_
    simp -implicitDefEqProofs [gu,gu',d0,d1,d2,d3,d4,d5]
    refine onC_mk _ (DG) ?_
    simp -implicitDefEqProofs [l1,l2,l3,l4,wi]
    refine fin _ ?_
    refine weak_mk ?_ ?_ ?_ ?_ ?_ ?_<;>simp -implicitDefEqProofs [wi,d0,d1,d2,d3,d4,d5]
   ·have gu': ¬(3600:Int)≤m:=by omega
    rw [if_neg gu] at h3
    have fin:=fin s m h2 h3
    simp -implicitDefEqProofs
    refine onC_mk _ (U) ?_
    simp -implicitDefEqProofs [gu,gu']
    refine fin _ ?_
    refine weak_mk ?_ ?_ ?_ ?_ ?_ ?_<;>simp -implicitDefEqProofs [wi]
  ·have U:=runit04_spec 109
   rw [show unitZ 109=60 from rfl] at U
   rw [show unL.drop 3=(60,109)::unL.drop 4 from rfl,spG] at h3
   have fin:=fun s' m' b1 b2 σ' hσ=>hK (4,s',m') σ' ⟨by omega,b1,b2⟩ (by simp only;omega) hσ
   have wi:IntKind.i64.wrap 4=4:=by decide
   clear hK
   by_cases gu:60≤m
   ·have gu':(60:Int)≤m:=by omega
    rw [if_pos gu] at h3
    have DG:=rdig04_spec (m / 60) (by omega)
    have dl:=dec_len 19 (m / 60) (by omega)
    have d0:(m:Int).tdiv 60=((m / 60:Nat):Int):=rfl
    have d1:IntKind.i64.wrap ((m:Int) / 60)=((m / 60:Nat):Int):=by rw [wrap_i64]<;>omega
    have d2:(m:Int).tmod 60=((m%60:Nat):Int):=rfl
    have d3:IntKind.i64.wrap ((m%60:Nat):Int)=((m%60:Nat):Int):=by rw [wrap_i64]<;>omega
    have d4:IntKind.i64.wrap ((m / 60:Nat):Int)=((m / 60:Nat):Int):=by rw [wrap_i64]<;>omega
    have d5:IntKind.i64.wrap ((m:Int)%60)=((m%60:Nat):Int):=by rw [wrap_i64]<;>omega
    have mb:m%60≤253402300799:=by omega
    have fin:=fin (s++(dec (m / 60)++[109])) (m%60) mb (by rw [←h3];simp)
    generalize dec (m / 60)=D at *
    generalize m / 60=q at *
    generalize m%60=r at *
    have l1:s.length+D.length≤9223372036854775807:=by omega
    have l2:s.length+(D.length+1)≤9223372036854775807:=by omega
    have l3:s.length+D.length+1≤9223372036854775807:=by omega
    have l4:s.length+D.length≤9223372036854775806:=by omega
    simp -implicitDefEqProofs
    refine onC_mk _ (U) ?_
    simp -implicitDefEqProofs [gu,gu',d0,d1,d2,d3,d4,d5]
    refine onC_mk _ (DG) ?_
    simp -implicitDefEqProofs [l1,l2,l3,l4,wi]
    refine fin _ ?_
    refine weak_mk ?_ ?_ ?_ ?_ ?_ ?_<;>simp -implicitDefEqProofs [wi,d0,d1,d2,d3,d4,d5]
   ·have gu': ¬(60:Int)≤m:=by omega
    rw [if_neg gu] at h3
    have fin:=fin s m h2 h3
    simp -implicitDefEqProofs
    refine onC_mk _ (U) ?_
    simp -implicitDefEqProofs [gu,gu']
    refine fin _ ?_
    refine weak_mk ?_ ?_ ?_ ?_ ?_ ?_<;>simp -implicitDefEqProofs [wi]
  ·have U:=runit04_spec 115
   rw [show unitZ 115=1 from rfl] at U
   rw [show unL.drop 4=(1,115)::unL.drop 5 from rfl,spG] at h3
   have fin:=fun s' m' b1 b2 σ' hσ=>hK (5,s',m') σ' ⟨by omega,b1,b2⟩ (by simp only;omega) hσ
   have wi:IntKind.i64.wrap 5=5:=by decide
   clear hK
   by_cases gu:1≤m
   ·have gu':(1:Int)≤m:=by omega
    rw [if_pos gu] at h3
    have DG:=rdig04_spec (m / 1) (by omega)
    have dl:=dec_len 19 (m / 1) (by omega)
    have d0:(m:Int).tdiv 1=((m / 1:Nat):Int):=rfl
    have d1:IntKind.i64.wrap ((m:Int) / 1)=((m / 1:Nat):Int):=by rw [wrap_i64]<;>omega
    have d2:(m:Int).tmod 1=((m%1:Nat):Int):=rfl
    have d3:IntKind.i64.wrap ((m%1:Nat):Int)=((m%1:Nat):Int):=by rw [wrap_i64]<;>omega
    have d4:IntKind.i64.wrap ((m / 1:Nat):Int)=((m / 1:Nat):Int):=by rw [wrap_i64]<;>omega
    have d5:IntKind.i64.wrap ((m:Int)%1)=((m%1:Nat):Int):=by rw [wrap_i64]<;>omega
    have mb:m%1≤253402300799:=by omega
    have fin:=fin (s++(dec (m / 1)++[115])) (m%1) mb (by rw [←h3];simp)
    have z:m%1=0:=Nat.mod_one _
    generalize dec (m / 1)=D at *
    generalize m / 1=q at *
    generalize m%1=r at *
    have l1:s.length+D.length≤9223372036854775807:=by omega
    have l2:s.length+(D.length+1)≤9223372036854775807:=by omega
    have l3:s.length+D.length+1≤9223372036854775807:=by omega
    have l4:s.length+D.length≤9223372036854775806:=by omega
    simp -implicitDefEqProofs
    refine onC_mk _ (U) ?_
    simp -implicitDefEqProofs [gu,gu',d0,d1,d2,d3,d4,d5]
    refine onC_mk _ (DG) ?_
    simp -implicitDefEqProofs [l1,l2,l3,l4,wi]
    refine fin _ ?_
    refine weak_mk ?_ ?_ ?_ ?_ ?_ ?_<;>simp -implicitDefEqProofs [wi,d0,d1,d2,d3,d4,d5,z]
   ·have gu': ¬(1:Int)≤m:=by omega
    rw [if_neg gu] at h3
    have fin:=fin s m h2 h3
    simp -implicitDefEqProofs
    refine onC_mk _ (U) ?_
    simp -implicitDefEqProofs [gu,gu']
    refine fin _ ?_
    refine weak_mk ?_ ?_ ?_ ?_ ?_ ?_<;>simp -implicitDefEqProofs [wi]
  ·rw [show unL.drop 5=[] from rfl,spG,List.append_nil] at h3
   subst h3
   clear hK
   by_cases e:s=[]
   ·have n0:=RN.1 e
    rw [if_pos n0]
    subst e
    simp -implicitDefEqProofs
   ·have en:(s==[])=false:=beq_eq_false_iff_ne.2 e
    rw [if_neg (fun h=>e (RN.2 h))]
    simp -implicitDefEqProofs [e,en]
 ·exact ⟨by omega,hn,by rw [hR];rfl⟩
 ·refine weak_mk ?_ ?_ ?_ ?_ ?_ ?_<;>simp -implicitDefEqProofs
end Go.Ai
