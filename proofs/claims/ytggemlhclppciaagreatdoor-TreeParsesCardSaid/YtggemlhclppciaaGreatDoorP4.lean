/- P4: a part of the proof: the rules, or what functions compute. Conditions: as each theorem says. -/
import Derived.Test.YtggemlhclppciaaGreatDoorP3
import Derived.Test.YtggemlhclppciaaGreatDoorP2
import Derived.Test.YtggemlhclppciaaGreatDoorLib7
import Derived.Test.YtggemlhclppciaaGreatDoorP1
set_option linter.unusedSimpArgs false
set_option linter.unusedVariables false
set_option maxRecDepth 20000
namespace Go.Ai
open Go.Proofs
theorem stepF_oneA (s:List UInt8) (i n r0 l:Nat) (h:(stepF s i n r0 l).1= -1):(stepF s i n r0 l).2=1:=by
 unfold stepF at h ⊢
 split
 ·rename_i c
  rw [if_pos c] at h
  simp only at h
  omega
 ·rfl
theorem stepR_oneA (s:List UInt8) (i:Nat) (h:(stepR s i).1= -1):(stepR s i).2=1:=by
 unfold stepR at h ⊢
 simp only at h ⊢
 split
 ·rfl
 ·rename_i c1
  rw [if_neg c1] at h
  split
  ·rename_i c2;rw [if_pos c2] at h;exact stepF_oneA _ _ _ _ _ h
  ·rename_i c2
   rw [if_neg c2] at h
   split
   ·rename_i c3;rw [if_pos c3] at h;exact stepF_oneA _ _ _ _ _ h
   ·rename_i c3
    rw [if_neg c3] at h
    split
    ·rename_i c4;rw [if_pos c4] at h;exact stepF_oneA _ _ _ _ _ h
    ·rfl
theorem conts_in (s:List UInt8) (i:Nat): ∀n,conts s i n=true→n=0∨i+n<s.length
 |0,_=> .inl rfl
 |k+1,h=>by
  rw [conts,Bool.and_eq_true] at h
  exact .inr (cont_in h.2)
theorem stepF_le (s:List UInt8) (i n r0 l:Nat) (h:i<s.length):i+(stepF s i n r0 l).2≤s.length:=by
 unfold stepF
 split
 ·rename_i c
  rw [Bool.and_eq_true] at c
  have:=conts_in s i n c.1
  simp only
  omega
 ·exact h
theorem stepR_le (s:List UInt8) (i:Nat) (h:i<s.length):i+(stepR s i).2≤s.length:=by
 unfold stepR
 simp only
 split
 ·exact h
 ·split
  ·exact stepF_le _ _ _ _ _ h
  ·split
   ·exact stepF_le _ _ _ _ _ h
   ·split
    ·exact stepF_le _ _ _ _ _ h
    ·exact h
theorem step_r65 (s:List UInt8) (i:Nat) (h:i<s.length):runeAt s i=(r65 (stepR s i).1,(stepR s i).2):=by
 rw [step_rune s i h]
 unfold r65
 by_cases c:(stepR s i).1= -1
 ·rw [if_pos c,if_pos c,stepR_oneA s i c]
 ·rw [if_neg c,if_neg c]
theorem runF_in (V:List UInt8→TV) (U:List UInt8→List UInt8×Int) (s:List UInt8) (x:Sc) (i:Nat) (h:i<s.length):runF V U s x i=
  if (takeF V U s x i (r65 (stepR s i).1)).2=true then runF V U s ((takeF V U s x i (r65 (stepR s i).1)).1.adv (r65 (stepR s i).1)) (i+(stepR s i).2) else ((takeF V U s x i (r65 (stepR s i).1)).1,false):=by
 rw [runF,dif_pos h]
theorem runF_out (V:List UInt8→TV) (U:List UInt8→List UInt8×Int) (s:List UInt8) (x:Sc) (i:Nat) (h: ¬i<s.length):runF V U s x i=(x,true):=by
 rw [runF,dif_neg h]
theorem Sc.adv_out (x:Sc) (r:Int):(x.adv r).out=x.out:=by unfold Sc.adv;split<;>rfl
theorem Sc.adv_sa (x:Sc) (r:Int):(x.adv r).sa=x.sa:=by unfold Sc.adv;split<;>rfl
structure ScOk (x:Sc) (i:Nat):Prop where
 sa:x.sa≤i
 ou:x.out.length≤2*i
 a0:0≤x.al
 a1:x.al≤i+1
 c0:0≤x.ac
 c1:x.ac≤i+1
theorem ScOk.step {x:Sc} {i:Nat} (h:ScOk x i) (V:List UInt8→TV) (U:List UInt8→List UInt8×Int) (s:List UInt8) (r:Int) (w:Nat) (hw:1≤w):ScOk ((takeF V U s x i r).1.adv r) (i+w):=by
 have k:=takeF_keep V U s x i r h.sa
 have o:=takeF_out V U s x i r
 have h2:=h.ou
 have h3:=h.a0
 have h4:=h.a1
 have h5:=h.c0
 have h6:=h.c1
 refine ⟨by rw [Sc.adv_sa];omega,by rw [Sc.adv_out];omega,?_,?_,?_,?_⟩<;>unfold Sc.adv<;>split<;>simp only<;>omega
theorem sc0_ok:ScOk sc0 0:=⟨Nat.le_refl _,Nat.le_refl _,by decide,by decide,by decide,by decide⟩
theorem stokens_spec (V:List UInt8→TV) (U:List UInt8→List UInt8×Int) (s:List UInt8) (hU: ∀w,w.length≤s.length→Sp Tryz.prog gl 196 [.str w] (.tup [.str (U w).1,i6 (U w).2])) (hV: ∀w,w.length≤s.length→Sp Tryz.prog gl 109 [.str w] (V w).av):
  Sp Tryz.prog gl 47 [.str s] (scanF V U s).av:=by
 refine s47 rfl rfl ?_
 have B:=fun (e:Nat) (he:(Id.n 10).isNw e=false)=>sbegin_spec s ⟨[],0,0,0,0,1,1,0,0,0⟩ 0 0 e (.n 10) rfl he
 have hB:Sc.begin ⟨[],0,0,0,0,1,1,0,0,0⟩ 0 0=sc0:=rfl
 rw [hB] at B
 unfold scanF
 by_cases hl:40000<s.length
 ·rw [if_pos hl]
  have hl':(40000:Int)<s.length:=by omega
  have W:=fun (e:Nat) (he:(Id.n 10).isNw e=false)=>swrong_spec s sc0 9 e (.n 10) rfl he
  unfold scB Sc.wrong sc0 at *
  simp only [List.map_nil] at B W
  unfold TR.av
  simp -implicitDefEqProofs [c47]
  refine onH_mk _ _ (B _ rfl) ⟨?_,?_,?_,?_,?_,?_,?_⟩ ?_
  iterate 7 (· simp)
  simp -implicitDefEqProofs [hl,hl']
  refine onH_mk _ _ (W _ rfl) ⟨?_,?_,?_,?_,?_,?_,?_⟩ ?_
  iterate 7 (· simp)
  simp -implicitDefEqProofs
 ·rw [if_neg hl]
  have hl': ¬(40000:Int)<s.length:=by omega
  have B: ∀(e:Nat) (he:(Id.n 10).isNw e=false),SpH Tryz.prog gl 75 e ⟨[.ptr (.n 10) 0,i6 0,i6 0],[(.n 10,[.str s,.sl [],i6 0,i6 0,i6 0,i6 0,i6 1,i6 1,i6 0,i6 0,i6 0])],[(.b (.n 10) 1,5)]⟩ ⟨.tup [],[(.n 10,scB s sc0)],[(.b (.n 10) 1,5)]⟩:=B
  obtain ⟨R,hR⟩: ∃R,R=runF V U s sc0 0:=⟨_,rfl⟩
  rw [←hR]
  have sl: ∀x,(scB s x).length=11:=fun _=>rfl
  have si: ∀x,idsL (scB s x)=[]:=fun _=>rfl
  simp -implicitDefEqProofs [c47]
  refine onH_mk _ _ (B _ rfl) ⟨?_,?_,?_,?_,?_,?_,?_⟩ ?_
  iterate 7 (· simp)
  simp -implicitDefEqProofs [hl,hl',sl,si]
  refine wp_lpk (α:=Sc×Nat) (fun y=>⟨[(0,.str s),(3,.ptr (.n 3) 0),(4,.ptr (.n 10) 0),(23,.itp 23)],[(.n 3,[i6 0,i6 0,i6 0]),(.n 10,scB s y.1),(.it 23,[.itr s y.2])],[(.b (.n 10) 1,5)]⟩)
   (fun y=>ScOk y.1 y.2∧y.2≤s.length∧runF V U s y.1 y.2=R) (fun y=>s.length - y.2) ?_ (sc0,0) ?_ ?_
  ·rintro K ⟨x,i⟩ hK ⟨h1,h2,h3⟩
   simp only at h1 h2 h3
   by_cases g:i<s.length
   ·have sr:=step_r65 s i g
    have sp:=stepR_pos s i
    have sw:=stepR_le s i g
    rw [runF_in V U s x i g] at h3
    have o1:=h1.ou
    have T:=fun r (e:Nat) (he:(Id.n 10).isNw e=false)=>stake_spec V U s hU hV x (by omega) (by omega) i h1.sa g r e (.n 10) rfl he
    have ko:=h1.step V U s (r65 (stepR s i).1) (stepR s i).2 sp
    have kk:=takeF_keep V U s x i (r65 (stepR s i).1) h1.sa
    have c0:=h1.c0
    have c1:=h1.c1
    have a0:=h1.a0
    have a1:=h1.a1
    have T:=T (r65 (stepR s i).1)
    generalize hq:r65 (stepR s i).1=r at *
    generalize (stepR s i).2=w at *
    generalize (takeF V U s x i r).2=ok at *
    generalize (takeF V U s x i r).1=y at *
    have fin:runF V U s (y.adv r) (i+w)=R→ ∀σ',Weak σ' ⟨[(0,.str s),(3,.ptr (.n 3) 0),(4,.ptr (.n 10) 0),(23,.itp 23)],[(.n 3,[i6 0,i6 0,i6 0]),(.n 10,scB s (y.adv r)),(.it 23,[.itr s (i+w)])],[(.b (.n 10) 1,5)]⟩→K σ':=
     fun hh σ' hσ=>hK (y.adv r,i+w) σ' ⟨ko,by simp only;omega,hh⟩ (by simp only;omega) hσ
    have w1:IntKind.i64.wrap (y.ac+1)=y.ac+1:=by rw [wrap_i64]<;>omega
    have w2:IntKind.i64.wrap (y.al+1)=y.al+1:=by rw [wrap_i64]<;>omega
    clear hK hR ko
    cases ok
    ·rw [if_neg (by decide)] at h3
     subst h3
     clear fin
     dsimp only
     rw [if_neg (by decide)]
     unfold TR.bad TR.av
     unfold scB at *
     generalize y.out.map Tk.row=L at *
     generalize x.out.map Tk.row=L0 at *
     simp -implicitDefEqProofs [g,sr]
     refine onH_mk _ _ (T _ rfl) ⟨?_,?_,?_,?_,?_,?_,?_⟩ ?_
     iterate 7 (· simp)
     simp -implicitDefEqProofs
    ·rw [if_pos rfl] at h3
     have fin:=fin h3
     clear h3
     generalize TR.av _=res
     unfold Sc.adv at fin
     by_cases c:r=10
     ·rw [if_pos c] at fin
      unfold scB at *
      generalize y.out.map Tk.row=L at *
      generalize x.out.map Tk.row=L0 at *
      simp -implicitDefEqProofs [g,sr]
      refine onH_mk _ _ (T _ rfl) ⟨?_,?_,?_,?_,?_,?_,?_⟩ ?_
      iterate 7 (· simp)
      simp -implicitDefEqProofs [c,w1,w2]
      refine fin _ ?_
      refine weak_mk ?_ ?_ ?_ ?_ ?_ ?_<;>simp -implicitDefEqProofs
     ·rw [if_neg c] at fin
      have c':(r==10)=false:=beq_eq_false_iff_ne.2 c
      unfold scB at *
      generalize y.out.map Tk.row=L at *
      generalize x.out.map Tk.row=L0 at *
      simp -implicitDefEqProofs [g,sr]
      refine onH_mk _ _ (T _ rfl) ⟨?_,?_,?_,?_,?_,?_,?_⟩ ?_
      iterate 7 (· simp)
      simp -implicitDefEqProofs [c,c',w1,w2]
      refine fin _ ?_
      refine weak_mk ?_ ?_ ?_ ?_ ?_ ?_<;>simp -implicitDefEqProofs
   ·rw [runF_out V U s x i g] at h3
    subst h3
    dsimp only
    rw [if_pos rfl]
    have o1:=h1.ou
    have hsa:=h1.sa
    clear hK
    have E:=fun (e:Nat) (he:(Id.n 10).isNw e=false)=>send_spec V s hV x (by omega) (by omega) (by omega) e (.n 10) rfl he
    generalize (endF V s x).2=ok at *
    generalize (endF V s x).1=y at *
    cases ok
    ·rw [if_neg (by decide)]
     unfold TR.bad TR.av
     unfold scB at *
     generalize y.out.map Tk.row=L at *
     generalize x.out.map Tk.row=L0 at *
     simp -implicitDefEqProofs [g]
     refine onH_mk _ _ (E _ rfl) ⟨?_,?_,?_,?_,?_,?_,?_⟩ ?_
     iterate 7 (· simp)
     simp -implicitDefEqProofs
    ·rw [if_pos rfl]
     unfold TR.av
     unfold scB at *
     dsimp only
     generalize y.out.map Tk.row=L at *
     generalize x.out.map Tk.row=L0 at *
     simp -implicitDefEqProofs [g]
     refine onH_mk _ _ (E _ rfl) ⟨?_,?_,?_,?_,?_,?_,?_⟩ ?_
     iterate 7 (· simp)
     simp -implicitDefEqProofs
  ·exact ⟨sc0_ok,by simp only;omega,hR.symm⟩
  ·refine weak_mk ?_ ?_ ?_ ?_ ?_ ?_<;>simp -implicitDefEqProofs [scB,sc0]
open Go.Proofs
def finT (V:List UInt8→TV) (s:List UInt8) (p:Sc×Bool):TR:=
 if p.2=true then (if (endF V s p.1).2=true then ⟨(endF V s p.1).1.out,0,0,0⟩ else .bad (endF V s p.1).1) else .bad p.1
theorem wthn_bad:wthn (-1)=false∧wthn 65533=false:=⟨by decide,by decide⟩
theorem freshF_r65 (x:Sc) (i:Nat) (r:Int):freshF x i (r65 r)=freshF x i r:=by
 unfold r65
 by_cases c:r= -1
 ·subst c
  rw [if_pos rfl]
  unfold freshF
  simp [wthn_bad.1,wthn_bad.2]
 ·rw [if_neg c]
theorem insideF_r65 (U:List UInt8→List UInt8×Int) (s:List UInt8) (x:Sc) (i:Nat) (r:Int):insideF U s x i (r65 r)=insideF U s x i r:=by
 unfold r65
 by_cases c:r= -1
 ·subst c
  rw [if_pos rfl]
  unfold insideF
  simp
 ·rw [if_neg c]
theorem takeF_r65 (V:List UInt8→TV) (U:List UInt8→List UInt8×Int) (s:List UInt8) (x:Sc) (i:Nat) (r:Int):takeF V U s x i (r65 r)=takeF V U s x i r:=by
 unfold takeF
 rw [insideF_r65,freshF_r65,freshF_r65]
 have h:wthn (r65 r)=wthn r:=by
  unfold r65
  by_cases c:r= -1
  ·subst c;rw [if_pos rfl,wthn_bad.1,wthn_bad.2]
  ·rw [if_neg c]
 have h2:(r65 r=10)=(r=10):=by
  unfold r65
  by_cases c:r= -1
  ·subst c;simp
  ·rw [if_neg c]
 rw [h]
 simp only [h2]
theorem adv_r65 (x:Sc) (r:Int):x.adv (r65 r)=x.adv r:=by
 unfold r65
 by_cases c:r= -1
 ·subst c;rfl
 ·rw [if_neg c]
theorem runF_step (V:List UInt8→TV) (U:List UInt8→List UInt8×Int) (s:List UInt8) (x:Sc) (i:Nat) (h:i<s.length):runF V U s x i=
  if (takeF V U s x i (stepR s i).1).2=true then runF V U s ((takeF V U s x i (stepR s i).1).1.adv (stepR s i).1) (i+(stepR s i).2) else ((takeF V U s x i (stepR s i).1).1,false):=by
 rw [runF_in V U s x i h,takeF_r65,adv_r65]
theorem plc_head (l:List Int) (a b:Int):(plc a b l).getD 0 (0,0)=(a,b):=by cases l<;>rfl
theorem plc_next: ∀(l:List Int) (a b:Int) (k:Nat) (h:k<l.length),(plc a b l).getD (k+1) (0,0)=if l[k]=10 then (((plc a b l).getD k (0,0)).1+1,1) else (((plc a b l).getD k (0,0)).1,((plc a b l).getD k (0,0)).2+1)
 |[],a,b,k,h=>absurd h (by simp)
 |r::l,a,b,0,h=>by
  rw [plc_head]
  simp only [List.getElem_cons_zero]
  rw [plc,List.getD_cons_succ]
  split
  ·rw [plc_head]
  ·rw [plc_head]
 |r::l,a,b,k+1,h=>by
  simp only [List.getElem_cons_succ]
  rw [plc,List.getD_cons_succ,List.getD_cons_succ]
  split
  ·exact plc_next l _ _ k (by simpa using h)
  ·exact plc_next l _ _ k (by simpa using h)
structure At (s:List UInt8) (l:List Int) (i k:Nat):Prop where
 r:runesL s i=l.drop k
 i:i≤s.length
 k:k≤l.length
theorem At.next {s:List UInt8} {l:List Int} {i k:Nat} (h:At s l i k) (g:k<l.length):i<s.length∧(stepR s i).1=l[k]∧At s l (i+(stepR s i).2) (k+1):=by
 have e:=h.r
 rw [List.drop_eq_getElem_cons g] at e
 by_cases c:i<s.length
 ·rw [runesL_in c] at e
  injection e with e1 e2
  exact ⟨c,e1,e2,stepR_le s i c,g⟩
 ·rw [runesL_out c] at e;cases e
theorem At.end {s:List UInt8} {l:List Int} {i:Nat} (h:At s l i l.length):i=s.length:=by
 have e:=h.r
 rw [List.drop_length] at e
 by_cases c:i<s.length
 ·rw [runesL_in c] at e;cases e
 ·have:=h.i;omega
theorem subR_snoc {l:List Int} {a j:Nat} (h:j<l.length) (ha:a≤j):subR l a (j+1)=subR l a j++[l[j]]:=by
 unfold subR
 rw [List.take_succ_eq_append_getElem h,List.drop_append_of_le_length (by rw [List.length_take];omega)]
theorem subR_nil (l:List Int) (a:Nat):subR l a a=[]:=by
 unfold subR
 rw [List.drop_eq_nil_of_le (by rw [List.length_take];omega)]
theorem takeF_0 (V:List UInt8→TV) (U:List UInt8→List UInt8×Int) (s:List UInt8) (x:Sc) (i:Nat) (r:Int) (h:x.st=0):takeF V U s x i r=freshF x i r:=by
 unfold takeF
 rw [if_neg (by omega),if_neg (by omega),if_neg (by omega)]
theorem endF_0 (V:List UInt8→TV) (s:List UInt8) (x:Sc) (h:x.st=0∨x.st=4):endF V s x=((x.begin s.length 0).add (.t 0 [] 0),true):=by
 unfold endF
 rw [if_neg (by omega),if_neg (by omega)]
theorem finT_end (V:List UInt8→TV) (U:List UInt8→List UInt8×Int) (s:List UInt8) (x:Sc) (h:x.st=0∨x.st=4):finT V s (runF V U s x s.length)=⟨x.out++[⟨0,[],0,x.al,x.ac⟩],0,0,0⟩:=by
 rw [runF_out V U s x s.length (by omega)]
 unfold finT
 rw [if_pos rfl,endF_0 V s x h,if_pos rfl]
 rfl
theorem refGo_end (VR:List Int→TV) (U:List UInt8→List UInt8×Int) (l:List Int) (P:List (Int×Int)) (f:Nat) (out:List Tk):refGo VR U l P (f+1) l.length out=⟨out++[⟨0,[],0,(P.getD l.length (0,0)).1,(P.getD l.length (0,0)).2⟩],0,0,0⟩:=by
 rw [refGo,List.getElem?_eq_none (by omega)]
theorem refGo_in (VR:List Int→TV) (U:List UInt8→List UInt8×Int) (l:List Int) (P:List (Int×Int)) (f k:Nat) (out:List Tk) (h:k<l.length):refGo VR U l P (f+1) k out=
  if l[k]=32∨l[k]=9∨l[k]=10 then refGo VR U l P f (k+1) out
   else if l[k]=35 then refGo VR U l P f (skp l k) out
   else if (oneF VR U l k l[k]).c=0 then refGo VR U l P f (oneF VR U l k l[k]).en (out++[⟨(oneF VR U l k l[k]).k,(oneF VR U l k l[k]).w,(oneF VR U l k l[k]).n,(P.getD k (0,0)).1,(P.getD k (0,0)).2⟩])
   else ⟨[],(oneF VR U l k l[k]).c,(P.getD k (0,0)).1,(P.getD k (0,0)).2⟩:=by
 rw [refGo,List.getElem?_eq_getElem h]
def PosAt (l:List Int) (x:Sc) (k:Nat):Prop:=(x.al,x.ac)=(plc 1 1 l).getD k (0,0)
theorem PosAt.adv {l:List Int} {x:Sc} {k:Nat} (h:PosAt l x k) (g:k<l.length) {y:Sc} (h1:y.al=x.al) (h2:y.ac=x.ac):PosAt l (y.adv l[k]) (k+1):=by
 unfold PosAt at h ⊢
 rw [plc_next l 1 1 k g,←h]
 unfold Sc.adv
 split
 ·rw [←h1]
 ·rw [←h1,←h2]
theorem PosAt.one {l:List Int} {x:Sc} {k:Nat} (h:PosAt l x k):((plc 1 1 l).getD k (0,0)).1=x.al∧((plc 1 1 l).getD k (0,0)).2=x.ac:=by
 unfold PosAt at h
 rw [←h]
 exact ⟨rfl,rfl⟩
theorem Sc.adv_st (x:Sc) (r:Int):(x.adv r).st=x.st:=by unfold Sc.adv;split<;>rfl
theorem Sc.adv_f (x:Sc) (r:Int):(x.adv r).fl=x.fl∧(x.adv r).fc=x.fc:=by unfold Sc.adv;split<;>exact ⟨rfl,rfl⟩
open Go.Proofs
structure SHyp (V:List UInt8→TV) (U:List UInt8→List UInt8×Int) (VR:List Int→TV) (U':List Int→List UInt8×Int):Prop where
 u: ∀w,U w=U' (runesL w 0)
 v: ∀m:List Int,m≠[]→(∀r∈m,wthn r=true)→VR m=V (textR m)
 e: ∀w c,V w= .e c→c≠0
def Bsp (V:List UInt8→TV) (U:List UInt8→List UInt8×Int) (VR:List Int→TV) (s:List UInt8) (l:List Int) (k:Nat):Prop:=
 ∀i x f,At s l i k→x.st=0→PosAt l x k→l.length+1 - k≤f→finT V s (runF V U s x i)=refGo VR U l (plc 1 1 l) f k x.out
variable {V:List UInt8→TV} {U:List UInt8→List UInt8×Int} {VR:List Int→TV} {U':List Int→List UInt8×Int} {s:List UInt8} {l:List Int}
theorem bsp_end:Bsp V U VR s l l.length:=by
 intro i x f hA hst hP hf
 obtain rfl:=hA.end
 obtain ⟨f,rfl⟩: ∃g,f=g+1:=⟨f - 1,by omega⟩
 rw [finT_end V U s x (.inl hst),refGo_end,hP.one.1,hP.one.2]
theorem takeF_4 (x:Sc) (i:Nat) (r:Int) (h:x.st=4):takeF V U s x i r=((if r=10 then {x with st:=0} else x),true):=by
 unfold takeF
 rw [if_neg (by omega),if_pos h]
theorem remGo: ∀n j,l.length - j≤n→(∀k',j<k'→k'≤l.length→Bsp V U VR s l k')→ ∀i x f,At s l i j→x.st=4→PosAt l x j→l.length+1 - j≤f→finT V s (runF V U s x i)=refGo VR U l (plc 1 1 l) f (skp l j) x.out:=by
 intro n
 induction n with
 |zero=>
  intro j hj hB i x f hA hst hP hf
  have:j=l.length:=by have:=hA.k;omega
  subst this
  obtain rfl:=hA.end
  obtain ⟨f,rfl⟩: ∃g,f=g+1:=⟨f - 1,by omega⟩
  rw [finT_end V U s x (.inr hst),skp_out (by omega),refGo_end,hP.one.1,hP.one.2]
 |succ n ih=>
  intro j hj hB i x f hA hst hP hf
  by_cases g:j<l.length
  ·obtain ⟨hi,hr,hA'⟩:=hA.next g
   rw [runF_step V U s x i hi,hr,takeF_4 x i _ hst,if_pos rfl]
   dsimp only
   rw [skp_in g]
   by_cases c:l[j]=10
   ·rw [if_pos c,if_pos c]
    obtain ⟨f,rfl⟩: ∃g,f=g+1:=⟨f - 1,by omega⟩
    rw [refGo_in VR U l _ f j _ g,if_pos (.inr (.inr c))]
    have:=hB (j+1) (by omega) (by omega) _ (({x with st:=0}:Sc).adv l[j]) f hA' (by rw [Sc.adv_st]) (hP.adv g rfl rfl) (by omega)
    rw [Sc.adv_out] at this
    exact this
   ·rw [if_neg c,if_neg c]
    have:=ih (j+1) (by omega) (fun k' a b=>hB k' (by omega) b) _ (x.adv l[j]) f hA' (by rw [Sc.adv_st];exact hst) (hP.adv g rfl rfl) (by omega)
    rw [Sc.adv_out] at this
    exact this
  ·have:j=l.length:=by have:=hA.k;omega
   subst this
   obtain rfl:=hA.end
   obtain ⟨f,rfl⟩: ∃g,f=g+1:=⟨f - 1,by omega⟩
   rw [finT_end V U s x (.inr hst),skp_out (by omega),refGo_end,hP.one.1,hP.one.2]
theorem subR_ne {k0 j:Nat} (h:k0<j) (hj:j≤l.length):subR l k0 j≠[]:=by
 intro e
 have:(subR l k0 j).length=0:=by rw [e];rfl
 unfold subR at this
 rw [List.length_drop,List.length_take] at this
 omega
theorem wthn_ne {r:Int} (h:wthn r=true):r≠ -1:=by
 intro e
 rw [e,wthn_bad.1] at h
 cases h
def wordR (VR:List Int→TV) (U:List UInt8→List UInt8×Int) (l:List Int) (f e:Nat) (v:TV) (x:Sc):TR:=match v with
 | .e c=>⟨[],c,x.fl,x.fc⟩
 | .t k w n=>refGo VR U l (plc 1 1 l) f e (x.out++[⟨k,w,n,x.fl,x.fc⟩])
theorem word_end (H:SHyp V U VR U') {j k0 i f:Nat} {x:Sc} (hB: ∀k',k0<k'→k'≤l.length→Bsp V U VR s l k') (hk:k0<j) (hA:At s l i j) (hst:x.st=1) (hP:PosAt l x j) (hW:Wk s x.sa (subR l k0 j) i) (hw: ∀r∈subR l k0 j,wthn r=true) (hf:l.length≤f+k0)
  (hn: ∀h:j<l.length,wthn l[j]=false):finT V s (runF V U s x i)=wordR VR U l f j (VR (subR l k0 j)) x:=by
 have et:subS s x.sa i=textR (subR l k0 j):=Wk_text s _ _ _ hA.i hW (fun r hr=>wthn_ne (hw r hr))
 have ev:=H.v (subR l k0 j) (subR_ne hk hA.k) hw
 rw [ev,←et]
 cases hv:V (subS s x.sa i) with
 |e c=>
  by_cases g:j<l.length
  ·obtain ⟨hi,hr,hA'⟩:=hA.next g
   rw [runF_step V U s x i hi,hr]
   have ht:takeF V U s x i l[j]=(x.add (.e c),false):=by
    unfold takeF
    rw [if_pos hst,if_neg (by rw [hn g];decide),hv,if_neg (show ¬(TV.e c).ok=true from by intro h;cases h)]
   rw [ht,if_neg (show ¬(x.add (.e c),false).2=true from by intro h;cases h)]
   rfl
  ·have:j=l.length:=by have:=hA.k;omega
   subst this
   obtain rfl:=hA.end
   rw [runF_out V U s x _ (by omega)]
   unfold finT
   rw [if_pos rfl]
   have ht:endF V s x=(x.add (.e c),false):=by
    unfold endF
    rw [if_pos hst,hv,if_neg (show ¬(TV.e c).ok=true from by intro h;cases h)]
   rw [ht,if_neg (show ¬(x.add (.e c),false).2=true from by intro h;cases h)]
   rfl
 |t k w n=>
  have hs:runF V U s x i=runF V U s (x.add (.t k w n)) i∨finT V s (runF V U s x i)=finT V s (runF V U s (x.add (.t k w n)) i):=by
   by_cases g:j<l.length
   ·obtain ⟨hi,hr,hA'⟩:=hA.next g
    left
    rw [runF_step V U s x i hi,runF_step V U s (x.add (.t k w n)) i hi,hr,takeF_0 V U s (x.add (.t k w n)) i _ rfl]
    have ht:takeF V U s x i l[j]=freshF (x.add (.t k w n)) i l[j]:=by
     unfold takeF
     rw [if_pos hst,if_neg (by rw [hn g];decide),hv,if_pos (show (TV.t k w n).ok=true from rfl)]
    rw [ht]
   ·right
    have:j=l.length:=by have:=hA.k;omega
    subst this
    obtain rfl:=hA.end
    rw [runF_out V U s x _ (by omega),runF_out V U s (x.add (.t k w n)) _ (by omega)]
    unfold finT
    rw [if_pos rfl,if_pos rfl]
    have ht:endF V s x=(((x.add (.t k w n)).begin s.length 0).add (.t 0 [] 0),true):=by
     unfold endF
     rw [if_pos hst,hv,if_pos (show (TV.t k w n).ok=true from rfl)]
    have ht2:=endF_0 V s (x.add (.t k w n)) (.inl rfl)
    simp only [ht,ht2]
  have hs:finT V s (runF V U s x i)=finT V s (runF V U s (x.add (.t k w n)) i):=by
   rcases hs with h|h
   ·rw [h]
   ·exact h
  rw [hs]
  exact hB j hk hA.k i (x.add (.t k w n)) f hA rfl hP (by omega)
theorem wordGo (H:SHyp V U VR U'): ∀n j,l.length - j≤n→ ∀k0 i x f,k0<j→(∀k',k0<k'→k'≤l.length→Bsp V U VR s l k')→At s l i j→x.st=1→PosAt l x j→Wk s x.sa (subR l k0 j) i→(∀r∈subR l k0 j,wthn r=true)→l.length≤f+k0→
  finT V s (runF V U s x i)=wordR VR U l f (wEnd l j) (VR (subR l k0 (wEnd l j))) x:=by
 intro n
 induction n with
 |zero=>
  intro j hj k0 i x f hk hB hA hst hP hW hw hf
  have g: ¬j<l.length:=by omega
  rw [wEnd_out g]
  exact word_end H hB hk hA hst hP hW hw hf (fun h=>absurd h g)
 |succ n ih=>
  intro j hj k0 i x f hk hB hA hst hP hW hw hf
  by_cases g:j<l.length
  ·rw [wEnd_in g]
   by_cases c:wthn l[j]=true
   ·rw [if_pos c]
    obtain ⟨hi,hr,hA'⟩:=hA.next g
    have ht:takeF V U s x i l[j]=(x,true):=by
     unfold takeF
     rw [if_pos hst,if_pos c]
    rw [runF_step V U s x i hi,hr,ht,if_pos rfl]
    have hsn:=subR_snoc g (show k0≤j by omega)
    have hW':=Wk_snoc s _ _ _ hW hi
    rw [hr,←hsn] at hW'
    have:=ih (j+1) (by omega) k0 _ (x.adv l[j]) f (by omega) hB hA' (by rw [Sc.adv_st];exact hst) (hP.adv g rfl rfl) (by rw [Sc.adv_sa];exact hW') (fun r hr=>by
     rw [hsn,List.mem_append,List.mem_singleton] at hr
     rcases hr with hr|rfl
     ·exact hw r hr
     ·exact c) hf
    rw [this]
    unfold wordR
    rw [Sc.adv_out,(Sc.adv_f x _).1,(Sc.adv_f x _).2]
   ·rw [if_neg c]
    exact word_end H hB hk hA hst hP hW hw hf (fun h=>by simpa using c)
  ·rw [wEnd_out g]
   exact word_end H hB hk hA hst hP hW hw hf (fun h=>absurd h g)
open Go.Proofs
variable {V:List UInt8→TV} {U:List UInt8→List UInt8×Int} {VR:List Int→TV} {U':List Int→List UInt8×Int} {s:List UInt8} {l:List Int}
theorem stepR_plain {i:Nat} {r:Int} (h:(stepR s i).1=r) (h0:0≤r) (h1:r<128):(byt s i:Int)=r∧(stepR s i).2=1:=by
 have ff: ∀n r0 least,128≤least→(stepF s i n r0 least).1=r→False:=by
  intro n r0 least hl e
  unfold stepF at e
  split at e
  ·rename_i c
   rw [Bool.and_eq_true] at c
   have:=isRune_le c.2
   dsimp only at e
   omega
  ·dsimp only at e;omega
 unfold stepR at h ⊢
 simp only at h ⊢
 split
 ·rename_i c;rw [if_pos c] at h;exact ⟨h,rfl⟩
 ·rename_i c
  rw [if_neg c] at h
  split
  ·rename_i c2;rw [if_pos c2] at h;exact (ff _ _ _ (by omega) h).elim
  ·rename_i c2
   rw [if_neg c2] at h
   split
   ·rename_i c3;rw [if_pos c3] at h;exact (ff _ _ _ (by omega) h).elim
   ·rename_i c3
    rw [if_neg c3] at h
    split
    ·rename_i c4;rw [if_pos c4] at h;exact (ff _ _ _ (by omega) h).elim
    ·rename_i c4
     rw [if_neg c4] at h
     dsimp only at h
     omega
def textE (VR:List Int→TV) (U:List UInt8→List UInt8×Int) (U':List Int→List UInt8×Int) (l:List Int) (f k0 e:Nat) (out:List Tk) (a b:Int):TR:=
 if e=0 then ⟨[],5,a,b⟩
 else if (U' (subR l k0 e)).2=0 then refGo VR U l (plc 1 1 l) f e (out++[⟨2,(U' (subR l k0 e)).1,0,a,b⟩]) else ⟨[],(U' (subR l k0 e)).2,a,b⟩
theorem takeF_2 (x:Sc) (i:Nat) (r:Int) (h:x.st=2∨x.st=3):takeF V U s x i r=insideF U s x i r:=by
 unfold takeF
 rw [if_neg (by omega),if_neg (by omega),if_pos h]
theorem finT_text (x:Sc) (h:x.st=2∨x.st=3):finT V s (runF V U s x s.length)=⟨[],5,x.fl,x.fc⟩:=by
 rw [runF_out V U s x _ (by omega)]
 unfold finT
 rw [if_pos rfl]
 have:endF V s x=(x.wrong 5,false):=by
  unfold endF
  rw [if_neg (by omega),if_pos h]
 rw [this,if_neg (show ¬(x.wrong 5,false).2=true from by intro h;cases h)]
 rfl
theorem finT_bad (x:Sc) (e:Int):finT V s (x.wrong e,false)=⟨[],e,x.fl,x.fc⟩:=by
 unfold finT
 rw [if_neg (show ¬(x.wrong e,false).2=true from by intro h;cases h)]
 rfl
theorem insideF_feed (x:Sc) (i:Nat):insideF U s x i 10=(x.wrong 5,false):=by unfold insideF;rw [if_pos rfl]
theorem textGo (H:SHyp V U VR U'): ∀n j,l.length - j≤n→ ∀k0 i x f,k0<j→(∀k',k0<k'→k'≤l.length→Bsp V U VR s l k')→At s l i j→x.st=2→PosAt l x j→Wk s x.sa (subR l k0 j) i→l.length≤f+k0→
  finT V s (runF V U s x i)=textE VR U U' l f k0 (qGo l j) x.out x.fl x.fc:=by
 intro n
 induction n using Nat.strongRecOn with
 |ind n ih=>
 intro j hj k0 i x f hk hB hA hst hP hW hf
 by_cases g:j<l.length
 ·obtain ⟨hi,hr,hA'⟩:=hA.next g
  have hsn:=subR_snoc g (show k0≤j by omega)
  have hW':=Wk_snoc s _ _ _ hW hi
  rw [hr,←hsn] at hW'
  rw [runF_step V U s x i hi,hr,takeF_2 x i _ (.inl hst),qGo_in g]
  by_cases c1:l[j]=10
  ·rw [if_pos c1,c1,insideF_feed,if_neg (show ¬(x.wrong 5,false).2=true from by intro h;cases h),finT_bad]
   rfl
  rw [if_neg c1]
  by_cases c2:l[j]=34
  ·rw [if_pos c2]
   have pl:=stepR_plain (s:=s) (i:=i) (r:=34) (by rw [hr,c2]) (by decide) (by decide)
   rw [pl.2] at hW' hA'
   have hsub:runesL (subS s x.sa (i+1)) 0=subR l k0 (j+1):=by
    have:=Wk_sub s x.sa i hi (by omega) _ x.sa (Nat.le_refl _) hW'
    rw [Nat.sub_self] at this
    exact this
   have hq:U (subS s x.sa (i+1))=U' (subR l k0 (j+1)):=by rw [H.u,hsub]
   have ht:insideF U s x i l[j]=quotedF U s x (i+1):=by
    unfold insideF
    rw [if_neg c1,if_neg (by omega),if_neg (by omega),if_pos c2]
   rw [ht]
   unfold quotedF textE
   rw [hq,if_neg (show ¬j+1=0 by omega)]
   dsimp only
   generalize U' (subR l k0 (j+1))=q at *
   by_cases c:q.2=0
   ·rw [if_pos c,quoTV_t c,if_pos (show (TV.t 2 q.1 0).ok=true from rfl),pl.2]
    have:=hB (j+1) (by omega) (by omega) _ ((x.add (.t 2 q.1 0)).adv l[j]) f hA' (by rw [Sc.adv_st];rfl) (hP.adv g rfl rfl) (by omega)
    rw [Sc.adv_out] at this
    exact this
   ·rw [if_neg c,quoTV_e c,if_neg (show ¬(TV.e q.2).ok=true from by intro h;cases h)]
    exact finT_bad x q.2
  rw [if_neg c2]
  by_cases c3:l[j]=92
  ·rw [if_pos c3]
   have ht:insideF U s x i l[j]=({x with st:=3},true):=by
    unfold insideF
    rw [if_neg c1,if_neg (by omega),if_pos c3]
   rw [ht,if_pos rfl]
   dsimp only
   obtain ⟨y,hy⟩: ∃y,y=({x with st:=3}:Sc).adv l[j]:=⟨_,rfl⟩
   have y1:y.st=3:=by rw [hy,Sc.adv_st]
   have y2:y.out=x.out:=by rw [hy,Sc.adv_out]
   have y3:y.fl=x.fl∧y.fc=x.fc:=by rw [hy];exact Sc.adv_f _ _
   have y4:y.sa=x.sa:=by rw [hy,Sc.adv_sa]
   have y5:PosAt l y (j+1):=by rw [hy];exact hP.adv g rfl rfl
   rw [←hy]
   by_cases g2:j+1<l.length
   ·obtain ⟨hi2,hr2,hA2⟩:=hA'.next g2
    have hsn2:=subR_snoc g2 (show k0≤j+1 by omega)
    have hW2:=Wk_snoc s _ _ _ hW' hi2
    rw [hr2,←hsn2] at hW2
    rw [List.getElem?_eq_getElem g2,runF_step V U s y _ hi2,hr2,takeF_2 y _ _ (.inr y1)]
    by_cases c4:l[j+1]=10
    ·rw [if_pos (show some l[j+1]=some 10 by rw [c4]),c4,insideF_feed,if_neg (show ¬(y.wrong 5,false).2=true from by intro h;cases h),finT_bad,y3.1,y3.2]
     rfl
    ·rw [if_neg (show ¬some l[j+1]=some 10 by simpa using c4)]
     have ht2:insideF U s y (i+(stepR s i).2) l[j+1]=({y with st:=2},true):=by
      unfold insideF
      rw [if_neg c4,if_pos y1]
     rw [ht2,if_pos rfl]
     have:=ih (l.length - (j+2)) (by omega) (j+2) (Nat.le_refl _) k0 _ (({y with st:=2}:Sc).adv l[j+1]) f (by omega) hB hA2 (by rw [Sc.adv_st]) (y5.adv g2 rfl rfl) (by rw [Sc.adv_sa];show Wk s y.sa _ _;rw [y4];exact hW2) hf
     dsimp only
     rw [this,Sc.adv_out,(Sc.adv_f _ _).1,(Sc.adv_f _ _).2]
     dsimp only
     rw [y2,y3.1,y3.2]
   ·have e:j+1=l.length:=by omega
    rw [e] at hA'
    have hs:=hA'.end
    rw [List.getElem?_eq_none (by omega),if_neg (show ¬(none:Option Int)=some 10 by simp),qGo_out (by omega),hs,finT_text y (.inr y1),y3.1,y3.2]
    rfl
  rw [if_neg c3]
  have ht:insideF U s x i l[j]=(x,true):=by
   unfold insideF
   rw [if_neg c1,if_neg (by omega),if_neg c3,if_neg c2]
  rw [ht,if_pos rfl]
  have:=ih (l.length - (j+1)) (by omega) (j+1) (Nat.le_refl _) k0 _ (x.adv l[j]) f (by omega) hB hA' (by rw [Sc.adv_st];exact hst) (hP.adv g rfl rfl) (by rw [Sc.adv_sa];exact hW') hf
  dsimp only
  rw [this,Sc.adv_out,(Sc.adv_f _ _).1,(Sc.adv_f _ _).2]
 ·have:j=l.length:=by have:=hA.k;omega
  subst this
  obtain rfl:=hA.end
  rw [qGo_out (by omega),finT_text x (.inl hst)]
  rfl
theorem scanMain (H:SHyp V U VR U') (hl: ∀r∈l,okR r): ∀n k,l.length - k≤n→k≤l.length→Bsp V U VR s l k:=by
 intro n
 induction n with
 |zero=>
  intro k hk hk2
  have:k=l.length:=by omega
  subst this
  exact bsp_end
 |succ n ih=>
  intro k hk hk2
  by_cases g:k<l.length
  ·have hB: ∀k',k<k'→k'≤l.length→Bsp V U VR s l k':=fun k' a b=>ih k' (by omega) b
   intro i x f hA hst hP hf
   obtain ⟨f,rfl⟩: ∃g,f=g+1:=⟨f - 1,by omega⟩
   obtain ⟨hi,hr,hA'⟩:=hA.next g
   rw [runF_step V U s x i hi,hr,takeF_0 V U s x i _ hst,refGo_in VR U l _ f k _ g,hP.one.1,hP.one.2]
   have p1: ∀y:Sc,y.al=x.al→y.ac=x.ac→PosAt l (y.adv l[k]) (k+1):=fun y a b=>hP.adv g a b
   unfold freshF
   dsimp only
   by_cases c1:l[k]=32∨l[k]=9∨l[k]=10
   ·rw [if_pos c1,if_pos c1,if_pos rfl]
    have:=hB (k+1) (by omega) (by omega) _ ((x.begin i 0).adv l[k]) f hA' (by rw [Sc.adv_st];rfl) (p1 _ rfl rfl) (by omega)
    rw [Sc.adv_out] at this
    exact this
   rw [if_neg c1,if_neg c1]
   by_cases c2:l[k]=35
   ·rw [if_pos c2,if_pos c2,if_pos rfl]
    have:=remGo l.length (k+1) (by omega) (fun k' a b=>hB k' (by omega) b) _ (({x.begin i 0 with st:=4}:Sc).adv l[k]) f hA' (by rw [Sc.adv_st]) (p1 _ rfl rfl) (by omega)
    rw [Sc.adv_out] at this
    have e:skp l k=skp l (k+1):=by rw [skp_in g,if_neg (by omega)]
    rw [e]
    exact this
   rw [if_neg c2,if_neg c2]
   have w1:Wk s i (subR l k (k+1)) (i+(stepR s i).2):=by
    rw [subR_snoc g (Nat.le_refl _),subR_nil]
    exact ⟨hi,hr,rfl⟩
   unfold oneF
   by_cases c3:l[k]=34
   ·rw [if_pos c3,if_pos rfl]
    rw [if_neg (show ¬l[k]=123 by omega),if_neg (show ¬l[k]=125 by omega),if_neg (show ¬l[k]=59 by omega),if_pos c3]
    have:=textGo (s:=s) H l.length (k+1) (by omega) k _ (({x.begin i 0 with st:=2}:Sc).adv l[k]) f (by omega) hB hA' (by rw [Sc.adv_st]) (p1 _ rfl rfl) (by rw [Sc.adv_sa];exact w1) (by omega)
    rw [Sc.adv_out,(Sc.adv_f _ _).1,(Sc.adv_f _ _).2] at this
    have hu:U (textR (subR l k (qGo l (k+1))))=U' (subR l k (qGo l (k+1))):=by
     rw [H.u,runesL_textR _ (fun r hr=>hl r (subR_mem hr))]
    rw [hu]
    refine this.trans ?_
    unfold textE
    by_cases c:qGo l (k+1)=0
    ·rw [if_pos c,if_pos c]
     rfl
    ·rw [if_neg c,if_neg c]
     dsimp only
     rfl
   rw [if_neg c3]
   by_cases c4:l[k]=123
   ·rw [if_pos c4,if_pos rfl,if_pos c4,if_pos rfl]
    have:=hB (k+1) (by omega) (by omega) _ (((x.begin i 0).add (.t 7 [] 0)).adv l[k]) f hA' (by rw [Sc.adv_st];rfl) (p1 _ rfl rfl) (by omega)
    rw [Sc.adv_out] at this
    exact this
   rw [if_neg c4,if_neg c4]
   by_cases c5:l[k]=125
   ·rw [if_pos c5,if_pos rfl,if_pos c5,if_pos rfl]
    have:=hB (k+1) (by omega) (by omega) _ (((x.begin i 0).add (.t 8 [] 0)).adv l[k]) f hA' (by rw [Sc.adv_st];rfl) (p1 _ rfl rfl) (by omega)
    rw [Sc.adv_out] at this
    exact this
   rw [if_neg c5,if_neg c5]
   by_cases c6:l[k]=59
   ·rw [if_pos c6,if_pos rfl,if_pos c6,if_pos rfl]
    have:=hB (k+1) (by omega) (by omega) _ (((x.begin i 0).add (.t 9 [] 0)).adv l[k]) f hA' (by rw [Sc.adv_st];rfl) (p1 _ rfl rfl) (by omega)
    rw [Sc.adv_out] at this
    exact this
   rw [if_neg c6,if_neg c6,if_neg c3]
   by_cases c7:wthn l[k]=true
   ·rw [if_pos c7,if_pos rfl,if_pos c7]
    have hw: ∀r∈subR l k (k+1),wthn r=true:=fun r hr=>by
     rw [subR_snoc g (Nat.le_refl _),subR_nil,List.nil_append,List.mem_singleton] at hr
     rw [hr];exact c7
    have:=wordGo (s:=s) H l.length (k+1) (by omega) k _ (({x.begin i 0 with st:=1}:Sc).adv l[k]) f (by omega) hB hA' (by rw [Sc.adv_st]) (p1 _ rfl rfl) (by rw [Sc.adv_sa];exact w1) hw (by omega)
    have e:wEnd l k=wEnd l (k+1):=by rw [wEnd_in g,if_pos c7]
    rw [e]
    refine this.trans ?_
    have we:=wEnd_le l l.length (k+1) (by omega) (by omega)
    have hall: ∀n j,l.length - j≤n→ ∀r∈subR l j (wEnd l j),wthn r=true:=by
     intro n
     induction n with
     |zero=>
      intro j hj r hr
      rw [wEnd_out (by omega),subR_nil] at hr
      cases hr
     |succ n ih2=>
      intro j hj r hr
      by_cases gj:j<l.length
      ·rw [wEnd_in gj] at hr
       by_cases cj:wthn l[j]=true
       ·rw [if_pos cj] at hr
        have wl:=wEnd_le l l.length (j+1) (by omega) (by omega)
        have es:subR l j (wEnd l (j+1))=l[j]::subR l (j+1) (wEnd l (j+1)):=by
         unfold subR
         rw [List.drop_eq_getElem_cons (by rw [List.length_take];omega)]
         simp
        rw [es] at hr
        rcases List.mem_cons.1 hr with rfl|hr
        ·exact cj
        ·exact ih2 (j+1) (by omega) r hr
       ·rw [if_neg cj,subR_nil] at hr
        cases hr
      ·rw [wEnd_out gj,subR_nil] at hr
       cases hr
    have ev:=H.v (subR l k (wEnd l (k+1))) (subR_ne (by omega) we.2) (by
     have:=hall l.length k (by omega)
     rw [e] at this
     exact this)
    cases hv:VR (subR l k (wEnd l (k+1))) with
    |e c=>
     have hc:=H.e (textR (subR l k (wEnd l (k+1)))) c (by rw [←ev];exact hv)
     rw [if_neg (show ¬((TV.e c).on (wEnd l (k+1))).c=0 from hc)]
     unfold wordR
     dsimp only [TV.on]
     rw [(Sc.adv_f _ _).1,(Sc.adv_f _ _).2]
     rfl
    |t kk w nn=>
     rw [if_pos (show ((TV.t kk w nn).on (wEnd l (k+1))).c=0 from rfl)]
     unfold wordR
     dsimp only [TV.on]
     rw [Sc.adv_out,(Sc.adv_f _ _).1,(Sc.adv_f _ _).2]
     rfl
   ·rw [if_neg c7,if_neg (show ¬((x.begin i 0).wrong 5,false).2=true from by intro h;cases h),if_neg c7,if_neg (by decide)]
    exact finT_bad (x.begin i 0) 5
  ·have:k=l.length:=by omega
   subst this
   exact bsp_end
theorem scan_ref (H:SHyp V U VR U') (s:List UInt8):scanF V U s=refF VR U s:=by
 unfold scanF refF
 by_cases c:40000<s.length
 ·rw [if_pos c,if_pos c]
 ·rw [if_neg c,if_neg c]
  have:=scanMain (s:=s) (l:=runesL s 0) H (runesL_okR s s.length 0 (by omega)) (runesL s 0).length 0 (by omega) (Nat.zero_le _) 0 sc0 ((runesL s 0).length+1) ⟨rfl,Nat.zero_le _,Nat.zero_le _⟩ rfl (plc_head _ _ _).symm (Nat.le_refl _)
  unfold finT at this
  exact this
end Go.Ai
namespace Go.Ai
def undec (s:List UInt8):Nat:=s.foldl (fun a b=>10*a+(b.toNat - 48)) 0
def isDig (b:UInt8):Bool:=decide (48≤b.toNat∧b.toNat≤57)
def okDec (s:List UInt8):Bool:=!s.isEmpty&&s.all isDig&&(s.headD 0 !=48||s.length==1)
theorem undec_snoc (s:List UInt8) (b:UInt8):undec (s++[b])=10*undec s+(b.toNat - 48):=by simp [undec]
theorem snoc_ind {α:Type} {P:List α→Prop} (h0:P []) (h1: ∀s b,P s→P (s++[b])): ∀s,P s:=by
 intro s
 rw [←List.reverse_reverse s]
 induction s.reverse with
 |nil=>simpa using h0
 |cons b r ih=>rw [List.reverse_cons];exact h1 _ _ ih
theorem undec_lt (s:List UInt8) (h:s.all isDig=true):undec s<10^s.length:=by
 revert h
 refine snoc_ind (P:=fun s=>s.all isDig=true→undec s<10^s.length) ?_ ?_ s
 ·intro _;simp [undec]
 ·intro s b ih h
  rw [List.all_append,Bool.and_eq_true] at h
  have:=ih h.1
  have hb:isDig b=true:=by simpa using h.2
  simp only [isDig,decide_eq_true_eq] at hb
  rw [undec_snoc,List.length_append,List.length_singleton,Nat.pow_succ]
  omega
theorem undec_acc (s:List UInt8) (a:Nat):a*10^s.length≤s.foldl (fun a b=>10*a+(b.toNat - 48)) a:=by
 induction s generalizing a with
 |nil=>simp
 |cons b r ih=>
  simp only [List.foldl_cons,List.length_cons]
  refine Nat.le_trans ?_ (ih _)
  rw [Nat.pow_succ,Nat.mul_comm (10^_) 10,←Nat.mul_assoc]
  exact Nat.mul_le_mul_right _ (by omega)
theorem undec_ge (x:UInt8) (r:List UInt8) (h:49≤x.toNat):10^r.length≤undec (x::r):=by
 unfold undec
 simp only [List.foldl_cons]
 refine Nat.le_trans ?_ (undec_acc r _)
 have:=Nat.mul_le_mul_right (10^r.length) (show 1≤10*0+(x.toNat - 48) by omega)
 omega
theorem okDec_big (s:List UInt8) (h:okDec s=true) (hl:2≤s.length):10^(s.length - 1)≤undec s:=by
 unfold okDec at h
 cases s with
 |nil=>simp at hl
 |cons x r=>
  simp only [List.all_cons,Bool.and_eq_true,List.headD_cons,isDig,decide_eq_true_eq,Bool.or_eq_true,bne_iff_ne,beq_iff_eq,List.length_cons] at h hl ⊢
  rw [Nat.add_sub_cancel]
  apply undec_ge
  rcases h.2 with h2|h2
  ·have:x.toNat≠48:=fun e=>h2 (UInt8.toNat.inj (by simpa using e))
   omega
  ·omega
open Go.Proofs

def bl (l:List Bool):AV:= .sl (l.map fun b=>[.bool b])
def atL (l:List Bool) (i:Nat):Nat:=if l.getD i false then 1 else 0
theorem at_spec (l:List Bool) (i:Nat):Sp Tryz.prog gl 181 [bl l,.int .i64 i] (.int .i64 (atL l i)):=by
 refine s181 rfl rfl ?_
 by_cases hi:i<l.length
 ·cases h:l[i]<;>simp [a181,c181,bl,hi,h,atL]
 ·simp [a181,c181,bl,hi,atL]

def plusL:List Bool→List Bool→Bool→List Bool
 |[],[],c=>if c then [true] else []
 |a::r,[],c=>(a^^c)::plusL r [] (a&&c)
 |[],b::s,c=>(b^^c)::plusL [] s (b&&c)
 |a::r,b::s,c=>(a^^b^^c)::plusL r s (a&&b||a&&c||b&&c)
def val:List Bool→Nat
 |[]=>0
 |b::r=>b.toNat+2*val r
theorem plusL_val (a b:List Bool) (c:Bool):val (plusL a b c)=val a+val b+c.toNat:=by
 induction a generalizing b c with
 |nil=>
  induction b generalizing c with
  |nil=>cases c<;>simp [plusL,val]
  |cons x s ih=>cases x<;>cases c<;>simp [plusL,val,ih]<;>omega
 |cons y r ih=>
  cases b with
  |nil=>cases y<;>cases c<;>simp [plusL,val,ih]<;>omega
  |cons x s=>cases x<;>cases y<;>cases c<;>simp [plusL,val,ih]<;>omega
theorem plusL_len (a b:List Bool) (c:Bool):(plusL a b c).length≤max a.length b.length+1:=by
 induction a generalizing b c with
 |nil=>
  induction b generalizing c with
  |nil=>cases c<;>simp [plusL]
  |cons x s ih=>have:=ih (x&&c);simp [plusL] at this ⊢;omega
 |cons y r ih=>
  cases b with
  |nil=>have:=ih [] (y&&c);simp [plusL] at this ⊢;omega
  |cons x s=>have:=ih s (y&&x||y&&c||x&&c);simp [plusL] at this ⊢;omega
theorem plusL_step (a b:List Bool) (i:Nat) (c:Bool) (h:i<a.length∨i<b.length∨c=true):
  plusL (a.drop i) (b.drop i) c=((atL a i+atL b i+c.toNat)%2==1)::plusL (a.drop (i+1)) (b.drop (i+1)) ((atL a i+atL b i+c.toNat) / 2==1):=by
 by_cases ha:i<a.length
 ·by_cases hb:i<b.length
  ·rw [List.drop_eq_getElem_cons ha,List.drop_eq_getElem_cons hb]
   cases h1:a[i]<;>cases h2:b[i]<;>cases c<;>simp [plusL,atL,ha,hb,h1,h2]
  ·rw [List.drop_eq_getElem_cons ha,List.drop_eq_nil_of_le (by omega:b.length≤i),List.drop_eq_nil_of_le (by omega:b.length≤i+1)]
   cases h1:a[i]<;>cases c<;>simp [plusL,atL,ha,hb,h1]
 ·by_cases hb:i<b.length
  ·rw [List.drop_eq_getElem_cons hb,List.drop_eq_nil_of_le (by omega:a.length≤i),List.drop_eq_nil_of_le (by omega:a.length≤i+1)]
   cases h2:b[i]<;>cases c<;>simp [plusL,atL,ha,hb,h2]
  ·rw [List.drop_eq_nil_of_le (by omega:a.length≤i),List.drop_eq_nil_of_le (by omega:b.length≤i),List.drop_eq_nil_of_le (by omega:a.length≤i+1),List.drop_eq_nil_of_le (by omega:b.length≤i+1)]
   have hc:c=true:=by simpa [ha,hb] using h
   subst hc;simp [plusL,atL,ha,hb]
theorem plusL_end (a b:List Bool) (i:Nat) (h1:a.length≤i) (h2:b.length≤i):plusL (a.drop i) (b.drop i) false=[]:=by
 rw [List.drop_eq_nil_of_le h1,List.drop_eq_nil_of_le h2];simp [plusL]
theorem atL_le (l:List Bool) (i:Nat):atL l i≤1:=by unfold atL;split<;>omega

theorem atL_hi (l:List Bool) (i:Nat) (h:l.length≤i):atL l i=0:=by simp [atL,h]
theorem half_eq: ∀x:Nat,x≤3→((x / 2==1).toNat:Nat)=x / 2
 |0,_=>rfl
 |1,_=>rfl
 |2,_=>rfl
 |3,_=>rfl
 |x+4,h=>by omega

theorem plus_spec (a b:List Bool) (ha:a.length≤1000000) (hb:b.length≤1000000):Sp Tryz.prog gl 222 [bl a,bl b] (bl (plusL a b false)):=by
 refine s222 rfl rfl ?_
 simp [c222]
 refine wp_lp (α:=Nat×List Bool×Bool) (fun x=>⟨[(0,bl a),(1,bl b),(5,bl x.2.1),(6,.int .i64 x.2.2.toNat),(7,.int .i64 x.1)],[],[(.s 5,1)]⟩)
  (fun x=>x.1+x.2.2.toNat≤max a.length b.length+1∧x.2.1.length=x.1∧x.2.1++plusL (a.drop x.1) (b.drop x.1) x.2.2=plusL a b false) (fun x=>a.length+b.length+2 - x.1) ?_ (0,[],false) ?_ ?_
 ·rintro ⟨i,out,c⟩ ⟨h1,h0,h2⟩
  simp only at h1 h2 h0
  have a1:=atL_le a i
  have a2:=atL_le b i
  have b1:=atL_hi a i
  have b2:=atL_hi b i
  have hc:c.toNat≤1:=by cases c<;>simp
  have hd:c=true↔c.toNat=1:=by cases c<;>simp
  generalize hx:atL a i=x at *
  generalize hy:atL b i=y at *
  have t1:IntKind.i64.wrap (x+y)=(x+y):=by rw [wrap_i64]<;>omega
  have t2:IntKind.i64.wrap (x+y+(c.toNat:Int))=x+y+c.toNat:=by rw [wrap_i64]<;>omega
  have t3:IntKind.i64.wrap ((x+y+c.toNat:Int).tdiv 2)=(x+y+c.toNat) / 2:=by rw [Int.tdiv_eq_ediv_of_nonneg (by omega),wrap_i64]<;>omega
  have t4:IntKind.i64.wrap (i+1)=(i+1):=by rw [wrap_i64]<;>omega
  have t5:(x+y+c.toNat:Int).tmod 2=(x+y+c.toNat)%2:=by rw [Int.tmod_eq_emod_of_nonneg];omega
  have t6:((x+y+c.toNat:Int)%2==1)=((x+y+c.toNat)%2==1):=by rw [Bool.eq_iff_iff];simp;omega
  have t7:(((x+y+c.toNat) / 2==1).toNat:Int)=(x+y+c.toNat) / 2:=by rw [half_eq _ (by omega)];simp
  have hlim:out.length+1≤lim:=by unfold lim;omega
  by_cases q:i<a.length∨i<b.length∨c=true
  ·have e:=plusL_step a b i c q
   rw [hx,hy] at e
   have t8:=half_eq (x+y+c.toNat) (by omega)
   by_cases g1:i<a.length
   ·simp [bl,g1]
    refine onC_mk _ (hx▸at_spec a i) ?_
    simp
    refine onC_mk _ (hy▸at_spec b i) ?_
    simp
    simp only [t1,t2,t3,t4,t5]
    refine ⟨hlim,by rintro r (⟨-,h⟩|⟨-,h⟩)<;>simp [←h],lpQ_mk (i+1,out++[(x+y+c.toNat)%2==1],(x+y+c.toNat) / 2==1) ?_ ?_ ?_⟩
    ·simp only [List.length_append,List.length_singleton,List.append_assoc,List.singleton_append]
     exact ⟨by omega,by omega,by rw [←h2,e]⟩
    ·simp only;omega
    ·apply weak_mk<;>simp [bl,t1,t2,t3,t4,t5,t6,t7]
   ·by_cases g2:i<b.length
    ·simp [bl,g1,g2]
     refine onC_mk _ (hx▸at_spec a i) ?_
     simp
     refine onC_mk _ (hy▸at_spec b i) ?_
     simp
     simp only [t1,t2,t3,t4,t5]
     refine ⟨hlim,by rintro r (⟨-,h⟩|⟨-,h⟩)<;>simp [←h],lpQ_mk (i+1,out++[(x+y+c.toNat)%2==1],(x+y+c.toNat) / 2==1) ?_ ?_ ?_⟩
     ·simp only [List.length_append,List.length_singleton,List.append_assoc,List.singleton_append]
      exact ⟨by omega,by omega,by rw [←h2,e]⟩
     ·simp only;omega
     ·apply weak_mk<;>simp [bl,t1,t2,t3,t4,t5,t6,t7]
    ·obtain rfl:c=true:=by simpa [g1,g2] using q
     simp [bl,g1,g2]
     refine onC_mk _ (hx▸at_spec a i) ?_
     simp
     refine onC_mk _ (hy▸at_spec b i) ?_
     simp at t1 t2 t3 t4 t5 t6 t7
     simp
     simp only [t1,t2,t3,t4,t5]
     refine ⟨hlim,by rintro r (⟨-,h⟩|⟨-,h⟩)<;>simp [←h],lpQ_mk (i+1,out++[(x+y+1)%2==1],(x+y+1) / 2==1) ?_ ?_ ?_⟩
     ·simp only [List.length_append,List.length_singleton,List.append_assoc,List.singleton_append]
      simp at t8 e h1
      exact ⟨by omega,by omega,by rw [←h2,e]⟩
     ·simp at h1 ⊢;omega
     ·apply weak_mk<;>simp [bl,t1,t2,t3,t4,t5,t6,t7]
  ·have hf:c=false:=by cases c<;>simp_all
   subst hf
   have g1: ¬i<a.length:=fun h=>q (.inl h)
   have g2: ¬i<b.length:=fun h=>q (.inr (.inl h))
   simp [bl,g1,g2]
   rw [plusL_end a b i (by omega) (by omega)] at h2
   simpa [bl] using congrArg bl h2
 ·simp
 ·apply weak_mk<;>simp [bl]

def bitsOf (n k:Nat):List Bool:=(List.range k).map fun i=>n / 2^i%2==1
theorem val_append (a b:List Bool):val (a++b)=val a+2^a.length*val b:=by
 induction a with
 |nil=>simp [val]
 |cons x r ih=>simp [val,ih,Nat.pow_succ,Nat.mul_add];rw [show 2^r.length*2=2*2^r.length by omega,Nat.mul_assoc];omega
theorem bitsOf_succ (n k:Nat):bitsOf n (k+1)=bitsOf n k++[n / 2^k%2==1]:=by simp [bitsOf,List.range_succ]
theorem bitsOf_len (n k:Nat):(bitsOf n k).length=k:=by simp [bitsOf]
theorem bitsOf_val (n k:Nat):val (bitsOf n k)=n%2^k:=by
 induction k with
 |zero=>simp [bitsOf,val,Nat.mod_one]
 |succ k ih=>
  rw [bitsOf_succ,val_append,ih,bitsOf_len,Nat.pow_succ,Nat.mod_mul]
  congr 1
  rcases Nat.mod_two_eq_zero_or_one (n / 2^k) with h|h<;>simp [val,h]
theorem bitsOf_val128 (n:Nat) (h:n<340282366920938463463374607431768211456):val (bitsOf n 128)=n:=by
 rw [bitsOf_val];exact Nat.mod_eq_of_lt (by simpa using h)
theorem bit_hi (n i:Nat) (h:64≤i):n / 2^i=n / 18446744073709551616 / 2^(i%64+(i - i%64 - 64)):=by
 rw [Nat.div_div_eq_div_mul,show (18446744073709551616:Nat)=2^64 from rfl,←Nat.pow_add]
 congr 2;omega
theorem bit_lo (n i:Nat) (h:i<64):n / 2^i%2=n%18446744073709551616 / 2^i%2:=by
 have e:(18446744073709551616:Nat)=2^i*2^(64 - i):=by
  rw [←Nat.pow_add,show i+(64 - i)=64 by omega]
 rw [e,Nat.mod_mul_right_div_self]
 have e2:2^(64 - i)=2*2^(63 - i):=by rw [←Nat.pow_succ',Nat.succ_eq_add_one,show 63 - i+1=64 - i by omega]
 rw [e2,Nat.mod_mul_right_mod]
theorem shr_u64 (x i:Nat) (h:i<64):(x:Int).fdiv (2^min i IntKind.u64.bits)=((x / 2^i:Nat):Int):=by
 rw [show min i IntKind.u64.bits=i by show min i 64=i;omega,Int.fdiv_eq_ediv_of_nonneg _ (Int.pow_nonneg (by decide))]
 simp
theorem bits_spec (n:Nat) (hn:n<340282366920938463463374607431768211456):Sp Tryz.prog gl 104 [wide n] (bl (bitsOf n 128)):=by
 refine s104 rfl rfl ?_
 simp [c104,wide]
 refine wp_lp (α:=Nat) (fun i=>⟨[(1,.ptr (.n 1) 0),(3,bl (bitsOf n i)),(4,i6 i)],[(.n 1,[u (n / 18446744073709551616),u (n%18446744073709551616)])],[(.s 3,1)]⟩)
  (fun i=>i≤128) (fun i=>128 - i) ?_ 0 (by omega) ?_
 ·intro i hi
  have t1:IntKind.i64.wrap ((i:Int)+1)=i+1:=by rw [wrap_i64]<;>omega
  have t2:IntKind.u64.wrap ((i:Int).tmod 64)=(i%64:Nat):=by rw [Int.tmod_eq_emod_of_nonneg (by omega),wrap_u64]<;>omega
  have t3:0≤IntKind.u64.wrap ((i:Int).tmod 64):=by rw [t2];omega
  have bit: ∀m j:Nat,m<18446744073709551616→m / 2^(i%64)%2=n / 2^i%2→(((m:Int).fdiv (2^min (IntKind.u64.wrap ((i:Int).tmod 64)).toNat IntKind.u64.bits)).tmod 2==1)=(n / 2^i%2==1):=by
   intro m j hm e
   rw [t2,Int.toNat_natCast,shr_u64 _ _ (by omega),Int.tmod_eq_emod_of_nonneg (Int.natCast_nonneg _),Bool.eq_iff_iff]
   simp only [beq_iff_eq]
   generalize m / 2^(i%64)=q at e ⊢
   generalize n / 2^i=r at e ⊢
   omega
  simp [bl]
  refine onB_dec (fun h=>?_) (fun h=>?_)
  ·have hl:(bitsOf n i).length+1≤lim:=by rw [bitsOf_len];unfold lim;omega
   simp
   refine onB_dec (fun h6=>?_) (fun h6=>?_)
   ·have b1:=bit (n / 18446744073709551616) 0 (by omega) (by rw [bit_hi n i (by omega),show i%64+(i - i%64 - 64)=i%64 by omega])
    simp [t3]
    refine ⟨hl,by rintro r (⟨-,h⟩|⟨-,h⟩)<;>simp [←h],lpQ_mk (i+1) (by omega) (by omega) ?_⟩
    simp at b1
    apply weak_mk<;>simp [bl,bitsOf_succ,t1,b1]
   ·have b1:=bit (n%18446744073709551616) 0 (by omega) (by rw [bit_lo n i (by omega),Nat.mod_eq_of_lt (show i<64 by omega)])
    simp [t3]
    refine ⟨hl,by rintro r (⟨-,h⟩|⟨-,h⟩)<;>simp [←h],lpQ_mk (i+1) (by omega) (by omega) ?_⟩
    simp at b1
    apply weak_mk<;>simp [bl,bitsOf_succ,t1,b1]
  ·obtain rfl:i=128:=by omega
   simp
 ·apply weak_mk<;>simp [bl,bitsOf]

def timesL:List Bool→List Bool→List Bool→List Bool
 |out,_,[]=>out
 |out,sh,b::r=>timesL (if b then plusL out sh false else out) (false::sh) r
theorem timesL_val (out sh b:List Bool):val (timesL out sh b)=val out+val sh*val b:=by
 induction b generalizing out sh with
 |nil=>simp [timesL,val]
 |cons x r ih=>
  simp only [timesL,ih,val]
  cases x<;>simp [plusL_val,Nat.mul_add,Nat.add_assoc]
  ·rw [Nat.mul_assoc,Nat.mul_left_comm]
  ·rw [Nat.mul_assoc,Nat.mul_left_comm]
theorem timesL_len (out sh b:List Bool) (h:out.length≤sh.length):(timesL out sh b).length≤sh.length+b.length:=by
 induction b generalizing out sh with
 |nil=>simpa [timesL] using h
 |cons x r ih=>
  simp only [timesL,List.length_cons]
  have:=ih (if x then plusL out sh false else out) (false::sh) (by
   have:=plusL_len out sh false
   cases x<;>simp<;>omega)
  simp only [List.length_cons] at this
  omega
theorem drop_cons {α:Type} {l:List α} {i:Nat} (h:i<l.length):l.drop i=l[i]::l.drop (i+1):=List.drop_eq_getElem_cons h
theorem times_spec_l (a b:List Bool) (ha:a.length≤400000) (hb:b.length≤400000):Sp Tryz.prog gl 223 [bl a,bl b] (bl (timesL [] a b)):=by
 refine s223 rfl rfl ?_
 simp [c223,bl]
 refine ⟨by unfold lim;omega,by rintro r (⟨-,h⟩|⟨-,h⟩)<;>simp [←h],?_⟩
 refine wp_lp (α:=Nat×List Bool×List Bool) (fun x=>⟨[(0,bl a),(1,bl b),(5,bl x.2.1),(6,bl x.2.2),(7,i6 x.1)],[],[]⟩)
  (fun x=>x.1≤b.length∧x.2.2.length=a.length+x.1∧x.2.1.length≤a.length+x.1∧timesL x.2.1 x.2.2 (b.drop x.1)=timesL [] a b) (fun x=>b.length - x.1) ?_ (0,[],a) ?_ ?_
 ·rintro ⟨i,out,sh⟩ ⟨h1,h2,h3,h4⟩
  simp only at h1 h2 h3 h4
  have t1:IntKind.i64.wrap ((i:Int)+1)=i+1:=by rw [wrap_i64]<;>omega
  have hl:sh.length+1≤lim:=by unfold lim;omega
  simp [bl]
  refine onB_dec (fun h=>?_) (fun h=>?_)
  ·rw [drop_cons h,timesL] at h4
   cases hbi:b[i]
   ·rw [hbi] at h4
    simp [h,hbi]
    refine ⟨by omega,by rintro r (⟨-,h⟩|⟨-,h⟩)<;>simp [←h],lpQ_mk (i+1,out,false::sh) ⟨by simp;omega,by simp;omega,by simp;omega,by simpa using h4⟩ (by simp;omega) ?_⟩
    apply weak_mk<;>simp [bl,t1]
   ·rw [hbi] at h4
    simp [h,hbi]
    refine onC_mk _ (plus_spec out sh (by omega) (by omega)) ?_
    simp
    have:=plusL_len out sh false
    refine ⟨by omega,by rintro r (⟨-,h⟩|⟨-,h⟩)<;>simp [←h],lpQ_mk (i+1,plusL out sh false,false::sh) ⟨by simp;omega,by simp;omega,by simp;omega,by simpa using h4⟩ (by simp;omega) ?_⟩
    apply weak_mk<;>simp [bl,t1]
  ·rw [List.drop_eq_nil_of_le (by omega),timesL] at h4
   simp [h4]
 ·simp
 ·apply weak_mk<;>simp [bl]

end Go.Ai
