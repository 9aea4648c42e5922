/- P3: a part of the proof: the rules, or what functions compute. Conditions: as each theorem says. -/
import Derived.Test.YtggemlhclppciaaGreatDoorP2
import Derived.Test.YtggemlhclppciaaGreatDoorLib6
import Derived.Test.YtggemlhclppciaaGreatDoorP1
import Derived.Test.YtggemlhclppciaaGreatDoorLib9
set_option linter.unusedSimpArgs false
set_option linter.unusedVariables false
set_option maxRecDepth 20000
namespace Go.Ai
open Go.Proofs
theorem stepF_oneA (s:List UInt8) (i n r0 l:Nat) (h:(stepF s i n r0 l).1= -1):(stepF s i n r0 l).2=1:=by
 unfold stepF at h ⊢
 split
 ·rename_i c
  rw [if_pos c] at h
  simp only at h
  omega
 ·rfl
theorem stepR_oneA (s:List UInt8) (i:Nat) (h:(stepR s i).1= -1):(stepR s i).2=1:=by
 unfold stepR at h ⊢
 simp only at h ⊢
 split
 ·rfl
 ·rename_i c1
  rw [if_neg c1] at h
  split
  ·rename_i c2;rw [if_pos c2] at h;exact stepF_oneA _ _ _ _ _ h
  ·rename_i c2
   rw [if_neg c2] at h
   split
   ·rename_i c3;rw [if_pos c3] at h;exact stepF_oneA _ _ _ _ _ h
   ·rename_i c3
    rw [if_neg c3] at h
    split
    ·rename_i c4;rw [if_pos c4] at h;exact stepF_oneA _ _ _ _ _ h
    ·rfl
theorem conts_in (s:List UInt8) (i:Nat): ∀n,conts s i n=true→n=0∨i+n<s.length
 |0,_=> .inl rfl
 |k+1,h=>by
  rw [conts,Bool.and_eq_true] at h
  exact .inr (cont_in h.2)
theorem stepF_le (s:List UInt8) (i n r0 l:Nat) (h:i<s.length):i+(stepF s i n r0 l).2≤s.length:=by
 unfold stepF
 split
 ·rename_i c
  rw [Bool.and_eq_true] at c
  have:=conts_in s i n c.1
  simp only
  omega
 ·exact h
theorem stepR_le (s:List UInt8) (i:Nat) (h:i<s.length):i+(stepR s i).2≤s.length:=by
 unfold stepR
 simp only
 split
 ·exact h
 ·split
  ·exact stepF_le _ _ _ _ _ h
  ·split
   ·exact stepF_le _ _ _ _ _ h
   ·split
    ·exact stepF_le _ _ _ _ _ h
    ·exact h
theorem step_r65 (s:List UInt8) (i:Nat) (h:i<s.length):runeAt s i=(r65 (stepR s i).1,(stepR s i).2):=by
 rw [step_rune s i h]
 unfold r65
 by_cases c:(stepR s i).1= -1
 ·rw [if_pos c,if_pos c,stepR_oneA s i c]
 ·rw [if_neg c,if_neg c]
theorem runF_in (V:List UInt8→TV) (U:List UInt8→List UInt8×Int) (s:List UInt8) (x:Sc) (i:Nat) (h:i<s.length):runF V U s x i=
  if (takeF V U s x i (r65 (stepR s i).1)).2=true then runF V U s ((takeF V U s x i (r65 (stepR s i).1)).1.adv (r65 (stepR s i).1)) (i+(stepR s i).2) else ((takeF V U s x i (r65 (stepR s i).1)).1,false):=by
 rw [runF,dif_pos h]
theorem runF_out (V:List UInt8→TV) (U:List UInt8→List UInt8×Int) (s:List UInt8) (x:Sc) (i:Nat) (h: ¬i<s.length):runF V U s x i=(x,true):=by
 rw [runF,dif_neg h]
theorem Sc.adv_out (x:Sc) (r:Int):(x.adv r).out=x.out:=by unfold Sc.adv;split<;>rfl
theorem Sc.adv_sa (x:Sc) (r:Int):(x.adv r).sa=x.sa:=by unfold Sc.adv;split<;>rfl
structure ScOk (x:Sc) (i:Nat):Prop where
 sa:x.sa≤i
 ou:x.out.length≤2*i
 a0:0≤x.al
 a1:x.al≤i+1
 c0:0≤x.ac
 c1:x.ac≤i+1
theorem ScOk.step {x:Sc} {i:Nat} (h:ScOk x i) (V:List UInt8→TV) (U:List UInt8→List UInt8×Int) (s:List UInt8) (r:Int) (w:Nat) (hw:1≤w):ScOk ((takeF V U s x i r).1.adv r) (i+w):=by
 have k:=takeF_keep V U s x i r h.sa
 have o:=takeF_out V U s x i r
 have h2:=h.ou
 have h3:=h.a0
 have h4:=h.a1
 have h5:=h.c0
 have h6:=h.c1
 refine ⟨by rw [Sc.adv_sa];omega,by rw [Sc.adv_out];omega,?_,?_,?_,?_⟩<;>unfold Sc.adv<;>split<;>simp only<;>omega
theorem sc0_ok:ScOk sc0 0:=⟨Nat.le_refl _,Nat.le_refl _,by decide,by decide,by decide,by decide⟩
theorem stokens_spec (V:List UInt8→TV) (U:List UInt8→List UInt8×Int) (s:List UInt8) (hU: ∀w,w.length≤s.length→Sp Tryz.prog gl 196 [.str w] (.tup [.str (U w).1,i6 (U w).2])) (hV: ∀w,w.length≤s.length→Sp Tryz.prog gl 109 [.str w] (V w).av):
  Sp Tryz.prog gl 47 [.str s] (scanF V U s).av:=by
 refine s47 rfl rfl ?_
 have B:=fun (e:Nat) (he:(Id.n 10).isNw e=false)=>sbegin_spec s ⟨[],0,0,0,0,1,1,0,0,0⟩ 0 0 e (.n 10) rfl he
 have hB:Sc.begin ⟨[],0,0,0,0,1,1,0,0,0⟩ 0 0=sc0:=rfl
 rw [hB] at B
 unfold scanF
 by_cases hl:40000<s.length
 ·rw [if_pos hl]
  have hl':(40000:Int)<s.length:=by omega
  have W:=fun (e:Nat) (he:(Id.n 10).isNw e=false)=>swrong_spec s sc0 9 e (.n 10) rfl he
  unfold scB Sc.wrong sc0 at *
  simp only [List.map_nil] at B W
  unfold TR.av
  simp -implicitDefEqProofs [c47]
  refine onH_mk _ _ (B _ rfl) ⟨?_,?_,?_,?_,?_,?_,?_⟩ ?_
  iterate 7 (· simp)
  simp -implicitDefEqProofs [hl,hl']
  refine onH_mk _ _ (W _ rfl) ⟨?_,?_,?_,?_,?_,?_,?_⟩ ?_
  iterate 7 (· simp)
  simp -implicitDefEqProofs
 ·rw [if_neg hl]
  have hl': ¬(40000:Int)<s.length:=by omega
  have B: ∀(e:Nat) (he:(Id.n 10).isNw e=false),SpH Tryz.prog gl 75 e ⟨[.ptr (.n 10) 0,i6 0,i6 0],[(.n 10,[.str s,.sl [],i6 0,i6 0,i6 0,i6 0,i6 1,i6 1,i6 0,i6 0,i6 0])],[(.b (.n 10) 1,5)]⟩ ⟨.tup [],[(.n 10,scB s sc0)],[(.b (.n 10) 1,5)]⟩:=B
  obtain ⟨R,hR⟩: ∃R,R=runF V U s sc0 0:=⟨_,rfl⟩
  rw [←hR]
  have sl: ∀x,(scB s x).length=11:=fun _=>rfl
  have si: ∀x,idsL (scB s x)=[]:=fun _=>rfl
  simp -implicitDefEqProofs [c47]
  refine onH_mk _ _ (B _ rfl) ⟨?_,?_,?_,?_,?_,?_,?_⟩ ?_
  iterate 7 (· simp)
  simp -implicitDefEqProofs [hl,hl',sl,si]
  refine wp_lpk (α:=Sc×Nat) (fun y=>⟨[(0,.str s),(3,.ptr (.n 3) 0),(4,.ptr (.n 10) 0),(23,.itp 23)],[(.n 3,[i6 0,i6 0,i6 0]),(.n 10,scB s y.1),(.it 23,[.itr s y.2])],[(.b (.n 10) 1,5)]⟩)
   (fun y=>ScOk y.1 y.2∧y.2≤s.length∧runF V U s y.1 y.2=R) (fun y=>s.length - y.2) ?_ (sc0,0) ?_ ?_
  ·rintro K ⟨x,i⟩ hK ⟨h1,h2,h3⟩
   simp only at h1 h2 h3
   by_cases g:i<s.length
   ·have sr:=step_r65 s i g
    have sp:=stepR_pos s i
    have sw:=stepR_le s i g
    rw [runF_in V U s x i g] at h3
    have o1:=h1.ou
    have T:=fun r (e:Nat) (he:(Id.n 10).isNw e=false)=>stake_spec V U s hU hV x (by omega) (by omega) i h1.sa g r e (.n 10) rfl he
    have ko:=h1.step V U s (r65 (stepR s i).1) (stepR s i).2 sp
    have kk:=takeF_keep V U s x i (r65 (stepR s i).1) h1.sa
    have c0:=h1.c0
    have c1:=h1.c1
    have a0:=h1.a0
    have a1:=h1.a1
    have T:=T (r65 (stepR s i).1)
    generalize hq:r65 (stepR s i).1=r at *
    generalize (stepR s i).2=w at *
    generalize (takeF V U s x i r).2=ok at *
    generalize (takeF V U s x i r).1=y at *
    have fin:runF V U s (y.adv r) (i+w)=R→ ∀σ',Weak σ' ⟨[(0,.str s),(3,.ptr (.n 3) 0),(4,.ptr (.n 10) 0),(23,.itp 23)],[(.n 3,[i6 0,i6 0,i6 0]),(.n 10,scB s (y.adv r)),(.it 23,[.itr s (i+w)])],[(.b (.n 10) 1,5)]⟩→K σ':=
     fun hh σ' hσ=>hK (y.adv r,i+w) σ' ⟨ko,by simp only;omega,hh⟩ (by simp only;omega) hσ
    have w1:IntKind.i64.wrap (y.ac+1)=y.ac+1:=by rw [wrap_i64]<;>omega
    have w2:IntKind.i64.wrap (y.al+1)=y.al+1:=by rw [wrap_i64]<;>omega
    clear hK hR ko
    cases ok
    ·rw [if_neg (by decide)] at h3
     subst h3
     clear fin
     dsimp only
     rw [if_neg (by decide)]
     unfold TR.bad TR.av
     unfold scB at *
     generalize y.out.map Tk.row=L at *
     generalize x.out.map Tk.row=L0 at *
     simp -implicitDefEqProofs [g,sr]
     refine onH_mk _ _ (T _ rfl) ⟨?_,?_,?_,?_,?_,?_,?_⟩ ?_
     iterate 7 (· simp)
     simp -implicitDefEqProofs
    ·rw [if_pos rfl] at h3
     have fin:=fin h3
     clear h3
     generalize TR.av _=res
     unfold Sc.adv at fin
     by_cases c:r=10
     ·rw [if_pos c] at fin
      unfold scB at *
      generalize y.out.map Tk.row=L at *
      generalize x.out.map Tk.row=L0 at *
      simp -implicitDefEqProofs [g,sr]
      refine onH_mk _ _ (T _ rfl) ⟨?_,?_,?_,?_,?_,?_,?_⟩ ?_
      iterate 7 (· simp)
      simp -implicitDefEqProofs [c,w1,w2]
      refine fin _ ?_
      refine weak_mk ?_ ?_ ?_ ?_ ?_ ?_<;>simp -implicitDefEqProofs
     ·rw [if_neg c] at fin
      have c':(r==10)=false:=beq_eq_false_iff_ne.2 c
      unfold scB at *
      generalize y.out.map Tk.row=L at *
      generalize x.out.map Tk.row=L0 at *
      simp -implicitDefEqProofs [g,sr]
      refine onH_mk _ _ (T _ rfl) ⟨?_,?_,?_,?_,?_,?_,?_⟩ ?_
      iterate 7 (· simp)
      simp -implicitDefEqProofs [c,c',w1,w2]
      refine fin _ ?_
      refine weak_mk ?_ ?_ ?_ ?_ ?_ ?_<;>simp -implicitDefEqProofs
   ·rw [runF_out V U s x i g] at h3
    subst h3
    dsimp only
    rw [if_pos rfl]
    have o1:=h1.ou
    have hsa:=h1.sa
    clear hK
    have E:=fun (e:Nat) (he:(Id.n 10).isNw e=false)=>send_spec V s hV x (by omega) (by omega) (by omega) e (.n 10) rfl he
    generalize (endF V s x).2=ok at *
    generalize (endF V s x).1=y at *
    cases ok
    ·rw [if_neg (by decide)]
     unfold TR.bad TR.av
     unfold scB at *
     generalize y.out.map Tk.row=L at *
     generalize x.out.map Tk.row=L0 at *
     simp -implicitDefEqProofs [g]
     refine onH_mk _ _ (E _ rfl) ⟨?_,?_,?_,?_,?_,?_,?_⟩ ?_
     iterate 7 (· simp)
     simp -implicitDefEqProofs
    ·rw [if_pos rfl]
     unfold TR.av
     unfold scB at *
     dsimp only
     generalize y.out.map Tk.row=L at *
     generalize x.out.map Tk.row=L0 at *
     simp -implicitDefEqProofs [g]
     refine onH_mk _ _ (E _ rfl) ⟨?_,?_,?_,?_,?_,?_,?_⟩ ?_
     iterate 7 (· simp)
     simp -implicitDefEqProofs
  ·exact ⟨sc0_ok,by simp only;omega,hR.symm⟩
  ·refine weak_mk ?_ ?_ ?_ ?_ ?_ ?_<;>simp -implicitDefEqProofs [scB,sc0]
open Go.Proofs
theorem plc_head (l:List Int) (a b:Int):(plc a b l).getD 0 (0,0)=(a,b):=by cases l<;>rfl
theorem plc_next: ∀(l:List Int) (a b:Int) (k:Nat) (h:k<l.length),(plc a b l).getD (k+1) (0,0)=if l[k]=10 then (((plc a b l).getD k (0,0)).1+1,1) else (((plc a b l).getD k (0,0)).1,((plc a b l).getD k (0,0)).2+1)
 |[],a,b,k,h=>absurd h (by simp)
 |r::l,a,b,0,h=>by
  rw [plc_head]
  simp only [List.getElem_cons_zero]
  rw [plc,List.getD_cons_succ]
  split
  ·rw [plc_head]
  ·rw [plc_head]
 |r::l,a,b,k+1,h=>by
  simp only [List.getElem_cons_succ]
  rw [plc,List.getD_cons_succ,List.getD_cons_succ]
  split
  ·exact plc_next l _ _ k (by simpa using h)
  ·exact plc_next l _ _ k (by simpa using h)
structure At (s:List UInt8) (l:List Int) (i k:Nat):Prop where
 r:runesL s i=l.drop k
 i:i≤s.length
 k:k≤l.length
theorem At.next {s:List UInt8} {l:List Int} {i k:Nat} (h:At s l i k) (g:k<l.length):i<s.length∧(stepR s i).1=l[k]∧At s l (i+(stepR s i).2) (k+1):=by
 have e:=h.r
 rw [List.drop_eq_getElem_cons g] at e
 by_cases c:i<s.length
 ·rw [runesL_in c] at e
  injection e with e1 e2
  exact ⟨c,e1,e2,stepR_le s i c,g⟩
 ·rw [runesL_out c] at e;cases e
theorem At.end {s:List UInt8} {l:List Int} {i:Nat} (h:At s l i l.length):i=s.length:=by
 have e:=h.r
 rw [List.drop_length] at e
 by_cases c:i<s.length
 ·rw [runesL_in c] at e;cases e
 ·have:=h.i;omega
def PosAt (l:List Int) (x:Sc) (k:Nat):Prop:=(x.al,x.ac)=(plc 1 1 l).getD k (0,0)
theorem PosAt.adv {l:List Int} {x:Sc} {k:Nat} (h:PosAt l x k) (g:k<l.length) {y:Sc} (h1:y.al=x.al) (h2:y.ac=x.ac):PosAt l (y.adv l[k]) (k+1):=by
 unfold PosAt at h ⊢
 rw [plc_next l 1 1 k g,←h]
 unfold Sc.adv
 split
 ·rw [←h1]
 ·rw [←h1,←h2]
theorem PosAt.one {l:List Int} {x:Sc} {k:Nat} (h:PosAt l x k):((plc 1 1 l).getD k (0,0)).1=x.al∧((plc 1 1 l).getD k (0,0)).2=x.ac:=by
 unfold PosAt at h
 rw [←h]
 exact ⟨rfl,rfl⟩
open Go.Proofs
variable {V:List UInt8→TV} {U:List UInt8→List UInt8×Int} {VR:List Int→TV} {U':List Int→List UInt8×Int} {s:List UInt8} {l:List Int}
open Go.Proofs
variable {V:List UInt8→TV} {U:List UInt8→List UInt8×Int} {VR:List Int→TV} {U':List Int→List UInt8×Int} {s:List UInt8} {l:List Int}
theorem stepR_plain {i:Nat} {r:Int} (h:(stepR s i).1=r) (h0:0≤r) (h1:r<128):(byt s i:Int)=r∧(stepR s i).2=1:=by
 have ff: ∀n r0 least,128≤least→(stepF s i n r0 least).1=r→False:=by
  intro n r0 least hl e
  unfold stepF at e
  split at e
  ·rename_i c
   rw [Bool.and_eq_true] at c
   have:=isRune_le c.2
   dsimp only at e
   omega
  ·dsimp only at e;omega
 unfold stepR at h ⊢
 simp only at h ⊢
 split
 ·rename_i c;rw [if_pos c] at h;exact ⟨h,rfl⟩
 ·rename_i c
  rw [if_neg c] at h
  split
  ·rename_i c2;rw [if_pos c2] at h;exact (ff _ _ _ (by omega) h).elim
  ·rename_i c2
   rw [if_neg c2] at h
   split
   ·rename_i c3;rw [if_pos c3] at h;exact (ff _ _ _ (by omega) h).elim
   ·rename_i c3
    rw [if_neg c3] at h
    split
    ·rename_i c4;rw [if_pos c4] at h;exact (ff _ _ _ (by omega) h).elim
    ·rename_i c4
     rw [if_neg c4] at h
     dsimp only at h
     omega
end Go.Ai
namespace Go.Ai
def dec (n:Nat):List UInt8:=if h:n<10 then [UInt8.ofNat (48+n)] else dec (n / 10)++[UInt8.ofNat (48+n%10)]
termination_by n
decreasing_by omega
def undec (s:List UInt8):Nat:=s.foldl (fun a b=>10*a+(b.toNat - 48)) 0
def isDig (b:UInt8):Bool:=decide (48≤b.toNat∧b.toNat≤57)
def okDec (s:List UInt8):Bool:=!s.isEmpty&&s.all isDig&&(s.headD 0 !=48||s.length==1)
theorem dec_lt {n:Nat} (h:n<10):dec n=[UInt8.ofNat (48+n)]:=by rw [dec,dif_pos h]
theorem dec_ge {n:Nat} (h: ¬n<10):dec n=dec (n / 10)++[UInt8.ofNat (48+n%10)]:=by rw [dec,dif_neg h]
theorem dig_nat {k:Nat} (h:k<10):(UInt8.ofNat (48+k)).toNat=48+k:=by simp;omega
theorem undec_snoc (s:List UInt8) (b:UInt8):undec (s++[b])=10*undec s+(b.toNat - 48):=by simp [undec]
theorem dec_ne (n:Nat):dec n≠[]:=by
 by_cases h:n<10
 ·rw [dec_lt h];simp
 ·rw [dec_ge h];simp
theorem dec_dig (n:Nat):(dec n).all isDig=true:=by
 induction n using Nat.strongRecOn with
 |_ n ih=>
  by_cases h:n<10
  ·rw [dec_lt h];simp [isDig,dig_nat h];omega
  ·rw [dec_ge h,List.all_append,ih _ (by omega)];simp [isDig,dig_nat (show n%10<10 by omega)];omega
theorem dec_len (k n:Nat) (h:n<10^(k+1)):(dec n).length≤k+1:=by
 induction k generalizing n with
 |zero=>rw [dec_lt (by simpa using h)];simp
 |succ k ih=>
  by_cases g:n<10
  ·rw [dec_lt g];simp
  ·rw [dec_ge g]
   have:=ih (n / 10) (by rw [Nat.pow_succ] at h;omega)
   simp;omega
theorem snoc_ind {α:Type} {P:List α→Prop} (h0:P []) (h1: ∀s b,P s→P (s++[b])): ∀s,P s:=by
 intro s
 rw [←List.reverse_reverse s]
 induction s.reverse with
 |nil=>simpa using h0
 |cons b r ih=>rw [List.reverse_cons];exact h1 _ _ ih
theorem undec_lt (s:List UInt8) (h:s.all isDig=true):undec s<10^s.length:=by
 revert h
 refine snoc_ind (P:=fun s=>s.all isDig=true→undec s<10^s.length) ?_ ?_ s
 ·intro _;simp [undec]
 ·intro s b ih h
  rw [List.all_append,Bool.and_eq_true] at h
  have:=ih h.1
  have hb:isDig b=true:=by simpa using h.2
  simp only [isDig,decide_eq_true_eq] at hb
  rw [undec_snoc,List.length_append,List.length_singleton,Nat.pow_succ]
  omega
open Go.Proofs

def bl (l:List Bool):AV:= .sl (l.map fun b=>[.bool b])
open Go.Proofs
end Go.Ai
namespace Go.Ai
open Go.Proofs
def qc (j:Nat) (B:List Bool):List AV:=(List.replicate j false++B).map AV.bool
open Go.Proofs

open Go.Proofs

section
variable {x:Nat} (hx:x<18446744073709551616)
include hx
set_option linter.unusedSectionVars false
end
end Go.Ai
set_option linter.unusedSectionVars false
namespace Go.Ai
open Go.Proofs
section
variable {Q:AE→St→Prop} {Y s y1 y0 un v v0:Nat}
end

end Go.Ai
set_option linter.unusedSectionVars false
namespace Go.Ai
open Go.Proofs
section
variable {rq rr:Nat}
end
end Go.Ai
