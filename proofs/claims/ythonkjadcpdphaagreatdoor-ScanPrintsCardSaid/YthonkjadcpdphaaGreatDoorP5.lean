/- P5: a part of the proof: the rules, or what functions compute. Conditions: as each theorem says. -/
import Derived.Test.YthonkjadcpdphaaGreatDoorP4
import Derived.Lib.Join
import Derived.Lib.ItoaNum
import Derived.Lib.Bytealg
import Derived.Test.YthonkjadcpdphaaGreatDoorP1
import Derived.Test.YthonkjadcpdphaaGreatDoorAiShelf
set_option linter.unusedSimpArgs false
set_option linter.unusedVariables false
set_option maxRecDepth 20000
namespace Go.Ai
open Go.Proofs
theorem dle_t {a b:Int} (h:a≤b):decide (a≤b)=true:=decide_eq_true h
theorem dle_f {a b:Int} (h:b<a):decide (a≤b)=false:=decide_eq_false (by omega)
theorem dlt_t {a b:Int} (h:a<b):decide (a<b)=true:=decide_eq_true h
theorem dlt_f {a b:Int} (h:b≤a):decide (a<b)=false:=decide_eq_false (by omega)
theorem beq_t {a b:Int} (h:a=b):(a==b)=true:=by rw [beq_iff_eq];exact h
theorem beq_f {a b:Int} (h:a<b∨b<a):(a==b)=false:=by rw [beq_eq_false_iff_ne];omega
theorem bne_t {a b:Int} (h:a<b∨b<a):(a !=b)=true:=by rw [bne_iff_ne];omega
theorem bne_f {a b:Int} (h:a=b):(a !=b)=false:=by simp [h]
def letter (r:Int):Bool:=decide ((97≤r∧r≤122)∨(65≤r∧r≤90)∨(192≤r∧r≤591∧r≠215∧r≠247)∨(880≤r∧r≤1279))
def digR (r:Int):Bool:=decide (48≤r∧r≤57)
theorem letter_cases (r:Int):(r<65∧letter r=false)∨(65≤r∧r≤90∧letter r=true)∨(90<r∧r<97∧letter r=false)∨(97≤r∧r≤122∧letter r=true)∨(122<r∧r<192∧letter r=false)∨
  (192≤r∧r<215∧letter r=true)∨(r=215∧letter r=false)∨(215<r∧r<247∧letter r=true)∨(r=247∧letter r=false)∨(247<r∧r≤591∧letter r=true)∨
  (591<r∧r<880∧letter r=false)∨(880≤r∧r≤1279∧letter r=true)∨(1279<r∧letter r=false):=by
 unfold letter
 simp only [decide_eq_true_eq,decide_eq_false_iff_not]
 omega
theorem rletter_spec (r:Int):Sp Tryz.prog gl 65 [i3 r] (.bool (letter r)):=by
 refine s65 rfl rfl ?_
 rcases letter_cases r with ⟨h1,h2⟩|⟨h1,h2,h3⟩|⟨h1,h2,h3⟩|⟨h1,h2,h3⟩|⟨h1,h2,h3⟩|⟨h1,h2,h3⟩|⟨h1,h3⟩|⟨h1,h2,h3⟩|⟨h1,h3⟩|⟨h1,h2,h3⟩|⟨h1,h2,h3⟩|⟨h1,h2,h3⟩|⟨h1,h3⟩
 ·rw [h2];simp -implicitDefEqProofs (disch:=omega) [c65,dle_t,dle_f,dlt_t,dlt_f,beq_t,beq_f,bne_t,bne_f]
 all_goals (rw [h3];simp -implicitDefEqProofs (disch:=omega) [c65,dle_t,dle_f,dlt_t,dlt_f,beq_t,beq_f,bne_t,bne_f])
theorem tletter_spec (r:Int):Sp Tryz.prog gl 116 [i3 r] (.bool (letter r)):=by
 refine s116 rfl rfl ?_
 rcases letter_cases r with ⟨h1,h2⟩|⟨h1,h2,h3⟩|⟨h1,h2,h3⟩|⟨h1,h2,h3⟩|⟨h1,h2,h3⟩|⟨h1,h2,h3⟩|⟨h1,h3⟩|⟨h1,h2,h3⟩|⟨h1,h3⟩|⟨h1,h2,h3⟩|⟨h1,h2,h3⟩|⟨h1,h2,h3⟩|⟨h1,h3⟩
 ·rw [h2];simp -implicitDefEqProofs (disch:=omega) [c116,dle_t,dle_f,dlt_t,dlt_f,beq_t,beq_f,bne_t,bne_f]
 all_goals (rw [h3];simp -implicitDefEqProofs (disch:=omega) [c116,dle_t,dle_f,dlt_t,dlt_f,beq_t,beq_f,bne_t,bne_f])
theorem tdigit_spec (r:Int):Sp Tryz.prog gl 138 [i3 r] (.bool (digR r)):=by
 refine s138 rfl rfl ?_
 unfold digR
 by_cases h1:48≤r
 ·simp [c138,h1]
 ·simp [c138,h1]
def nameGo:Nat→Int→List Int→Bool
 |n,last,[]=>decide (0<n∧n≤24)&&(letter last||digR last)
 |n,last,r::l=>(letter r||(decide (n≠0)&&(digR r||r==95||r==45)))&&nameGo (n+1) r l
def nameT (s:List UInt8):Bool:=nameGo 0 32 (runesL s 0)
theorem tname_spec (s:List UInt8) (hl:s.length≤900000):Sp Tryz.prog gl 78 [.str s] (.bool (nameT s)):=by
 refine s78 rfl rfl ?_
 obtain ⟨R,hR⟩: ∃R,R=nameT s:=⟨_,rfl⟩
 rw [←hR]
 unfold nameT at hR
 simp -implicitDefEqProofs [c78]
 refine wp_lpk (α:=Nat×Nat×Int) (fun x=>⟨[(0,.str s),(3,i6 x.2.1),(4,i3 x.2.2),(9,.itp 9)],[(.it 9,[.itr s x.1])],[]⟩)
  (fun x=>x.2.1≤x.1∧(x.2.1=0↔x.1=0)∧nameGo x.2.1 x.2.2 (runesL s x.1)=R∧x.1≤s.length+3) (fun x=>s.length+4 - x.1) ?_ (0,0,32) ?_ ?_
 ·rintro K ⟨i,n,last⟩ hK ⟨h1,h2,h3,h4⟩
  simp only at h1 h2 h3 h4
  by_cases g:i<s.length
  ·rw [runesL_in g] at h3
   simp only [nameGo] at h3
   have sr:=step_rune s i g
   have sl:=stepR_lt g
   have sp:=stepR_pos s i
   have fin:nameGo (n+1) (stepR s i).1 (runesL s (i+(stepR s i).2))=R→ ∀σ',Weak σ' ⟨[(0,.str s),(3,i6 (n+1:Nat)),(4,i3 (stepR s i).1),(9,.itp 9)],[(.it 9,[.itr s (i+(stepR s i).2)])],[]⟩→K σ':=
    fun hh σ' hσ=>hK (i+(stepR s i).2,n+1,(stepR s i).1) σ' ⟨by simp only;omega,by simp only;omega,hh,by simp only;omega⟩ (by simp only;omega) hσ
   have t1:IntKind.i64.wrap ((n:Int)+1)=(n+1:Nat):=by rw [wrap_i64]<;>omega
   clear hK hR
   by_cases hb:(stepR s i).1= -1
   ·rw [if_pos hb] at sr
    rw [hb] at h3
    have:R=false:=by
     rw [←h3]
     have:(letter (-1)||(decide (n≠0)&&(digR (-1)||(-1:Int)==95||(-1:Int)==45)))=false:=by cases decide (n≠0)<;>rfl
     rw [this];rfl
    subst this
    have L1:=tletter_spec 65533
    have D1:=tdigit_spec 65533
    rw [show letter 65533=false from rfl] at L1
    rw [show digR 65533=false from rfl] at D1
    clear h3 fin
    by_cases hi:i=0
    ·subst hi
     simp -implicitDefEqProofs [g,sr]
     refine onC_mk _ L1 ?_
     simp -implicitDefEqProofs
    ·have hi':0<i:=by omega
     simp -implicitDefEqProofs [g,sr]
     refine onC_mk _ L1 ?_
     simp -implicitDefEqProofs [hi']
     refine onC_mk _ D1 ?_
     simp -implicitDefEqProofs
   ·rw [if_neg hb] at sr
    have L1:=tletter_spec (stepR s i).1
    have D1:=tdigit_spec (stepR s i).1
    have esr:(stepR s i)=((stepR s i).1,(stepR s i).2):=rfl
    rw [esr] at sr
    generalize nameGo (n+1) (stepR s i).1 (runesL s (i+(stepR s i).2))=R2 at *
    clear esr hb
    generalize (stepR s i).1=r at *
    generalize (stepR s i).2=w at *
    have hn0:decide (n≠0)=decide (0<i):=by rw [Bool.eq_iff_iff];simp;omega
    rw [hn0] at h3
    cases hlt:letter r
    ·rw [hlt] at h3 L1
     by_cases hi:0<i
     ·cases hd:digR r
      ·rw [hd] at h3 D1
       by_cases e1:r=95
       ·have:=fin (by rw [←h3];simp [hi,e1])
        simp -implicitDefEqProofs (disch:=omega) [g,sr,beq_t,beq_f,e1]
        rw [e1] at L1 D1
        refine onC_mk _ L1 ?_
        simp -implicitDefEqProofs [hi]
        refine onC_mk _ D1 ?_
        simp -implicitDefEqProofs
        refine this _ (weak_mk ?_ ?_ ?_ ?_ ?_ ?_)<;>simp -implicitDefEqProofs [t1,e1]
       ·by_cases e2:r=45
        ·have:=fin (by rw [←h3];simp [hi,e2])
         simp -implicitDefEqProofs (disch:=omega) [g,sr,e2]
         rw [e2] at L1 D1
         refine onC_mk _ L1 ?_
         simp -implicitDefEqProofs [hi]
         refine onC_mk _ D1 ?_
         simp -implicitDefEqProofs
         refine this _ (weak_mk ?_ ?_ ?_ ?_ ?_ ?_)<;>simp -implicitDefEqProofs [t1,e2]
        ·have b1:(r==95)=false:=by rw [beq_eq_false_iff_ne];exact e1
         have b2:(r==45)=false:=by rw [beq_eq_false_iff_ne];exact e2
         have:R=false:=by rw [←h3,b1,b2];simp
         subst this
         simp -implicitDefEqProofs [g,sr]
         refine onC_mk _ L1 ?_
         simp -implicitDefEqProofs [hi]
         refine onC_mk _ D1 ?_
         simp -implicitDefEqProofs [b1,b2]
      ·rw [hd] at h3 D1
       have:=fin (by rw [←h3];simp [hi])
       simp -implicitDefEqProofs [g,sr]
       refine onC_mk _ L1 ?_
       simp -implicitDefEqProofs [hi]
       refine onC_mk _ D1 ?_
       simp -implicitDefEqProofs
       refine this _ (weak_mk ?_ ?_ ?_ ?_ ?_ ?_)<;>simp -implicitDefEqProofs [t1]
     ·have:R=false:=by rw [←h3];simp [hi]
      subst this
      simp -implicitDefEqProofs [g,sr]
      refine onC_mk _ L1 ?_
      simp -implicitDefEqProofs [hi]
    ·rw [hlt] at h3 L1
     have:=fin (by rw [←h3];simp)
     simp -implicitDefEqProofs [g,sr]
     refine onC_mk _ L1 ?_
     simp -implicitDefEqProofs
     refine this _ (weak_mk ?_ ?_ ?_ ?_ ?_ ?_)<;>simp -implicitDefEqProofs [t1]
  ·rw [runesL_out g] at h3
   simp only [nameGo] at h3
   have L1:=tletter_spec last
   have D1:=tdigit_spec last
   clear hK hR h2
   by_cases n0:0<n
   ·by_cases n1:n≤24
    ·have n1':(n:Int)≤24:=by omega
     rw [decide_eq_true (show 0<n∧n≤24 from ⟨n0,n1⟩),Bool.true_and] at h3
     cases hlt:letter last
     ·rw [hlt,Bool.false_or] at h3
      rw [hlt] at L1
      rw [h3] at D1
      simp -implicitDefEqProofs [g,n0,n1']
      refine onC_mk _ L1 ?_
      simp -implicitDefEqProofs
      refine onC_mk _ D1 ?_
      simp -implicitDefEqProofs
     ·rw [hlt] at h3 L1
      have:R=true:=by rw [←h3];rfl
      subst this
      simp -implicitDefEqProofs [g,n0,n1']
      refine onC_mk _ L1 ?_
      simp -implicitDefEqProofs
    ·have n1': ¬(n:Int)≤24:=by omega
     rw [decide_eq_false (show ¬(0<n∧n≤24) by omega)] at h3
     subst h3
     simp -implicitDefEqProofs [g,n0,n1']
   ·rw [decide_eq_false (show ¬(0<n∧n≤24) by omega)] at h3
    subst h3
    simp -implicitDefEqProofs [g,n0]
 ·exact ⟨Nat.le_refl _,by simp,hR.symm,by simp⟩
 ·refine weak_mk ?_ ?_ ?_ ?_ ?_ ?_<;>simp -implicitDefEqProofs
open Go.Proofs
theorem nameGo_big: ∀(l:List Int) (n:Nat) (last:Int),24<n+l.length→nameGo n last l=false
 |[],n,last,h=>by
  simp only [nameGo]
  rw [decide_eq_false (show ¬(0<n∧n≤24) by simp at h;omega)];rfl
 |r::l,n,last,h=>by
  simp only [nameGo]
  rw [nameGo_big l (n+1) r (by simp at h;omega)];simp
theorem rname_spec (s:List UInt8) (hl:s.length≤900000):Sp Tryz.prog gl 57 [.str s] (.bool (nameT s)):=by
 refine s57 rfl rfl ?_
 have RS:=runes_spec s hl
 have rl:=runesL_len s s.length 0 (by omega)
 obtain ⟨R,hR⟩: ∃R,R=nameT s:=⟨_,rfl⟩
 rw [←hR]
 unfold nameT at hR
 generalize runesL s 0=l at *
 have el: ∀l,runeRows l=l.map fun r=>[i3 r]:=fun _=>rfl
 rw [el] at RS
 by_cases h0:l=[]
 ·subst h0
  subst hR
  simp -implicitDefEqProofs [c57]
  refine onC_mk _ RS ?_
  simp -implicitDefEqProofs [nameGo]
 ·have hlen:0<l.length:=List.length_pos_iff.2 h0
  have b0:((l.length:Int)==0)=false:=by rw [beq_eq_false_iff_ne];omega
  by_cases h24:24<l.length
  ·rw [nameGo_big l 0 32 (by omega)] at hR
   subst hR
   have hI:(24:Int)<l.length:=by omega
   simp -implicitDefEqProofs [c57]
   refine onC_mk _ RS ?_
   simp -implicitDefEqProofs [b0,hI]
  ·have hI: ¬(24:Int)<l.length:=by omega
   have L0:=rletter_spec l[0]
   cases hl0:letter l[0]
   ·rw [hl0] at L0
    have:R=false:=by
     rw [hR]
     cases l with
     |nil=>exact absurd rfl h0
     |cons r l=>simp only [List.getElem_cons_zero] at hl0;simp [nameGo,hl0]
    clear hR
    subst this
    simp -implicitDefEqProofs [c57]
    refine onC_mk _ RS ?_
    simp -implicitDefEqProofs [b0,hI,hlen,h0]
    refine onC_mk _ L0 ?_
    simp -implicitDefEqProofs
   ·rw [hl0] at L0
    simp -implicitDefEqProofs [c57]
    refine onC_mk _ RS ?_
    simp -implicitDefEqProofs [b0,hI,hlen,h0]
    refine onC_mk _ L0 ?_
    simp -implicitDefEqProofs
    refine wp_lpk (α:=Nat×Int) (fun x=>⟨[(3,.sl (l.map fun r=>[i3 r])),(4,i6 x.1)],[],[]⟩)
     (fun x=>x.1≤l.length∧nameGo x.1 x.2 (l.drop x.1)=R∧(0<x.1→x.1=l.length→(letter x.2||digR x.2)=true)) (fun x=>l.length - x.1) ?_ (0,32) ?_ ?_
    ·rintro K ⟨i,prev⟩ hK ⟨h1,h2,h3⟩
     simp only at h1 h2 h3
     by_cases g:i<l.length
     ·have t1:IntKind.i64.wrap ((i:Int)+1)=(i+1:Nat):=by rw [wrap_i64]<;>omega
      have t2:IntKind.i64.wrap ((l.length:Int) - 1)=(l.length - 1:Nat):=by rw [wrap_i64]<;>omega
      have LI:=rletter_spec l[i]
      rw [List.drop_eq_getElem_cons g] at h2
      simp only [nameGo] at h2
      have hz:i=0→letter l[i]=true:=by rintro rfl;exact hl0
      have fin:nameGo (i+1) l[i] (l.drop (i+1))=R→(i+1=l.length→(letter l[i]||digR l[i])=true)→ ∀σ',Weak σ' ⟨[(3,.sl (l.map fun r=>[i3 r])),(4,i6 (i+1:Nat))],[],[]⟩→K σ':=
       fun hh he σ' hσ=>hK (i+1,l[i]) σ' ⟨by simp only;omega,hh,fun _=>he⟩ (by simp only;omega) hσ
      have hend:i+1=l.length→l.drop (i+1)=[]:=fun h=>List.drop_eq_nil_of_le (by omega)
      obtain ⟨r,hr⟩: ∃r,l[i]=r:=⟨_,rfl⟩
      rw [hr] at h2 LI hz fin
      generalize l.drop (i+1)=l2 at *
      clear hK hR L0 RS h3
      cases hlt:letter r
      ·rw [hlt] at h2 LI hz
       have hi:0<i:=by
        rcases Nat.eq_zero_or_pos i with h|h
        ·have:=hz h;cases this
        ·exact h
       rw [decide_eq_true (show i≠0 by omega)] at h2
       cases hd:digR r
       ·rw [hd] at h2
        unfold digR at hd
        rw [decide_eq_false_iff_not] at hd
        have d1: ∀X Y:Prop,((48≤r→r≤57→X)→Y)→True:=fun _ _ _=>trivial
        by_cases hlast:i+1=l.length
        ·have:R=false:=by
          rw [←h2,hend hlast]
          simp only [nameGo]
          rw [hlt,show digR r=false from decide_eq_false hd]
          simp
         subst this
         have hq:((i:Int)==((l.length - 1:Nat):Int))=true:=by rw [beq_iff_eq];omega
         by_cases q1:48≤r
         ·have q2: ¬r≤57:=by omega
          simp -implicitDefEqProofs [g,hr,t2,hq,q1,q2]
          refine onC_mk _ LI ?_
          simp -implicitDefEqProofs
         ·simp [g,hr,t2,hq,q1]
          refine onC_mk _ LI ?_
          simp -implicitDefEqProofs
        ·have hq:((i:Int)==((l.length - 1:Nat):Int))=false:=by rw [beq_eq_false_iff_ne];omega
         by_cases e1:r=95
         ·have fin:=fin (by rw [←h2];simp [e1]) (fun h=>absurd h hlast)
          have q1:(48:Int)≤r:=by omega
          have q2: ¬r≤57:=by omega
          have e3:(r !=95)=false:=by simp [e1]
          simp -implicitDefEqProofs [g,hr,t2,hq,q1,q2]
          refine onC_mk _ LI ?_
          simp -implicitDefEqProofs [g,hr,e3]
          refine fin _ (weak_mk ?_ ?_ ?_ ?_ ?_ ?_)<;>simp -implicitDefEqProofs [t1]
         ·by_cases e2:r=45
          ·have fin:=fin (by rw [←h2];simp [e2]) (fun h=>absurd h hlast)
           have q1: ¬(48:Int)≤r:=by omega
           have e3:(r !=95)=true:=by simp [e1]
           have e4:(r !=45)=false:=by simp [e2]
           simp -implicitDefEqProofs [g,hr,t2,hq,q1]
           refine onC_mk _ LI ?_
           simp -implicitDefEqProofs [g,hr,e3,e4]
           refine fin _ (weak_mk ?_ ?_ ?_ ?_ ?_ ?_)<;>simp -implicitDefEqProofs [t1]
          ·have e3:(r !=95)=true:=by simp [e1]
           have e4:(r !=45)=true:=by simp [e2]
           have:R=false:=by
            rw [←h2,show (r==95)=false by simp [e1],show (r==45)=false by simp [e2]];simp
           subst this
           by_cases q1:48≤r
           ·have q2: ¬r≤57:=by omega
            simp -implicitDefEqProofs [g,hr,t2,hq,q1,q2]
            refine onC_mk _ LI ?_
            simp -implicitDefEqProofs [g,hr,e3,e4]
           ·simp [g,hr,t2,hq,q1]
            refine onC_mk _ LI ?_
            simp -implicitDefEqProofs [g,hr,e3,e4]
       ·rw [hd] at h2
        have fin:=fin (by rw [←h2];simp) (fun _=>by rw [hd];simp)
        unfold digR at hd
        rw [decide_eq_true_eq] at hd
        simp -implicitDefEqProofs [g,hr,t2,hd.1,hd.2]
        refine onC_mk _ LI ?_
        simp -implicitDefEqProofs
        refine fin _ (weak_mk ?_ ?_ ?_ ?_ ?_ ?_)<;>simp -implicitDefEqProofs [t1]
      ·rw [hlt] at h2 LI
       have fin:=fin (by rw [←h2];simp) (fun _=>by rw [hlt];rfl)
       by_cases q1:48≤r
       ·by_cases q2:r≤57
        ·simp [g,hr,t2,q1,q2]
         refine onC_mk _ LI ?_
         simp -implicitDefEqProofs
         refine fin _ (weak_mk ?_ ?_ ?_ ?_ ?_ ?_)<;>simp -implicitDefEqProofs [t1]
        ·simp [g,hr,t2,q1,q2]
         refine onC_mk _ LI ?_
         simp -implicitDefEqProofs
         refine fin _ (weak_mk ?_ ?_ ?_ ?_ ?_ ?_)<;>simp -implicitDefEqProofs [t1]
       ·simp [g,hr,t2,q1]
        refine onC_mk _ LI ?_
        simp -implicitDefEqProofs
        refine fin _ (weak_mk ?_ ?_ ?_ ?_ ?_ ?_)<;>simp -implicitDefEqProofs [t1]
     ·obtain rfl:i=l.length:=by omega
      have h3:=h3 hlen rfl
      rw [List.drop_length] at h2
      simp only [nameGo] at h2
      rw [h3,decide_eq_true (show 0<l.length∧l.length≤24 by omega)] at h2
      have:R=true:=by rw [←h2];rfl
      clear hK hR
      subst this
      simp -implicitDefEqProofs
    ·exact ⟨Nat.zero_le _,by simpa using hR.symm,fun h=>absurd h (by simp)⟩
    ·refine weak_mk ?_ ?_ ?_ ?_ ?_ ?_<;>simp -implicitDefEqProofs
open Go.Proofs
end Go.Ai
namespace Go.Ai
theorem decDigits_eq (n:Nat):Lib.decDigits n=dec n:=by
 induction n using Nat.strongRecOn with
 |_ n ih=>
  by_cases h:n<10
  ·rw [Lib.decDigits,dif_pos h,dec_lt h]
  ·rw [Lib.decDigits,dif_neg h,dec_ge h,ih _ (by omega)]
open Go.Proofs
def fl (b:Bool):Int:=if b=true then 1 else 0
end Go.Ai
namespace Go.Ai
open Go.Proofs Go.Shelf
theorem extraJ:Builder.Extra Tryz.prog ren_laysJoin where
 sizeBuilder:=by kernel_rfl
 liesBuilder:=by kernel_rfl
 t5:=Tryz.underlying5
 a5:=Tryz.isAgg5
 z5:=Tryz.sizeOf5
 v5:=Tryz.zeroValue5
 infoByte:=by kernel_rfl
 cellsByte:=by kernel_rfl
 sizeByte:=by kernel_rfl
 neB5:=by decide
end Go.Ai
