/- P9: a part of the proof: the rules, or what functions compute. Conditions: as each theorem says. -/
import Derived.Test.YtpaipepdakekbaaGreatDoorP8
import Derived.Test.YtpaipepdakekbaaGreatDoorP4
import Derived.Test.YtpaipepdakekbaaGreatDoorP5
import Derived.Test.YtpaipepdakekbaaGreatDoorCode
import Derived.Test.YtpaipepdakekbaaGreatDoorAiShelf2
import Derived.Shelf.Strings.BuilderK
import Derived.Shelf.Strings.SlTrimAscii
import Derived.Shelf.Lays
import Derived.Shelf.LaysM
import Derived.Shelf.Small.Wraps
import Derived.Shelf.Strings.BuilderX
import Derived.Shelf.Strings.SplitCore
import Derived.Shelf.Unicode.ValidAny
set_option linter.unusedSimpArgs false
set_option linter.unusedVariables false
set_option maxRecDepth 20000
namespace Go.Ai
open Go.Proofs
theorem rcount_spec (s:List UInt8) (hl:s.length≤1000000):Sp Tryz.prog gl 97 [.str s] (i6 (runesL s 0).length):=by
 refine s97 rfl rfl ?_
 obtain ⟨R,hR⟩: ∃R,R=(runesL s 0).length:=⟨_,rfl⟩
 rw [←hR]
 simp -implicitDefEqProofs [c97]
 refine wp_lpk (α:=Nat×Nat) (fun x=>⟨[(2,i6 x.2),(4,.itp 4)],[(.it 4,[.itr s x.1])],[]⟩)
  (fun x=>x.2≤x.1∧x.1≤s.length∧x.2+(runesL s x.1).length=R) (fun x=>s.length - x.1) ?_ (0,0) ?_ ?_
 ·rintro K ⟨i,n⟩ hK ⟨h1,h2,h3⟩
  simp only at h1 h2 h3
  by_cases g:i<s.length
  ·rw [runesL_in g,List.length_cons] at h3
   have sr:=step_rune s i g
   have sl:=stepR_le s i g
   have sp:=stepR_pos s i
   have t1:IntKind.i64.wrap ((n:Int)+1)=(n+1:Nat):=by rw [wrap_i64]<;>omega
   have fin: ∀σ',Weak σ' ⟨[(2,i6 (n+1:Nat)),(4,.itp 4)],[(.it 4,[.itr s (i+(stepR s i).2)])],[]⟩→K σ':=
    fun σ' hσ=>hK (i+(stepR s i).2,n+1) σ' ⟨by simp only;omega,sl,by simp only;omega⟩ (by simp only;omega) hσ
   clear hK hR h3
   by_cases hb:(stepR s i).1= -1
   ·rw [if_pos hb] at sr
    rw [stepR_oneA s i hb] at fin
    clear sl sp
    simp -implicitDefEqProofs [g,sr]
    refine fin _ ?_
    refine weak_mk ?_ ?_ ?_ ?_ ?_ ?_<;>simp -implicitDefEqProofs [t1]
   ·rw [if_neg hb] at sr
    have esr:(stepR s i)=((stepR s i).1,(stepR s i).2):=rfl
    rw [esr] at sr
    clear esr hb sl sp
    generalize (stepR s i).1=r at *
    generalize (stepR s i).2=w at *
    simp -implicitDefEqProofs [g,sr]
    refine fin _ ?_
    refine weak_mk ?_ ?_ ?_ ?_ ?_ ?_<;>simp -implicitDefEqProofs [t1]
  ·rw [runesL_out g] at h3
   have h3':n=R:=by simpa using h3
   subst h3'
   clear hK
   simp -implicitDefEqProofs [g]
 ·exact ⟨Nat.le_refl _,Nat.zero_le _,by simp only;omega⟩
 ·refine weak_mk ?_ ?_ ?_ ?_ ?_ ?_<;>simp -implicitDefEqProofs
open Go.Proofs
def dgt (l:List UInt8) (i:Nat):Nat:=match l[i]? with |some b=>b.toNat - 48|none=>0
def frU (l:List UInt8):Nat→Nat
 |0=>0
 |i+1=>10*frU l i+dgt l i
def facF (hd tail:List UInt8):Nat×Int:=
 if dgsF tail=false∨3<tail.length then (0,5)
 else if (numF hd).2≠0 then (0,(numF hd).2)
 else if (18446744073709551615 - frU tail 3) / 1000<(numF hd).1 then (0,8)
 else (1000*(numF hd).1+frU tail 3,0)
theorem numF_lt (s:List UInt8):(numF s).1<18446744073709551616:=by
 unfold numF
 repeat' split
 all_goals first|assumption|omega
theorem dgt_in {l:List UInt8} {i:Nat} (h:i<l.length):dgt l i=l[i].toNat - 48:=by
 unfold dgt
 rw [List.getElem?_eq_getElem h]
theorem dgt_out {l:List UInt8} {i:Nat} (h: ¬i<l.length):dgt l i=0:=by
 unfold dgt
 rw [List.getElem?_eq_none (by omega)]
theorem frU_lt (l:List UInt8) (h: ∀i,dgt l i≤9): ∀i,frU l i<10^i
 |0=>Nat.one_pos
 |i+1=>by
  have h1:=frU_lt l h i
  have h2:=h i
  rw [frU,Nat.pow_succ]
  omega
theorem dgs_dgt {l:List UInt8} (h:dgsF l=true) (i:Nat):dgt l i≤9:=by
 by_cases g:i<l.length
 ·rw [dgt_in g]
  unfold dgsF at h
  rw [Bool.and_eq_true] at h
  have:=List.all_eq_true.1 h.1 _ (List.getElem_mem g)
  unfold isDig at this
  rw [decide_eq_true_iff] at this
  omega
 ·rw [dgt_out g]
  omega
open Go.Proofs
def pnGo:List Int→Nat→Option Nat
 |[],n=>some n
 |r::l,n=>if 48≤r∧r≤57 then pnGo l ((n*10%4294967296+(r - 48).toNat)%4294967296) else none
def padN:Nat→Nat→Nat
 |0,n=>n
 |k+1,n=>padN k (n*10%4294967296)
def pnF (l:List Int) (most:Nat):Nat×Bool:=
 match pnGo l 0 with
 |none=>(0,false)
 |some n=>if l=[]∨most<l.length then (0,false) else (padN (most - l.length) n,true)
def pnEnd (e:Bool) (n:Option Nat) (m:Int):Nat×Bool:=
 match n with
 |none=>(0,false)
 |some n=>if e=true∨m<0 then (0,false) else (padN m.toNat n,true)
theorem pnumber_spec (s:List UInt8) (hl:s.length≤1000000) (most:Nat) (hm:most≤1000000):
  Sp Tryz.prog gl 78 [.str s,i6 most] (.tup [.int .u32 (pnF (runesL s 0) most).1,.bool (pnF (runesL s 0) most).2]):=by
 refine s78 rfl rfl ?_
 obtain ⟨R,hR⟩: ∃R,R=pnF (runesL s 0) most:=⟨_,rfl⟩
 rw [←hR]
 have hR2:pnEnd (s==[]) (pnGo (runesL s 0) 0) ((most:Int) - (runesL s 0).length)=R:=by
  rw [hR]
  unfold pnF pnEnd
  cases pnGo (runesL s 0) 0 with
  |none=>rfl
  |some n=>
   dsimp only
   have e1:(s==[])=true↔runesL s 0=[]:=by
    rw [beq_iff_eq]
    constructor
    ·rintro rfl
     exact runesL_out (by simp)
    ·intro h
     by_cases g:0<s.length
     ·rw [runesL_in g] at h
      cases h
     ·exact List.eq_nil_of_length_eq_zero (by omega)
   have e2:(most:Int) - (runesL s 0).length<0↔most<(runesL s 0).length:=by omega
   have e3:((most:Int) - (runesL s 0).length).toNat=most - (runesL s 0).length:=by omega
   simp only [e1,e2,e3]
 clear hR
 simp -implicitDefEqProofs [c78]
 refine wp_lpk (α:=Nat×Nat×Int) (fun x=>⟨[(0,.str s),(1,i6 x.2.2),(6,.int .u32 x.2.1),(10,.itp 10)],[(.it 10,[.itr s x.1])],[]⟩)
  (fun x=>x.1≤s.length∧x.2.1<4294967296∧(most:Int) - x.1≤x.2.2∧x.2.2≤most∧pnEnd (s==[]) (pnGo (runesL s x.1) x.2.1) (x.2.2 - (runesL s x.1).length)=R) (fun x=>s.length - x.1) ?_ (0,0,(most:Int)) ?_ ?_
 ·rintro K ⟨i,n,m⟩ hK ⟨h1,h2,h3,h4,h5⟩
  simp only at h1 h2 h3 h4 h5
  by_cases g:i<s.length
  ·rw [runesL_in g,pnGo,List.length_cons] at h5
   have sr:=step_rune s i g
   have sl:=stepR_le s i g
   have sp:=stepR_pos s i
   have t1:IntKind.i64.wrap (m - 1)=m - 1:=by rw [wrap_i64]<;>omega
   have fin: ∀n':Nat,n'<4294967296→pnEnd (s==[]) (pnGo (runesL s (i+(stepR s i).2)) n') (m - 1 - (runesL s (i+(stepR s i).2)).length)=R→
     ∀σ',Weak σ' ⟨[(0,.str s),(1,i6 (m - 1)),(6,.int .u32 n'),(10,.itp 10)],[(.it 10,[.itr s (i+(stepR s i).2)])],[]⟩→K σ':=
    fun n' a1 a2 σ' hσ=>hK (i+(stepR s i).2,n',m - 1) σ' ⟨sl,a1,by simp only;omega,by simp only;omega,a2⟩ (by simp only;omega) hσ
   rw [show m - ((runesL s (i+(stepR s i).2)).length+1:Nat)=m - 1 - (runesL s (i+(stepR s i).2)).length by omega] at h5
   clear hK hR2
   by_cases hb:(stepR s i).1= -1
   ·rw [if_pos hb] at sr
    rw [hb,if_neg (by omega)] at h5
    have h5':R=(0,false):=by rw [←h5];rfl
    subst h5'
    clear sl sp fin h5
    simp -implicitDefEqProofs [g,sr]
   ·rw [if_neg hb] at sr
    have esr:(stepR s i)=((stepR s i).1,(stepR s i).2):=rfl
    rw [esr] at sr
    clear esr hb sl sp
    generalize (stepR s i).1=r at *
    generalize (stepR s i).2=w at *
    by_cases d1:48≤r
    ·by_cases d2:r≤57
     ·rw [if_pos ⟨d1,d2⟩] at h5
      have f:=fin _ (Nat.mod_lt _ (by decide)) h5
      clear fin h5
      have d1': ¬r<48:=by omega
      have d2': ¬57<r:=by omega
      have w1:IntKind.i32.wrap (r - 48)=r - 48:=by rw [wrap_i32']<;>omega
      have w2:IntKind.u32.wrap (r - 48)=r - 48:=by rw [wrap_u32]<;>omega
      have w3:IntKind.u32.wrap (IntKind.u32.wrap ((n:Int)*10)+(r - 48))=(((n*10%4294967296+(r - 48).toNat)%4294967296:Nat):Int):=by
       rw [wrap_u32m,wrap_u32m]
       omega
      generalize (n*10%4294967296+(r - 48).toNat)%4294967296=n' at *
      simp -implicitDefEqProofs [g,sr,d1',d2',w1,w2,w3]
      refine f _ ?_
      refine weak_mk ?_ ?_ ?_ ?_ ?_ ?_<;>simp -implicitDefEqProofs [t1,w1,w2,w3]
     ·rw [if_neg (by omega)] at h5
      have h5':R=(0,false):=by rw [←h5];rfl
      subst h5'
      have d1': ¬r<48:=by omega
      have d2':57<r:=by omega
      clear fin h5
      simp -implicitDefEqProofs [g,sr,d1',d2']
    ·rw [if_neg (by omega)] at h5
     have h5':R=(0,false):=by rw [←h5];rfl
     subst h5'
     have d1':r<48:=by omega
     clear fin h5
     simp -implicitDefEqProofs [g,sr,d1']
  ·rw [runesL_out g,pnGo] at h5
   clear hK hR2
   have lb:((([]:List Int).length:Nat):Int)=0:=rfl
   rw [lb,Int.sub_zero] at h5
   unfold pnEnd at h5
   dsimp only at h5
   by_cases e:s=[]
   ·subst e
    rw [if_pos (Or.inl (show (([]:List UInt8)==[])=true from rfl))] at h5
    subst h5
    simp -implicitDefEqProofs [g]
   have en:(s==[])=false:=beq_eq_false_iff_ne.2 e
   by_cases mn:m<0
   ·rw [if_pos (Or.inr mn)] at h5
    subst h5
    simp -implicitDefEqProofs [g,e,en,mn]
   rw [if_neg (by rw [en];rintro (h|h);cases h;exact mn h)] at h5
   simp -implicitDefEqProofs [g,e,en,mn]
   obtain ⟨M,rfl⟩: ∃M:Nat,m=M:=⟨m.toNat,by omega⟩
   rw [Int.toNat_natCast] at h5
   refine wp_lpk (α:=Nat×Nat) (fun x=>⟨[(1,i6 x.1),(6,.int .u32 x.2)],[],[]⟩) (fun x=>x.1≤M∧x.2<4294967296∧(padN x.1 x.2,true)=R) (fun x=>x.1) ?_ (M,n) ?_ ?_
   ·rintro K ⟨k,q⟩ hK ⟨k1,k2,k3⟩
    simp only at k1 k2 k3
    cases k with
    |zero=>
     rw [padN] at k3
     subst k3
     clear hK
     simp -implicitDefEqProofs
    |succ k=>
     rw [padN] at k3
     have t1:IntKind.i64.wrap (((k+1:Nat):Int) - 1)=k:=by rw [wrap_i64]<;>omega
     have w3:IntKind.u32.wrap ((q:Int)*10)=((q*10%4294967296:Nat):Int):=by
      rw [wrap_u32m]
      omega
     have f:=fun σ' hσ=>hK (k,q*10%4294967296) σ' ⟨by simp only;omega,Nat.mod_lt _ (by decide),k3⟩ (by simp only;omega) hσ
     have k0:(0:Int)<((k+1:Nat):Int):=by omega
     clear hK k3
     generalize q*10%4294967296=q' at *
     generalize hkk:((k+1:Nat):Int)=kk at *
     simp -implicitDefEqProofs [k0,w3]
     refine f _ ?_
     refine weak_mk ?_ ?_ ?_ ?_ ?_ ?_<;>simp -implicitDefEqProofs [t1,w3]
   ·exact ⟨Nat.le_refl _,h2,h5⟩
   ·refine weak_mk ?_ ?_ ?_ ?_ ?_ ?_<;>simp -implicitDefEqProofs
 ·exact ⟨Nat.zero_le _,by simp only;omega,by simp only;omega,by simp only;omega,hR2⟩
 ·refine weak_mk ?_ ?_ ?_ ?_ ?_ ?_<;>simp -implicitDefEqProofs
open Go.Proofs
theorem stepR_asc (s:List UInt8) (i:Nat) (h:i<s.length):(s[i].toNat<128∧stepR s i=((s[i].toNat:Int),1))∨(128≤s[i].toNat∧((stepR s i).1<0∨128≤(stepR s i).1)):=by
 by_cases c:s[i].toNat<128
 ·left
  refine ⟨c,?_⟩
  unfold stepR
  simp only [byt_at h]
  rw [if_pos c]
 ·right
  refine ⟨by omega,?_⟩
  by_cases p:(stepR s i).1<0∨128≤(stepR s i).1
  ·exact p
  ·have:=stepR_plain (s:=s) (i:=i) rfl (by omega) (by omega)
   rw [byt_at h] at this
   omega
def pnB:List UInt8→Nat→Option Nat
 |[],n=>some n
 |b::l,n=>if isDig b=true then pnB l ((n*10%4294967296+(b.toNat - 48))%4294967296) else none
theorem isDig_iff (b:UInt8):isDig b=true↔48≤b.toNat∧b.toNat≤57:=by
 unfold isDig
 rw [decide_eq_true_iff]
theorem pnGo_pnB (s:List UInt8): ∀k i n,s.length - i≤k→pnGo (runesL s i) n=pnB (s.drop i) n:=by
 intro k
 induction k with
 |zero=>
  intro i n h
  rw [runesL_out (by omega),List.drop_eq_nil_of_le (by omega)]
  rfl
 |succ k ih=>
  intro i n h
  by_cases g:i<s.length
  ·rw [runesL_in g,List.drop_eq_getElem_cons g,pnGo,pnB]
   rcases stepR_asc s i g with ⟨a,e⟩|⟨a,e⟩
   ·rw [e]
    dsimp only
    by_cases d:48≤s[i].toNat∧s[i].toNat≤57
    ·rw [if_pos (by omega),if_pos ((isDig_iff _).2 d),show ((s[i].toNat:Int) - 48).toNat=s[i].toNat - 48 by omega]
     exact ih _ _ (by omega)
    ·rw [if_neg (by omega),if_neg (fun q=>d ((isDig_iff _).1 q))]
   ·rw [if_neg (by omega),if_neg (fun q=>by have:=(isDig_iff _).1 q;omega)]
  ·rw [runesL_out g,List.drop_eq_nil_of_le (by omega)]
   rfl
theorem pnB_none (s:List UInt8): ∀n,s.all isDig=false→pnB s n=none:=by
 induction s with
 |nil=>intro n h;cases h
 |cons b l ih=>
  intro n h
  rw [pnB]
  rw [List.all_cons] at h
  by_cases c:isDig b=true
  ·rw [if_pos c]
   rw [c,Bool.true_and] at h
   exact ih _ h
  ·rw [if_neg c]
theorem pnB_val (s:List UInt8): ∀n,s.all isDig=true→n<10^(9 - s.length)→s.length≤9→pnB s n=some (s.foldl (fun a b=>10*a+(b.toNat - 48)) n):=by
 induction s with
 |nil=>intro n _ _ _;rfl
 |cons b l ih=>
  intro n h hn hl
  rw [List.all_cons,Bool.and_eq_true] at h
  have d:=(isDig_iff b).1 h.1
  rw [List.length_cons] at hn hl
  have e9:9 - l.length=(9 - (l.length+1))+1:=by omega
  have p:10^(9 - l.length)=10*10^(9 - (l.length+1)):=by rw [e9,Nat.pow_succ,Nat.mul_comm]
  have p9:(10:Nat)^(9 - l.length)≤10^9:=Nat.pow_le_pow_right (by decide) (by omega)
  have v9:(10:Nat)^9=1000000000:=by decide
  rw [v9] at p9
  generalize (10:Nat)^(9 - (l.length+1))=X at *
  rw [pnB,if_pos h.1,List.foldl_cons]
  have e:(n*10%4294967296+(b.toNat - 48))%4294967296=10*n+(b.toNat - 48):=by
   rw [Nat.mod_eq_of_lt (show n*10<4294967296 by omega),Nat.mod_eq_of_lt (by omega)]
   omega
  rw [e]
  exact ih _ h.2 (by omega) (by omega)
theorem pnB_ne (s:List UInt8): ∀n,s.all isDig=true→ ∃v,pnB s n=some v:=by
 induction s with
 |nil=>intro n _;exact ⟨n,rfl⟩
 |cons b l ih=>
  intro n h
  rw [List.all_cons,Bool.and_eq_true] at h
  rw [pnB,if_pos h.1]
  exact ih _ h.2
theorem runesL_digs (s:List UInt8): ∀k i,s.length - i≤k→i≤s.length→(s.drop i).all isDig=true→(runesL s i).length=s.length - i:=by
 intro k
 induction k with
 |zero=>
  intro i h hi _
  rw [runesL_out (by omega),List.length_nil]
  omega
 |succ k ih=>
  intro i h hi hd
  by_cases g:i<s.length
  ·rw [List.drop_eq_getElem_cons g,List.all_cons,Bool.and_eq_true] at hd
   have d:=(isDig_iff _).1 hd.1
   rw [runesL_in g,List.length_cons]
   rcases stepR_asc s i g with ⟨a,e⟩|⟨a,e⟩
   ·rw [e]
    dsimp only
    rw [ih (i+1) (by omega) (by omega) hd.2]
    omega
   ·omega
  ·rw [runesL_out g,List.length_nil]
   omega
theorem runesL_nil (s:List UInt8):runesL s 0=[]↔s=[]:=by
 constructor
 ·intro h
  by_cases g:0<s.length
  ·rw [runesL_in g] at h
   cases h
  ·exact List.eq_nil_of_length_eq_zero (by omega)
 ·rintro rfl
  exact runesL_out (by simp)
theorem padN_eq: ∀(j n:Nat),n*10^j<4294967296→padN j n=n*10^j
 |0,n,_=>by rw [padN];simp
 |j+1,n,h=>by
  have e:n*10^(j+1)=n*10*10^j:=by rw [Nat.pow_succ,Nat.mul_comm (10^j) 10,Nat.mul_assoc]
  rw [e] at h ⊢
  have q:1≤10^j:=Nat.pos_of_ne_zero (by simp)
  have:n*10≤n*10*10^j:=Nat.le_mul_of_pos_right _ q
  rw [padN,Nat.mod_eq_of_lt (by omega),padN_eq j (n*10) h]
theorem pnF_bad (s:List UInt8) (m:Nat) (h:s.all isDig=false∨s=[]∨m<s.length):pnF (runesL s 0) m=(0,false):=by
 unfold pnF
 rw [pnGo_pnB s s.length 0 0 (by omega),List.drop_zero]
 cases hd:s.all isDig
 ·rw [pnB_none s 0 hd]
 ·obtain ⟨v,hv⟩:=pnB_ne s 0 hd
  rw [hv]
  dsimp only
  rw [if_pos]
  rcases h with h|h|h
  ·rw [hd] at h;cases h
  ·exact .inl ((runesL_nil s).2 h)
  ·right
   rw [runesL_digs s s.length 0 (by omega) (by omega) hd]
   exact h
theorem pnF_ok (s:List UInt8) (m:Nat) (h1:s.all isDig=true) (h2:s≠[]) (h3:s.length≤m) (h4:m≤9):pnF (runesL s 0) m=(undec s*10^(m - s.length),true):=by
 unfold pnF
 rw [pnGo_pnB s s.length 0 0 (by omega),List.drop_zero,pnB_val s 0 h1 (Nat.pos_of_ne_zero (by simp)) (by omega)]
 dsimp only
 have rd:=runesL_digs s s.length 0 (by omega) (by omega) h1
 rw [if_neg (by rintro (h|h);exact h2 ((runesL_nil s).1 h);omega),rd,Nat.sub_zero]
 have hu:=undec_lt s h1
 have e:undec s=s.foldl (fun a b=>10*a+(b.toNat - 48)) 0:=rfl
 rw [←e]
 have b:undec s*10^(m - s.length)<4294967296:=by
  have h5:undec s*10^(m - s.length)<10^s.length*10^(m - s.length):=Nat.mul_lt_mul_of_pos_right hu (Nat.pos_of_ne_zero (by simp))
  rw [←Nat.pow_add,show s.length+(m - s.length)=m by omega] at h5
  have h6:(10:Nat)^m≤10^9:=Nat.pow_le_pow_right (by decide) h4
  have v9:(10:Nat)^9=1000000000:=by decide
  omega
 rw [padN_eq _ _ b]
end Go.Ai
namespace Go.Ai
open Go.Proofs Go.Shelf
def ren_laysTrim:Ren:={
 f:=fun x=>match x with
  |160=>54
  |232=>67
  |231=>66
  |227=>68
  |234=>70
  |233=>69
  |236=>72
  |235=>71
  |228=>89
  |271=>92
  |151=>91
  |197=>90
  |120=>113
  |152=>104
  |260=>112
  |137=>124
  |119=>125
  |224=>116
  |225=>115
  |217=>114
  |266=>131
  |n=>n
 t:=fun x=>match x with
  |9=>9
  |4=>4
  |3=>3
  |5=>5
  |117=>100
  |116=>99
  |0=>0
  |124=>103
  |21=>21
  |105=>128
  |46=>148
  |119=>159
  |139=>162
  |138=>161
  |n=>n
 g:=fun x=>match x with
  |3=>1
  |4=>2
  |n=>n}
set_option maxRecDepth 100000 in
theorem laysTrim:Lays.n160 Tryz.prog ren_laysTrim where
 mixed:=by kernel_rfl
 f119:=Eq.trans Tryz.func125 (congrArg some (show Tryz.f125=Body.n119 ren_laysTrim by kernel_rfl))
 f120:=Eq.trans Tryz.func113 (congrArg some (show Tryz.f113=Body.n120 ren_laysTrim by kernel_rfl))
 f137:=Eq.trans Tryz.func124 (congrArg some (show Tryz.f124=Body.n137 ren_laysTrim by kernel_rfl))
 f151:=Eq.trans Tryz.func91 (congrArg some (show Tryz.f91=Body.n151 ren_laysTrim by kernel_rfl))
 f152:=Eq.trans Tryz.func104 (congrArg some (show Tryz.f104=Body.n152 ren_laysTrim by kernel_rfl))
 f160:=Eq.trans Tryz.func54 (congrArg some (show Tryz.f54=Body.n160 ren_laysTrim by kernel_rfl))
 f197:=Eq.trans Tryz.func90 (congrArg some (show Tryz.f90=Body.n197 ren_laysTrim by kernel_rfl))
 f217:=Eq.trans Tryz.func114 (congrArg some (show Tryz.f114=Body.n217 ren_laysTrim by kernel_rfl))
 f224:=Eq.trans Tryz.func116 (congrArg some (show Tryz.f116=Body.n224 ren_laysTrim by kernel_rfl))
 f225:=Eq.trans Tryz.func115 (congrArg some (show Tryz.f115=Body.n225 ren_laysTrim by kernel_rfl))
 f227:=Eq.trans Tryz.func68 (congrArg some (show Tryz.f68=Body.n227 ren_laysTrim by kernel_rfl))
 f228:=Eq.trans Tryz.func89 (congrArg some (show Tryz.f89=Body.n228 ren_laysTrim by kernel_rfl))
 f231:=Eq.trans Tryz.func66 (congrArg some (show Tryz.f66=Body.n231 ren_laysTrim by kernel_rfl))
 f232:=Eq.trans Tryz.func67 (congrArg some (show Tryz.f67=Body.n232 ren_laysTrim by kernel_rfl))
 f233:=Eq.trans Tryz.func69 (congrArg some (show Tryz.f69=Body.n233 ren_laysTrim by kernel_rfl))
 f234:=Eq.trans Tryz.func70 (congrArg some (show Tryz.f70=Body.n234 ren_laysTrim by kernel_rfl))
 f235:=Eq.trans Tryz.func71 (congrArg some (show Tryz.f71=Body.n235 ren_laysTrim by kernel_rfl))
 f236:=Eq.trans Tryz.func72 (congrArg some (show Tryz.f72=Body.n236 ren_laysTrim by kernel_rfl))
 f260:=Eq.trans Tryz.func112 (congrArg some (show Tryz.f112=Body.n260 ren_laysTrim by kernel_rfl))
 f266:=Eq.trans Tryz.func131 (congrArg some (show Tryz.f131=Body.n266 ren_laysTrim by kernel_rfl))
 f271:=Eq.trans Tryz.func92 (congrArg some (show Tryz.f92=Body.n271 ren_laysTrim by kernel_rfl))
 t0:=Tryz.underlying0
 a0:=Tryz.isAgg0
 z0:=Tryz.sizeOf0
 v0:=Tryz.zeroValue0
 t3:=Tryz.underlying3
 a3:=Tryz.isAgg3
 z3:=Tryz.sizeOf3
 v3:=Tryz.zeroValue3
 t4:=Tryz.underlying4
 a4:=Tryz.isAgg4
 z4:=Tryz.sizeOf4
 v4:=Tryz.zeroValue4
 t5:=Tryz.underlying5
 a5:=Tryz.isAgg5
 z5:=Tryz.sizeOf5
 v5:=Tryz.zeroValue5
 t9:=Tryz.underlying9
 a9:=Tryz.isAgg9
 z9:=Tryz.sizeOf9
 v9:=Tryz.zeroValue9
 t21:=Tryz.underlying21
 a21:=Tryz.isAgg21
 z21:=Tryz.sizeOf21
 v21:=Tryz.zeroValue21
 t46:=Tryz.underlying148
 a46:=Tryz.isAgg148
 z46:=Tryz.sizeOf148
 v46:=Tryz.zeroValue148
 t105:=Tryz.underlying128
 a105:=Tryz.isAgg128
 z105:=Tryz.sizeOf128
 v105:=Tryz.zeroValue128
 t116:=Tryz.underlying99
 a116:=Tryz.isAgg99
 z116:=Tryz.sizeOf99
 t117:=Tryz.underlying100
 a117:=Tryz.isAgg100
 z117:=Tryz.sizeOf100
 v117:=Tryz.zeroValue100
 t119:=Tryz.underlying159
 a119:=Tryz.isAgg159
 z119:=Tryz.sizeOf159
 t124:=Tryz.underlying103
 a124:=Tryz.isAgg103
 z124:=Tryz.sizeOf103
 v124:=Tryz.zeroValue103
 t138:=Tryz.underlying161
 a138:=Tryz.isAgg161
 z138:=Tryz.sizeOf161
 v138:=Tryz.zeroValue161
 t139:=Tryz.underlying162
 a139:=Tryz.isAgg162
 z139:=Tryz.sizeOf162
 v139:=Tryz.zeroValue162
 g3:=by kernel_rfl
 g4:=by kernel_rfl
end Go.Ai
namespace Go.Ai
open Go.Proofs Go.Shelf
def ren_laysValid:Ren:={
 f:=fun x=>match x with
  |196=>127
  |259=>137
  |n=>n
 t:=fun x=>match x with
  |9=>9
  |4=>4
  |3=>3
  |5=>5
  |12=>12
  |119=>159
  |0=>0
  |46=>148
  |139=>162
  |138=>161
  |53=>42
  |n=>n
 g:=fun x=>match x with
  |3=>1
  |4=>2
  |n=>n}
set_option maxRecDepth 100000 in
theorem laysValid:Lays.n196 Tryz.prog ren_laysValid where
 mixed:=by kernel_rfl
 f196:=Eq.trans Tryz.func127 (congrArg some (show Tryz.f127=Body.n196 ren_laysValid by kernel_rfl))
 f259:=Eq.trans Tryz.func137 (congrArg some (show Tryz.f137=Body.n259 ren_laysValid by kernel_rfl))
 t0:=Tryz.underlying0
 a0:=Tryz.isAgg0
 z0:=Tryz.sizeOf0
 v0:=Tryz.zeroValue0
 t3:=Tryz.underlying3
 a3:=Tryz.isAgg3
 z3:=Tryz.sizeOf3
 v3:=Tryz.zeroValue3
 t4:=Tryz.underlying4
 a4:=Tryz.isAgg4
 z4:=Tryz.sizeOf4
 v4:=Tryz.zeroValue4
 t5:=Tryz.underlying5
 a5:=Tryz.isAgg5
 z5:=Tryz.sizeOf5
 v5:=Tryz.zeroValue5
 t9:=Tryz.underlying9
 a9:=Tryz.isAgg9
 z9:=Tryz.sizeOf9
 v9:=Tryz.zeroValue9
 t12:=Tryz.underlying12
 a12:=Tryz.isAgg12
 z12:=Tryz.sizeOf12
 v12:=Tryz.zeroValue12
 t46:=Tryz.underlying148
 a46:=Tryz.isAgg148
 z46:=Tryz.sizeOf148
 v46:=Tryz.zeroValue148
 t53:=Tryz.underlying42
 a53:=Tryz.isAgg42
 z53:=Tryz.sizeOf42
 v53:=Tryz.zeroValue42
 t119:=Tryz.underlying159
 a119:=Tryz.isAgg159
 z119:=Tryz.sizeOf159
 t138:=Tryz.underlying161
 a138:=Tryz.isAgg161
 z138:=Tryz.sizeOf161
 v138:=Tryz.zeroValue161
 t139:=Tryz.underlying162
 a139:=Tryz.isAgg162
 z139:=Tryz.sizeOf162
 v139:=Tryz.zeroValue162
 g3:=by kernel_rfl
 g4:=by kernel_rfl
def ren_laysCutP:Ren:={
 f:=fun x=>match x with
  |103=>106
  |210=>126
  |206=>136
  |n=>n
 t:=fun x=>match x with
  |9=>9
  |4=>4
  |24=>104
  |3=>3
  |n=>n
 g:=fun x=>x}
set_option maxRecDepth 100000 in
theorem laysCutP:Lays.n103 Tryz.prog ren_laysCutP where
 mixed:=by kernel_rfl
 f103:=Eq.trans Tryz.func106 (congrArg some (show Tryz.f106=Body.n103 ren_laysCutP by kernel_rfl))
 f206:=Eq.trans Tryz.func136 (congrArg some (show Tryz.f136=Body.n206 ren_laysCutP by kernel_rfl))
 f210:=Eq.trans Tryz.func126 (congrArg some (show Tryz.f126=Body.n210 ren_laysCutP by kernel_rfl))
 t3:=Tryz.underlying3
 a3:=Tryz.isAgg3
 z3:=Tryz.sizeOf3
 v3:=Tryz.zeroValue3
 t4:=Tryz.underlying4
 a4:=Tryz.isAgg4
 z4:=Tryz.sizeOf4
 v4:=Tryz.zeroValue4
 t9:=Tryz.underlying9
 a9:=Tryz.isAgg9
 z9:=Tryz.sizeOf9
 v9:=Tryz.zeroValue9
 t24:=Tryz.underlying104
 a24:=Tryz.isAgg104
 z24:=Tryz.sizeOf104
 v24:=Tryz.zeroValue104
structure BldLays (P:Program) (ρ:Ren):Prop where
 mixed:P.follows .mixedOrders=true
 f240:P.funcs[ρ.f 240]?=some (Body.n240 ρ)
 f276:P.funcs[ρ.f 276]?=some (Body.n276 ρ)
 t0:P.underlying (ρ.t 0)=some (TypeDesc.tuple #[])
 a0: ∀w,(isAgg (ρ.t 0)).run P w= .ok false w
 z0: ∀w,(Go.sizeOf (ρ.t 0)).run P w= .ok 1 w
 v0: ∀w,(zeroValue (ρ.t 0)).run P w= .ok (Value.tuple #[]) w
 t3:P.underlying (ρ.t 3)=some (TypeDesc.int IntKind.i64)
 a3: ∀w,(isAgg (ρ.t 3)).run P w= .ok false w
 z3: ∀w,(Go.sizeOf (ρ.t 3)).run P w= .ok 1 w
 v3: ∀w,(zeroValue (ρ.t 3)).run P w= .ok (Value.int IntKind.i64 0) w
 t4:P.underlying (ρ.t 4)=some (TypeDesc.bool)
 a4: ∀w,(isAgg (ρ.t 4)).run P w= .ok false w
 z4: ∀w,(Go.sizeOf (ρ.t 4)).run P w= .ok 1 w
 v4: ∀w,(zeroValue (ρ.t 4)).run P w= .ok (Value.bool false) w
 t9:P.underlying (ρ.t 9)=some (TypeDesc.string)
 a9: ∀w,(isAgg (ρ.t 9)).run P w= .ok false w
 z9: ∀w,(Go.sizeOf (ρ.t 9)).run P w= .ok 1 w
 v9: ∀w,(zeroValue (ρ.t 9)).run P w= .ok (Value.string {data:= #[]}) w
 t20:P.underlying (ρ.t 20)=some (TypeDesc.interface #[])
 a20: ∀w,(isAgg (ρ.t 20)).run P w= .ok false w
 z20: ∀w,(Go.sizeOf (ρ.t 20)).run P w= .ok 1 w
 v20: ∀w,(zeroValue (ρ.t 20)).run P w= .ok (Value.nilIface) w
 t37:P.underlying (ρ.t 37)=some (TypeDesc.slice (ρ.t 5))
 a37: ∀w,(isAgg (ρ.t 37)).run P w= .ok false w
 z37: ∀w,(Go.sizeOf (ρ.t 37)).run P w= .ok 1 w
 v37: ∀w,(zeroValue (ρ.t 37)).run P w= .ok (Value.slice none 0 0) w
 t70:P.underlying (ρ.t 70)=some (TypeDesc.pointer (ρ.t 72))
 a70: ∀w,(isAgg (ρ.t 70)).run P w= .ok false w
 z70: ∀w,(Go.sizeOf (ρ.t 70)).run P w= .ok 1 w
 v70: ∀w,(zeroValue (ρ.t 70)).run P w= .ok (Value.pointer none) w
 t72:P.underlying (ρ.t 72)=some (TypeDesc.struct #[{name:= "addr",type:=ρ.t 70,offset:=0,embedded:=false,tag:= "",pkgPath:= "strings",byteOffset:=0},{name:= "buf",type:=ρ.t 37,offset:=1,embedded:=false,tag:= "",pkgPath:= "strings",byteOffset:=8}])
 a72: ∀w,(isAgg (ρ.t 72)).run P w= .ok true w
 z72: ∀w,(Go.sizeOf (ρ.t 72)).run P w= .ok 2 w
 v72: ∀w,(zeroValue (ρ.t 72)).run P w= .ok (Value.agg #[Value.pointer none,Value.slice none 0 0]) w
 t75:P.underlying (ρ.t 75)=some (TypeDesc.interface #[("Error",ρ.t 80)])
 a75: ∀w,(isAgg (ρ.t 75)).run P w= .ok false w
 z75: ∀w,(Go.sizeOf (ρ.t 75)).run P w= .ok 1 w
 v75: ∀w,(zeroValue (ρ.t 75)).run P w= .ok (Value.nilIface) w
 t164:P.underlying (ρ.t 164)=some (TypeDesc.unsafePointer)
 a164: ∀w,(isAgg (ρ.t 164)).run P w= .ok false w
 z164: ∀w,(Go.sizeOf (ρ.t 164)).run P w= .ok 1 w
 v164: ∀w,(zeroValue (ρ.t 164)).run P w= .ok (Value.pointer none) w
 f169:P.funcs[ρ.f 169]?=some (Body.n169 ρ)
 t127:P.underlying (ρ.t 127)=some (TypeDesc.pointer (ρ.t 5))
 a127: ∀w,(isAgg (ρ.t 127)).run P w= .ok false w
 z127: ∀w,(Go.sizeOf (ρ.t 127)).run P w= .ok 1 w
 v127: ∀w,(zeroValue (ρ.t 127)).run P w= .ok (Value.pointer none) w
def ren_laysJoin:Ren:={
 f:=fun x=>match x with
  |169=>109
  |240=>139
  |276=>142
  |n=>n
 t:=fun x=>match x with
  |0=>0
  |3=>3
  |4=>4
  |5=>5
  |9=>9
  |20=>20
  |37=>91
  |70=>141
  |72=>143
  |75=>113
  |76=>156
  |80=>146
  |127=>158
  |164=>175
  |n=>n
 g:=fun x=>x}
set_option maxRecDepth 100000 in
theorem laysJoin:BldLays Tryz.prog ren_laysJoin where
 mixed:=by kernel_rfl
 f240:=Eq.trans Tryz.func139 (congrArg some (show Tryz.f139=Body.n240 ren_laysJoin by kernel_rfl))
 f276:=Eq.trans Tryz.func142 (congrArg some (show Tryz.f142=Body.n276 ren_laysJoin by kernel_rfl))
 t0:=Tryz.underlying0
 a0:=Tryz.isAgg0
 z0:=Tryz.sizeOf0
 v0:=Tryz.zeroValue0
 t3:=Tryz.underlying3
 a3:=Tryz.isAgg3
 z3:=Tryz.sizeOf3
 v3:=Tryz.zeroValue3
 t4:=Tryz.underlying4
 a4:=Tryz.isAgg4
 z4:=Tryz.sizeOf4
 v4:=Tryz.zeroValue4
 t9:=Tryz.underlying9
 a9:=Tryz.isAgg9
 z9:=Tryz.sizeOf9
 v9:=Tryz.zeroValue9
 t20:=Tryz.underlying20
 a20:=Tryz.isAgg20
 z20:=Tryz.sizeOf20
 v20:=Tryz.zeroValue20
 t37:=Tryz.underlying91
 a37:=Tryz.isAgg91
 z37:=Tryz.sizeOf91
 v37:=Tryz.zeroValue91
 t70:=Tryz.underlying141
 a70:=Tryz.isAgg141
 z70:=Tryz.sizeOf141
 v70:=Tryz.zeroValue141
 t72:=Tryz.underlying143
 a72:=Tryz.isAgg143
 z72:=Tryz.sizeOf143
 v72:=Tryz.zeroValue143
 t75:=Tryz.underlying113
 a75:=Tryz.isAgg113
 z75:=Tryz.sizeOf113
 v75:=Tryz.zeroValue113
 t164:=Tryz.underlying175
 a164:=Tryz.isAgg175
 z164:=Tryz.sizeOf175
 v164:=Tryz.zeroValue175
 f169:=Eq.trans Tryz.func109 (congrArg some (show Tryz.f109=Body.n169 ren_laysJoin by kernel_rfl))
 t127:=Tryz.underlying158
 a127:=Tryz.isAgg158
 z127:=Tryz.sizeOf158
 v127:=Tryz.zeroValue158
end Go.Ai
