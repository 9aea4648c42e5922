/- P5: a part of the proof: the rules, or what functions compute. Conditions: as each theorem says. -/
import Derived.Test.YtggemlhclppciaaGreatDoorP4
import Derived.Test.YtggemlhclppciaaGreatDoorP3
import Derived.Test.YtggemlhclppciaaGreatDoorCode
import Derived.Test.YtggemlhclppciaaGreatDoorLib10
import Derived.Shelf.Strings.BuilderK
import Derived.Shelf.Strings.SlTrimAscii
import Derived.Shelf.Lays
import Derived.Shelf.LaysM
import Derived.Shelf.Small.Wraps
import Derived.Shelf.Strings.BuilderX
import Derived.Shelf.Strings.SplitCore
import Derived.Shelf.Unicode.ValidAny
import Derived.Test.YtggemlhclppciaaGreatDoorP1
import Derived.Shelf.Strings.Fields
import Derived.Shelf.Strings.Search2
import Derived.Test.YtggemlhclppciaaGreatDoorLib6
import Derived.Lib.SplitLaws
import Derived.Lib.IndexBytes
set_option linter.unusedSimpArgs false
set_option linter.unusedVariables false
set_option maxRecDepth 20000
namespace Go.Ai
open Go.Proofs
def sufB (s t:List UInt8):Bool:=decide (t.length≤s.length)&&(s.drop (s.length - t.length)==t)
theorem hasSuf_spec (s t:List UInt8) (hl:s.length≤1000000) (ht:t.length≤1000000):Sp Tryz.prog gl 186 [.str s,.str t] (.bool (sufB s t)):=by
 refine s186 rfl rfl ?_
 unfold sufB
 by_cases g:t.length≤s.length
 ·have g':(t.length:Int)≤s.length:=by omega
  have w:IntKind.i64.wrap ((s.length:Int) - (t.length:Int))=(s.length - t.length:Nat):=by rw [wrap_i64]<;>omega
  have gm:s.length - t.length≤s.length:=Nat.sub_le _ _
  rw [decide_eq_true g,Bool.true_and]
  generalize s.length - t.length=m at *
  simp -implicitDefEqProofs [c186,g,g',w,gm]
 ·have g': ¬(t.length:Int)≤s.length:=by omega
  rw [decide_eq_false g,Bool.false_and]
  simp -implicitDefEqProofs [c186,g,g']
theorem hasSufP_spec (s t:List UInt8) (hl:s.length≤1000000) (ht:t.length≤1000000):Sp Tryz.prog gl 145 [.str s,.str t] (.bool (sufB s t)):=by
 refine s145 rfl rfl ?_
 have H:=hasSuf_spec s t hl ht
 generalize sufB s t=b at *
 simp -implicitDefEqProofs [c145]
 refine onC_mk _ (H) ?_
 simp -implicitDefEqProofs
def cutSuf (s t:List UInt8):List UInt8:=if sufB s t=true then s.take (s.length - t.length) else s
theorem cutSufL_spec (s t:List UInt8) (hl:s.length≤1000000) (ht:t.length≤1000000):Sp Tryz.prog gl 211 [.str s,.str t] (.tup [.str (cutSuf s t),.bool (sufB s t)]):=by
 refine s211 rfl rfl ?_
 have H:=hasSuf_spec s t hl ht
 have k:sufB s t=true→t.length≤s.length:=fun h=>by
  unfold sufB at h
  rw [Bool.and_eq_true,decide_eq_true_iff] at h
  exact h.1
 unfold cutSuf
 have w:t.length≤s.length→IntKind.i64.wrap ((s.length:Int) - (t.length:Int))=(s.length - t.length:Nat):=fun h=>by rw [wrap_i64]<;>omega
 have gm:s.length - t.length≤s.length:=Nat.sub_le _ _
 cases hb:sufB s t
 ·rw [hb] at H
  simp -implicitDefEqProofs [c211]
  refine onC_mk _ (H) ?_
  simp -implicitDefEqProofs
 ·rw [hb] at H
  have w':=w (k hb)
  generalize s.length - t.length=m at *
  simp -implicitDefEqProofs [c211]
  refine onC_mk _ (H) ?_
  simp -implicitDefEqProofs [w',gm]
theorem cutSuf_spec (s t:List UInt8) (hl:s.length≤1000000) (ht:t.length≤1000000):Sp Tryz.prog gl 187 [.str s,.str t] (.tup [.str (cutSuf s t),.bool (sufB s t)]):=by
 refine s187 rfl rfl ?_
 have H:=cutSufL_spec s t hl ht
 generalize cutSuf s t=a at *
 generalize sufB s t=b at *
 simp -implicitDefEqProofs [c187]
 refine onC_mk _ (H) ?_
 simp -implicitDefEqProofs
open Go.Proofs
theorem rcount_spec (s:List UInt8) (hl:s.length≤1000000):Sp Tryz.prog gl 213 [.str s] (i6 (runesL s 0).length):=by
 refine s213 rfl rfl ?_
 obtain ⟨R,hR⟩: ∃R,R=(runesL s 0).length:=⟨_,rfl⟩
 rw [←hR]
 simp -implicitDefEqProofs [c213]
 refine wp_lpk (α:=Nat×Nat) (fun x=>⟨[(2,i6 x.2),(4,.itp 4)],[(.it 4,[.itr s x.1])],[]⟩)
  (fun x=>x.2≤x.1∧x.1≤s.length∧x.2+(runesL s x.1).length=R) (fun x=>s.length - x.1) ?_ (0,0) ?_ ?_
 ·rintro K ⟨i,n⟩ hK ⟨h1,h2,h3⟩
  simp only at h1 h2 h3
  by_cases g:i<s.length
  ·rw [runesL_in g,List.length_cons] at h3
   have sr:=step_rune s i g
   have sl:=stepR_le s i g
   have sp:=stepR_pos s i
   have t1:IntKind.i64.wrap ((n:Int)+1)=(n+1:Nat):=by rw [wrap_i64]<;>omega
   have fin: ∀σ',Weak σ' ⟨[(2,i6 (n+1:Nat)),(4,.itp 4)],[(.it 4,[.itr s (i+(stepR s i).2)])],[]⟩→K σ':=
    fun σ' hσ=>hK (i+(stepR s i).2,n+1) σ' ⟨by simp only;omega,sl,by simp only;omega⟩ (by simp only;omega) hσ
   clear hK hR h3
   by_cases hb:(stepR s i).1= -1
   ·rw [if_pos hb] at sr
    rw [stepR_oneA s i hb] at fin
    clear sl sp
    simp -implicitDefEqProofs [g,sr]
    refine fin _ ?_
    refine weak_mk ?_ ?_ ?_ ?_ ?_ ?_<;>simp -implicitDefEqProofs [t1]
   ·rw [if_neg hb] at sr
    have esr:(stepR s i)=((stepR s i).1,(stepR s i).2):=rfl
    rw [esr] at sr
    clear esr hb sl sp
    generalize (stepR s i).1=r at *
    generalize (stepR s i).2=w at *
    simp -implicitDefEqProofs [g,sr]
    refine fin _ ?_
    refine weak_mk ?_ ?_ ?_ ?_ ?_ ?_<;>simp -implicitDefEqProofs [t1]
  ·rw [runesL_out g] at h3
   have h3':n=R:=by simpa using h3
   subst h3'
   clear hK
   simp -implicitDefEqProofs [g]
 ·exact ⟨Nat.le_refl _,Nat.zero_le _,by simp only;omega⟩
 ·refine weak_mk ?_ ?_ ?_ ?_ ?_ ?_<;>simp -implicitDefEqProofs
open Go.Proofs
def dgt (l:List UInt8) (i:Nat):Nat:=match l[i]? with |some b=>b.toNat - 48|none=>0
def frU (l:List UInt8):Nat→Nat
 |0=>0
 |i+1=>10*frU l i+dgt l i
def facF (hd tail:List UInt8):Nat×Int:=
 if dgsF tail=false∨3<tail.length then (0,5)
 else if (numF hd).2≠0 then (0,(numF hd).2)
 else if (18446744073709551615 - frU tail 3) / 1000<(numF hd).1 then (0,8)
 else (1000*(numF hd).1+frU tail 3,0)
theorem numF_lt (s:List UInt8):(numF s).1<18446744073709551616:=by
 unfold numF
 repeat' split
 all_goals first|assumption|omega
theorem dgt_in {l:List UInt8} {i:Nat} (h:i<l.length):dgt l i=l[i].toNat - 48:=by
 unfold dgt
 rw [List.getElem?_eq_getElem h]
theorem dgt_out {l:List UInt8} {i:Nat} (h: ¬i<l.length):dgt l i=0:=by
 unfold dgt
 rw [List.getElem?_eq_none (by omega)]
theorem frU_lt (l:List UInt8) (h: ∀i,dgt l i≤9): ∀i,frU l i<10^i
 |0=>Nat.one_pos
 |i+1=>by
  have h1:=frU_lt l h i
  have h2:=h i
  rw [frU,Nat.pow_succ]
  omega
theorem dgs_dgt {l:List UInt8} (h:dgsF l=true) (i:Nat):dgt l i≤9:=by
 by_cases g:i<l.length
 ·rw [dgt_in g]
  unfold dgsF at h
  rw [Bool.and_eq_true] at h
  have:=List.all_eq_true.1 h.1 _ (List.getElem_mem g)
  unfold isDig at this
  rw [decide_eq_true_iff] at this
  omega
 ·rw [dgt_out g]
  omega
open Go.Proofs
def pnGo:List Int→Nat→Option Nat
 |[],n=>some n
 |r::l,n=>if 48≤r∧r≤57 then pnGo l ((n*10%4294967296+(r - 48).toNat)%4294967296) else none
def padN:Nat→Nat→Nat
 |0,n=>n
 |k+1,n=>padN k (n*10%4294967296)
def pnF (l:List Int) (most:Nat):Nat×Bool:=
 match pnGo l 0 with
 |none=>(0,false)
 |some n=>if l=[]∨most<l.length then (0,false) else (padN (most - l.length) n,true)
def pnEnd (e:Bool) (n:Option Nat) (m:Int):Nat×Bool:=
 match n with
 |none=>(0,false)
 |some n=>if e=true∨m<0 then (0,false) else (padN m.toNat n,true)
theorem pnumber_spec (s:List UInt8) (hl:s.length≤1000000) (most:Nat) (hm:most≤1000000):
  Sp Tryz.prog gl 190 [.str s,i6 most] (.tup [.int .u32 (pnF (runesL s 0) most).1,.bool (pnF (runesL s 0) most).2]):=by
 refine s190 rfl rfl ?_
 obtain ⟨R,hR⟩: ∃R,R=pnF (runesL s 0) most:=⟨_,rfl⟩
 rw [←hR]
 have hR2:pnEnd (s==[]) (pnGo (runesL s 0) 0) ((most:Int) - (runesL s 0).length)=R:=by
  rw [hR]
  unfold pnF pnEnd
  cases pnGo (runesL s 0) 0 with
  |none=>rfl
  |some n=>
   dsimp only
   have e1:(s==[])=true↔runesL s 0=[]:=by
    rw [beq_iff_eq]
    constructor
    ·rintro rfl
     exact runesL_out (by simp)
    ·intro h
     by_cases g:0<s.length
     ·rw [runesL_in g] at h
      cases h
     ·exact List.eq_nil_of_length_eq_zero (by omega)
   have e2:(most:Int) - (runesL s 0).length<0↔most<(runesL s 0).length:=by omega
   have e3:((most:Int) - (runesL s 0).length).toNat=most - (runesL s 0).length:=by omega
   simp only [e1,e2,e3]
 clear hR
 simp -implicitDefEqProofs [c190]
 refine wp_lpk (α:=Nat×Nat×Int) (fun x=>⟨[(0,.str s),(1,i6 x.2.2),(6,.int .u32 x.2.1),(10,.itp 10)],[(.it 10,[.itr s x.1])],[]⟩)
  (fun x=>x.1≤s.length∧x.2.1<4294967296∧(most:Int) - x.1≤x.2.2∧x.2.2≤most∧pnEnd (s==[]) (pnGo (runesL s x.1) x.2.1) (x.2.2 - (runesL s x.1).length)=R) (fun x=>s.length - x.1) ?_ (0,0,(most:Int)) ?_ ?_
 ·rintro K ⟨i,n,m⟩ hK ⟨h1,h2,h3,h4,h5⟩
  simp only at h1 h2 h3 h4 h5
  by_cases g:i<s.length
  ·rw [runesL_in g,pnGo,List.length_cons] at h5
   have sr:=step_rune s i g
   have sl:=stepR_le s i g
   have sp:=stepR_pos s i
   have t1:IntKind.i64.wrap (m - 1)=m - 1:=by rw [wrap_i64]<;>omega
   have fin: ∀n':Nat,n'<4294967296→pnEnd (s==[]) (pnGo (runesL s (i+(stepR s i).2)) n') (m - 1 - (runesL s (i+(stepR s i).2)).length)=R→
     ∀σ',Weak σ' ⟨[(0,.str s),(1,i6 (m - 1)),(6,.int .u32 n'),(10,.itp 10)],[(.it 10,[.itr s (i+(stepR s i).2)])],[]⟩→K σ':=
    fun n' a1 a2 σ' hσ=>hK (i+(stepR s i).2,n',m - 1) σ' ⟨sl,a1,by simp only;omega,by simp only;omega,a2⟩ (by simp only;omega) hσ
   rw [show m - ((runesL s (i+(stepR s i).2)).length+1:Nat)=m - 1 - (runesL s (i+(stepR s i).2)).length by omega] at h5
   clear hK hR2
   by_cases hb:(stepR s i).1= -1
   ·rw [if_pos hb] at sr
    rw [hb,if_neg (by omega)] at h5
    have h5':R=(0,false):=by rw [←h5];rfl
    subst h5'
    clear sl sp fin h5
    simp -implicitDefEqProofs [g,sr]
   ·rw [if_neg hb] at sr
    have esr:(stepR s i)=((stepR s i).1,(stepR s i).2):=rfl
    rw [esr] at sr
    clear esr hb sl sp
    generalize (stepR s i).1=r at *
    generalize (stepR s i).2=w at *
    by_cases d1:48≤r
    ·by_cases d2:r≤57
     ·rw [if_pos ⟨d1,d2⟩] at h5
      have f:=fin _ (Nat.mod_lt _ (by decide)) h5
      clear fin h5
      have d1': ¬r<48:=by omega
      have d2': ¬57<r:=by omega
      have w1:IntKind.i32.wrap (r - 48)=r - 48:=by rw [wrap_i32']<;>omega
      have w2:IntKind.u32.wrap (r - 48)=r - 48:=by rw [wrap_u32]<;>omega
      have w3:IntKind.u32.wrap (IntKind.u32.wrap ((n:Int)*10)+(r - 48))=(((n*10%4294967296+(r - 48).toNat)%4294967296:Nat):Int):=by
       rw [wrap_u32m,wrap_u32m]
       omega
      generalize (n*10%4294967296+(r - 48).toNat)%4294967296=n' at *
      simp -implicitDefEqProofs [g,sr,d1',d2',w1,w2,w3]
      refine f _ ?_
      refine weak_mk ?_ ?_ ?_ ?_ ?_ ?_<;>simp -implicitDefEqProofs [t1,w1,w2,w3]
     ·rw [if_neg (by omega)] at h5
      have h5':R=(0,false):=by rw [←h5];rfl
      subst h5'
      have d1': ¬r<48:=by omega
      have d2':57<r:=by omega
      clear fin h5
      simp -implicitDefEqProofs [g,sr,d1',d2']
    ·rw [if_neg (by omega)] at h5
     have h5':R=(0,false):=by rw [←h5];rfl
     subst h5'
     have d1':r<48:=by omega
     clear fin h5
     simp -implicitDefEqProofs [g,sr,d1']
  ·rw [runesL_out g,pnGo] at h5
   clear hK hR2
   have lb:((([]:List Int).length:Nat):Int)=0:=rfl
   rw [lb,Int.sub_zero] at h5
   unfold pnEnd at h5
   dsimp only at h5
   by_cases e:s=[]
   ·subst e
    rw [if_pos (Or.inl (show (([]:List UInt8)==[])=true from rfl))] at h5
    subst h5
    simp -implicitDefEqProofs [g]
   have en:(s==[])=false:=beq_eq_false_iff_ne.2 e
   by_cases mn:m<0
   ·rw [if_pos (Or.inr mn)] at h5
    subst h5
    simp -implicitDefEqProofs [g,e,en,mn]
   rw [if_neg (by rw [en];rintro (h|h);cases h;exact mn h)] at h5
   simp -implicitDefEqProofs [g,e,en,mn]
   obtain ⟨M,rfl⟩: ∃M:Nat,m=M:=⟨m.toNat,by omega⟩
   rw [Int.toNat_natCast] at h5
   refine wp_lpk (α:=Nat×Nat) (fun x=>⟨[(1,i6 x.1),(6,.int .u32 x.2)],[],[]⟩) (fun x=>x.1≤M∧x.2<4294967296∧(padN x.1 x.2,true)=R) (fun x=>x.1) ?_ (M,n) ?_ ?_
   ·rintro K ⟨k,q⟩ hK ⟨k1,k2,k3⟩
    simp only at k1 k2 k3
    cases k with
    |zero=>
     rw [padN] at k3
     subst k3
     clear hK
     simp -implicitDefEqProofs
    |succ k=>
     rw [padN] at k3
     have t1:IntKind.i64.wrap (((k+1:Nat):Int) - 1)=k:=by rw [wrap_i64]<;>omega
     have w3:IntKind.u32.wrap ((q:Int)*10)=((q*10%4294967296:Nat):Int):=by
      rw [wrap_u32m]
      omega
     have f:=fun σ' hσ=>hK (k,q*10%4294967296) σ' ⟨by simp only;omega,Nat.mod_lt _ (by decide),k3⟩ (by simp only;omega) hσ
     have k0:(0:Int)<((k+1:Nat):Int):=by omega
     clear hK k3
     generalize q*10%4294967296=q' at *
     generalize hkk:((k+1:Nat):Int)=kk at *
     simp -implicitDefEqProofs [k0,w3]
     refine f _ ?_
     refine weak_mk ?_ ?_ ?_ ?_ ?_ ?_<;>simp -implicitDefEqProofs [t1,w3]
   ·exact ⟨Nat.le_refl _,h2,h5⟩
   ·refine weak_mk ?_ ?_ ?_ ?_ ?_ ?_<;>simp -implicitDefEqProofs
 ·exact ⟨Nat.zero_le _,by simp only;omega,by simp only;omega,by simp only;omega,hR2⟩
 ·refine weak_mk ?_ ?_ ?_ ?_ ?_ ?_<;>simp -implicitDefEqProofs
open Go.Proofs
theorem stepR_asc (s:List UInt8) (i:Nat) (h:i<s.length):(s[i].toNat<128∧stepR s i=((s[i].toNat:Int),1))∨(128≤s[i].toNat∧((stepR s i).1<0∨128≤(stepR s i).1)):=by
 by_cases c:s[i].toNat<128
 ·left
  refine ⟨c,?_⟩
  unfold stepR
  simp only [byt_at h]
  rw [if_pos c]
 ·right
  refine ⟨by omega,?_⟩
  by_cases p:(stepR s i).1<0∨128≤(stepR s i).1
  ·exact p
  ·have:=stepR_plain (s:=s) (i:=i) rfl (by omega) (by omega)
   rw [byt_at h] at this
   omega
theorem isDig_iff (b:UInt8):isDig b=true↔48≤b.toNat∧b.toNat≤57:=by
 unfold isDig
 rw [decide_eq_true_iff]
end Go.Ai
namespace Go.Ai
open Go.Proofs Go.Shelf
def ren_laysTrim:Ren:={
 f:=fun x=>match x with
  |160=>142
  |232=>169
  |231=>182
  |227=>170
  |234=>171
  |233=>183
  |236=>172
  |235=>184
  |228=>204
  |271=>205
  |151=>206
  |197=>208
  |120=>226
  |152=>219
  |260=>227
  |137=>238
  |119=>239
  |224=>230
  |225=>229
  |217=>228
  |266=>243
  |n=>n
 t:=fun x=>match x with
  |9=>9
  |4=>4
  |3=>3
  |5=>5
  |117=>214
  |116=>213
  |0=>0
  |124=>217
  |21=>21
  |105=>249
  |46=>173
  |119=>201
  |139=>204
  |138=>203
  |n=>n
 g:=fun x=>match x with
  |3=>0
  |4=>1
  |n=>n}
set_option maxRecDepth 100000 in
theorem laysTrim:Lays.n160 Tryz.prog ren_laysTrim where
 mixed:=by kernel_rfl
 f119:=Eq.trans Tryz.func239 (congrArg some (show Tryz.f239=Body.n119 ren_laysTrim by kernel_rfl))
 f120:=Eq.trans Tryz.func226 (congrArg some (show Tryz.f226=Body.n120 ren_laysTrim by kernel_rfl))
 f137:=Eq.trans Tryz.func238 (congrArg some (show Tryz.f238=Body.n137 ren_laysTrim by kernel_rfl))
 f151:=Eq.trans Tryz.func206 (congrArg some (show Tryz.f206=Body.n151 ren_laysTrim by kernel_rfl))
 f152:=Eq.trans Tryz.func219 (congrArg some (show Tryz.f219=Body.n152 ren_laysTrim by kernel_rfl))
 f160:=Eq.trans Tryz.func142 (congrArg some (show Tryz.f142=Body.n160 ren_laysTrim by kernel_rfl))
 f197:=Eq.trans Tryz.func208 (congrArg some (show Tryz.f208=Body.n197 ren_laysTrim by kernel_rfl))
 f217:=Eq.trans Tryz.func228 (congrArg some (show Tryz.f228=Body.n217 ren_laysTrim by kernel_rfl))
 f224:=Eq.trans Tryz.func230 (congrArg some (show Tryz.f230=Body.n224 ren_laysTrim by kernel_rfl))
 f225:=Eq.trans Tryz.func229 (congrArg some (show Tryz.f229=Body.n225 ren_laysTrim by kernel_rfl))
 f227:=Eq.trans Tryz.func170 (congrArg some (show Tryz.f170=Body.n227 ren_laysTrim by kernel_rfl))
 f228:=Eq.trans Tryz.func204 (congrArg some (show Tryz.f204=Body.n228 ren_laysTrim by kernel_rfl))
 f231:=Eq.trans Tryz.func182 (congrArg some (show Tryz.f182=Body.n231 ren_laysTrim by kernel_rfl))
 f232:=Eq.trans Tryz.func169 (congrArg some (show Tryz.f169=Body.n232 ren_laysTrim by kernel_rfl))
 f233:=Eq.trans Tryz.func183 (congrArg some (show Tryz.f183=Body.n233 ren_laysTrim by kernel_rfl))
 f234:=Eq.trans Tryz.func171 (congrArg some (show Tryz.f171=Body.n234 ren_laysTrim by kernel_rfl))
 f235:=Eq.trans Tryz.func184 (congrArg some (show Tryz.f184=Body.n235 ren_laysTrim by kernel_rfl))
 f236:=Eq.trans Tryz.func172 (congrArg some (show Tryz.f172=Body.n236 ren_laysTrim by kernel_rfl))
 f260:=Eq.trans Tryz.func227 (congrArg some (show Tryz.f227=Body.n260 ren_laysTrim by kernel_rfl))
 f266:=Eq.trans Tryz.func243 (congrArg some (show Tryz.f243=Body.n266 ren_laysTrim by kernel_rfl))
 f271:=Eq.trans Tryz.func205 (congrArg some (show Tryz.f205=Body.n271 ren_laysTrim by kernel_rfl))
 t0:=Tryz.underlying0
 a0:=Tryz.isAgg0
 z0:=Tryz.sizeOf0
 v0:=Tryz.zeroValue0
 t3:=Tryz.underlying3
 a3:=Tryz.isAgg3
 z3:=Tryz.sizeOf3
 v3:=Tryz.zeroValue3
 t4:=Tryz.underlying4
 a4:=Tryz.isAgg4
 z4:=Tryz.sizeOf4
 v4:=Tryz.zeroValue4
 t5:=Tryz.underlying5
 a5:=Tryz.isAgg5
 z5:=Tryz.sizeOf5
 v5:=Tryz.zeroValue5
 t9:=Tryz.underlying9
 a9:=Tryz.isAgg9
 z9:=Tryz.sizeOf9
 v9:=Tryz.zeroValue9
 t21:=Tryz.underlying21
 a21:=Tryz.isAgg21
 z21:=Tryz.sizeOf21
 v21:=Tryz.zeroValue21
 t46:=Tryz.underlying173
 a46:=Tryz.isAgg173
 z46:=Tryz.sizeOf173
 v46:=Tryz.zeroValue173
 t105:=Tryz.underlying249
 a105:=Tryz.isAgg249
 z105:=Tryz.sizeOf249
 v105:=Tryz.zeroValue249
 t116:=Tryz.underlying213
 a116:=Tryz.isAgg213
 z116:=Tryz.sizeOf213
 t117:=Tryz.underlying214
 a117:=Tryz.isAgg214
 z117:=Tryz.sizeOf214
 v117:=Tryz.zeroValue214
 t119:=Tryz.underlying201
 a119:=Tryz.isAgg201
 z119:=Tryz.sizeOf201
 t124:=Tryz.underlying217
 a124:=Tryz.isAgg217
 z124:=Tryz.sizeOf217
 v124:=Tryz.zeroValue217
 t138:=Tryz.underlying203
 a138:=Tryz.isAgg203
 z138:=Tryz.sizeOf203
 v138:=Tryz.zeroValue203
 t139:=Tryz.underlying204
 a139:=Tryz.isAgg204
 z139:=Tryz.sizeOf204
 v139:=Tryz.zeroValue204
 g3:=by kernel_rfl
 g4:=by kernel_rfl
end Go.Ai
namespace Go.Ai
open Go.Proofs Go.Shelf
def ren_laysJoin:Ren:={
 f:=fun x=>match x with
  |167=>100
  |156=>99
  |165=>136
  |166=>97
  |169=>40
  |240=>133
  |241=>179
  |276=>175
  |277=>207
  |n=>n
 t:=fun x=>match x with
  |31=>104
  |9=>9
  |3=>3
  |4=>4
  |0=>0
  |20=>20
  |72=>69
  |76=>138
  |70=>66
  |37=>67
  |75=>137
  |127=>106
  |164=>218
  |5=>5
  |80=>73
  |n=>n
 g:=fun x=>x}
set_option maxRecDepth 100000 in
theorem laysJoin:Lays.n156 Tryz.prog ren_laysJoin where
 mixed:=by kernel_rfl
 f156:=Eq.trans Tryz.func99 (congrArg some (show Tryz.f99=Body.n156 ren_laysJoin by kernel_rfl))
 f165:=Eq.trans Tryz.func136 (congrArg some (show Tryz.f136=Body.n165 ren_laysJoin by kernel_rfl))
 f166:=Eq.trans Tryz.func97 (congrArg some (show Tryz.f97=Body.n166 ren_laysJoin by kernel_rfl))
 f169:=Eq.trans Tryz.func40 (congrArg some (show Tryz.f40=Body.n169 ren_laysJoin by kernel_rfl))
 f240:=Eq.trans Tryz.func133 (congrArg some (show Tryz.f133=Body.n240 ren_laysJoin by kernel_rfl))
 f241:=Eq.trans Tryz.func179 (congrArg some (show Tryz.f179=Body.n241 ren_laysJoin by kernel_rfl))
 f276:=Eq.trans Tryz.func175 (congrArg some (show Tryz.f175=Body.n276 ren_laysJoin by kernel_rfl))
 f277:=Eq.trans Tryz.func207 (congrArg some (show Tryz.f207=Body.n277 ren_laysJoin by kernel_rfl))
 t0:=Tryz.underlying0
 a0:=Tryz.isAgg0
 z0:=Tryz.sizeOf0
 v0:=Tryz.zeroValue0
 t3:=Tryz.underlying3
 a3:=Tryz.isAgg3
 z3:=Tryz.sizeOf3
 v3:=Tryz.zeroValue3
 t4:=Tryz.underlying4
 a4:=Tryz.isAgg4
 z4:=Tryz.sizeOf4
 v4:=Tryz.zeroValue4
 t9:=Tryz.underlying9
 a9:=Tryz.isAgg9
 z9:=Tryz.sizeOf9
 v9:=Tryz.zeroValue9
 t20:=Tryz.underlying20
 a20:=Tryz.isAgg20
 z20:=Tryz.sizeOf20
 v20:=Tryz.zeroValue20
 t31:=Tryz.underlying104
 a31:=Tryz.isAgg104
 z31:=Tryz.sizeOf104
 v31:=Tryz.zeroValue104
 t37:=Tryz.underlying67
 a37:=Tryz.isAgg67
 z37:=Tryz.sizeOf67
 v37:=Tryz.zeroValue67
 t70:=Tryz.underlying66
 a70:=Tryz.isAgg66
 z70:=Tryz.sizeOf66
 v70:=Tryz.zeroValue66
 t72:=Tryz.underlying69
 a72:=Tryz.isAgg69
 z72:=Tryz.sizeOf69
 v72:=Tryz.zeroValue69
 t75:=Tryz.underlying137
 a75:=Tryz.isAgg137
 z75:=Tryz.sizeOf137
 v75:=Tryz.zeroValue137
 t76:=Tryz.underlying138
 a76:=Tryz.isAgg138
 z76:=Tryz.sizeOf138
 v76:=Tryz.zeroValue138
 t127:=Tryz.underlying106
 a127:=Tryz.isAgg106
 z127:=Tryz.sizeOf106
 v127:=Tryz.zeroValue106
 t164:=Tryz.underlying218
 a164:=Tryz.isAgg218
 z164:=Tryz.sizeOf218
 v164:=Tryz.zeroValue218
def ren_laysSmall:Ren:={
 f:=fun x=>match x with
  |283=>165
  |n=>n
 t:=fun x=>match x with
  |3=>3
  |9=>9
  |4=>4
  |n=>n
 g:=fun x=>x}
set_option maxRecDepth 100000 in
theorem laysSmall:Lays.n283 Tryz.prog ren_laysSmall where
 mixed:=by kernel_rfl
 f283:=Eq.trans Tryz.func165 (congrArg some (show Tryz.f165=Body.n283 ren_laysSmall by kernel_rfl))
 t3:=Tryz.underlying3
 a3:=Tryz.isAgg3
 z3:=Tryz.sizeOf3
 v3:=Tryz.zeroValue3
 t4:=Tryz.underlying4
 a4:=Tryz.isAgg4
 z4:=Tryz.sizeOf4
 v4:=Tryz.zeroValue4
 t9:=Tryz.underlying9
 a9:=Tryz.isAgg9
 z9:=Tryz.sizeOf9
 v9:=Tryz.zeroValue9
def ren_laysDig:Ren:={
 f:=fun x=>match x with
  |284=>166
  |129=>200
  |317=>199
  |318=>201
  |n=>n
 t:=fun x=>match x with
  |53=>44
  |3=>3
  |212=>245
  |0=>0
  |4=>4
  |46=>173
  |5=>5
  |9=>9
  |n=>n
 g:=fun x=>match x with
  |17=>2
  |n=>n}
set_option maxRecDepth 100000 in
theorem laysDig:LaysM.n284 Tryz.prog ren_laysDig where
 mixed:=by kernel_rfl
 f129:=Eq.trans Tryz.func200 (congrArg some (show Tryz.f200=Body.n129 ren_laysDig by kernel_rfl))
 f284:=Eq.trans Tryz.func166 (congrArg some (show Tryz.f166=Body.n284 ren_laysDig by kernel_rfl))
 f317:=Eq.trans Tryz.func199 (congrArg some (show Tryz.f199=Body.n317 ren_laysDig by kernel_rfl))
 f318:=Eq.trans Tryz.func201 (congrArg some (show Tryz.f201=Body.n318 ren_laysDig by kernel_rfl))
 t0:=Tryz.underlying0
 a0:=Tryz.isAgg0
 z0:=Tryz.sizeOf0
 v0:=Tryz.zeroValue0
 t3:=Tryz.underlying3
 a3:=Tryz.isAgg3
 z3:=Tryz.sizeOf3
 v3:=Tryz.zeroValue3
 t4:=Tryz.underlying4
 a4:=Tryz.isAgg4
 z4:=Tryz.sizeOf4
 v4:=Tryz.zeroValue4
 t5:=Tryz.underlying5
 a5:=Tryz.isAgg5
 z5:=Tryz.sizeOf5
 v5:=Tryz.zeroValue5
 t9:=Tryz.underlying9
 a9:=Tryz.isAgg9
 z9:=Tryz.sizeOf9
 v9:=Tryz.zeroValue9
 t46:=Tryz.underlying173
 a46:=Tryz.isAgg173
 z46:=Tryz.sizeOf173
 v46:=Tryz.zeroValue173
 t53:=Tryz.underlying44
 a53:=Tryz.isAgg44
 z53:=Tryz.sizeOf44
 v53:=Tryz.zeroValue44
 t212:=Tryz.underlying245
 a212:=Tryz.isAgg245
 z212:=Tryz.sizeOf245
 v212:=Tryz.zeroValue245
 g17:=by kernel_rfl
 i0:=by kernel_rfl
 i3:=by kernel_rfl
 i4:=by kernel_rfl
 i5:=by kernel_rfl
 i9:=by kernel_rfl
 i46:=by kernel_rfl
 i53:=by kernel_rfl
 i212:=by kernel_rfl
 m17:=by kernel_rfl
def ren_laysFmt:Ren:={
 f:=fun x=>match x with
  |285=>167
  |n=>n
 t:=fun x=>match x with
  |37=>67
  |53=>44
  |3=>3
  |4=>4
  |51=>39
  |9=>9
  |5=>5
  |0=>0
  |n=>n
 g:=fun x=>x}
set_option maxRecDepth 100000 in
theorem laysFmt:Lays.n285 Tryz.prog ren_laysFmt where
 mixed:=by kernel_rfl
 f285:=Eq.trans Tryz.func167 (congrArg some (show Tryz.f167=Body.n285 ren_laysFmt by kernel_rfl))
 t0:=Tryz.underlying0
 a0:=Tryz.isAgg0
 z0:=Tryz.sizeOf0
 v0:=Tryz.zeroValue0
 t3:=Tryz.underlying3
 a3:=Tryz.isAgg3
 z3:=Tryz.sizeOf3
 v3:=Tryz.zeroValue3
 t4:=Tryz.underlying4
 a4:=Tryz.isAgg4
 z4:=Tryz.sizeOf4
 v4:=Tryz.zeroValue4
 t5:=Tryz.underlying5
 a5:=Tryz.isAgg5
 z5:=Tryz.sizeOf5
 v5:=Tryz.zeroValue5
 t9:=Tryz.underlying9
 a9:=Tryz.isAgg9
 z9:=Tryz.sizeOf9
 v9:=Tryz.zeroValue9
 t37:=Tryz.underlying67
 a37:=Tryz.isAgg67
 z37:=Tryz.sizeOf67
 v37:=Tryz.zeroValue67
 t51:=Tryz.underlying39
 a51:=Tryz.isAgg39
 z51:=Tryz.sizeOf39
 v51:=Tryz.zeroValue39
 t53:=Tryz.underlying44
 a53:=Tryz.isAgg44
 z53:=Tryz.sizeOf44
 v53:=Tryz.zeroValue44
def ren_laysValid:Ren:={
 f:=fun x=>match x with
  |196=>123
  |259=>163
  |n=>n
 t:=fun x=>match x with
  |9=>9
  |4=>4
  |3=>3
  |5=>5
  |12=>12
  |119=>201
  |0=>0
  |46=>173
  |139=>204
  |138=>203
  |53=>44
  |n=>n
 g:=fun x=>match x with
  |3=>0
  |4=>1
  |n=>n}
set_option maxRecDepth 100000 in
theorem laysValid:Lays.n196 Tryz.prog ren_laysValid where
 mixed:=by kernel_rfl
 f196:=Eq.trans Tryz.func123 (congrArg some (show Tryz.f123=Body.n196 ren_laysValid by kernel_rfl))
 f259:=Eq.trans Tryz.func163 (congrArg some (show Tryz.f163=Body.n259 ren_laysValid by kernel_rfl))
 t0:=Tryz.underlying0
 a0:=Tryz.isAgg0
 z0:=Tryz.sizeOf0
 v0:=Tryz.zeroValue0
 t3:=Tryz.underlying3
 a3:=Tryz.isAgg3
 z3:=Tryz.sizeOf3
 v3:=Tryz.zeroValue3
 t4:=Tryz.underlying4
 a4:=Tryz.isAgg4
 z4:=Tryz.sizeOf4
 v4:=Tryz.zeroValue4
 t5:=Tryz.underlying5
 a5:=Tryz.isAgg5
 z5:=Tryz.sizeOf5
 v5:=Tryz.zeroValue5
 t9:=Tryz.underlying9
 a9:=Tryz.isAgg9
 z9:=Tryz.sizeOf9
 v9:=Tryz.zeroValue9
 t12:=Tryz.underlying12
 a12:=Tryz.isAgg12
 z12:=Tryz.sizeOf12
 v12:=Tryz.zeroValue12
 t46:=Tryz.underlying173
 a46:=Tryz.isAgg173
 z46:=Tryz.sizeOf173
 v46:=Tryz.zeroValue173
 t53:=Tryz.underlying44
 a53:=Tryz.isAgg44
 z53:=Tryz.sizeOf44
 v53:=Tryz.zeroValue44
 t119:=Tryz.underlying201
 a119:=Tryz.isAgg201
 z119:=Tryz.sizeOf201
 t138:=Tryz.underlying203
 a138:=Tryz.isAgg203
 z138:=Tryz.sizeOf203
 v138:=Tryz.zeroValue203
 t139:=Tryz.underlying204
 a139:=Tryz.isAgg204
 z139:=Tryz.sizeOf204
 v139:=Tryz.zeroValue204
 g3:=by kernel_rfl
 g4:=by kernel_rfl
def ren_laysCutP:Ren:={
 f:=fun x=>match x with
  |103=>220
  |210=>240
  |206=>178
  |n=>n
 t:=fun x=>match x with
  |9=>9
  |4=>4
  |24=>228
  |3=>3
  |n=>n
 g:=fun x=>x}
set_option maxRecDepth 100000 in
theorem laysCutP:Lays.n103 Tryz.prog ren_laysCutP where
 mixed:=by kernel_rfl
 f103:=Eq.trans Tryz.func220 (congrArg some (show Tryz.f220=Body.n103 ren_laysCutP by kernel_rfl))
 f206:=Eq.trans Tryz.func178 (congrArg some (show Tryz.f178=Body.n206 ren_laysCutP by kernel_rfl))
 f210:=Eq.trans Tryz.func240 (congrArg some (show Tryz.f240=Body.n210 ren_laysCutP by kernel_rfl))
 t3:=Tryz.underlying3
 a3:=Tryz.isAgg3
 z3:=Tryz.sizeOf3
 v3:=Tryz.zeroValue3
 t4:=Tryz.underlying4
 a4:=Tryz.isAgg4
 z4:=Tryz.sizeOf4
 v4:=Tryz.zeroValue4
 t9:=Tryz.underlying9
 a9:=Tryz.isAgg9
 z9:=Tryz.sizeOf9
 v9:=Tryz.zeroValue9
 t24:=Tryz.underlying228
 a24:=Tryz.isAgg228
 z24:=Tryz.sizeOf228
 v24:=Tryz.zeroValue228
end Go.Ai
namespace Go.Ai
open Go.Proofs Go.Shelf
theorem extraJ:Builder.Extra Tryz.prog ren_laysJoin where
 sizeBuilder:=by kernel_rfl
 liesBuilder:=by kernel_rfl
 t5:=Tryz.underlying5
 a5:=Tryz.isAgg5
 z5:=Tryz.sizeOf5
 v5:=Tryz.zeroValue5
 infoByte:=by kernel_rfl
 cellsByte:=by kernel_rfl
 sizeByte:=by kernel_rfl
 neB5:=by decide
theorem join_spec (xs:List (List UInt8)) (sep:List UInt8) (hN:xs.length≤140737488355328) (hlen:(Lib.join xs sep).length≤140737488355328):Sp Tryz.prog gl 99 [.sl (strRows xs),.str sep] (.str (Lib.join xs sep)):=
 join_shelf laysJoin extraJ (by kernel_rfl) (by kernel_rfl) xs sep hN hlen
end Go.Ai
namespace Go.Ai
open Go.Proofs Go.Shelf
theorem ws_spec {d:Nat} {b:Id} (hit:b.isIt=false) (hnwb:b.isNw d=false) {c0:AV} (hc0:c0= .nilT b 69 2∨c0= .ptr b 0) (l s:List UInt8) (hl:l.length+s.length≤140737488355328):
  SpH Tryz.prog gl 97 d ⟨[.ptr b 0,.str s],[(b,[c0,.sl (byteRows l)])],[(.b b 1,bk 5)]⟩ ⟨.tup [.int .i64 s.length,.undef],[(b,[.ptr b 0,.sl (byteRows (l++s))])],[(.b b 1,bk 5)]⟩:=
 ws_shelf (L:={laysJoin with}) extraJ (by kernel_rfl) (by kernel_rfl) hit hnwb (T:=69) (n:=2) (hc0.imp (fun h=>⟨h,by unfold bldAt;kernel_rfl⟩) id) (rest:=[]) l s hl
theorem st_spec {d:Nat} {b:Id} (hit:b.isIt=false) (hnwb:b.isNw d=false) {c0:AV} (l:List UInt8) (h0:l≠[]):
  SpH Tryz.prog gl 40 d ⟨[.ptr b 0],[(b,[c0,.sl (byteRows l)])],[(.b b 1,bk 5)]⟩ ⟨.str l,[(b,[c0,.sl (byteRows l)])],[]⟩:=
 st_shelf (L:={laysJoin with}) extraJ (by kernel_rfl) (by kernel_rfl) hit hnwb (rest:=[]) l h0
theorem cutP_spec (s p:List UInt8):Sp Tryz.prog gl 220 [.str s,.str p] (.tup [.str (Lib.trimPrefix s p),.bool (Lib.hasPrefix s p)]):=
 cutP_shelf laysCutP (by kernel_rfl) (by kernel_rfl) s p
end Go.Ai
namespace Go.Ai
open Go.Proofs Go.Shelf
theorem trimD_spec (s:List UInt8) (hs:s.length≤1000000):Sp Tryz.prog gl 142 [.str s,.str [48,49,50,51,52,53,54,55,56,57]] (.str (Lib.trimS s [48,49,50,51,52,53,54,55,56,57])):=by
 refine shelf_spec laysTrim.f160 (by kernel_rfl) (by kernel_rfl) ?_
 intro S gb w vs hvs hag
 simp only [PRlist] at hvs
 obtain ⟨v1,_,rfl,p1,v2,_,rfl,p2,rfl⟩:=hvs
 simp only [PR] at p1 p2
 subst p1;subst p2
 refine (Any.strings_Trim_laid laysTrim (by kernel_rfl) ⟨s.toArray⟩ ⟨[48,49,50,51,52,53,54,55,56,57].toArray⟩ w (by simp only [ByteArray.size,List.size_toArray];omega) (by decide) (ascii_of_all (by decide))).mono ?_
 rintro e w' ⟨rfl,h⟩
 exact ⟨_,rfl,h,by simp only [PR]⟩
set_option maxRecDepth 100000 in
theorem dig_in (b:UInt8):([48,49,50,51,52,53,54,55,56,57]:List UInt8).contains b=isDig b:=by
 have h: ∀n:Fin 256,([48,49,50,51,52,53,54,55,56,57]:List UInt8).contains (UInt8.ofNat n.1)=decide (48≤n.1∧n.1≤57):=by decide
 have h2:=h ⟨b.toNat,b.toNat_lt⟩
 rw [UInt8.ofNat_toNat] at h2
 exact h2
theorem dw_nil {α:Type} (p:α→Bool): ∀l:List α,l.dropWhile p=[]↔l.all p=true
 |[]=>by simp
 |a::l=>by
  have ih:=dw_nil p l
  rw [List.dropWhile_cons,List.all_cons]
  cases h:p a
  ·simp
  ·simpa using ih
theorem trimD_nil (s:List UInt8):(Lib.trimS s [48,49,50,51,52,53,54,55,56,57]==[])=s.all isDig:=by
 have e:(fun b:UInt8=>([48,49,50,51,52,53,54,55,56,57]:List UInt8).contains b)=isDig:=funext dig_in
 unfold Lib.trimS Lib.trimLeftS Lib.trimRightS
 rw [e,Bool.eq_iff_iff,beq_iff_eq,dw_nil,List.all_reverse]
 constructor
 ·intro h
  have h2:s.reverse.dropWhile isDig=[]:=by
   cases g:s.reverse.dropWhile isDig with
   |nil=>rfl
   |cons a t=>
    have ha:isDig a=false:=by
     have:=List.head?_dropWhile_not isDig s.reverse
     rw [g] at this
     simpa using this
    rw [g,List.all_cons,ha] at h
    cases h
  rw [dw_nil,List.all_reverse] at h2
  exact h2
 ·intro h
  rw [←List.all_reverse,←dw_nil] at h
  rw [h]
  rfl
end Go.Ai
namespace Go.Ai
open Go.Proofs Go.Shelf
def ren_laysIdx:Ren:={
 f:=fun x=>match x with
  |219=>214
  |217=>228
  |225=>229
  |224=>230
  |267=>231
  |266=>243
  |314=>244
  |n=>n
 t:=fun x=>match x with
  |9=>9
  |3=>3
  |4=>4
  |5=>5
  |46=>173
  |146=>220
  |51=>39
  |n=>n
 g:=fun x=>match x with
  |1=>3
  |n=>n}
set_option maxRecDepth 100000 in
theorem laysIdx:Lays.n219 Tryz.prog ren_laysIdx where
 mixed:=by kernel_rfl
 f217:=Eq.trans Tryz.func228 (congrArg some (show Tryz.f228=Body.n217 ren_laysIdx by kernel_rfl))
 f219:=Eq.trans Tryz.func214 (congrArg some (show Tryz.f214=Body.n219 ren_laysIdx by kernel_rfl))
 f224:=Eq.trans Tryz.func230 (congrArg some (show Tryz.f230=Body.n224 ren_laysIdx by kernel_rfl))
 f225:=Eq.trans Tryz.func229 (congrArg some (show Tryz.f229=Body.n225 ren_laysIdx by kernel_rfl))
 f266:=Eq.trans Tryz.func243 (congrArg some (show Tryz.f243=Body.n266 ren_laysIdx by kernel_rfl))
 f267:=Eq.trans Tryz.func231 (congrArg some (show Tryz.f231=Body.n267 ren_laysIdx by kernel_rfl))
 f314:=Eq.trans Tryz.func244 (congrArg some (show Tryz.f244=Body.n314 ren_laysIdx by kernel_rfl))
 t3:=Tryz.underlying3
 a3:=Tryz.isAgg3
 z3:=Tryz.sizeOf3
 v3:=Tryz.zeroValue3
 t4:=Tryz.underlying4
 a4:=Tryz.isAgg4
 z4:=Tryz.sizeOf4
 v4:=Tryz.zeroValue4
 t5:=Tryz.underlying5
 a5:=Tryz.isAgg5
 z5:=Tryz.sizeOf5
 v5:=Tryz.zeroValue5
 t9:=Tryz.underlying9
 a9:=Tryz.isAgg9
 z9:=Tryz.sizeOf9
 v9:=Tryz.zeroValue9
 t46:=Tryz.underlying173
 a46:=Tryz.isAgg173
 z46:=Tryz.sizeOf173
 v46:=Tryz.zeroValue173
 t51:=Tryz.underlying39
 a51:=Tryz.isAgg39
 z51:=Tryz.sizeOf39
 v51:=Tryz.zeroValue39
 t146:=Tryz.underlying220
 a146:=Tryz.isAgg220
 z146:=Tryz.sizeOf220
 v146:=Tryz.zeroValue220
 g1:=by kernel_rfl
end Go.Ai
namespace Go.Ai
theorem ibB_none (c:UInt8): ∀(a:List UInt8),(∀b∈a,b≠c)→Lib.indexByte a c= -1
 |[],_=>rfl
 |b::r,h=>by
  have hb:b≠c:=h b (by simp)
  rw [Lib.indexByte,ibB_none c r (fun x hx=>h x (by simp [hx]))]
  simp [hb]
theorem ibB_some (c:UInt8): ∀(a r:List UInt8),(∀b∈a,b≠c)→Lib.indexByte (a++c::r) c=(a.length:Int)
 |[],r,_=>by simp [Lib.indexByte]
 |b::a,r,h=>by
  have hb:b≠c:=h b (by simp)
  have ih:=ibB_some c a r (fun x hx=>h x (by simp [hx]))
  rw [List.cons_append,Lib.indexByte,ih]
  have h1:((a.length:Int)== -1)=false:=by rw [beq_eq_false_iff_ne];omega
  simp [hb,h1]
theorem cutB (c:UInt8): ∀(s:List UInt8),(∀b∈s,b≠c)∨ ∃a r,s=a++c::r∧ ∀b∈a,b≠c
 |[]=> .inl (by simp)
 |b::s=>by
  by_cases hb:b=c
  ·subst hb;exact .inr ⟨[],s,rfl,by simp⟩
  ·rcases cutB c s with h|⟨a,r,rfl,h⟩
   ·left;intro x hx;rcases List.mem_cons.1 hx with rfl|hx
    ·exact hb
    ·exact h x hx
   ·right
    refine ⟨b::a,r,rfl,fun x hx=>?_⟩
    rcases List.mem_cons.1 hx with rfl|hx
    ·exact hb
    ·exact h x hx
theorem tw_all {p:UInt8→Bool}: ∀ {a:List UInt8},(∀b∈a,p b=true)→a.takeWhile p=a
 |[],_=>rfl
 |b::a,h=>by
  rw [List.takeWhile_cons,if_pos (h b (by simp)),tw_all (fun x hx=>h x (by simp [hx]))]
theorem tw_app {p:UInt8→Bool} {c:UInt8} (hc:p c=false): ∀ {a r:List UInt8},(∀b∈a,p b=true)→(a++c::r).takeWhile p=a
 |[],r,_=>by simp [hc]
 |b::a,r,h=>by
  rw [List.cons_append,List.takeWhile_cons,if_pos (h b (by simp)),tw_app hc (fun x hx=>h x (by simp [hx]))]
end Go.Ai
