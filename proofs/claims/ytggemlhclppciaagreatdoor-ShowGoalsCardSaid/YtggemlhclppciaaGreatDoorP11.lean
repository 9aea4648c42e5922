/- P11: a part of the proof: the rules, or what functions compute. Conditions: as each theorem says. -/
import Derived.Test.YtggemlhclppciaaGreatDoorP10
import Derived.Test.YtggemlhclppciaaGreatDoorP5
set_option linter.unusedSimpArgs false
set_option linter.unusedVariables false
set_option maxRecDepth 20000
namespace Go.Ai
open Go.Proofs Go.Shelf
theorem trimR_spec (s:List UInt8) (hs:s.length≤1000000):Sp Tryz.prog gl 127 [.str s,.str [48]] (.str (Lib.trimRightS s [48])):=by
 refine shelf_spec laysTrimR.f162 (by kernel_rfl) (by kernel_rfl) ?_
 intro S gb w vs hvs hag
 simp only [PRlist] at hvs
 obtain ⟨v1,_,rfl,p1,v2,_,rfl,p2,rfl⟩:=hvs
 simp only [PR] at p1 p2
 subst p1;subst p2
 refine (Any.strings_TrimRight_laid laysTrimR (by kernel_rfl) ⟨s.toArray⟩ ⟨[48].toArray⟩ w (by simp only [ByteArray.size,List.size_toArray];omega) (by decide) (ascii_of_all (by decide))).mono ?_
 rintro e w' ⟨rfl,h⟩
 exact ⟨_,rfl,h,by simp only [PR]⟩
def dg4 (b:Nat):List UInt8:=[UInt8.ofNat (48+b / 1000),UInt8.ofNat (48+b / 100%10),UInt8.ofNat (48+b / 10%10),UInt8.ofNat (48+b%10)]
def dg3 (b:Nat):List UInt8:=[UInt8.ofNat (48+b / 100),UInt8.ofNat (48+b / 10%10),UInt8.ofNat (48+b%10)]
theorem dec_dg4 (b:Nat) (h:b<10000):dec (10000+b)=49::dg4 b:=by
 rw [dec_ge (by omega),dec_ge (by omega),dec_ge (by omega),dec_ge (by omega),dec_lt (by omega)]
 unfold dg4
 rw [show (10000+b) / 10 / 10 / 10 / 10=1 by omega,show (10000+b) / 10 / 10 / 10%10=b / 1000 by omega,show (10000+b) / 10 / 10%10=b / 100%10 by omega,show (10000+b) / 10%10=b / 10%10 by omega,show (10000+b)%10=b%10 by omega]
 rfl
theorem dec_dg3 (b:Nat) (h:b<1000):dec (1000+b)=49::dg3 b:=by
 rw [dec_ge (by omega),dec_ge (by omega),dec_ge (by omega),dec_lt (by omega)]
 unfold dg3
 rw [show (1000+b) / 10 / 10 / 10=1 by omega,show (1000+b) / 10 / 10%10=b / 100 by omega,show (1000+b) / 10%10=b / 10%10 by omega,show (1000+b)%10=b%10 by omega]
 rfl
theorem trim_dg3: ∀a,a<10→ ∀c,c<100→(if Lib.trimRightS (dg3 (100*a+c)) [48]=[] then [48] else Lib.trimRightS (dg3 (100*a+c)) [48])=UInt8.ofNat (48+(100*a+c) / 100)::frc 10 2 ((100*a+c)%100):=by decide+kernel
theorem trim3 (x:Nat) (h:x<1000):(if Lib.trimRightS (dg3 x) [48]=[] then [48] else Lib.trimRightS (dg3 x) [48])=UInt8.ofNat (48+x / 100)::frc 10 2 (x%100):=by
 have:=trim_dg3 (x / 100) (by omega) (x%100) (by omega)
 rwa [Nat.div_add_mod] at this
theorem trim_dg4: ∀a,a<100→ ∀c,c<100→Lib.trimRightS (dg4 (100*a+c)) [48]=frc 1000 4 (100*a+c):=by decide+kernel
theorem trim4 (x:Nat) (h:x<10000):Lib.trimRightS (dg4 x) [48]=frc 1000 4 x:=by
 have:=trim_dg4 (x / 100) (by omega) (x%100) (by omega)
 rwa [Nat.div_add_mod] at this
open Go.Proofs
def asc (t:List UInt8):List Int:=t.map fun b=>(b.toNat:Int)
theorem textR_asc: ∀t:List UInt8,(∀b∈t,b.toNat<128)→textR (asc t)=t
 |[],_=>rfl
 |b::t,h=>by
  have hb:=h b (by simp)
  have e:encR (b.toNat:Int)=[b]:=by
   unfold encR
   rw [if_neg (by omega),Int.toNat_natCast]
   unfold encN
   rw [if_pos hb,UInt8.ofNat_toNat]
  show encR (b.toNat:Int)++textR (asc t)=b::t
  rw [e,textR_asc t (fun x hx=>h x (by simp [hx]))]
  rfl
theorem runes_asc (t:List UInt8) (h: ∀b∈t,b.toNat<128):runesL t 0=asc t:=by
 have:=runesL_textR (asc t) (fun r hr=>by
  obtain ⟨b,hb,rfl⟩:=List.mem_map.1 hr
  have:=h b hb
  unfold okR
  omega)
 rw [textR_asc t h] at this
 exact this
theorem dec_first (n:Nat): ∃b t,dec n=b::t∧48≤b.toNat∧b.toNat≤57:=by
 have h:=dec_dig n
 cases e:dec n with
 |nil=>exact absurd e (dec_ne n)
 |cons b t=>
  rw [e,List.all_cons,Bool.and_eq_true] at h
  exact ⟨b,t,rfl,(isDig_iff b).1 h.1⟩
theorem rV_num (t:List UInt8) (h: ∀b∈t,b.toNat<128) (n:Nat) (r:List UInt8) (e:t=dec n++r):rV (asc t)=wdR t:=by
 obtain ⟨b,s,h1,h2,h3⟩:=dec_first n
 unfold rV
 rw [textR_asc t h,if_neg]
 rw [e,h1]
 rintro (h|h)
 ·cases h
 ·have:digR ((b.toNat:Nat):Int)=false:=h
  unfold digR at this
  rw [decide_eq_false_iff_not] at this
  omega
open Go.Proofs
end Go.Ai
namespace Go.Ai
open Go.Proofs
open Go.Proofs
theorem wdL_not (b:UInt8) (h:b∈wdL):isDig b=false∧b.toNat≠37∧b≠46∧b.toNat<128:=by
 have: ∀b∈wdL,isDig b=false∧b.toNat≠37∧b≠46∧b.toNat<128:=by decide
 exact this b h
open Go.Proofs
theorem name_asc_dec (b:UInt8) (h:isDig b=true∨b=46∨b=37∨b∈wdL):wthn (b.toNat:Int)=true:=by
 rcases h with h|rfl|rfl|h
 ·have:=(isDig_iff b).1 h
  have:digR (b.toNat:Int)=true:=by
   unfold digR
   rw [decide_eq_true_iff]
   omega
  unfold wthn
  rw [this,Bool.true_or,Bool.or_true]
 ·decide
 ·decide
 ·revert b
  decide
open Go.Proofs
def numB (b:UInt8):Prop:=isDig b=true∨b=46∨b=37∨b∈wdL
theorem numB_lt {b:UInt8} (h:numB b):b.toNat<128:=by
 rcases h with h|rfl|rfl|h
 ·have:=(isDig_iff b).1 h
  omega
 ·decide
 ·decide
 ·exact (wdL_not b h).2.2.2
structure NumP (t:List UInt8):Prop where
 b: ∀b∈t,numB b
 f: ∃q r,t=dec q++r
theorem NumP.lt {t:List UInt8} (h:NumP t): ∀b∈t,b.toNat<128:=fun b hb=>numB_lt (h.b b hb)
theorem NumP.runes {t:List UInt8} (h:NumP t):runesL t 0=asc t:=runes_asc t h.lt
theorem NumP.wthn {t:List UInt8} (h:NumP t): ∀r∈runesL t 0,wthn r=true:=by
 rw [h.runes]
 intro r hr
 obtain ⟨b,hb,rfl⟩:=List.mem_map.1 hr
 exact name_asc_dec b (h.b b hb)
theorem NumP.ne {t:List UInt8} (h:NumP t):runesL t 0≠[]:=by
 obtain ⟨q,r,e⟩:=h.f
 rw [h.runes,e]
 unfold asc
 intro g
 rw [List.map_eq_nil_iff,List.append_eq_nil_iff] at g
 exact dec_ne q g.1
theorem NumP.rV {t:List UInt8} (h:NumP t):rV (runesL t 0)=wdR t:=by
 obtain ⟨q,r,e⟩:=h.f
 rw [h.runes]
 exact rV_num t h.lt q r e
open Go.Proofs
theorem tk1 (o:List Int) (n c:Nat):takeU ⟨o,1,n,c⟩ 117=(⟨o,2,n,c⟩,true):=rfl
theorem tk2 (o:List Int) (n c:Nat):takeU ⟨o,2,n,c⟩ 123=(⟨o,3,0,0⟩,true):=rfl
open Go.Proofs
end Go.Ai
namespace Go.Ai
open Go.Proofs
theorem tkP_quote (s:List UInt8) (n:Nat) (h:tkR 2 s n=true):tkP 2 s n=quL (runesL s 0)∧n=0∧goodR (runesL s 0)=true∧(runesL s 0).length≤120:=by
 have h':(goodR (runesL s 0)&&(decide ((runesL s 0).length≤120)&&decide (n=0)))=true:=h
 rw [Bool.and_eq_true,Bool.and_eq_true,decide_eq_true_iff,decide_eq_true_iff] at h'
 refine ⟨?_,h'.2.2,h'.1,h'.2.1⟩
 unfold tkP
 rw [h]
 rfl
open Go.Proofs
def Reads (l:List Int) (P:List (Int×Int)) (j e:Nat) (out out':List Tk):Prop:= ∀f,l.length - j<f→ ∃f',l.length - e<f'∧refGo rV sU l P f j out=refGo rV sU l P f' e out'
theorem Reads.refl (l:List Int) (P:List (Int×Int)) (j:Nat) (out:List Tk):Reads l P j j out out:=fun f h=>⟨f,h,rfl⟩
theorem Reads.trans {l:List Int} {P:List (Int×Int)} {j e g:Nat} {o1 o2 o3:List Tk} (h1:Reads l P j e o1 o2) (h2:Reads l P e g o2 o3):Reads l P j g o1 o3:=fun f h=>by
 obtain ⟨f1,a1,b1⟩:=h1 f h
 obtain ⟨f2,a2,b2⟩:=h2 f1 a1
 exact ⟨f2,a2,b1.trans b2⟩
theorem Reads.one {l:List Int} {P:List (Int×Int)} {j e:Nat} {o1 o2:List Tk} (hj:j<l.length) (he:j<e) (h: ∀f,refGo rV sU l P (f+1) j o1=refGo rV sU l P f e o2):Reads l P j e o1 o2:=fun f hf=>by
 cases f with
 |zero=>omega
 |succ f=>exact ⟨f,by omega,h f⟩
open Go.Proofs
def gk (gs:List UInt8) (i:Nat):Nat:=if gs=[] then 0 else (gs.getD (i%gs.length) 0).toNat
structure TkOk (x:Tk):Prop where
 k:1≤x.k∧x.k≤9
 n:x.n<18446744073709551616
 r:tkR x.k x.t x.n=true
def Tk.says (x:Tk):Int×List UInt8×Nat:=(x.k,x.t,x.n)
end Go.Ai
