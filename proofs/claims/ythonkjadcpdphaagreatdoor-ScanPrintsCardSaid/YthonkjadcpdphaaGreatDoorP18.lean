/- P18: a part of the proof: the rules, or what functions compute. Conditions: as each theorem says. -/
import Derived.Test.YthonkjadcpdphaaGreatDoorP17
import Derived.Test.YthonkjadcpdphaaGreatDoorP6
import Derived.Test.YthonkjadcpdphaaGreatDoorP16
set_option linter.unusedSimpArgs false
set_option linter.unusedVariables false
set_option maxRecDepth 20000
namespace Go.Ai
open Go.Proofs Go.Shelf
theorem trimR_spec (s:List UInt8) (hs:s.length≤1000000):Sp Tryz.prog gl 132 [.str s,.str [48]] (.str (Lib.trimRightS s [48])):=by
 refine shelf_spec laysTrimR.f162 (by kernel_rfl) (by kernel_rfl) ?_
 intro S gb w vs hvs hag
 simp only [PRlist] at hvs
 obtain ⟨v1,_,rfl,p1,v2,_,rfl,p2,rfl⟩:=hvs
 simp only [PR] at p1 p2
 subst p1;subst p2
 refine (Any.strings_TrimRight_laid laysTrimR (by kernel_rfl) ⟨s.toArray⟩ ⟨[48].toArray⟩ w (by simp only [ByteArray.size,List.size_toArray];omega) (by decide) (ascii_of_all (by decide))).mono ?_
 rintro e w' ⟨rfl,h⟩
 exact ⟨_,rfl,h,by simp only [PR]⟩
def dg4 (b:Nat):List UInt8:=[UInt8.ofNat (48+b / 1000),UInt8.ofNat (48+b / 100%10),UInt8.ofNat (48+b / 10%10),UInt8.ofNat (48+b%10)]
def dg3 (b:Nat):List UInt8:=[UInt8.ofNat (48+b / 100),UInt8.ofNat (48+b / 10%10),UInt8.ofNat (48+b%10)]
theorem dec_dg4 (b:Nat) (h:b<10000):dec (10000+b)=49::dg4 b:=by
 rw [dec_ge (by omega),dec_ge (by omega),dec_ge (by omega),dec_ge (by omega),dec_lt (by omega)]
 unfold dg4
 rw [show (10000+b) / 10 / 10 / 10 / 10=1 by omega,show (10000+b) / 10 / 10 / 10%10=b / 1000 by omega,show (10000+b) / 10 / 10%10=b / 100%10 by omega,show (10000+b) / 10%10=b / 10%10 by omega,show (10000+b)%10=b%10 by omega]
 rfl
theorem dec_dg3 (b:Nat) (h:b<1000):dec (1000+b)=49::dg3 b:=by
 rw [dec_ge (by omega),dec_ge (by omega),dec_ge (by omega),dec_lt (by omega)]
 unfold dg3
 rw [show (1000+b) / 10 / 10 / 10=1 by omega,show (1000+b) / 10 / 10%10=b / 100 by omega,show (1000+b) / 10%10=b / 10%10 by omega,show (1000+b)%10=b%10 by omega]
 rfl
theorem trim_dg3: ∀a,a<10→ ∀c,c<100→(if Lib.trimRightS (dg3 (100*a+c)) [48]=[] then [48] else Lib.trimRightS (dg3 (100*a+c)) [48])=UInt8.ofNat (48+(100*a+c) / 100)::frc 10 2 ((100*a+c)%100):=by decide+kernel
theorem trim3 (x:Nat) (h:x<1000):(if Lib.trimRightS (dg3 x) [48]=[] then [48] else Lib.trimRightS (dg3 x) [48])=UInt8.ofNat (48+x / 100)::frc 10 2 (x%100):=by
 have:=trim_dg3 (x / 100) (by omega) (x%100) (by omega)
 rwa [Nat.div_add_mod] at this
theorem trim_dg4: ∀a,a<100→ ∀c,c<100→Lib.trimRightS (dg4 (100*a+c)) [48]=frc 1000 4 (100*a+c):=by decide+kernel
theorem trim4 (x:Nat) (h:x<10000):Lib.trimRightS (dg4 x) [48]=frc 1000 4 x:=by
 have:=trim_dg4 (x / 100) (by omega) (x%100) (by omega)
 rwa [Nat.div_add_mod] at this
open Go.Proofs
def asc (t:List UInt8):List Int:=t.map fun b=>(b.toNat:Int)
theorem textR_asc: ∀t:List UInt8,(∀b∈t,b.toNat<128)→textR (asc t)=t
 |[],_=>rfl
 |b::t,h=>by
  have hb:=h b (by simp)
  have e:encR (b.toNat:Int)=[b]:=by
   unfold encR
   rw [if_neg (by omega),Int.toNat_natCast]
   unfold encN
   rw [if_pos hb,UInt8.ofNat_toNat]
  show encR (b.toNat:Int)++textR (asc t)=b::t
  rw [e,textR_asc t (fun x hx=>h x (by simp [hx]))]
  rfl
theorem runes_asc (t:List UInt8) (h: ∀b∈t,b.toNat<128):runesL t 0=asc t:=by
 have:=runesL_textR (asc t) (fun r hr=>by
  obtain ⟨b,hb,rfl⟩:=List.mem_map.1 hr
  have:=h b hb
  unfold okR
  omega)
 rw [textR_asc t h] at this
 exact this
theorem dec_first (n:Nat): ∃b t,dec n=b::t∧48≤b.toNat∧b.toNat≤57:=by
 have h:=dec_dig n
 cases e:dec n with
 |nil=>exact absurd e (dec_ne n)
 |cons b t=>
  rw [e,List.all_cons,Bool.and_eq_true] at h
  exact ⟨b,t,rfl,(isDig_iff b).1 h.1⟩
theorem rV_num (t:List UInt8) (h: ∀b∈t,b.toNat<128) (n:Nat) (r:List UInt8) (e:t=dec n++r):rV (asc t)=wdR t:=by
 obtain ⟨b,s,h1,h2,h3⟩:=dec_first n
 unfold rV
 rw [textR_asc t h,if_neg]
 rw [e,h1]
 rintro (h|h)
 ·cases h
 ·have:digR ((b.toNat:Nat):Int)=false:=h
  unfold digR at this
  rw [decide_eq_false_iff_not] at this
  omega
theorem numF_dec (n:Nat) (h:n<18446744073709551616):numF (dec n)=(n,0):=by
 unfold numF
 rw [okDec_dec,if_pos rfl,undec_dec,if_pos h]
theorem dgsF_dec (n:Nat):dgsF (dec n)=true:=by
 unfold dgsF
 rw [dec_dig,Bool.true_and,decide_eq_true_iff]
 exact List.length_pos_iff.2 (dec_ne n)
theorem wdR_dec (n:Nat) (h:n<18446744073709551616):wdR (dec n)= .t 3 [] n:=by
 unfold wdR
 rw [dgsF_dec,if_pos rfl,numF_dec n h]
 rfl
theorem tw_dec (n:Nat) (r:List UInt8):(dec n++46::r).takeWhile (notB 46)=dec n:=by
 refine tw_app (by simp [notB]) fun b hb=>?_
 have:=(isDig_iff b).1 (List.all_eq_true.1 (dec_dig n) b hb)
 unfold notB
 rw [bne_iff_ne]
 rintro rfl
 simp at this
theorem dg_ofNat {x:Nat} (h:x≤9):(UInt8.ofNat (48+x)).toNat=48+x:=by rw [UInt8.toNat_ofNat'];omega
theorem dgsF_all (t:List UInt8) (h0:t≠[]) (h: ∀b∈t,isDig b=true):dgsF t=true:=by
 unfold dgsF
 rw [List.all_eq_true.2 h,Bool.true_and,decide_eq_true_iff]
 exact List.length_pos_iff.2 h0
theorem fc_tail (a:Nat) (ha:a<1000):dgsF (UInt8.ofNat (48+a / 100)::frc 10 2 (a%100))=true∧(UInt8.ofNat (48+a / 100)::frc 10 2 (a%100)).length≤3∧frU (UInt8.ofNat (48+a / 100)::frc 10 2 (a%100)) 3=a:=by
 have hd: ∀x:Nat,x≤9→isDig (UInt8.ofNat (48+x))=true:=fun x hx=>by rw [isDig_iff,dg_ofNat hx];omega
 have b9:a / 100≤9:=by omega
 by_cases c1:a%100=0
 ·rw [c1]
  show dgsF [UInt8.ofNat (48+a / 100)]=true∧_∧frU [UInt8.ofNat (48+a / 100)] 3=a
  refine ⟨dgsF_all _ (by simp) (fun b hb=>by
   rw [List.mem_singleton] at hb
   rw [hb];exact hd _ b9),by simp [frc],?_⟩
  simp only [frU,dgt,List.getElem?_cons_zero,List.getElem?_cons_succ,List.getElem?_nil,dg_ofNat b9]
  omega
 ·have x9:a%100 / 10≤9:=by omega
  have y9:a%100%10*10 / 10≤9:=by omega
  by_cases c2:a%100%10=0
  ·have e:frc 10 2 (a%100)=[UInt8.ofNat (48+a%100 / 10)]:=by
    rw [frc,if_neg c1,c2]
    rfl
   rw [e]
   refine ⟨dgsF_all _ (by simp) (fun b hb=>by
    rw [List.mem_cons,List.mem_singleton] at hb
    rcases hb with rfl|rfl
    ·exact hd _ b9
    ·exact hd _ x9),by simp,?_⟩
   simp only [frU,dgt,List.getElem?_cons_zero,List.getElem?_cons_succ,List.getElem?_nil,dg_ofNat b9,dg_ofNat x9]
   omega
  ·have e:frc 10 2 (a%100)=[UInt8.ofNat (48+a%100 / 10),UInt8.ofNat (48+a%100%10*10 / 10)]:=by
    rw [frc,if_neg c1,frc,if_neg (by omega)]
    rfl
   rw [e]
   refine ⟨dgsF_all _ (by simp) (fun b hb=>by
    rw [List.mem_cons,List.mem_cons,List.mem_singleton] at hb
    rcases hb with rfl|rfl|rfl
    ·exact hd _ b9
    ·exact hd _ x9
    ·exact hd _ y9),by simp,?_⟩
   simp only [frU,dgt,List.getElem?_cons_zero,List.getElem?_cons_succ,List.getElem?_nil,dg_ofNat b9,dg_ofNat x9,dg_ofNat y9]
   omega
theorem facF_fc (n:Nat) (h:n<18446744073709551616):facF (dec (n / 1000)) (UInt8.ofNat (48+n%1000 / 100)::frc 10 2 (n%1000%100))=(n,0):=by
 obtain ⟨h1,h2,h3⟩:=fc_tail (n%1000) (Nat.mod_lt _ (by decide))
 unfold facF
 rw [h1,h3,if_neg (by rintro (h|h);cases h;omega),numF_dec _ (by omega),if_neg (show ¬((0:Int)≠0) by simp),if_neg (by show ¬(18446744073709551615 - n%1000) / 1000<n / 1000;omega)]
 congr 1
 show 1000*(n / 1000)+n%1000=n
 omega
open Go.Proofs
theorem dgsF_no (a:List UInt8) (b:UInt8) (c:List UInt8) (h:isDig b=false):dgsF (a++b::c)=false:=by
 unfold dgsF
 rw [List.all_append,List.all_cons,h,Bool.false_and,Bool.and_false,Bool.false_and]
theorem byt_last (a b:List UInt8) (h:b≠[]):byt (a++b) ((a++b).length - 1)=byt b (b.length - 1):=by
 have:=List.length_pos_iff.2 h
 rw [List.length_append,show a.length+b.length - 1=a.length+(b.length - 1) by omega,byt_app]
theorem byt_dig {t:List UInt8} (h: ∀b∈t,isDig b=true) {i:Nat} (hi:i<t.length):48≤byt t i∧byt t i≤57:=by
 rw [byt_at hi]
 exact (isDig_iff _).1 (h _ (List.getElem_mem hi))
theorem dgsF_mem {t:List UInt8} (h:dgsF t=true):(∀b∈t,isDig b=true)∧t≠[]:=by
 unfold dgsF at h
 rw [Bool.and_eq_true,decide_eq_true_iff] at h
 exact ⟨List.all_eq_true.1 h.1,List.length_pos_iff.1 h.2⟩
theorem wdR_fc (n:Nat) (h:n<18446744073709551616):wdR (fcP n)= .t 4 [] n:=by
 obtain ⟨h1,h2,h3⟩:=fc_tail (n%1000) (Nat.mod_lt _ (by decide))
 have ff:=facF_fc n h
 have tw:=tw_dec (n / 1000) (UInt8.ofNat (48+n%1000 / 100)::frc 10 2 (n%1000%100))
 obtain ⟨hm,hn⟩:=dgsF_mem h1
 unfold fcP
 generalize UInt8.ofNat (48+n%1000 / 100)::frc 10 2 (n%1000%100)=tl at *
 generalize dec (n / 1000)=hd at *
 have hlen:hd.length<(hd++46::tl).length:=by rw [List.length_append,List.length_cons];omega
 have hlast:byt (hd++46::tl) ((hd++46::tl).length - 1)≠37:=by
  rw [byt_last hd (46::tl) (by simp)]
  have e:(46::tl:List UInt8)=[46]++tl:=rfl
  rw [e,byt_last [46] tl hn]
  have:=byt_dig hm (i:=tl.length - 1) (by have:=List.length_pos_iff.2 hn;omega)
  omega
 unfold wdR
 rw [dgsF_no hd 46 tl (by decide),if_neg (by decide),if_neg hlast]
 have hb:hasB 46 (hd++46::tl)=true:=by
  unfold hasB
  rw [tw,decide_eq_true hlen]
 rw [hb,if_pos rfl,tw]
 have dr:(hd++46::tl).drop (hd.length+1)=tl:=by
  rw [←List.drop_drop,List.drop_left]
  rfl
 rw [dr,ff]
 rfl
theorem fr_tail (y:Nat) (h0:0<y) (hy:y<10000):(∀b∈frc 1000 4 y,isDig b=true)∧1≤(frc 1000 4 y).length∧(frc 1000 4 y).length≤4∧frU (frc 1000 4 y) 4=y∧byt (frc 1000 4 y) ((frc 1000 4 y).length - 1)≠48:=by
 have hd: ∀x:Nat,x≤9→isDig (UInt8.ofNat (48+x))=true:=fun x hx=>by rw [isDig_iff,dg_ofNat hx];omega
 have a9:y / 1000≤9:=by omega
 have b9:y%1000*10 / 1000≤9:=by omega
 have c9:y%1000*10%1000*10 / 1000≤9:=by omega
 have d9:y%1000*10%1000*10%1000*10 / 1000≤9:=by omega
 by_cases c1:y%1000=0
 ·have e:frc 1000 4 y=[UInt8.ofNat (48+y / 1000)]:=by
   rw [frc,if_neg (by omega),c1]
   rfl
  rw [e]
  refine ⟨fun b hb=>by rw [List.mem_singleton] at hb;rw [hb];exact hd _ a9,by simp,by simp,?_,?_⟩
  ·simp only [frU,dgt,List.getElem?_cons_zero,List.getElem?_cons_succ,List.getElem?_nil,dg_ofNat a9]
   omega
  ·show (UInt8.ofNat (48+y / 1000)).toNat≠48
   rw [dg_ofNat a9]
   omega
 by_cases c2:y%100=0
 ·have e:frc 1000 4 y=[UInt8.ofNat (48+y / 1000),UInt8.ofNat (48+y%1000*10 / 1000)]:=by
   rw [frc,if_neg (by omega),frc,if_neg (by omega),show y%1000*10%1000*10=0 by omega]
   rfl
  rw [e]
  refine ⟨fun b hb=>by
   rw [List.mem_cons,List.mem_singleton] at hb
   rcases hb with rfl|rfl
   ·exact hd _ a9
   ·exact hd _ b9,by simp,by simp,?_,?_⟩
  ·simp only [frU,dgt,List.getElem?_cons_zero,List.getElem?_cons_succ,List.getElem?_nil,dg_ofNat a9,dg_ofNat b9]
   omega
  ·show (UInt8.ofNat (48+y%1000*10 / 1000)).toNat≠48
   rw [dg_ofNat b9]
   omega
 by_cases c3:y%10=0
 ·have e:frc 1000 4 y=[UInt8.ofNat (48+y / 1000),UInt8.ofNat (48+y%1000*10 / 1000),UInt8.ofNat (48+y%1000*10%1000*10 / 1000)]:=by
   rw [frc,if_neg (by omega),frc,if_neg (by omega),frc,if_neg (by omega),show y%1000*10%1000*10%1000*10=0 by omega]
   rfl
  rw [e]
  refine ⟨fun b hb=>by
   rw [List.mem_cons,List.mem_cons,List.mem_singleton] at hb
   rcases hb with rfl|rfl|rfl
   ·exact hd _ a9
   ·exact hd _ b9
   ·exact hd _ c9,by simp,by simp,?_,?_⟩
  ·simp only [frU,dgt,List.getElem?_cons_zero,List.getElem?_cons_succ,List.getElem?_nil,dg_ofNat a9,dg_ofNat b9,dg_ofNat c9]
   omega
  ·show (UInt8.ofNat (48+y%1000*10%1000*10 / 1000)).toNat≠48
   rw [dg_ofNat c9]
   omega
 ·have e:frc 1000 4 y=[UInt8.ofNat (48+y / 1000),UInt8.ofNat (48+y%1000*10 / 1000),UInt8.ofNat (48+y%1000*10%1000*10 / 1000),UInt8.ofNat (48+y%1000*10%1000*10%1000*10 / 1000)]:=by
   rw [frc,if_neg (by omega),frc,if_neg (by omega),frc,if_neg (by omega),frc,if_neg (by omega)]
   rfl
  rw [e]
  refine ⟨fun b hb=>by
   rw [List.mem_cons,List.mem_cons,List.mem_cons,List.mem_singleton] at hb
   rcases hb with rfl|rfl|rfl|rfl
   ·exact hd _ a9
   ·exact hd _ b9
   ·exact hd _ c9
   ·exact hd _ d9,by simp,by simp,?_,?_⟩
  ·simp only [frU,dgt,List.getElem?_cons_zero,List.getElem?_cons_succ,List.getElem?_nil,dg_ofNat a9,dg_ofNat b9,dg_ofNat c9,dg_ofNat d9]
   omega
  ·show (UInt8.ofNat (48+y%1000*10%1000*10%1000*10 / 1000)).toNat≠48
   rw [dg_ofNat d9]
   omega
open Go.Proofs
theorem tw_decN (n:Nat):(dec n).takeWhile (notB 46)=dec n:=by
 refine tw_all fun b hb=>?_
 have:=(isDig_iff b).1 (List.all_eq_true.1 (dec_dig n) b hb)
 unfold notB
 rw [bne_iff_ne]
 rintro rfl
 simp at this
theorem pprB_sh (t:List UInt8) (z:Nat) (fr:List UInt8) (b:List UInt8) (hz:z≤100) (hb:b=dec z++fr) (hbt: ∀i,i<b.length→byt t i=byt b i) (y:Nat)
  (hf:(fr=[]∧y=0)∨ ∃tl,fr=46::tl∧(∀x∈tl,isDig x=true)∧1≤tl.length∧tl.length≤4∧frU tl 4=y∧byt tl (tl.length - 1)≠48) (hp:z*10000+y≤1000000):
  pprB t b (dec z).length=(z*10000+y,0):=by
 have okz:=(okDec_iff (dec z)).1 (okDec_dec z)
 have l3:(dec z).length≤3:=dec_len 2 z (by omega)
 have l1:1≤(dec z).length:=List.length_pos_iff.2 (dec_ne z)
 have tk:b.take (dec z).length=dec z:=by rw [hb,List.take_left]
 have fu:frU b (dec z).length=z:=by
  rw [frU_undec b _ (by rw [hb,List.length_append];omega),tk,undec_dec]
 have b0:byt t 0=byt (dec z) 0:=by
  rw [hbt 0 (by rw [hb,List.length_append];omega),hb]
  unfold byt
  rw [List.getElem?_append_left (by omega)]
 have dr:(∀x∈b.drop ((dec z).length+1),isDig x=true)∧frU (b.drop ((dec z).length+1)) 4=y∧ ¬((dec z).length<b.length∧(b.length - 1 - (dec z).length<1∨4<b.length - 1 - (dec z).length∨byt t (b.length - 1)=48)):=by
  rcases hf with ⟨rfl,rfl⟩|⟨tl,rfl,h1,h2,h3,h4,h5⟩
  ·rw [List.append_nil] at hb
   have e:b.drop ((dec z).length+1)=[]:=List.drop_eq_nil_of_le (by rw [hb];omega)
   rw [e]
   refine ⟨(fun x hx=>by cases hx),rfl,?_⟩
   rw [hb]
   omega
  ·have e:b.drop ((dec z).length+1)=tl:=by
    rw [hb,←List.drop_drop,List.drop_left]
    rfl
   have bl:b.length=(dec z).length+1+tl.length:=by rw [hb,List.length_append,List.length_cons];omega
   rw [e]
   refine ⟨h1,h4,?_⟩
   have lst:byt t (b.length - 1)=byt tl (tl.length - 1):=by
    rw [hbt _ (by omega),hb,byt_last (dec z) (46::tl) (by simp)]
    have e2:(46::tl:List UInt8)=[46]++tl:=rfl
    rw [e2,byt_last [46] tl (List.length_pos_iff.1 (by omega))]
   rw [lst]
   rintro ⟨_,q|q|q⟩
   ·omega
   ·omega
   ·exact h5 q
 unfold pprB pprV
 rw [tk,fu,dr.2.1,List.all_eq_true.2 dr.1,okz.2.1]
 rw [if_neg (by rintro (h|h)<;>cases h),if_neg,if_neg (by omega),if_neg (by omega)]
 rintro (h|h|⟨h,h'⟩)
 ·exact dr.2.2 h
 ·omega
 ·rw [b0] at h
  exact okz.2.2 ⟨h,h'⟩
theorem wdR_sh (p:Nat) (h:p≤1000000):wdR (shP p)= .t 5 [] p:=by
 have ez:p / 10000*10000+p%10000=p:=by omega
 have hz:p / 10000≤100:=by omega
 have hy:p%10000<10000:=Nat.mod_lt _ (by decide)
 unfold shP
 rw [if_neg (by omega)]
 generalize p / 10000=z at *
 generalize p%10000=y at *
 subst ez
 obtain ⟨fr,hfr⟩: ∃fr,fr=(if y=0 then [] else [46])++frc 1000 4 y:=⟨_,rfl⟩
 have et:dec z++((if y=0 then [] else [46])++(frc 1000 4 y++[37]))=dec z++fr++[37]:=by
  rw [hfr]
  simp [List.append_assoc]
 rw [et]
 have hf:(fr=[]∧y=0)∨ ∃tl,fr=46::tl∧(∀x∈tl,isDig x=true)∧1≤tl.length∧tl.length≤4∧frU tl 4=y∧byt tl (tl.length - 1)≠48:=by
  by_cases c:y=0
  ·left
   rw [hfr,if_pos c,c]
   exact ⟨rfl,rfl⟩
  ·right
   refine ⟨frc 1000 4 y,?_,fr_tail y (by omega) hy⟩
   rw [hfr,if_neg c]
   rfl
 clear hfr et
 have l1:1≤(dec z).length:=List.length_pos_iff.2 (dec_ne z)
 have tw:(dec z++fr).takeWhile (notB 46)=dec z:=by
  rcases hf with ⟨rfl,_⟩|⟨tl,rfl,_⟩
  ·rw [List.append_nil,tw_decN]
  ·exact tw_dec z tl
 have hl:(dec z++fr++[37]).length=(dec z++fr).length+1:=by rw [List.length_append];rfl
 have hlast:byt (dec z++fr++[37]) ((dec z++fr++[37]).length - 1)=37:=by
  rw [byt_last _ [37] (by simp)]
  rfl
 have tk:(dec z++fr++[37]).take ((dec z++fr++[37]).length - 1)=dec z++fr:=by
  rw [hl,show (dec z++fr).length+1 - 1=(dec z++fr).length by omega,List.take_left]
 have PB:=pprB_sh (dec z++fr++[37]) z fr (dec z++fr) hz rfl (fun i hi=>by
  unfold byt
  rw [List.getElem?_append_left hi]) y hf h
 have pf:pprF (dec z++fr++[37])=(z*10000+y,0):=by
  unfold pprF
  rw [if_neg (by
   rintro (h|h)
   ·rw [hl,List.length_append] at h;omega
   ·exact h hlast),tk,tw]
  exact PB
 unfold wdR
 rw [show dec z++fr++[37]=(dec z++fr)++37::[] from rfl,dgsF_no (dec z++fr) 37 [] (by decide),if_neg (by decide)]
 rw [show (dec z++fr)++37::[]=dec z++fr++[37] from rfl,if_pos hlast,pf]
 rfl
open Go.Proofs
theorem fold_ge: ∀(d:List UInt8) (n:Nat),n≤d.foldl (fun a b=>10*a+(b.toNat - 48)) n
 |[],n=>Nat.le_refl _
 |b::d,n=>by
  rw [List.foldl_cons]
  exact Nat.le_trans (by omega) (fold_ge d _)
theorem spR_digs: ∀(d r:List UInt8) (dg:Bool) (n la sm:Nat) (fr:Bool),(∀b∈d,isDig b=true)→(d=[]→dg=true)→d.foldl (fun a b=>10*a+(b.toNat - 48)) n≤253402300799→
  spR (d++r) dg n la sm fr=spR r true (d.foldl (fun a b=>10*a+(b.toNat - 48)) n) la sm fr
 |[],r,dg,n,la,sm,fr,h,h0,hm=>by
  rw [h0 rfl]
  rfl
 |b::d,r,dg,n,la,sm,fr,h,h0,hm=>by
  rw [List.foldl_cons] at hm ⊢
  have hn:n≤253402300799:=by
   have:=fold_ge d (10*n+(b.toNat - 48))
   omega
  rw [List.cons_append,spR,if_pos (h b (by simp)),if_pos hn]
  exact spR_digs d r true _ la sm fr (fun x hx=>h x (by simp [hx])) (fun _=>rfl) hm
theorem spR_piece (q u:Nat) (c:UInt8) (l:List UInt8) (la sm:Nat) (hc:isDig c=false) (hu:unitZ c.toNat=u) (h0:0<u) (hla:u<la) (hm:sm+q*u≤253402300799):
  spR (dec q++c::l) false 0 la sm false=spR l false 0 u (sm+q*u) false:=by
 have hq:q≤q*u:=Nat.le_mul_of_pos_right _ h0
 have e:=spR_digs (dec q) (c::l) false 0 la sm false (List.all_eq_true.1 (dec_dig q)) (fun h=>absurd h (dec_ne q)) (by
  have:=undec_dec q
  unfold undec at this
  rw [this]
  omega)
 rw [e]
 have e2:(dec q).foldl (fun a b=>10*a+(b.toNat - 48)) 0=q:=undec_dec q
 rw [e2,spR,if_neg (by rw [hc];decide),hu,if_neg (by rintro (h|h|h);cases h;omega;omega),if_neg,if_neg (by omega)]
 intro h
 rw [Nat.div_lt_iff_lt_mul h0] at h
 omega
def SpH1 (l:List (Nat×UInt8)):Prop:= ∀n la sm,(∀p∈l,p.1<la)→sm+n≤253402300799→spR (spG l n) false 0 la sm false=(sm+n,0)
theorem spH_step (u:Nat) (c:UInt8) (l:List (Nat×UInt8)) (H:SpH1 l) (hl: ∀p∈l,p.1<u) (hc:isDig c=false) (hu:unitZ c.toNat=u) (h0:0<u):SpH1 ((u,c)::l):=by
 intro n la sm hla hm
 rw [spG]
 by_cases g:u≤n
 ·rw [if_pos g]
  have e:=Nat.div_add_mod n u
  rw [Nat.mul_comm] at e
  rw [spR_piece (n / u) u c (spG l (n%u)) la sm hc hu h0 (hla (u,c) (by simp)) (by omega),H (n%u) u (sm+n / u*u) hl (by omega)]
  congr 1
  omega
 ·rw [if_neg g]
  exact H n la sm (fun p hp=>hla p (by simp [hp])) hm
theorem spH_one:SpH1 [(1,115)]:=by
 intro n la sm hla hm
 rw [spG]
 by_cases g:1≤n
 ·rw [if_pos g,Nat.div_one,Nat.mod_one]
  have e:=spR_piece n 1 115 (spG [] 0) la sm (by decide) (by decide) (by decide) (hla (1,115) (by simp)) (by omega)
  rw [e,Nat.mul_one]
  rfl
 ·rw [if_neg g]
  have:n=0:=by omega
  subst this
  rfl
theorem spH_all:SpH1 unL:=by
 refine spH_step _ _ _ (spH_step _ _ _ (spH_step _ _ _ (spH_step _ _ _ spH_one ?_ ?_ ?_ ?_) ?_ ?_ ?_ ?_) ?_ ?_ ?_ ?_) ?_ ?_ ?_ ?_
 all_goals first|decide|(intro p hp;simp at hp;rcases hp with rfl|rfl|rfl|rfl<;>decide)|(intro p hp;simp at hp;rcases hp with rfl|rfl|rfl<;>decide)|(intro p hp;simp at hp;rcases hp with rfl|rfl<;>decide)|(intro p hp;simp at hp;subst hp;decide)
theorem spG_shape: ∀(l:List (Nat×UInt8)) (n:Nat),(∀p∈l,p.2∈wdL)→(∀b∈spG l n,isDig b=true∨b∈wdL)∧(spG l n≠[]→ ∃q c r,spG l n=dec q++c::r∧c∈wdL)
 |[],n,h=>⟨fun b hb=>by simp [spG] at hb,fun h=>absurd rfl h⟩
 |(u,c)::l,n,h=>by
  have hc:=h (u,c) (by simp)
  rw [spG]
  split
  ·have ih:=spG_shape l (n%u) (fun p hp=>h p (by simp [hp]))
   refine ⟨fun b hb=>?_,fun _=>⟨n / u,c,_,rfl,hc⟩⟩
   rcases List.mem_append.1 hb with hb|hb
   ·exact .inl (List.all_eq_true.1 (dec_dig _) b hb)
   ·rcases List.mem_cons.1 hb with rfl|hb
    ·exact .inr hc
    ·exact ih.1 b hb
  ·exact spG_shape l n (fun p hp=>h p (by simp [hp]))
theorem wdL_not (b:UInt8) (h:b∈wdL):isDig b=false∧b.toNat≠37∧b≠46∧b.toNat<128:=by
 have: ∀b∈wdL,isDig b=false∧b.toNat≠37∧b≠46∧b.toNat<128:=by decide
 exact this b h
theorem spP_shape (n:Nat):(∀b∈spP n,isDig b=true∨b∈wdL)∧ ∃q c r,spP n=dec q++c::r∧c∈wdL:=by
 unfold spP
 by_cases c:n=0
 ·rw [if_pos c]
  refine ⟨by decide,0,115,[],?_,by decide⟩
  rw [dec_lt (by omega)]
  rfl
 ·rw [if_neg c]
  have:=spG_shape unL n (by decide)
  exact ⟨this.1,this.2 (fun h=>c ((spG_nil n).1 h))⟩
theorem wdR_sp (n:Nat) (h:n≤253402300799):wdR (spP n)= .t 6 [] n:=by
 obtain ⟨h1,q,c,r,h2,h3⟩:=spP_shape n
 have hn:=wdL_not c h3
 have sp:spanR (spP n)=(n,0):=by
  unfold spanR spP
  by_cases c0:n=0
  ·subst c0
   rfl
  ·rw [if_neg c0,if_neg (fun h=>c0 ((spG_nil n).1 h))]
   have:=spH_all n 1000000 0 (by decide) (by omega)
   rw [this,Nat.zero_add]
 have ne:spP n≠[]:=by rw [h2];simp
 have l1:=List.length_pos_iff.2 ne
 have nol:byt (spP n) ((spP n).length - 1)≠37:=by
  rw [byt_at (by omega)]
  rcases h1 _ (List.getElem_mem (show (spP n).length - 1<(spP n).length by omega)) with h|h
  ·have:=(isDig_iff _).1 h
   omega
  ·exact (wdL_not _ h).2.1
 have no46:hasB 46 (spP n)=false:=by
  unfold hasB
  rw [decide_eq_false_iff_not,tw_all fun b hb=>?_]
  ·omega
  ·unfold notB
   rw [bne_iff_ne]
   rcases h1 b hb with h|h
   ·rintro rfl
    exact absurd h (by decide)
   ·exact (wdL_not _ h).2.2.1
 have dg:dgsF (spP n)=false:=by
  rw [h2]
  exact dgsF_no (dec q) c r hn.1
 unfold wdR
 rw [dg,if_neg (by decide),if_neg nol,no46,if_neg (by decide),sp]
 rfl
open Go.Proofs
theorem nameGo_all: ∀(l:List Int) (n:Nat) (la:Int),nameGo n la l=true→ ∀r∈l,(letter r||(digR r||r==95||r==45))=true
 |[],n,la,h,r,hr=>by cases hr
 |x::l,n,la,h,r,hr=>by
  rw [nameGo,Bool.and_eq_true] at h
  rcases List.mem_cons.1 hr with rfl|hr
  ·have:=h.1
   rw [Bool.or_eq_true] at this ⊢
   rcases this with g|g
   ·exact .inl g
   ·exact .inr (Bool.and_eq_true .. ▸g).2
  ·exact nameGo_all l (n+1) x h.2 r hr
theorem name_head {l:List Int} (h:nameGo 0 32 l=true): ∃r t,l=r::t∧letter r=true:=by
 cases l with
 |nil=>simp [nameGo] at h
 |cons r t=>
  refine ⟨r,t,rfl,?_⟩
  rw [nameGo,Bool.and_eq_true] at h
  simpa using h.1
theorem letter_dig {r:Int} (h:letter r=true):digR r=false:=by
 rcases letter_cases r with ⟨_,g⟩|⟨h1,h2,_⟩|⟨_,_,g⟩|⟨h1,h2,_⟩|⟨_,_,g⟩|⟨h1,h2,_⟩|⟨_,g⟩|⟨h1,h2,_⟩|⟨_,g⟩|⟨h1,h2,_⟩|⟨_,_,g⟩|⟨h1,h2,_⟩|⟨_,g⟩
 all_goals first|(rw [g] at h;cases h)|(unfold digR;rw [decide_eq_false_iff_not];omega)
theorem name_wthn (s:List UInt8) (h:nameT s=true): ∀r∈runesL s 0,wthn r=true:=fun r hr=>by
 have:=nameGo_all _ _ _ h r hr
 unfold wthn
 simp only [Bool.or_eq_true,beq_iff_eq,decide_eq_true_eq] at this ⊢
 rcases this with g|(g|g)|g
 ·exact .inl g
 ·exact .inr (.inl g)
 ·exact .inr (.inr (.inl g))
 ·exact .inr (.inr (.inr (.inl g)))
theorem name_rV (s:List UInt8) (h:nameT s=true):rV (runesL s 0)= .t 1 s 0:=by
 have h':=h
 unfold nameT at h
 obtain ⟨r,t,e,hr⟩:=name_head h
 have tx:=textR_runes s (fun r hr=>(wthn_okR (name_wthn s h' r hr)).2)
 unfold rV
 rw [tx,if_pos,if_pos h']
 right
 rw [e]
 exact letter_dig hr
theorem name_ne (s:List UInt8) (h:nameT s=true):runesL s 0≠[]:=by
 obtain ⟨r,t,e,hr⟩:=name_head h
 rw [e]
 simp
theorem name_asc_dec (b:UInt8) (h:isDig b=true∨b=46∨b=37∨b∈wdL):wthn (b.toNat:Int)=true:=by
 rcases h with h|rfl|rfl|h
 ·have:=(isDig_iff b).1 h
  have:digR (b.toNat:Int)=true:=by
   unfold digR
   rw [decide_eq_true_iff]
   omega
  unfold wthn
  rw [this,Bool.true_or,Bool.or_true]
 ·decide
 ·decide
 ·revert b
  decide
end Go.Ai
