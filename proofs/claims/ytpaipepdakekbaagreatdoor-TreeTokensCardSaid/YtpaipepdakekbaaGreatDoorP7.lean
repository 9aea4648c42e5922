/- P7: a part of the proof: the rules, or what functions compute. Conditions: as each theorem says. -/
import Derived.Test.YtpaipepdakekbaaGreatDoorP5
import Derived.Test.YtpaipepdakekbaaGreatDoorP6
set_option linter.unusedSimpArgs false
set_option linter.unusedVariables false
set_option maxRecDepth 20000
namespace Go.Ai
open Go.Proofs
abbrev u32 (n:Nat):AV:= .int .u32 n
abbrev cnt (g n:Nat):AV:= .agg [u g,u n]

open Go.Proofs
end Go.Ai
namespace Go.Ai
open Go.Proofs
open Go.Proofs
end Go.Ai
namespace Go.Ai
open Go.Proofs
open Go.Proofs
def readN (s:List UInt8):Nat×Nat:=if okDec s then (if undec s<340282366920938463463374607431768211456 then (undec s,0) else (0,3)) else (0,5)
theorem undec_take (s:List UInt8) (i:Nat) (h:i<s.length):undec (s.take (i+1))=10*undec (s.take i)+((s[i]).toNat - 48):=by
 rw [List.take_succ_eq_append_getElem h,undec_snoc]
theorem all_take (s:List UInt8) (i:Nat) (h:i<s.length) (hd:isDig s[i]=true) (ha:(s.take i).all isDig=true):(s.take (i+1)).all isDig=true:=by
 rw [List.take_succ_eq_append_getElem h,List.all_append,ha];simpa using hd
theorem readN_bad {s:List UInt8} (h:okDec s=false):readN s=(0,5):=by unfold readN;rw [h];rfl
theorem all_bad {s:List UInt8} {i:Nat} (h:i<s.length) (hd:isDig s[i]=false):okDec s=false:=by
 unfold okDec
 have:s.all isDig=false:=by
  rw [Bool.eq_false_iff];intro h2
  rw [List.all_eq_true] at h2
  have:=h2 s[i] (List.getElem_mem h)
  rw [hd] at this;cases this
 rw [this];simp
theorem len_step (l a:List Bool) (x:Nat) (h:l.length≤x) (ha:a.length≤128) (hx:128≤x):(plusL (timesL [] l [false,true,false,true]) a false).length≤x+5:=by
 have h1:=timesL_len [] l [false,true,false,true] (by simp)
 have h2:=plusL_len (timesL [] l [false,true,false,true]) a false
 simp only [List.length_cons,List.length_nil] at h1
 omega
theorem val_step (l:List Bool) (d:Nat) (hd:d<256):val (plusL (timesL [] l [false,true,false,true]) (bitsOf d 128) false)=10*val l+d:=by
 rw [plusL_val,timesL_val,bitsOf_val128 _ (by omega),show val [false,true,false,true]=10 from rfl,show val []=0 from rfl]
 simp;omega
theorem rread_t2 (s:List UInt8) (hl:s.length≤39) (ha:s.all isDig=true) (e:List (Nat×AV)) (pm:List (Pl×Nat)) (h0:lk e 0= .str s) (h2:lk e 2= .ptr (.n 2) 0):
  wpA (SpH Tryz.prog gl) (AC.tl 4 c63) (postA [.ca 2 2,.t 3] (if undec s<340282366920938463463374607431768211456 then .tup [wide (undec s),i6 0] else .tup [wide 0,i6 3])) ⟨e,[(.n 2,[u 0,u 0])],pm⟩:=by
 obtain ⟨R,hR⟩: ∃R,R=(if undec s<340282366920938463463374607431768211456 then AV.tup [wide (undec s),i6 0] else .tup [wide 0,i6 3]):=⟨_,rfl⟩
 rw [←hR]
 simp only [c63,AC.tl]
 simp -implicitDefEqProofs [h0,h2]
 refine wp_lpk (α:=Nat×List Bool) (fun x=>⟨[(0,.str s),(2,.ptr (.n 2) 0),(5,bl x.2),(6,bl [false,true,false,true]),(7,i6 x.1)],[(.n 2,[u 0,u 0])],[]⟩)
  (fun x=>x.1≤s.length∧x.2.length≤128+5*x.1∧val x.2=undec (s.take x.1)) (fun x=>s.length - x.1) ?_ (0,[]) ?_ ?_
 ·rintro K ⟨i,l⟩ hK ⟨h1,h3,h4⟩
  simp only at h1 h3 h4
  by_cases g:i<s.length
  ·have hd:isDig s[i]=true:=List.all_eq_true.1 ha _ (List.getElem_mem g)
   simp only [isDig,decide_eq_true_eq] at hd
   have ut:=undec_take s i g
   obtain ⟨x,hx⟩: ∃x,x=s[i]:=⟨_,rfl⟩
   rw [←hx] at hd ut
   obtain ⟨d,hd'⟩: ∃d,d=x.toNat - 48:=⟨_,rfl⟩
   rw [←hd'] at ut
   have T:=times_spec_l l [false,true,false,true] (by omega) (by simp)
   have B:=bits_spec d (by omega)
   have wd:wide d= .agg [u 0,u d]:=by unfold wide;rw [Nat.div_eq_of_lt (by omega),Nat.mod_eq_of_lt (by omega)]
   rw [wd] at B
   have tl:=timesL_len [] l [false,true,false,true] (by simp)
   simp only [List.length_cons,List.length_nil] at tl
   have Pl:=plus_spec (timesL [] l [false,true,false,true]) (bitsOf d 128) (by omega) (by rw [bitsOf_len];omega)
   have vs:=val_step l d (by omega)
   have ls:=len_step l (bitsOf d 128) (128+5*i) h3 (by rw [bitsOf_len];omega) (by omega)
   have t1:IntKind.i64.wrap ((i:Int)+1)=i+1:=by rw [wrap_i64]<;>omega
   have w1:IntKind.u64.wrap (x.toNat:Int)=x.toNat:=by rw [wrap_u64]<;>omega
   have w2:IntKind.u64.wrap ((x.toNat:Int) - 48)=d:=by rw [wrap_u64]<;>omega
   generalize plusL (timesL [] l [false,true,false,true]) (bitsOf d 128) false=l2 at *
   generalize timesL [] l [false,true,false,true]=l3 at *
   generalize bitsOf d 128=l4 at *
   have fin: ∀σ',Weak σ' ⟨[(0,.str s),(2,.ptr (.n 2) 0),(5,bl l2),(6,bl [false,true,false,true]),(7,i6 (i+1:Nat))],[(.n 2,[u 0,u 0])],[]⟩→K σ':=
    fun σ' hσ=>hK (i+1,l2) σ' ⟨by simp only;omega,by simp only;omega,by simp only;rw [vs,ut,h4]⟩ (by simp only;omega) hσ
   have gx:s[i]?=some x:=by rw [hx];exact List.getElem?_eq_getElem g
   clear hx hd' vs ls tl wd ut hK h4 hR
   simp -implicitDefEqProofs [bl,g]
   refine onC_mk _ T ?_
   simp -implicitDefEqProofs [gx,w1,w2]
   refine onC_mk _ B ?_
   simp -implicitDefEqProofs [bl]
   refine onC_mk _ Pl ?_
   simp -implicitDefEqProofs [bl]
   refine fin _ ?_
   apply weak_mk<;>simp [bl,t1]
  ·obtain rfl:i=s.length:=by omega
   rw [List.take_length] at h4
   have O:=of_spec l (by omega)
   rw [h4] at O
   have e0:wide 0= .agg [u 0,u 0]:=rfl
   by_cases q:undec s<340282366920938463463374607431768211456
   ·rw [if_pos q] at O hR
    subst hR
    unfold wide at *
    generalize undec s / 18446744073709551616=a1 at *
    generalize undec s%18446744073709551616=a2 at *
    simp -implicitDefEqProofs [bl]
    refine onC_mk _ O ?_
    simp -implicitDefEqProofs
   ·rw [if_neg q] at O hR
    subst hR
    rw [e0] at O ⊢
    simp -implicitDefEqProofs [bl]
    refine onC_mk _ O ?_
    simp -implicitDefEqProofs
 ·simp [undec,val]
 ·apply weak_mk<;>simp [bl,h0,h2]
theorem readN_over {s:List UInt8} (hok:okDec s=true) (h:39<s.length):readN s=(0,3):=by
 unfold readN
 rw [if_pos hok,if_neg]
 have h1:=okDec_big s hok (by omega)
 have h2:10^39≤10^(s.length - 1):=Nat.pow_le_pow_right (by omega) (by omega)
 have h3:(340282366920938463463374607431768211456:Nat)≤10^39:=by decide
 omega
theorem rread_t1 (s:List UInt8) (hl:s.length≤1000000) (hz:s.headD 0=48→s.length=1) (hne:s≠[]) (e:List (Nat×AV)) (pm:List (Pl×Nat)) (h0:lk e 0= .str s) (h2:lk e 2= .ptr (.n 2) 0):
  wpA (SpH Tryz.prog gl) (AC.tl 2 c63) (postA [.ca 2 2,.t 3] (.tup [wide (readN s).1,i6 (readN s).2])) ⟨e,[(.n 2,[u 0,u 0])],pm⟩:=by
 have okd:s.all isDig=true→okDec s=true:=by
  intro h
  unfold okDec
  rw [h]
  cases s with
  |nil=>exact absurd rfl hne
  |cons x r=>
   by_cases hx:x=48
   ·have:=hz hx;simp at this;simp [this]
   ·simp [hx]
 have tail: ∀e pm,s.length≤39→s.all isDig=true→lk e 0= .str s→lk e 2= .ptr (.n 2) 0→wpA (SpH Tryz.prog gl) (AC.tl 4 c63) (postA [.ca 2 2,.t 3] (.tup [wide (readN s).1,i6 (readN s).2])) ⟨e,[(.n 2,[u 0,u 0])],pm⟩:=by
  intro e pm h39 ha h0 h2
  have:=rread_t2 s h39 ha e pm h0 h2
  have er:(if undec s<340282366920938463463374607431768211456 then AV.tup [wide (undec s),i6 0] else .tup [wide 0,i6 3])= .tup [wide (readN s).1,i6 (readN s).2]:=by
   unfold readN
   rw [if_pos (okd ha)]
   split<;>rfl
  rw [er] at this
  exact this
 have ec:AC.tl 2 c63=AC.cutAt 2 (AC.tl 4 c63) (AC.tl 2 c63):=rfl
 rw [ec]
 generalize AC.tl 4 c63=t at tail ⊢
 have e0:wide 0= .agg [u 0,u 0]:=rfl
 have b5:okDec s=false→AV.tup [wide (readN s).1,i6 (readN s).2]= .tup [.agg [u 0,u 0],i6 5]:=fun h=>by rw [readN_bad h,e0];rfl
 have b3:okDec s=true→39<s.length→AV.tup [wide (readN s).1,i6 (readN s).2]= .tup [.agg [u 0,u 0],i6 3]:=fun h h'=>by rw [readN_over h h',e0];rfl
 generalize AV.tup [wide (readN s).1,i6 (readN s).2]=R at *
 simp only [c63,AC.tl,AC.cutAt]
 simp -implicitDefEqProofs [h0,h2]
 refine wp_lpk (α:=Nat) (fun i=>⟨[(0,.str s),(2,.ptr (.n 2) 0),(4,i6 i)],[(.n 2,[u 0,u 0])],[]⟩)
  (fun i=>i≤s.length∧(s.take i).all isDig=true) (fun i=>s.length - i) ?_ 0 ?_ ?_
 ·rintro K i hK ⟨h1,h3⟩
  by_cases g:i<s.length
  ·have t1:IntKind.i64.wrap ((i:Int)+1)=(i+1:Nat):=by rw [wrap_i64]<;>omega
   have fin:isDig s[i]=true→ ∀σ',Weak σ' ⟨[(0,.str s),(2,.ptr (.n 2) 0),(4,i6 (i+1:Nat))],[(.n 2,[u 0,u 0])],[]⟩→K σ':=
    fun hd σ' hσ=>hK (i+1) σ' ⟨by omega,all_take s i g hd h3⟩ (by omega) hσ
   have bad:isDig s[i]=false→R= .tup [.agg [u 0,u 0],i6 5]:=fun h=>b5 (all_bad g h)
   have gx:s[i]?=some s[i]:=List.getElem?_eq_getElem g
   obtain ⟨x,hx⟩: ∃x,s[i]=x:=⟨_,rfl⟩
   simp only [hx] at fin bad gx
   clear hK b5 b3 h3 tail
   by_cases x1:(x.toNat:Int)<48
   ·have:=bad (by simp only [isDig,decide_eq_false_iff_not];omega)
    subst this
    simp -implicitDefEqProofs [g,hx,x1]
   ·by_cases x2:(57:Int)<x.toNat
    ·have:=bad (by simp only [isDig,decide_eq_false_iff_not];omega)
     subst this
     simp -implicitDefEqProofs [g,hx,x1,x2]
    ·have fin:=fin (by simp only [isDig,decide_eq_true_eq];omega)
     simp -implicitDefEqProofs [g,hx,x1,x2]
     refine fin _ ?_
     apply weak_mk<;>simp [t1]
  ·obtain rfl:i=s.length:=by omega
   rw [List.take_length] at h3
   by_cases g2:39<s.length
   ·have:=b3 (okd h3) g2
    subst this
    have g2':(39:Int)<(s.length:Int):=by omega
    simp -implicitDefEqProofs [g2,g2']
   ·have g2': ¬(39:Int)<(s.length:Int):=by omega
    have tl:=fun e pm=>tail e pm (by omega) h3
    clear hK b5 b3 h3 tail
    simp -implicitDefEqProofs [g2,g2']
    refine tl _ _ ?_ ?_<;>simp -implicitDefEqProofs
 ·simp
 ·apply weak_mk<;>simp [h0,h2]
theorem rread_spec (s:List UInt8) (hl:s.length≤1000000):Sp Tryz.prog gl 63 [.str s] (.tup [wide (readN s).1,i6 (readN s).2]):=by
 refine s63 rfl rfl ?_
 have e0:wide 0= .agg [u 0,u 0]:=rfl
 cases s with
 |nil=>
  rw [readN_bad rfl]
  simp only [e0]
  simp -implicitDefEqProofs [c63]
 |cons x r=>
  by_cases h1:x=48∧1≤r.length
  ·have:okDec (x::r)=false:=by
    unfold okDec
    obtain ⟨rfl,h1⟩:=h1
    have h2:r≠[]:=by intro e;rw [e] at h1;simp at h1
    simp [h2]
   rw [readN_bad this]
   simp only [e0]
   obtain ⟨rfl,h1⟩:=h1
   have h2:(1:Int)<(r.length:Int)+1:=by omega
   simp -implicitDefEqProofs [c63,h2]
  ·have T:=rread_t1 (x::r) hl (fun h=>by
    simp at h
    simp
    exact Classical.byContradiction (fun hr=>h1 ⟨h,List.length_pos_iff.2 hr⟩)) (by simp)
   have ec:c63=AC.cutAt 2 (AC.tl 2 c63) c63:=rfl
   rw [ec]
   generalize AC.tl 2 c63=t at T ⊢
   simp only [c63,AC.cutAt]
   generalize AV.tup [wide (readN (x::r)).1,i6 (readN (x::r)).2]=R at *
   by_cases hx:x=48
   ·have h3: ¬1≤r.length:=fun h=>h1 ⟨hx,h⟩
    have h2: ¬(1:Int)<(r.length:Int)+1:=by omega
    subst hx
    simp -implicitDefEqProofs [h2]
    refine T _ _ ?_ ?_<;>simp -implicitDefEqProofs
   ·have hx':((x.toNat:Int)==48)=false:=by
     rw [beq_eq_false_iff_ne]
     intro h;apply hx
     have:x.toNat=(48:UInt8).toNat:=by simp;omega
     exact UInt8.toNat_inj.1 this
    simp -implicitDefEqProofs [hx']
    refine T _ _ ?_ ?_<;>simp -implicitDefEqProofs
end Go.Ai
