/- P6: a part of the proof: the rules, or what functions compute. Conditions: as each theorem says. -/
import Derived.Test.YtggemlhclppciaaGreatDoorP5
import Derived.Test.YtggemlhclppciaaGreatDoorP1
import Derived.Test.YtggemlhclppciaaGreatDoorP2
import Derived.Test.YtggemlhclppciaaGreatDoorP4
set_option linter.unusedSimpArgs false
set_option linter.unusedVariables false
set_option maxRecDepth 20000
namespace Go.Ai
open Go.Proofs
def readN (s:List UInt8):Nat×Nat:=if okDec s then (if undec s<340282366920938463463374607431768211456 then (undec s,0) else (0,3)) else (0,5)
theorem undec_take (s:List UInt8) (i:Nat) (h:i<s.length):undec (s.take (i+1))=10*undec (s.take i)+((s[i]).toNat - 48):=by
 rw [List.take_succ_eq_append_getElem h,undec_snoc]
theorem all_take (s:List UInt8) (i:Nat) (h:i<s.length) (hd:isDig s[i]=true) (ha:(s.take i).all isDig=true):(s.take (i+1)).all isDig=true:=by
 rw [List.take_succ_eq_append_getElem h,List.all_append,ha];simpa using hd
theorem readN_bad {s:List UInt8} (h:okDec s=false):readN s=(0,5):=by unfold readN;rw [h];rfl
theorem all_bad {s:List UInt8} {i:Nat} (h:i<s.length) (hd:isDig s[i]=false):okDec s=false:=by
 unfold okDec
 have:s.all isDig=false:=by
  rw [Bool.eq_false_iff];intro h2
  rw [List.all_eq_true] at h2
  have:=h2 s[i] (List.getElem_mem h)
  rw [hd] at this;cases this
 rw [this];simp
theorem len_step (l a:List Bool) (x:Nat) (h:l.length≤x) (ha:a.length≤128) (hx:128≤x):(plusL (timesL [] l [false,true,false,true]) a false).length≤x+5:=by
 have h1:=timesL_len [] l [false,true,false,true] (by simp)
 have h2:=plusL_len (timesL [] l [false,true,false,true]) a false
 simp only [List.length_cons,List.length_nil] at h1
 omega
theorem val_step (l:List Bool) (d:Nat) (hd:d<256):val (plusL (timesL [] l [false,true,false,true]) (bitsOf d 128) false)=10*val l+d:=by
 rw [plusL_val,timesL_val,bitsOf_val128 _ (by omega),show val [false,true,false,true]=10 from rfl,show val []=0 from rfl]
 simp;omega
theorem rread_t2 (s:List UInt8) (hl:s.length≤39) (ha:s.all isDig=true) (e:List (Nat×AV)) (pm:List (Pl×Nat)) (h0:lk e 0= .str s) (h2:lk e 2= .ptr (.n 2) 0):
  wpA (SpH Tryz.prog gl) (AC.tl 4 c197) (postA [.ca 2 2,.t 3] (if undec s<340282366920938463463374607431768211456 then .tup [wide (undec s),i6 0] else .tup [wide 0,i6 3])) ⟨e,[(.n 2,[u 0,u 0])],pm⟩:=by
 obtain ⟨R,hR⟩: ∃R,R=(if undec s<340282366920938463463374607431768211456 then AV.tup [wide (undec s),i6 0] else .tup [wide 0,i6 3]):=⟨_,rfl⟩
 rw [←hR]
 simp only [c197,AC.tl]
 simp -implicitDefEqProofs [h0,h2]
 refine wp_lpk (α:=Nat×List Bool) (fun x=>⟨[(0,.str s),(2,.ptr (.n 2) 0),(5,bl x.2),(6,bl [false,true,false,true]),(7,i6 x.1)],[(.n 2,[u 0,u 0])],[]⟩)
  (fun x=>x.1≤s.length∧x.2.length≤128+5*x.1∧val x.2=undec (s.take x.1)) (fun x=>s.length - x.1) ?_ (0,[]) ?_ ?_
 ·rintro K ⟨i,l⟩ hK ⟨h1,h3,h4⟩
  simp only at h1 h3 h4
  by_cases g:i<s.length
  ·have hd:isDig s[i]=true:=List.all_eq_true.1 ha _ (List.getElem_mem g)
   simp only [isDig,decide_eq_true_eq] at hd
   have ut:=undec_take s i g
   obtain ⟨x,hx⟩: ∃x,x=s[i]:=⟨_,rfl⟩
   rw [←hx] at hd ut
   obtain ⟨d,hd'⟩: ∃d,d=x.toNat - 48:=⟨_,rfl⟩
   rw [←hd'] at ut
   have T:=times_spec_l l [false,true,false,true] (by omega) (by simp)
   have B:=bits_spec d (by omega)
   have wd:wide d= .agg [u 0,u d]:=by unfold wide;rw [Nat.div_eq_of_lt (by omega),Nat.mod_eq_of_lt (by omega)]
   rw [wd] at B
   have tl:=timesL_len [] l [false,true,false,true] (by simp)
   simp only [List.length_cons,List.length_nil] at tl
   have Pl:=plus_spec (timesL [] l [false,true,false,true]) (bitsOf d 128) (by omega) (by rw [bitsOf_len];omega)
   have vs:=val_step l d (by omega)
   have ls:=len_step l (bitsOf d 128) (128+5*i) h3 (by rw [bitsOf_len];omega) (by omega)
   have t1:IntKind.i64.wrap ((i:Int)+1)=i+1:=by rw [wrap_i64]<;>omega
   have w1:IntKind.u64.wrap (x.toNat:Int)=x.toNat:=by rw [wrap_u64]<;>omega
   have w2:IntKind.u64.wrap ((x.toNat:Int) - 48)=d:=by rw [wrap_u64]<;>omega
   generalize plusL (timesL [] l [false,true,false,true]) (bitsOf d 128) false=l2 at *
   generalize timesL [] l [false,true,false,true]=l3 at *
   generalize bitsOf d 128=l4 at *
   have fin: ∀σ',Weak σ' ⟨[(0,.str s),(2,.ptr (.n 2) 0),(5,bl l2),(6,bl [false,true,false,true]),(7,i6 (i+1:Nat))],[(.n 2,[u 0,u 0])],[]⟩→K σ':=
    fun σ' hσ=>hK (i+1,l2) σ' ⟨by simp only;omega,by simp only;omega,by simp only;rw [vs,ut,h4]⟩ (by simp only;omega) hσ
   have gx:s[i]?=some x:=by rw [hx];exact List.getElem?_eq_getElem g
   clear hx hd' vs ls tl wd ut hK h4 hR
   simp -implicitDefEqProofs [bl,g]
   refine onC_mk _ T ?_
   simp -implicitDefEqProofs [gx,w1,w2]
   refine onC_mk _ B ?_
   simp -implicitDefEqProofs [bl]
   refine onC_mk _ Pl ?_
   simp -implicitDefEqProofs [bl]
   refine fin _ ?_
   apply weak_mk<;>simp [bl,t1]
  ·obtain rfl:i=s.length:=by omega
   rw [List.take_length] at h4
   have O:=of_spec l (by omega)
   rw [h4] at O
   have e0:wide 0= .agg [u 0,u 0]:=rfl
   by_cases q:undec s<340282366920938463463374607431768211456
   ·rw [if_pos q] at O hR
    subst hR
    unfold wide at *
    generalize undec s / 18446744073709551616=a1 at *
    generalize undec s%18446744073709551616=a2 at *
    simp -implicitDefEqProofs [bl]
    refine onC_mk _ O ?_
    simp -implicitDefEqProofs
   ·rw [if_neg q] at O hR
    subst hR
    rw [e0] at O ⊢
    simp -implicitDefEqProofs [bl]
    refine onC_mk _ O ?_
    simp -implicitDefEqProofs
 ·simp [undec,val]
 ·apply weak_mk<;>simp [bl,h0,h2]
theorem readN_over {s:List UInt8} (hok:okDec s=true) (h:39<s.length):readN s=(0,3):=by
 unfold readN
 rw [if_pos hok,if_neg]
 have h1:=okDec_big s hok (by omega)
 have h2:10^39≤10^(s.length - 1):=Nat.pow_le_pow_right (by omega) (by omega)
 have h3:(340282366920938463463374607431768211456:Nat)≤10^39:=by decide
 omega
theorem rread_t1 (s:List UInt8) (hl:s.length≤1000000) (hz:s.headD 0=48→s.length=1) (hne:s≠[]) (e:List (Nat×AV)) (pm:List (Pl×Nat)) (h0:lk e 0= .str s) (h2:lk e 2= .ptr (.n 2) 0):
  wpA (SpH Tryz.prog gl) (AC.tl 2 c197) (postA [.ca 2 2,.t 3] (.tup [wide (readN s).1,i6 (readN s).2])) ⟨e,[(.n 2,[u 0,u 0])],pm⟩:=by
 have okd:s.all isDig=true→okDec s=true:=by
  intro h
  unfold okDec
  rw [h]
  cases s with
  |nil=>exact absurd rfl hne
  |cons x r=>
   by_cases hx:x=48
   ·have:=hz hx;simp at this;simp [this]
   ·simp [hx]
 have tail: ∀e pm,s.length≤39→s.all isDig=true→lk e 0= .str s→lk e 2= .ptr (.n 2) 0→wpA (SpH Tryz.prog gl) (AC.tl 4 c197) (postA [.ca 2 2,.t 3] (.tup [wide (readN s).1,i6 (readN s).2])) ⟨e,[(.n 2,[u 0,u 0])],pm⟩:=by
  intro e pm h39 ha h0 h2
  have:=rread_t2 s h39 ha e pm h0 h2
  have er:(if undec s<340282366920938463463374607431768211456 then AV.tup [wide (undec s),i6 0] else .tup [wide 0,i6 3])= .tup [wide (readN s).1,i6 (readN s).2]:=by
   unfold readN
   rw [if_pos (okd ha)]
   split<;>rfl
  rw [er] at this
  exact this
 have ec:AC.tl 2 c197=AC.cutAt 2 (AC.tl 4 c197) (AC.tl 2 c197):=rfl
 rw [ec]
 generalize AC.tl 4 c197=t at tail ⊢
 have e0:wide 0= .agg [u 0,u 0]:=rfl
 have b5:okDec s=false→AV.tup [wide (readN s).1,i6 (readN s).2]= .tup [.agg [u 0,u 0],i6 5]:=fun h=>by rw [readN_bad h,e0];rfl
 have b3:okDec s=true→39<s.length→AV.tup [wide (readN s).1,i6 (readN s).2]= .tup [.agg [u 0,u 0],i6 3]:=fun h h'=>by rw [readN_over h h',e0];rfl
 generalize AV.tup [wide (readN s).1,i6 (readN s).2]=R at *
 simp only [c197,AC.tl,AC.cutAt]
 simp -implicitDefEqProofs [h0,h2]
 refine wp_lpk (α:=Nat) (fun i=>⟨[(0,.str s),(2,.ptr (.n 2) 0),(4,i6 i)],[(.n 2,[u 0,u 0])],[]⟩)
  (fun i=>i≤s.length∧(s.take i).all isDig=true) (fun i=>s.length - i) ?_ 0 ?_ ?_
 ·rintro K i hK ⟨h1,h3⟩
  by_cases g:i<s.length
  ·have t1:IntKind.i64.wrap ((i:Int)+1)=(i+1:Nat):=by rw [wrap_i64]<;>omega
   have fin:isDig s[i]=true→ ∀σ',Weak σ' ⟨[(0,.str s),(2,.ptr (.n 2) 0),(4,i6 (i+1:Nat))],[(.n 2,[u 0,u 0])],[]⟩→K σ':=
    fun hd σ' hσ=>hK (i+1) σ' ⟨by omega,all_take s i g hd h3⟩ (by omega) hσ
   have bad:isDig s[i]=false→R= .tup [.agg [u 0,u 0],i6 5]:=fun h=>b5 (all_bad g h)
   have gx:s[i]?=some s[i]:=List.getElem?_eq_getElem g
   obtain ⟨x,hx⟩: ∃x,s[i]=x:=⟨_,rfl⟩
   simp only [hx] at fin bad gx
   clear hK b5 b3 h3 tail
   by_cases x1:(x.toNat:Int)<48
   ·have:=bad (by simp only [isDig,decide_eq_false_iff_not];omega)
    subst this
    simp -implicitDefEqProofs [g,hx,x1]
   ·by_cases x2:(57:Int)<x.toNat
    ·have:=bad (by simp only [isDig,decide_eq_false_iff_not];omega)
     subst this
     simp -implicitDefEqProofs [g,hx,x1,x2]
    ·have fin:=fin (by simp only [isDig,decide_eq_true_eq];omega)
     simp -implicitDefEqProofs [g,hx,x1,x2]
     refine fin _ ?_
     apply weak_mk<;>simp [t1]
  ·obtain rfl:i=s.length:=by omega
   rw [List.take_length] at h3
   by_cases g2:39<s.length
   ·have:=b3 (okd h3) g2
    subst this
    have g2':(39:Int)<(s.length:Int):=by omega
    simp -implicitDefEqProofs [g2,g2']
   ·have g2': ¬(39:Int)<(s.length:Int):=by omega
    have tl:=fun e pm=>tail e pm (by omega) h3
    clear hK b5 b3 h3 tail
    simp -implicitDefEqProofs [g2,g2']
    refine tl _ _ ?_ ?_<;>simp -implicitDefEqProofs
 ·simp
 ·apply weak_mk<;>simp [h0,h2]
theorem rread_spec (s:List UInt8) (hl:s.length≤1000000):Sp Tryz.prog gl 197 [.str s] (.tup [wide (readN s).1,i6 (readN s).2]):=by
 refine s197 rfl rfl ?_
 have e0:wide 0= .agg [u 0,u 0]:=rfl
 cases s with
 |nil=>
  rw [readN_bad rfl]
  simp only [e0]
  simp -implicitDefEqProofs [c197]
 |cons x r=>
  by_cases h1:x=48∧1≤r.length
  ·have:okDec (x::r)=false:=by
    unfold okDec
    obtain ⟨rfl,h1⟩:=h1
    have h2:r≠[]:=by intro e;rw [e] at h1;simp at h1
    simp [h2]
   rw [readN_bad this]
   simp only [e0]
   obtain ⟨rfl,h1⟩:=h1
   have h2:(1:Int)<(r.length:Int)+1:=by omega
   simp -implicitDefEqProofs [c197,h2]
  ·have T:=rread_t1 (x::r) hl (fun h=>by
    simp at h
    simp
    exact Classical.byContradiction (fun hr=>h1 ⟨h,List.length_pos_iff.2 hr⟩)) (by simp)
   have ec:c197=AC.cutAt 2 (AC.tl 2 c197) c197:=rfl
   rw [ec]
   generalize AC.tl 2 c197=t at T ⊢
   simp only [c197,AC.cutAt]
   generalize AV.tup [wide (readN (x::r)).1,i6 (readN (x::r)).2]=R at *
   by_cases hx:x=48
   ·have h3: ¬1≤r.length:=fun h=>h1 ⟨hx,h⟩
    have h2: ¬(1:Int)<(r.length:Int)+1:=by omega
    subst hx
    simp -implicitDefEqProofs [h2]
    refine T _ _ ?_ ?_<;>simp -implicitDefEqProofs
   ·have hx':((x.toNat:Int)==48)=false:=by
     rw [beq_eq_false_iff_ne]
     intro h;apply hx
     have:x.toNat=(48:UInt8).toNat:=by simp;omega
     exact UInt8.toNat_inj.1 this
    simp -implicitDefEqProofs [hx']
    refine T _ _ ?_ ?_<;>simp -implicitDefEqProofs
open Go.Proofs
theorem get_at (s:List UInt8) (i:Nat) (h:i<s.length):(ByteArray.mk s.toArray).get! (i+0)=s[i]:=by
 show (ByteArray.mk s.toArray).get! i=_
 simp [ByteArray.get!,getElem!_pos,h]
theorem rune_lo {s:List UInt8} {i:Nat} (h:i<s.length) (hb:s[i].toNat<128):runeAt s i=((s[i].toNat:Int),1):=by
 unfold runeAt Utf8.decode
 simp only [get_at s i h,hb,if_true]
theorem rune_hi {s:List UInt8} {i:Nat} (h:i<s.length) (hb: ¬s[i].toNat<128):128≤(runeAt s i).1:=by
 unfold runeAt Utf8.decode
 simp only [get_at s i h,hb,if_false,Utf8.runeError]
 generalize (ByteArray.mk s.toArray).get! (i+1)=x1
 generalize (ByteArray.mk s.toArray).get! (i+2)=x2
 generalize (ByteArray.mk s.toArray).get! (i+3)=x3
 generalize (s[i]).toNat=b at *
 split
 ·split
  ·simp only [];omega
  ·simp only [];omega
 ·split
  ·split
   ·rename_i h2;simp only [Bool.and_eq_true,decide_eq_true_eq] at h2;simp only [];omega
   ·simp only [];omega
  ·split
   ·split
    ·rename_i h2;simp only [Bool.and_eq_true,decide_eq_true_eq] at h2;simp only [];omega
    ·simp only [];omega
   ·simp only [];omega
theorem xdigits_spec (s:List UInt8) (hl:s.length≤1000000):Sp Tryz.prog gl 209 [.str s] (.bool (okDec s)):=by
 refine s209 rfl rfl ?_
 have bad: ∀i (h:i<s.length),isDig s[i]=false→okDec s=false:=fun i h=>all_bad h
 have bad0:s.headD 0=48→1<s.length→okDec s=false:=by
  intro h1 h2
  unfold okDec
  rw [h1]
  have:(s.length==1)=false:=by simp;omega
  rw [this];simp
 have good:s≠[]→s.all isDig=true→(s.headD 0=48→s.length=1)→okDec s=true:=by
  intro h1 h2 h3
  unfold okDec
  rw [h2]
  by_cases hx:s.headD 0=48
  ·simp [h1,h3 hx]
  ·have:(s.headD 0 !=48)=true:=by simp only [bne_iff_ne,ne_eq];exact hx
   rw [this];simp [h1]
 have hnil:s=[]→okDec s=false:=by rintro rfl;rfl
 have h1000:s.headD 0=(s[0]?).getD 0:=by cases s<;>rfl
 generalize okDec s=R at *
 simp -implicitDefEqProofs [c209]
 refine wp_lpk (α:=Nat) (fun i=>⟨[(0,.str s),(6,.itp 6)],[(.it 6,[.itr s i])],[]⟩)
  (fun i=>i≤s.length∧(s.take i).all isDig=true∧(1≤i→s.headD 0=48→s.length=1)) (fun i=>s.length - i) ?_ 0 ?_ ?_
 ·rintro K i hK ⟨h1,h3,h4⟩
  by_cases g:i<s.length
  ·have fin:isDig s[i]=true→(i=0→s[i]=48→s.length=1)→ ∀σ',Weak σ' ⟨[(0,.str s),(6,.itp 6)],[(.it 6,[.itr s (i+1)])],[]⟩→K σ':=
    fun hd h5 σ' hσ=>hK (i+1) σ' ⟨by omega,all_take s i g hd h3,fun _ hh=>by
     by_cases hi:i=0
     ·subst hi
      refine h5 rfl ?_
      rw [h1000,List.getElem?_eq_getElem g] at hh
      simpa using hh
     ·exact h4 (by omega) hh⟩ (by omega) hσ
   have bad:=bad i g
   have rlo:=rune_lo g
   have rhi:=rune_hi g
   have bad0':i=0→s[i]=48→1<s.length→R=false:=by
    rintro rfl h5 h6
    refine bad0 ?_ h6
    rw [h1000,List.getElem?_eq_getElem g,h5];rfl
   obtain ⟨x,hsx⟩: ∃x,s[i]=x:=⟨_,rfl⟩
   simp only [hsx] at fin bad rlo rhi bad0'
   clear hK bad0 good hnil h4 h3
   by_cases hx:x.toNat<128
   ·have r:=rlo hx
    by_cases x1:(x.toNat:Int)<48
    ·have:=bad (by simp only [isDig,decide_eq_false_iff_not];omega)
     subst this
     simp -implicitDefEqProofs [g,r,x1]
    ·by_cases x2:(57:Int)<x.toNat
     ·have:=bad (by simp only [isDig,decide_eq_false_iff_not];omega)
      subst this
      simp -implicitDefEqProofs [g,r,x1,x2]
     ·have fin:=fin (by simp only [isDig,decide_eq_true_eq];omega)
      by_cases i0:i=0
      ·subst i0
       by_cases x3:x.toNat=48
       ·have x3':x=48:=UInt8.toNat_inj.1 (by rw [x3];rfl)
        by_cases l1:1<s.length
        ·have:=bad0' rfl x3' l1
         subst this
         have l1':(1:Int)<(s.length:Int):=by omega
         have x3i:(x.toNat:Int)=48:=by omega
         simp -implicitDefEqProofs [g,r,x1,x2,x3i,l1']
        ·have l1': ¬(1:Int)<(s.length:Int):=by omega
         have x3i:(x.toNat:Int)=48:=by omega
         have fin:=fin (fun _ _=>by omega)
         clear bad bad0'
         simp -implicitDefEqProofs [g,r,x1,x2,x3i,l1']
         refine fin _ ?_
         apply weak_mk<;>simp
       ·have x3':((x.toNat:Int)==48)=false:=by rw [beq_eq_false_iff_ne];omega
        have fin:=fin (fun _ h=>absurd (by rw [h];rfl) x3)
        simp -implicitDefEqProofs [g,r,x1,x2,x3']
        refine fin _ ?_
        apply weak_mk<;>simp
      ·have i0':((i:Int)==0)=false:=by rw [beq_eq_false_iff_ne];omega
       have fin:=fin (fun h=>absurd h i0)
       simp -implicitDefEqProofs [g,r,x1,x2,i0']
       refine fin _ ?_
       apply weak_mk<;>simp
   ·have h128:=rhi hx
    have:=bad (by simp only [isDig,decide_eq_false_iff_not];omega)
    subst this
    obtain ⟨rr,hrr⟩: ∃rr,(runeAt s i).1=rr:=⟨_,rfl⟩
    rw [hrr] at h128
    have x1: ¬rr<48:=by omega
    have x2:(57:Int)<rr:=by omega
    simp -implicitDefEqProofs [g,hrr,x1,x2]
  ·obtain rfl:i=s.length:=by omega
   rw [List.take_length] at h3
   clear hK bad bad0
   by_cases hs:s=[]
   ·have:=hnil hs
    subst this;subst hs
    simp -implicitDefEqProofs
   ·have:=good hs h3 (h4 (List.length_pos_iff.2 hs))
    subst this
    simp -implicitDefEqProofs [hs]
 ·simp
 ·apply weak_mk<;>simp
open Go.Proofs
theorem wrap_i32 {n:Int} (h1: -2147483648≤n) (h2:n<2147483648):IntKind.i32.wrap n=n:=by
 have e1:(2:Int)^32=4294967296:=by decide
 have e2:(2:Int)^(32 - 1)=2147483648:=by decide
 have:IntKind.i32.wrap n=if (true&&decide (n%2^32≥2^(32 - 1)))=true then n%2^32 - 2^32 else n%2^32:=rfl
 rw [this]
 simp only [e1,e2,Bool.true_and,decide_eq_true_eq]
 split<;>omega
theorem foldl_mono10 (r:List UInt8) (a:Nat):a≤r.foldl (fun a b=>10*a+(b.toNat - 48)) a:=by
 induction r generalizing a with
 |nil=>exact Nat.le_refl _
 |cons x r ih=>simp only [List.foldl_cons];exact Nat.le_trans (by omega) (ih _)
theorem undec_take_le (s:List UInt8) (i:Nat):undec (s.take i)≤undec s:=by
 have h:=foldl_mono10 (s.drop i) (undec (s.take i))
 have:undec s=(s.drop i).foldl (fun a b=>10*a+(b.toNat - 48)) (undec (s.take i)):=by
  unfold undec
  rw [←List.foldl_append,List.take_append_drop]
 omega
theorem xread_spec (s:List UInt8) (hl:s.length≤1000000):Sp Tryz.prog gl 185 [.str s] (.tup [wide (readN s).1,i6 (readN s).2]):=by
 refine s185 rfl rfl ?_
 have e0:wide 0= .agg [u 0,u 0]:=rfl
 have D:=xdigits_spec s hl
 cases hok:okDec s with
 |false=>
  rw [hok] at D
  rw [readN_bad hok,e0]
  simp -implicitDefEqProofs [c185]
  refine onC_mk _ D ?_
  simp -implicitDefEqProofs
 |true=>
  rw [hok] at D
  have hall:s.all isDig=true:=by
   unfold okDec at hok
   simp only [Bool.and_eq_true] at hok
   exact hok.1.2
  have res:readN s=if undec s<340282366920938463463374607431768211456 then (undec s,0) else (0,3):=by unfold readN;rw [if_pos hok]
  have rbad: ¬undec s<340282366920938463463374607431768211456→AV.tup [wide (readN s).1,i6 (readN s).2]= .tup [.agg [u 0,u 0],i6 3]:=fun h=>by rw [res,if_neg h,e0];rfl
  have rgood:undec s<340282366920938463463374607431768211456→AV.tup [wide (readN s).1,i6 (readN s).2]= .tup [wide (undec s),i6 0]:=fun h=>by rw [res,if_pos h];rfl
  clear res
  generalize AV.tup [wide (readN s).1,i6 (readN s).2]=R at *
  simp -implicitDefEqProofs [c185]
  refine onC_mk _ D ?_
  simp -implicitDefEqProofs
  refine wp_lpk (α:=Nat) (fun i=>⟨[(0,.str s),(2,.ptr (.n 2) 0),(4,.ptr (.n 4) 0),(14,.itp 14)],[(.n 2,[u 0,u 0]),(.n 4,[u (undec (s.take i) / 18446744073709551616),u (undec (s.take i)%18446744073709551616)]),(.it 14,[.itr s i])],[]⟩)
   (fun i=>i≤s.length∧undec (s.take i)<340282366920938463463374607431768211456) (fun i=>s.length - i) ?_ 0 ?_ ?_
  ·rintro K i hK ⟨h1,h3⟩
   by_cases g:i<s.length
   ·have hd:isDig s[i]=true:=List.all_eq_true.1 hall _ (List.getElem_mem g)
    simp only [isDig,decide_eq_true_eq] at hd
    have ut:=undec_take s i g
    have ul:=undec_take_le s (i+1)
    have r:=rune_lo g (by omega)
    have fin:undec (s.take (i+1))<340282366920938463463374607431768211456→ ∀σ',Weak σ' ⟨[(0,.str s),(2,.ptr (.n 2) 0),(4,.ptr (.n 4) 0),(14,.itp 14)],[(.n 2,[u 0,u 0]),(.n 4,[u (undec (s.take (i+1)) / 18446744073709551616),u (undec (s.take (i+1))%18446744073709551616)]),(.it 14,[.itr s (i+1)])],[]⟩→K σ':=
     fun h σ' hσ=>hK (i+1) σ' ⟨by omega,h⟩ (by omega) hσ
    generalize undec (s.take (i+1))=n2 at *
    generalize undec (s.take i)=n1 at *
    obtain ⟨x,hsx⟩: ∃x,s[i]=x:=⟨_,rfl⟩
    simp only [hsx] at hd ut r
    obtain ⟨dg,hdg⟩: ∃dg,dg=x.toNat - 48:=⟨_,rfl⟩
    rw [←hdg] at ut
    have w1:IntKind.i32.wrap ((x.toNat:Int) - 48)=dg:=by rw [wrap_i32]<;>omega
    have w2:IntKind.u64.wrap (dg:Int)=dg:=by rw [wrap_u64]<;>omega
    have M:=xmore_spec n1 10 h3 (by omega)
    clear hK rgood
    by_cases o1:n1*10<340282366920938463463374607431768211456
    ·rw [if_pos o1] at M
     have A:=xadd_spec (n1*10) dg o1 (by omega)
     have wd:wide dg= .agg [u 0,u dg]:=by unfold wide;rw [Nat.div_eq_of_lt (by omega),Nat.mod_eq_of_lt (by omega)]
     rw [wd] at A
     have en:n1*10+dg=n2:=by omega
     rw [en] at A
     by_cases o2:n2<340282366920938463463374607431768211456
     ·rw [if_pos o2] at A
      have fin:=fin o2
      unfold wide at M A
      clear ut en ul rbad h3 o1 o2 hdg
      generalize n1*10 / 18446744073709551616=a1 at *
      generalize n1*10%18446744073709551616=a2 at *
      generalize n1 / 18446744073709551616=b1 at *
      generalize n1%18446744073709551616=b2 at *
      generalize n2 / 18446744073709551616=d1 at *
      generalize n2%18446744073709551616=d2 at *
      simp -implicitDefEqProofs [g,r]
      refine onC_mk _ M ?_
      simp -implicitDefEqProofs
      rw [w1,w2]
      refine onC_mk _ A ?_
      simp -implicitDefEqProofs
      refine fin _ ?_
      apply weak_mk<;>simp
     ·rw [if_neg o2] at A
      have:=rbad (by omega)
      subst this
      unfold wide at M A
      clear ut en ul rbad h3 o1 o2 hdg fin
      generalize n1*10 / 18446744073709551616=a1 at *
      generalize n1*10%18446744073709551616=a2 at *
      generalize n1 / 18446744073709551616=b1 at *
      generalize n1%18446744073709551616=b2 at *
      simp -implicitDefEqProofs [g,r]
      refine onC_mk _ M ?_
      simp -implicitDefEqProofs
      rw [w1,w2]
      refine onC_mk _ A ?_
      simp -implicitDefEqProofs
    ·rw [if_neg o1] at M
     have:=rbad (by omega)
     subst this
     unfold wide at M
     clear ut ul rbad h3 o1 hdg fin
     generalize n1 / 18446744073709551616=b1 at *
     generalize n1%18446744073709551616=b2 at *
     simp -implicitDefEqProofs [g,r]
     refine onC_mk _ M ?_
     simp -implicitDefEqProofs
   ·obtain rfl:i=s.length:=by omega
    rw [List.take_length] at h3 ⊢
    have:=rgood h3
    subst this
    unfold wide
    clear hK rbad rgood
    generalize undec s / 18446744073709551616=a1 at *
    generalize undec s%18446744073709551616=a2 at *
    simp -implicitDefEqProofs
  ·simp [undec]
  ·apply weak_mk<;>simp [undec]
open Go.Proofs
def numF (s:List UInt8):Nat×Int:=if okDec s=true then (if undec s<18446744073709551616 then (undec s,0) else (0,8)) else (0,5)
theorem readN_num (s:List UInt8):(okDec s=false∧readN s=(0,5)∧numF s=(0,5))∨(okDec s=true∧undec s<18446744073709551616∧readN s=(undec s,0)∧numF s=(undec s,0))∨
  (okDec s=true∧18446744073709551616≤undec s∧undec s<340282366920938463463374607431768211456∧readN s=(undec s,0)∧numF s=(0,8))∨(readN s=(0,3)∧numF s=(0,8)):=by
 unfold readN numF
 by_cases c:okDec s=true
 ·by_cases c1:undec s<18446744073709551616
  ·right;left
   refine ⟨c,c1,?_,?_⟩
   ·rw [if_pos c,if_pos (by omega)]
   ·rw [if_pos c,if_pos c1]
  ·by_cases c2:undec s<340282366920938463463374607431768211456
   ·right;right;left
    refine ⟨c,by omega,c2,?_,?_⟩
    ·rw [if_pos c,if_pos c2]
    ·rw [if_pos c,if_neg c1]
   ·right;right;right
    refine ⟨?_,?_⟩
    ·rw [if_pos c,if_neg c2]
    ·rw [if_pos c,if_neg c1]
 ·left
  have c':okDec s=false:=by simpa using c
  refine ⟨c',?_,?_⟩
  ·rw [if_neg c]
  ·rw [if_neg c]
def numA (q:Nat×Int):AV:=if q.2=0 then .ifc 44 (u q.1) else .ifc 28 (i6 q.2)
theorem rnumber_spec (s:List UInt8) (hl:s.length≤1000000):Sp Tryz.prog gl 154 [.str s] (.tup [u (numF s).1,i6 (numF s).2]):=by
 refine s154 rfl rfl ?_
 have R:=rread_spec s hl
 rcases readN_num s with ⟨_,h1,h2⟩|⟨_,h0,h1,h2⟩|⟨_,h0,h3,h1,h2⟩|⟨h1,h2⟩
 ·rw [h1] at R
  rw [h2]
  unfold wide at R
  simp -implicitDefEqProofs [c154]
  refine onC_mk _ (R) ?_
  simp -implicitDefEqProofs
 ·rw [h1] at R
  rw [h2]
  unfold wide at R
  have e1:undec s / 18446744073709551616=0:=Nat.div_eq_of_lt h0
  have e2:undec s%18446744073709551616=undec s:=Nat.mod_eq_of_lt h0
  simp only [e1,e2] at R
  generalize undec s=n at *
  simp -implicitDefEqProofs [c154]
  refine onC_mk _ (R) ?_
  simp -implicitDefEqProofs
 ·rw [h1] at R
  rw [h2]
  unfold wide at R
  obtain ⟨hi,e1⟩: ∃hi,hi=undec s / 18446744073709551616:=⟨_,rfl⟩
  have e2:0<hi:=by omega
  have e2':(0:Int)<hi:=by omega
  dsimp only at R
  rw [←e1] at R
  generalize undec s%18446744073709551616=lo at *
  clear e1 h0 h3 h1 h2
  simp -implicitDefEqProofs [c154]
  refine onC_mk _ (R) ?_
  simp -implicitDefEqProofs [e2,e2']
 ·rw [h1] at R
  rw [h2]
  unfold wide at R
  simp -implicitDefEqProofs [c154]
  refine onC_mk _ (R) ?_
  simp -implicitDefEqProofs
theorem snumber_spec (s:List UInt8) (hl:s.length≤1000000):Sp Tryz.prog gl 143 [.str s] (numA (numF s)):=by
 refine s143 rfl rfl ?_
 have R:=xread_spec s hl
 unfold numA
 rcases readN_num s with ⟨_,h1,h2⟩|⟨_,h0,h1,h2⟩|⟨_,h0,h3,h1,h2⟩|⟨h1,h2⟩
 ·rw [h1] at R
  rw [h2,if_neg (by decide)]
  unfold wide at R
  simp -implicitDefEqProofs [c143]
  refine onC_mk _ (R) ?_
  simp -implicitDefEqProofs
 ·rw [h1] at R
  rw [h2,if_pos rfl]
  unfold wide at R
  have e1:undec s / 18446744073709551616=0:=Nat.div_eq_of_lt h0
  have e2:undec s%18446744073709551616=undec s:=Nat.mod_eq_of_lt h0
  simp only [e1,e2] at R
  generalize undec s=n at *
  simp -implicitDefEqProofs [c143]
  refine onC_mk _ (R) ?_
  simp -implicitDefEqProofs
 ·rw [h1] at R
  rw [h2,if_neg (by decide)]
  unfold wide at R
  obtain ⟨hi,e1⟩: ∃hi,hi=undec s / 18446744073709551616:=⟨_,rfl⟩
  have e2:0<hi:=by omega
  have e2':(0:Int)<hi:=by omega
  dsimp only at R
  rw [←e1] at R
  generalize undec s%18446744073709551616=lo at *
  clear e1 h0 h3 h1 h2
  simp -implicitDefEqProofs [c143]
  refine onC_mk _ (R) ?_
  simp -implicitDefEqProofs [e2,e2']
 ·rw [h1] at R
  rw [h2,if_neg (by decide)]
  unfold wide at R
  simp -implicitDefEqProofs [c143]
  refine onC_mk _ (R) ?_
  simp -implicitDefEqProofs
def toldV (k:Int) (q:Nat×Int):TV:=if q.2=0 then .t k [] q.1 else .e q.2
theorem stold_spec (k:Int) (n:Nat) (e:Int):Sp Tryz.prog gl 144 [i6 k,u n,i6 e] (toldV k (n,e)).av:=by
 refine s144 rfl rfl ?_
 unfold toldV
 by_cases c:e=0
 ·subst c
  rw [if_pos rfl]
  unfold TV.av
  simp -implicitDefEqProofs [c144]
 ·have c1:(e !=0)=true:=bne_iff_ne.2 c
  have c2:(e==0)=false:=beq_eq_false_iff_ne.2 c
  rw [if_neg c]
  unfold TV.av
  simp -implicitDefEqProofs [c144,c1,c2,c]
def dgsF (s:List UInt8):Bool:=s.all isDig&&decide (0<s.length)
theorem rdigits_spec (s:List UInt8) (hl:s.length≤1000000):Sp Tryz.prog gl 153 [.str s] (.bool (dgsF s)):=by
 refine s153 rfl rfl ?_
 obtain ⟨R,hR⟩: ∃R,R=s.all isDig:=⟨_,rfl⟩
 unfold dgsF
 rw [←hR]
 simp -implicitDefEqProofs [c153]
 refine wp_lpk (α:=Nat) (fun i=>⟨[(0,.str s),(3,i6 i)],[],[]⟩) (fun i=>i≤s.length∧(s.drop i).all isDig=R) (fun i=>s.length - i) ?_ 0 ?_ ?_
 ·rintro K i hK ⟨h1,h2⟩
  by_cases g:i<s.length
  ·have t1:IntKind.i64.wrap ((i:Int)+1)=(i+1:Nat):=by rw [wrap_i64]<;>omega
   rw [List.drop_eq_getElem_cons g,List.all_cons] at h2
   have D:=rdigit13_spec ((s[i].toNat:Nat):Int)
   have ed:digR ((s[i].toNat:Nat):Int)=isDig s[i]:=by
    unfold digR isDig
    rw [Bool.eq_iff_iff,decide_eq_true_iff,decide_eq_true_iff]
    omega
   have w3:IntKind.i32.wrap ((s[i].toNat:Nat):Int)=((s[i].toNat:Nat):Int):=by
    have:=s[i].toNat_lt
    rw [wrap_i32]<;>omega
   rw [ed] at D
   cases hd:isDig s[i]
   ·rw [hd] at D h2
    simp only [Bool.false_and] at h2
    subst h2
    clear hK
    simp -implicitDefEqProofs [g]
    try simp only [w3]
    refine onC_mk _ (D) ?_
    simp -implicitDefEqProofs
   ·rw [hd] at D h2
    simp only [Bool.true_and] at h2
    simp -implicitDefEqProofs [g]
    try simp only [w3]
    refine onC_mk _ (D) ?_
    simp -implicitDefEqProofs
    refine hK (i+1) _ ⟨by omega,h2⟩ (by omega) ?_
    refine weak_mk ?_ ?_ ?_ ?_ ?_ ?_<;>simp -implicitDefEqProofs [t1]
  ·obtain rfl:i=s.length:=by omega
   rw [List.drop_length,List.all_nil] at h2
   subst h2
   clear hK
   simp -implicitDefEqProofs
 ·exact ⟨Nat.zero_le _,hR.symm⟩
 ·refine weak_mk ?_ ?_ ?_ ?_ ?_ ?_<;>simp -implicitDefEqProofs
theorem same13_spec (fs:List Tk) (hl:fs.length≤1000000):Sp Tryz.prog gl 33 [.sl (fs.map Tk.row),.sl (fs.map Tk.row)] (.bool true):=by
 refine s33 rfl rfl ?_
 have rl:(fs.map Tk.row).length=fs.length:=by simp
 have rat: ∀i (h:i<fs.length),∀h2,(fs.map Tk.row)[i]'h2=[i6 fs[i].k,.str fs[i].t,u fs[i].n,i6 fs[i].ln,i6 fs[i].co]:=fun i h h2=>by simp [Tk.row]
 generalize fs.map Tk.row=RR at *
 simp -implicitDefEqProofs [c33]
 refine wp_lpk (α:=Nat) (fun i=>⟨[(0,.sl RR),(1,.sl RR),(5,i6 i)],[],[]⟩)
  (fun i=>i≤fs.length) (fun i=>fs.length - i) ?_ 0 ?_ ?_
 ·rintro K i hK h1
  by_cases g:i<fs.length
  ·have t1:IntKind.i64.wrap ((i:Int)+1)=(i+1:Nat):=by rw [wrap_i64]<;>omega
   have gR:i<RR.length:=by omega
   have ra:=rat i g gR
   have fin: ∀σ',Weak σ' ⟨[(0,.sl RR),(1,.sl RR),(5,i6 (i+1:Nat))],[],[]⟩→K σ':=
    fun σ' hσ=>hK (i+1) σ' (by omega) (by omega) hσ
   clear hK rat
   generalize fs[i]=x at *
   simp -implicitDefEqProofs [g,gR,ra,rl]
   refine fin _ ?_
   refine weak_mk ?_ ?_ ?_ ?_ ?_ ?_<;>simp -implicitDefEqProofs [t1]
  ·obtain rfl:i=fs.length:=by omega
   clear hK
   simp -implicitDefEqProofs [rl]
 ·exact Nat.zero_le _
 ·refine weak_mk ?_ ?_ ?_ ?_ ?_ ?_<;>simp -implicitDefEqProofs
open Go.Proofs
def unitZ (r:Int):Nat:=if r=119 then 604800 else if r=100 then 86400 else if r=104 then 3600 else if r=109 then 60 else if r=115 then 1 else 0
theorem unitZ_le (r:Int):unitZ r≤604800:=by
 unfold unitZ
 repeat' split
 all_goals omega
theorem sunit_spec (r:Int):Sp Tryz.prog gl 131 [i3 r] (i6 (unitZ r)):=by
 refine s131 rfl rfl ?_
 unfold unitZ
 have ne: ∀z:Int,¬r=z→(r==z)=false:=fun z h=>beq_eq_false_iff_ne.2 h
 by_cases c1:r=119
 ·subst c1
  simp -implicitDefEqProofs [c131]
 rw [if_neg c1]
 by_cases c2:r=100
 ·subst c2
  simp -implicitDefEqProofs [c131]
 rw [if_neg c2]
 by_cases c3:r=104
 ·subst c3
  simp -implicitDefEqProofs [c131]
 rw [if_neg c3]
 by_cases c4:r=109
 ·subst c4
  simp -implicitDefEqProofs [c131]
 rw [if_neg c4]
 by_cases c5:r=115
 ·subst c5
  simp -implicitDefEqProofs [c131]
 rw [if_neg c5]
 simp -implicitDefEqProofs [c131,c1,c2,c3,c4,c5,ne _ c1,ne _ c2,ne _ c3,ne _ c4,ne _ c5]
theorem runit04_spec (r:Int):Sp Tryz.prog gl 105 [.int .u8 r] (i6 (unitZ r)):=by
 refine s105 rfl rfl ?_
 have ne: ∀z:Int,¬r=z→(z==r)=false:=fun z h=>beq_eq_false_iff_ne.2 (Ne.symm h)
 obtain ⟨R,hR⟩: ∃R,R=unitZ r:=⟨_,rfl⟩
 rw [←hR]
 unfold unitZ at hR
 simp -implicitDefEqProofs [c105]
 refine wp_lpk (α:=Nat) (fun i=>⟨[(0,.int .u8 r),(3,.str [119,100,104,109,115]),(4,.sl [[i6 604800],[i6 86400],[i6 3600],[i6 60],[i6 1]]),(5,i6 i)],[],[]⟩) (fun i=>i≤5∧(0<i→r≠119)∧(1<i→r≠100)∧(2<i→r≠104)∧(3<i→r≠109)∧(4<i→r≠115)) (fun i=>5 - i) ?_ 0 ?_ ?_
 ·rintro K i hK ⟨h0,h1,h2,h3,h4,h5⟩
  obtain rfl|rfl|rfl|rfl|rfl|rfl:i=0∨i=1∨i=2∨i=3∨i=4∨i=5:=by omega
  ·by_cases c:r=119
   ·subst c
    rw [if_pos rfl] at hR
    subst hR
    simp -implicitDefEqProofs
   ·simp [c,ne _ c]
    have w:IntKind.i64.wrap 1=1:=by decide
    refine hK 1 _ ⟨by omega,fun _=>c,by omega,by omega,by omega,by omega⟩ (by omega) ?_
    refine weak_mk ?_ ?_ ?_ ?_ ?_ ?_<;>simp -implicitDefEqProofs [w]
  ·by_cases c:r=100
   ·subst c
    rw [if_neg (h1 (by omega)),if_pos rfl] at hR
    subst hR
    simp -implicitDefEqProofs
   ·simp [c,ne _ c]
    have w:IntKind.i64.wrap 2=2:=by decide
    refine hK 2 _ ⟨by omega,fun _=>h1 (by omega),fun _=>c,by omega,by omega,by omega⟩ (by omega) ?_
    refine weak_mk ?_ ?_ ?_ ?_ ?_ ?_<;>simp -implicitDefEqProofs [w]
  ·by_cases c:r=104
   ·subst c
    rw [if_neg (h1 (by omega)),if_neg (h2 (by omega)),if_pos rfl] at hR
    subst hR
    simp -implicitDefEqProofs
   ·simp [c,ne _ c]
    have w:IntKind.i64.wrap 3=3:=by decide
    refine hK 3 _ ⟨by omega,fun _=>h1 (by omega),fun _=>h2 (by omega),fun _=>c,by omega,by omega⟩ (by omega) ?_
    refine weak_mk ?_ ?_ ?_ ?_ ?_ ?_<;>simp -implicitDefEqProofs [w]
  ·by_cases c:r=109
   ·subst c
    rw [if_neg (h1 (by omega)),if_neg (h2 (by omega)),if_neg (h3 (by omega)),if_pos rfl] at hR
    subst hR
    simp -implicitDefEqProofs
   ·simp [c,ne _ c]
    have w:IntKind.i64.wrap 4=4:=by decide
    refine hK 4 _ ⟨by omega,fun _=>h1 (by omega),fun _=>h2 (by omega),fun _=>h3 (by omega),fun _=>c,by omega⟩ (by omega) ?_
    refine weak_mk ?_ ?_ ?_ ?_ ?_ ?_<;>simp -implicitDefEqProofs [w]
  ·by_cases c:r=115
   ·subst c
    rw [if_neg (h1 (by omega)),if_neg (h2 (by omega)),if_neg (h3 (by omega)),if_neg (h4 (by omega)),if_pos rfl] at hR
    subst hR
    simp -implicitDefEqProofs
   ·simp [c,ne _ c]
    have w:IntKind.i64.wrap 5=5:=by decide
    refine hK 5 _ ⟨by omega,fun _=>h1 (by omega),fun _=>h2 (by omega),fun _=>h3 (by omega),fun _=>h4 (by omega),fun _=>c⟩ (by omega) ?_
    refine weak_mk ?_ ?_ ?_ ?_ ?_ ?_<;>simp -implicitDefEqProofs [w]
  ·rw [if_neg (h1 (by omega)),if_neg (h2 (by omega)),if_neg (h3 (by omega)),if_neg (h4 (by omega)),if_neg (h5 (by omega))] at hR
   subst hR
   clear hK
   simp -implicitDefEqProofs
 ·exact ⟨by omega,by omega,by omega,by omega,by omega,by omega⟩
 ·refine weak_mk ?_ ?_ ?_ ?_ ?_ ?_<;>simp -implicitDefEqProofs
def spR:List UInt8→Bool→Nat→Nat→Nat→Bool→Nat×Int
 |[],dg,n,la,sm,fr=>if dg=true then (0,5) else if fr=true then (0,8) else (sm,0)
 |c::l,dg,n,la,sm,fr=>
  if isDig c=true then spR l true (if n≤253402300799 then 10*n+(c.toNat - 48) else n) la sm fr
  else if dg=false∨unitZ c.toNat=0∨la≤unitZ c.toNat then (0,5)
  else if 253402300799 / unitZ c.toNat<n then spR l false 0 (unitZ c.toNat) sm true
  else if 253402300799<sm+n*unitZ c.toNat then spR l false 0 (unitZ c.toNat) 0 true
  else spR l false 0 (unitZ c.toNat) (sm+n*unitZ c.toNat) fr
def spanR (s:List UInt8):Nat×Int:=if s=[] then (0,5) else spR s false 0 1000000 0 false
open Go.Proofs
theorem rspan_spec (s:List UInt8) (hl:s.length≤1000000):Sp Tryz.prog gl 157 [.str s] (.tup [i6 (spanR s).1,i6 (spanR s).2]):=by
 refine s157 rfl rfl ?_
 unfold spanR
 by_cases e:s=[]
 ·subst e
  rw [if_pos rfl]
  simp -implicitDefEqProofs [c157]
  refine wp_lpk (α:=Nat) (fun i=>⟨[(0,.str []),(4,i6 0),(5,.bool false),(6,i6 1000000),(7,i6 0)],[],[]⟩) (fun i=>True) (fun i=>1) ?_ 0 ?_ ?_
  ·rintro K i hK _
   clear hK
   simp -implicitDefEqProofs
  ·exact True.intro
  ·refine weak_mk ?_ ?_ ?_ ?_ ?_ ?_<;>simp -implicitDefEqProofs
 rw [if_neg e]
 have en:(s==[])=false:=beq_eq_false_iff_ne.2 e
 obtain ⟨R,hR⟩: ∃R,R=spR s false 0 1000000 0 false:=⟨_,rfl⟩
 rw [←hR]
 simp -implicitDefEqProofs [c157]
 refine wp_lpk (α:=Nat×Nat×Nat×Bool) (fun y=>⟨[(0,.str s),(4,i6 y.2.2.1),(5,.bool y.2.2.2),(6,i6 y.2.1),(7,i6 y.1)],[],[]⟩)
  (fun y=>y.1≤s.length∧y.2.2.1≤253402300799∧y.2.1≤1000000∧spR (s.drop y.1) false 0 y.2.1 y.2.2.1 y.2.2.2=R) (fun y=>s.length - y.1) ?_ (0,1000000,0,false) ?_ ?_
 ·rintro K ⟨i,la,sm,fr⟩ hK ⟨h1,h2,h3,h4⟩
  simp only at h1 h2 h3 h4
  by_cases g:i<s.length
  rotate_left
  ·obtain rfl:i=s.length:=by omega
   rw [List.drop_length,spR,if_neg (by decide)] at h4
   clear hK
   cases fr
   ·rw [if_neg (by decide)] at h4
    subst h4
    simp -implicitDefEqProofs [e,en]
   ·rw [if_pos rfl] at h4
    subst h4
    simp -implicitDefEqProofs [e,en]
  have fin: ∀(j la' sm':Nat) (fr':Bool),i<j→j≤s.length→sm'≤253402300799→la'≤1000000→spR (s.drop j) false 0 la' sm' fr'=R→
    ∀σ',Weak σ' ⟨[(0,.str s),(4,i6 sm'),(5,.bool fr'),(6,i6 la'),(7,i6 j)],[],[]⟩→K σ':=
   fun j la' sm' fr' a1 a2 a3 a4 a5 σ' hσ=>hK (j,la',sm',fr') σ' ⟨a2,a3,a4,a5⟩ (by simp only;omega) hσ
  clear hK hR
  simp -implicitDefEqProofs [g]
  refine wp_lpk (α:=Nat×Nat) (fun y=>⟨[(0,.str s),(4,i6 sm),(5,.bool fr),(6,i6 la),(7,i6 i),(8,i6 y.1),(9,i6 y.2)],[],[]⟩)
   (fun y=>i≤y.1∧y.1≤s.length∧y.2≤2534023008000∧spR (s.drop y.1) (decide (i<y.1)) y.2 la sm fr=R) (fun y=>s.length - y.1) ?_ (i,0) ?_ ?_
  ·rintro K2 ⟨k,n⟩ hK ⟨k1,k2,k3,k4⟩
   simp only at k1 k2 k3 k4
   by_cases gk:k<s.length
   rotate_left
   ·obtain rfl:k=s.length:=by omega
    rw [List.drop_length,spR,if_pos (by simpa using g)] at k4
    subst k4
    clear hK fin h4
    have a1:((s.length:Int)==(i:Int))=false:=beq_eq_false_iff_ne.2 (by omega)
    have a2: ¬(s.length:Int)=(i:Int):=by omega
    simp -implicitDefEqProofs [a1,a2]
   rw [List.drop_eq_getElem_cons gk,spR] at k4
   have lt:=s[k].toNat_lt
   have t1:IntKind.i64.wrap ((k:Int)+1)=(k+1:Nat):=by rw [wrap_i64]<;>omega
   by_cases hd:isDig s[k]=true
   ·rw [if_pos hd] at k4
    unfold isDig at hd
    rw [decide_eq_true_iff] at hd
    have d1:(48:Int)≤(s[k].toNat:Int):=by omega
    have d2:(s[k].toNat:Int)≤57:=by omega
    have fin2: ∀n':Nat,n'≤2534023008000→spR (s.drop (k+1)) true n' la sm fr=R→ ∀σ',Weak σ' ⟨[(0,.str s),(4,i6 sm),(5,.bool fr),(6,i6 la),(7,i6 i),(8,i6 (k+1:Nat)),(9,i6 n')],[],[]⟩→K2 σ':=
     fun n' a1 a2 σ' hσ=>hK (k+1,n') σ' ⟨by simp only;omega,gk,a1,by
      simp only
      rw [show decide (i<k+1)=true by rw [decide_eq_true_iff];omega]
      exact a2⟩ (by simp only;omega) hσ
    clear hK fin
    by_cases c:n≤253402300799
    ·rw [if_pos c] at k4
     have c':(n:Int)≤253402300799:=by omega
     have w1:IntKind.i64.wrap (10*(n:Int))=10*(n:Int):=by rw [wrap_i64]<;>omega
     have w2:IntKind.i64.wrap (s[k].toNat:Int)=(s[k].toNat:Int):=by rw [wrap_i64]<;>omega
     have w3:IntKind.i64.wrap (10*(n:Int)+(s[k].toNat:Int))=10*(n:Int)+(s[k].toNat:Int):=by rw [wrap_i64]<;>omega
     have w4:IntKind.i64.wrap (10*(n:Int)+(s[k].toNat:Int) - 48)=(10*n+(s[k].toNat - 48):Nat):=by rw [wrap_i64]<;>omega
     have f:=fin2 _ (by omega) k4
     clear fin2 k4
     simp -implicitDefEqProofs [gk,d1,d2,c',w1,w2,w3]
     refine f _ ?_
     refine weak_mk ?_ ?_ ?_ ?_ ?_ ?_<;>simp -implicitDefEqProofs [t1,w1,w2,w3,w4]
    ·rw [if_neg c] at k4
     have c': ¬(n:Int)≤253402300799:=by omega
     have f:=fin2 _ k3 k4
     clear fin2 k4
     simp -implicitDefEqProofs [gk,d1,d2,c']
     refine f _ ?_
     refine weak_mk ?_ ?_ ?_ ?_ ?_ ?_<;>simp -implicitDefEqProofs [t1]
   ·clear hK
    rw [if_neg hd] at k4
    unfold isDig at hd
    rw [decide_eq_true_iff] at hd
    have U:=runit04_spec (s[k].toNat:Int)
    have ul:=unitZ_le (s[k].toNat:Int)
    by_cases kk:k=i
    ·subst kk
     rw [if_pos (Or.inl (by simp))] at k4
     subst k4
     clear fin U h4
     by_cases d1:(48:Int)≤(s[k].toNat:Int)
     ·have d2: ¬(s[k].toNat:Int)≤57:=by omega
      simp -implicitDefEqProofs [gk,d1,d2]
     ·simp [gk,d1]
    have kk': ¬(k:Int)=(i:Int):=by omega
    have kn:((k:Int)==(i:Int))=false:=beq_eq_false_iff_ne.2 kk'
    have kl:((k:Int)==(s.length:Int))=false:=beq_eq_false_iff_ne.2 (by omega)
    have kl': ¬(k:Int)=(s.length:Int):=by omega
    have kd:decide (i<k)=true:=by rw [decide_eq_true_iff];omega
    rw [kd] at k4
    have hd':(48:Int)≤(s[k].toNat:Int)→ ¬(s[k].toNat:Int)≤57:=by omega
    clear hd lt
    generalize unitZ (s[k].toNat:Int)=un at *
    by_cases d1:(48:Int)≤(s[k].toNat:Int)
    ·have d2:=hd' d1
     simp -implicitDefEqProofs [gk,kn,kl,kk',kl',d1,d2]
     refine onC_mk _ (U) ?_
     by_cases u0:un=0
     ·subst u0
      rw [if_pos (Or.inr (Or.inl rfl))] at k4
      subst k4
      simp -implicitDefEqProofs
     have u0':((un:Int)==0)=false:=beq_eq_false_iff_ne.2 (by omega)
     have u0'': ¬(un:Int)=0:=by omega
     simp -implicitDefEqProofs [gk,u0,u0',u0'']
     refine onC_mk _ (U) ?_
     by_cases u1:la≤un
     ·rw [if_pos (Or.inr (Or.inr u1))] at k4
      subst k4
      have u1':(la:Int)≤(un:Int):=by omega
      simp -implicitDefEqProofs [gk,u1,u1']
     have u1': ¬(la:Int)≤(un:Int):=by omega
     rw [if_neg (by rintro (h|h|h);cases h;exact u0 h;exact u1 h)] at k4
     simp -implicitDefEqProofs [gk,u1,u1']
     refine onC_mk _ (U) ?_
     have q:Int.tdiv 253402300799 (un:Int)=((253402300799 / un:Nat):Int):=by rfl
     have qm:253402300799 / un*un≤253402300799:=Nat.div_mul_le_self _ _
     have un0:0<un:=by omega
     have u64:(un:Int)≠0:=by omega
     have fu: ∀(sm':Nat) (fr':Bool),sm'≤253402300799→spR (s.drop (k+1)) false 0 un sm' fr'=R→ ∀σ',Weak σ' ⟨[(0,.str s),(4,i6 sm'),(5,.bool fr'),(6,i6 un),(7,i6 (k+1:Nat))],[],[]⟩→K σ':=
      fun sm' fr' b1 b2 σ' hσ=>fin (k+1) un sm' fr' (by omega) gk b1 (by omega) b2 σ' hσ
     have wq:IntKind.i64.wrap ((253402300799:Int) / (un:Int))=((253402300799 / un:Nat):Int):=by
      have ql:253402300799 / un≤253402300799:=Nat.div_le_self _ _
      rw [show (253402300799:Int) / (un:Int)=((253402300799 / un:Nat):Int) from rfl]
      generalize 253402300799 / un=qq at ql ⊢
      rw [wrap_i64]<;>omega
     have wn:IntKind.i64.wrap ((n:Int)*(un:Int))=((n*un:Nat):Int):=by
      have nm:n*un≤2534023008000*604800:=Nat.mul_le_mul k3 ul
      rw [←Int.natCast_mul,wrap_i64]<;>omega
     have nq:n≤253402300799 / un→n*un≤253402300799:=fun h=>Nat.le_trans (Nat.mul_le_mul_right _ h) qm
     have ql:253402300799 / un≤253402300799:=Nat.div_le_self _ _
     generalize 253402300799 / un=qq at *
     have wqq:IntKind.i64.wrap (qq:Int)=(qq:Int):=by rw [wrap_i64]<;>omega
     generalize n*un=nu at *
     clear fin U qm
     by_cases v1:qq<n
     ·rw [if_pos v1] at k4
      have v1':(qq:Int)<(n:Int):=by omega
      have v2: ¬(253402300799:Int)<(sm:Int):=by omega
      have f:=fu _ _ h2 k4
      clear fu k4
      simp -implicitDefEqProofs [gk,u0,u64,q,wqq,v1,v1',v2]
      refine f _ ?_
      refine weak_mk ?_ ?_ ?_ ?_ ?_ ?_<;>simp -implicitDefEqProofs [t1]
     rw [if_neg v1] at k4
     have v1': ¬(qq:Int)<(n:Int):=by omega
     have nq':=nq (by omega)
     have ws:IntKind.i64.wrap ((sm:Int)+(nu:Int))=((sm+nu:Nat):Int):=by rw [wrap_i64]<;>omega
     generalize sm+nu=sn at *
     by_cases v3:253402300799<sn
     ·rw [if_pos v3] at k4
      have v3':(253402300799:Int)<(sn:Int):=by omega
      have f:=fu _ _ (by omega) k4
      clear fu k4
      simp -implicitDefEqProofs [gk,u0,u64,q,wqq,v1,v1',wn,ws,v3,v3']
      refine f _ ?_
      refine weak_mk ?_ ?_ ?_ ?_ ?_ ?_<;>simp -implicitDefEqProofs [t1]
     rw [if_neg v3] at k4
     have v3': ¬(253402300799:Int)<(sn:Int):=by omega
     have f:=fu _ _ (by omega) k4
     clear fu k4
     simp -implicitDefEqProofs [gk,u0,u64,q,wqq,v1,v1',wn,ws,v3,v3']
     refine f _ ?_
     refine weak_mk ?_ ?_ ?_ ?_ ?_ ?_<;>simp -implicitDefEqProofs [t1]
    simp -implicitDefEqProofs [gk,kn,kl,kk',kl',d1]
    refine onC_mk _ (U) ?_
    by_cases u0:un=0
    ·subst u0
     rw [if_pos (Or.inr (Or.inl rfl))] at k4
     subst k4
     simp -implicitDefEqProofs
    have u0':((un:Int)==0)=false:=beq_eq_false_iff_ne.2 (by omega)
    have u0'': ¬(un:Int)=0:=by omega
    simp -implicitDefEqProofs [gk,u0,u0',u0'']
    refine onC_mk _ (U) ?_
    by_cases u1:la≤un
    ·rw [if_pos (Or.inr (Or.inr u1))] at k4
     subst k4
     have u1':(la:Int)≤(un:Int):=by omega
     simp -implicitDefEqProofs [gk,u1,u1']
    have u1': ¬(la:Int)≤(un:Int):=by omega
    rw [if_neg (by rintro (h|h|h);cases h;exact u0 h;exact u1 h)] at k4
    simp -implicitDefEqProofs [gk,u1,u1']
    refine onC_mk _ (U) ?_
    have q:Int.tdiv 253402300799 (un:Int)=((253402300799 / un:Nat):Int):=by rfl
    have qm:253402300799 / un*un≤253402300799:=Nat.div_mul_le_self _ _
    have un0:0<un:=by omega
    have u64:(un:Int)≠0:=by omega
    have fu: ∀(sm':Nat) (fr':Bool),sm'≤253402300799→spR (s.drop (k+1)) false 0 un sm' fr'=R→ ∀σ',Weak σ' ⟨[(0,.str s),(4,i6 sm'),(5,.bool fr'),(6,i6 un),(7,i6 (k+1:Nat))],[],[]⟩→K σ':=
     fun sm' fr' b1 b2 σ' hσ=>fin (k+1) un sm' fr' (by omega) gk b1 (by omega) b2 σ' hσ
    have wq:IntKind.i64.wrap ((253402300799:Int) / (un:Int))=((253402300799 / un:Nat):Int):=by
     have ql:253402300799 / un≤253402300799:=Nat.div_le_self _ _
     rw [show (253402300799:Int) / (un:Int)=((253402300799 / un:Nat):Int) from rfl]
     generalize 253402300799 / un=qq at ql ⊢
     rw [wrap_i64]<;>omega
    have wn:IntKind.i64.wrap ((n:Int)*(un:Int))=((n*un:Nat):Int):=by
     have nm:n*un≤2534023008000*604800:=Nat.mul_le_mul k3 ul
     rw [←Int.natCast_mul,wrap_i64]<;>omega
    have nq:n≤253402300799 / un→n*un≤253402300799:=fun h=>Nat.le_trans (Nat.mul_le_mul_right _ h) qm
    have ql:253402300799 / un≤253402300799:=Nat.div_le_self _ _
    generalize 253402300799 / un=qq at *
    have wqq:IntKind.i64.wrap (qq:Int)=(qq:Int):=by rw [wrap_i64]<;>omega
    generalize n*un=nu at *
    clear fin U qm
    by_cases v1:qq<n
    ·rw [if_pos v1] at k4
     have v1':(qq:Int)<(n:Int):=by omega
     have v2: ¬(253402300799:Int)<(sm:Int):=by omega
     have f:=fu _ _ h2 k4
     clear fu k4
     simp -implicitDefEqProofs [gk,u0,u64,q,wqq,v1,v1',v2]
     refine f _ ?_
     refine weak_mk ?_ ?_ ?_ ?_ ?_ ?_<;>simp -implicitDefEqProofs [t1]
    rw [if_neg v1] at k4
    have v1': ¬(qq:Int)<(n:Int):=by omega
    have nq':=nq (by omega)
    have ws:IntKind.i64.wrap ((sm:Int)+(nu:Int))=((sm+nu:Nat):Int):=by rw [wrap_i64]<;>omega
    generalize sm+nu=sn at *
    by_cases v3:253402300799<sn
    ·rw [if_pos v3] at k4
     have v3':(253402300799:Int)<(sn:Int):=by omega
     have f:=fu _ _ (by omega) k4
     clear fu k4
     simp -implicitDefEqProofs [gk,u0,u64,q,wqq,v1,v1',wn,ws,v3,v3']
     refine f _ ?_
     refine weak_mk ?_ ?_ ?_ ?_ ?_ ?_<;>simp -implicitDefEqProofs [t1]
    rw [if_neg v3] at k4
    have v3': ¬(253402300799:Int)<(sn:Int):=by omega
    have f:=fu _ _ (by omega) k4
    clear fu k4
    simp -implicitDefEqProofs [gk,u0,u64,q,wqq,v1,v1',wn,ws,v3,v3']
    refine f _ ?_
    refine weak_mk ?_ ?_ ?_ ?_ ?_ ?_<;>simp -implicitDefEqProofs [t1]
  ·exact ⟨Nat.le_refl _,h1,by omega,by simpa using h4⟩
  ·refine weak_mk ?_ ?_ ?_ ?_ ?_ ?_<;>simp -implicitDefEqProofs
 ·exact ⟨Nat.zero_le _,Nat.zero_le _,Nat.le_refl _,hR.symm⟩
 ·refine weak_mk ?_ ?_ ?_ ?_ ?_ ?_<;>simp -implicitDefEqProofs
open Go.Proofs
def sufB (s t:List UInt8):Bool:=decide (t.length≤s.length)&&(s.drop (s.length - t.length)==t)
theorem hasSuf_spec (s t:List UInt8) (hl:s.length≤1000000) (ht:t.length≤1000000):Sp Tryz.prog gl 186 [.str s,.str t] (.bool (sufB s t)):=by
 refine s186 rfl rfl ?_
 unfold sufB
 by_cases g:t.length≤s.length
 ·have g':(t.length:Int)≤s.length:=by omega
  have w:IntKind.i64.wrap ((s.length:Int) - (t.length:Int))=(s.length - t.length:Nat):=by rw [wrap_i64]<;>omega
  have gm:s.length - t.length≤s.length:=Nat.sub_le _ _
  rw [decide_eq_true g,Bool.true_and]
  generalize s.length - t.length=m at *
  simp -implicitDefEqProofs [c186,g,g',w,gm]
 ·have g': ¬(t.length:Int)≤s.length:=by omega
  rw [decide_eq_false g,Bool.false_and]
  simp -implicitDefEqProofs [c186,g,g']
theorem hasSufP_spec (s t:List UInt8) (hl:s.length≤1000000) (ht:t.length≤1000000):Sp Tryz.prog gl 145 [.str s,.str t] (.bool (sufB s t)):=by
 refine s145 rfl rfl ?_
 have H:=hasSuf_spec s t hl ht
 generalize sufB s t=b at *
 simp -implicitDefEqProofs [c145]
 refine onC_mk _ (H) ?_
 simp -implicitDefEqProofs
def cutSuf (s t:List UInt8):List UInt8:=if sufB s t=true then s.take (s.length - t.length) else s
theorem cutSufL_spec (s t:List UInt8) (hl:s.length≤1000000) (ht:t.length≤1000000):Sp Tryz.prog gl 211 [.str s,.str t] (.tup [.str (cutSuf s t),.bool (sufB s t)]):=by
 refine s211 rfl rfl ?_
 have H:=hasSuf_spec s t hl ht
 have k:sufB s t=true→t.length≤s.length:=fun h=>by
  unfold sufB at h
  rw [Bool.and_eq_true,decide_eq_true_iff] at h
  exact h.1
 unfold cutSuf
 have w:t.length≤s.length→IntKind.i64.wrap ((s.length:Int) - (t.length:Int))=(s.length - t.length:Nat):=fun h=>by rw [wrap_i64]<;>omega
 have gm:s.length - t.length≤s.length:=Nat.sub_le _ _
 cases hb:sufB s t
 ·rw [hb] at H
  simp -implicitDefEqProofs [c211]
  refine onC_mk _ (H) ?_
  simp -implicitDefEqProofs
 ·rw [hb] at H
  have w':=w (k hb)
  generalize s.length - t.length=m at *
  simp -implicitDefEqProofs [c211]
  refine onC_mk _ (H) ?_
  simp -implicitDefEqProofs [w',gm]
theorem cutSuf_spec (s t:List UInt8) (hl:s.length≤1000000) (ht:t.length≤1000000):Sp Tryz.prog gl 187 [.str s,.str t] (.tup [.str (cutSuf s t),.bool (sufB s t)]):=by
 refine s187 rfl rfl ?_
 have H:=cutSufL_spec s t hl ht
 generalize cutSuf s t=a at *
 generalize sufB s t=b at *
 simp -implicitDefEqProofs [c187]
 refine onC_mk _ (H) ?_
 simp -implicitDefEqProofs
open Go.Proofs
theorem rcount_spec (s:List UInt8) (hl:s.length≤1000000):Sp Tryz.prog gl 213 [.str s] (i6 (runesL s 0).length):=by
 refine s213 rfl rfl ?_
 obtain ⟨R,hR⟩: ∃R,R=(runesL s 0).length:=⟨_,rfl⟩
 rw [←hR]
 simp -implicitDefEqProofs [c213]
 refine wp_lpk (α:=Nat×Nat) (fun x=>⟨[(2,i6 x.2),(4,.itp 4)],[(.it 4,[.itr s x.1])],[]⟩)
  (fun x=>x.2≤x.1∧x.1≤s.length∧x.2+(runesL s x.1).length=R) (fun x=>s.length - x.1) ?_ (0,0) ?_ ?_
 ·rintro K ⟨i,n⟩ hK ⟨h1,h2,h3⟩
  simp only at h1 h2 h3
  by_cases g:i<s.length
  ·rw [runesL_in g,List.length_cons] at h3
   have sr:=step_rune s i g
   have sl:=stepR_le s i g
   have sp:=stepR_pos s i
   have t1:IntKind.i64.wrap ((n:Int)+1)=(n+1:Nat):=by rw [wrap_i64]<;>omega
   have fin: ∀σ',Weak σ' ⟨[(2,i6 (n+1:Nat)),(4,.itp 4)],[(.it 4,[.itr s (i+(stepR s i).2)])],[]⟩→K σ':=
    fun σ' hσ=>hK (i+(stepR s i).2,n+1) σ' ⟨by simp only;omega,sl,by simp only;omega⟩ (by simp only;omega) hσ
   clear hK hR h3
   by_cases hb:(stepR s i).1= -1
   ·rw [if_pos hb] at sr
    rw [stepR_oneA s i hb] at fin
    clear sl sp
    simp -implicitDefEqProofs [g,sr]
    refine fin _ ?_
    refine weak_mk ?_ ?_ ?_ ?_ ?_ ?_<;>simp -implicitDefEqProofs [t1]
   ·rw [if_neg hb] at sr
    have esr:(stepR s i)=((stepR s i).1,(stepR s i).2):=rfl
    rw [esr] at sr
    clear esr hb sl sp
    generalize (stepR s i).1=r at *
    generalize (stepR s i).2=w at *
    simp -implicitDefEqProofs [g,sr]
    refine fin _ ?_
    refine weak_mk ?_ ?_ ?_ ?_ ?_ ?_<;>simp -implicitDefEqProofs [t1]
  ·rw [runesL_out g] at h3
   have h3':n=R:=by simpa using h3
   subst h3'
   clear hK
   simp -implicitDefEqProofs [g]
 ·exact ⟨Nat.le_refl _,Nat.zero_le _,by simp only;omega⟩
 ·refine weak_mk ?_ ?_ ?_ ?_ ?_ ?_<;>simp -implicitDefEqProofs
end Go.Ai
