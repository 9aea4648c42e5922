/- P4: a part of the proof: the rules, or what functions compute. Conditions: as each theorem says. -/
import Derived.Test.YtggemlhclppciaaGreatDoorP3
import Derived.Test.YtggemlhclppciaaGreatDoorLib9
import Derived.Laws.Externs
import Derived.Test.YtggemlhclppciaaGreatDoorP1
import Derived.Test.YtggemlhclppciaaGreatDoorP2
set_option linter.unusedSimpArgs false
set_option linter.unusedVariables false
set_option maxRecDepth 20000
namespace Go.Ai
open Go.Proofs Go.RowKit
theorem add64_spec (x y c:Nat) (hc:c≤1):Sp Tryz.prog gl 217 [u x,u y,u c] (.tup [u ((x+y+c)%18446744073709551616),u ((x+y+c) / 18446744073709551616)]):=by
 refine ext_spec (fn:=Tryz.f217) (e:=add64Entry) Tryz.func217 (by kernel_rfl) (by kernel_rfl) (by kernel_rfl) (by kernel_rfl) ?_
 intro S gb w vs h
 simp only [PRlist,PR] at h
 obtain ⟨_,_,rfl,rfl,_,_,rfl,rfl,_,_,rfl,rfl,rfl⟩:=h
 refine ⟨_,run_add64 x y c (by omega) (by omega) (by omega) (by omega) w,?_⟩
 simp only [PR]
 refine ⟨_,rfl,?_⟩
 simp only [PRlist,PR]
 exact ⟨_,_,rfl,by congr 1,_,_,rfl,by congr 1,rfl⟩
theorem xadd_spec (a b:Nat) (ha:a<340282366920938463463374607431768211456) (hb:b<340282366920938463463374607431768211456):
  Sp Tryz.prog gl 193 [wide a,wide b] (if a+b<340282366920938463463374607431768211456 then .tup [wide (a+b),i6 0] else .tup [wide 0,i6 3]):=by
 have A1:=add64_spec (a%18446744073709551616) (b%18446744073709551616) 0 (by omega)
 have A2:=add64_spec (a / 18446744073709551616) (b / 18446744073709551616) ((a%18446744073709551616+b%18446744073709551616) / 18446744073709551616) (by omega)
 simp only [Nat.add_zero] at A1
 obtain ⟨up,hup⟩: ∃up,up=(a%18446744073709551616+b%18446744073709551616) / 18446744073709551616:=⟨_,rfl⟩
 obtain ⟨lo,hlo⟩: ∃lo,lo=(a%18446744073709551616+b%18446744073709551616)%18446744073709551616:=⟨_,rfl⟩
 rw [←hup,←hlo] at A1
 rw [←hup] at A2
 obtain ⟨ov,hov⟩: ∃ov,ov=(a / 18446744073709551616+b / 18446744073709551616+up) / 18446744073709551616:=⟨_,rfl⟩
 obtain ⟨hi,hhi⟩: ∃hi,hi=(a / 18446744073709551616+b / 18446744073709551616+up)%18446744073709551616:=⟨_,rfl⟩
 rw [←hov,←hhi] at A2
 refine s193 rfl rfl ?_
 simp -implicitDefEqProofs [c193,wide]
 refine onC_mk _ A1 ?_
 simp -implicitDefEqProofs
 refine onC_mk _ A2 ?_
 by_cases h:a+b<340282366920938463463374607431768211456
 ·have e1:ov=0:=by omega
  have e2:(a+b) / 18446744073709551616=hi:=by omega
  have e3:(a+b)%18446744073709551616=lo:=by omega
  rw [if_pos h,e2,e3,e1]
  clear hup hlo hov hhi e2 e3
  simp -implicitDefEqProofs
 ·have e1:ov=1:=by omega
  rw [if_neg h,e1]
  clear hup hlo hov hhi
  simp -implicitDefEqProofs
theorem xmore_spec (a n:Nat) (ha:a<340282366920938463463374607431768211456) (hn:n<18446744073709551616):
  Sp Tryz.prog gl 210 [wide a,u n] (if a*n<340282366920938463463374607431768211456 then .tup [wide (a*n),i6 0] else .tup [wide 0,i6 3]):=by
 obtain ⟨H,hH⟩: ∃H,H=a / 18446744073709551616:=⟨_,rfl⟩
 obtain ⟨L,hL⟩: ∃L,L=a%18446744073709551616:=⟨_,rfl⟩
 have hH2:H<18446744073709551616:=by omega
 have hL2:L<18446744073709551616:=by omega
 have T1:=times_spec L n hL2 hn
 have T2:=times_spec H n hH2 hn
 have e1:a*n=H*n*18446744073709551616+L*n:=by
  have:=Nat.div_add_mod a 18446744073709551616
  rw [←hH,←hL] at this
  rw [←this,Nat.add_mul,Nat.mul_comm 18446744073709551616 H,Nat.mul_right_comm]
 have b1:L*n≤18446744073709551615*18446744073709551615:=Nat.mul_le_mul (by omega) (by omega)
 have b2:H*n≤18446744073709551615*18446744073709551615:=Nat.mul_le_mul (by omega) (by omega)
 rw [e1]
 clear e1
 generalize H*n=X at *
 generalize L*n=Y at *
 have A:=xadd_spec Y (X%18446744073709551616*18446744073709551616) (by omega) (by omega)
 obtain ⟨X1,hX1⟩: ∃X1,X1=X / 18446744073709551616:=⟨_,rfl⟩
 obtain ⟨X0,hX0⟩: ∃X0,X0=X%18446744073709551616:=⟨_,rfl⟩
 simp only [wide,←hX1,←hX0] at T2
 rw [←hX0] at A
 have w0:wide (X0*18446744073709551616)= .agg [u X0,u 0]:=by unfold wide;rw [Nat.mul_div_cancel _ (by decide),Nat.mul_mod_left]
 rw [w0] at A
 simp only [wide] at T1 A
 rw [show Y+X0*18446744073709551616=X0*18446744073709551616+Y by omega] at A
 refine s210 rfl rfl ?_
 simp -implicitDefEqProofs [c210,wide]
 rw [←hH,←hL]
 refine onC_mk _ T1 ?_
 simp -implicitDefEqProofs
 refine onC_mk _ T2 ?_
 by_cases h:X1=0
 ·have e2:X0=X:=by omega
  rw [e2] at A ⊢
  rw [h]
  clear hX1 hX0 e2 w0 hH hL
  simp -implicitDefEqProofs
  refine onC_mk _ A ?_
  by_cases h2:X*18446744073709551616+Y<340282366920938463463374607431768211456
  ·rw [if_pos h2,if_pos h2];simp -implicitDefEqProofs
  ·rw [if_neg h2,if_neg h2];simp -implicitDefEqProofs
 ·have h2: ¬(X*18446744073709551616+Y<340282366920938463463374607431768211456):=by omega
  have h3:((X1:Int)!=0)=true:=by simp [h]
  rw [if_neg h2]
  clear hX1 hX0 w0 hH hL h2 A T2 T1
  simp -implicitDefEqProofs [h3]
open Go.Proofs
abbrev u32 (n:Nat):AV:= .int .u32 n
open Go.Proofs
end Go.Ai
namespace Go.Ai
open Go.Proofs
open Go.Proofs
end Go.Ai
namespace Go.Ai
open Go.Proofs
def byteAv (b:UInt8):AV:= .int .u8 b.toNat
def bufC (k:Nat) (s:List UInt8):List AV:=List.replicate k (.int .u8 0)++s.map byteAv
theorem bufC_len (k:Nat) (s:List UInt8):(bufC k s).length=k+s.length:=by simp [bufC]
theorem bufC_set (j:Nat) (b:UInt8) (s:List UInt8):List.take j (bufC (j+1) s)++byteAv b::List.drop (j+1) (bufC (j+1) s)=bufC j (b::s):=by
 have h1:List.take j (bufC (j+1) s)=List.replicate j (.int .u8 0):=by
  unfold bufC;rw [List.replicate_succ',List.append_assoc,List.take_left' (by simp)]
 have h2:List.drop (j+1) (bufC (j+1) s)=s.map byteAv:=by unfold bufC;rw [List.drop_left' (by simp)]
 rw [h1,h2];rfl
theorem idsL_bytes (s:List UInt8):idsL (s.map byteAv)=[]:=by
 induction s with
 |nil=>rfl
 |cons x r ih=>simp [idsL,byteAv,AV.ids,ih]
theorem idsL_app (a b:List AV):idsL (a++b)=idsL a++idsL b:=by
 induction a with
 |nil=>rfl
 |cons x r ih=>simp [idsL,ih]
theorem bufC_ids (k:Nat) (s:List UInt8):idsL (bufC k s)=[]:=by
 unfold bufC;rw [idsL_app,idsL_bytes,List.append_nil]
 induction k with
 |zero=>rfl
 |succ k ih=>simp [List.replicate_succ,idsL,AV.ids,ih]
theorem bytes_of (s:List UInt8):byteCells (s.map byteAv)=some s:=by
 induction s with
 |nil=>rfl
 |cons x r ih=>simp [byteCells,byteAv,ih]
theorem buf_bytes (k n:Nat) (s:List UInt8) (h:s.length≤n):byteCells (((bufC k s).drop k).take n)=some s:=by
 have:(bufC k s).drop k=s.map byteAv:=by unfold bufC;rw [List.drop_left' (by simp)]
 rw [this,List.take_of_length_le (by simpa using h),bytes_of]
open Go.Proofs
def readN (s:List UInt8):Nat×Nat:=if okDec s then (if undec s<340282366920938463463374607431768211456 then (undec s,0) else (0,3)) else (0,5)
theorem undec_take (s:List UInt8) (i:Nat) (h:i<s.length):undec (s.take (i+1))=10*undec (s.take i)+((s[i]).toNat - 48):=by
 rw [List.take_succ_eq_append_getElem h,undec_snoc]
theorem all_take (s:List UInt8) (i:Nat) (h:i<s.length) (hd:isDig s[i]=true) (ha:(s.take i).all isDig=true):(s.take (i+1)).all isDig=true:=by
 rw [List.take_succ_eq_append_getElem h,List.all_append,ha];simpa using hd
theorem readN_bad {s:List UInt8} (h:okDec s=false):readN s=(0,5):=by unfold readN;rw [h];rfl
theorem all_bad {s:List UInt8} {i:Nat} (h:i<s.length) (hd:isDig s[i]=false):okDec s=false:=by
 unfold okDec
 have:s.all isDig=false:=by
  rw [Bool.eq_false_iff];intro h2
  rw [List.all_eq_true] at h2
  have:=h2 s[i] (List.getElem_mem h)
  rw [hd] at this;cases this
 rw [this];simp
open Go.Proofs
theorem get_at (s:List UInt8) (i:Nat) (h:i<s.length):(ByteArray.mk s.toArray).get! (i+0)=s[i]:=by
 show (ByteArray.mk s.toArray).get! i=_
 simp [ByteArray.get!,getElem!_pos,h]
theorem rune_lo {s:List UInt8} {i:Nat} (h:i<s.length) (hb:s[i].toNat<128):runeAt s i=((s[i].toNat:Int),1):=by
 unfold runeAt Utf8.decode
 simp only [get_at s i h,hb,if_true]
theorem rune_hi {s:List UInt8} {i:Nat} (h:i<s.length) (hb: ¬s[i].toNat<128):128≤(runeAt s i).1:=by
 unfold runeAt Utf8.decode
 simp only [get_at s i h,hb,if_false,Utf8.runeError]
 generalize (ByteArray.mk s.toArray).get! (i+1)=x1
 generalize (ByteArray.mk s.toArray).get! (i+2)=x2
 generalize (ByteArray.mk s.toArray).get! (i+3)=x3
 generalize (s[i]).toNat=b at *
 split
 ·split
  ·simp only [];omega
  ·simp only [];omega
 ·split
  ·split
   ·rename_i h2;simp only [Bool.and_eq_true,decide_eq_true_eq] at h2;simp only [];omega
   ·simp only [];omega
  ·split
   ·split
    ·rename_i h2;simp only [Bool.and_eq_true,decide_eq_true_eq] at h2;simp only [];omega
    ·simp only [];omega
   ·simp only [];omega
theorem xdigits_spec (s:List UInt8) (hl:s.length≤1000000):Sp Tryz.prog gl 209 [.str s] (.bool (okDec s)):=by
 refine s209 rfl rfl ?_
 have bad: ∀i (h:i<s.length),isDig s[i]=false→okDec s=false:=fun i h=>all_bad h
 have bad0:s.headD 0=48→1<s.length→okDec s=false:=by
  intro h1 h2
  unfold okDec
  rw [h1]
  have:(s.length==1)=false:=by simp;omega
  rw [this];simp
 have good:s≠[]→s.all isDig=true→(s.headD 0=48→s.length=1)→okDec s=true:=by
  intro h1 h2 h3
  unfold okDec
  rw [h2]
  by_cases hx:s.headD 0=48
  ·simp [h1,h3 hx]
  ·have:(s.headD 0 !=48)=true:=by simp only [bne_iff_ne,ne_eq];exact hx
   rw [this];simp [h1]
 have hnil:s=[]→okDec s=false:=by rintro rfl;rfl
 have h1000:s.headD 0=(s[0]?).getD 0:=by cases s<;>rfl
 generalize okDec s=R at *
 simp -implicitDefEqProofs [c209]
 refine wp_lpk (α:=Nat) (fun i=>⟨[(0,.str s),(6,.itp 6)],[(.it 6,[.itr s i])],[]⟩)
  (fun i=>i≤s.length∧(s.take i).all isDig=true∧(1≤i→s.headD 0=48→s.length=1)) (fun i=>s.length - i) ?_ 0 ?_ ?_
 ·rintro K i hK ⟨h1,h3,h4⟩
  by_cases g:i<s.length
  ·have fin:isDig s[i]=true→(i=0→s[i]=48→s.length=1)→ ∀σ',Weak σ' ⟨[(0,.str s),(6,.itp 6)],[(.it 6,[.itr s (i+1)])],[]⟩→K σ':=
    fun hd h5 σ' hσ=>hK (i+1) σ' ⟨by omega,all_take s i g hd h3,fun _ hh=>by
     by_cases hi:i=0
     ·subst hi
      refine h5 rfl ?_
      rw [h1000,List.getElem?_eq_getElem g] at hh
      simpa using hh
     ·exact h4 (by omega) hh⟩ (by omega) hσ
   have bad:=bad i g
   have rlo:=rune_lo g
   have rhi:=rune_hi g
   have bad0':i=0→s[i]=48→1<s.length→R=false:=by
    rintro rfl h5 h6
    refine bad0 ?_ h6
    rw [h1000,List.getElem?_eq_getElem g,h5];rfl
   obtain ⟨x,hsx⟩: ∃x,s[i]=x:=⟨_,rfl⟩
   simp only [hsx] at fin bad rlo rhi bad0'
   clear hK bad0 good hnil h4 h3
   by_cases hx:x.toNat<128
   ·have r:=rlo hx
    by_cases x1:(x.toNat:Int)<48
    ·have:=bad (by simp only [isDig,decide_eq_false_iff_not];omega)
     subst this
     simp -implicitDefEqProofs [g,r,x1]
    ·by_cases x2:(57:Int)<x.toNat
     ·have:=bad (by simp only [isDig,decide_eq_false_iff_not];omega)
      subst this
      simp -implicitDefEqProofs [g,r,x1,x2]
     ·have fin:=fin (by simp only [isDig,decide_eq_true_eq];omega)
      by_cases i0:i=0
      ·subst i0
       by_cases x3:x.toNat=48
       ·have x3':x=48:=UInt8.toNat_inj.1 (by rw [x3];rfl)
        by_cases l1:1<s.length
        ·have:=bad0' rfl x3' l1
         subst this
         have l1':(1:Int)<(s.length:Int):=by omega
         have x3i:(x.toNat:Int)=48:=by omega
         simp -implicitDefEqProofs [g,r,x1,x2,x3i,l1']
        ·have l1': ¬(1:Int)<(s.length:Int):=by omega
         have x3i:(x.toNat:Int)=48:=by omega
         have fin:=fin (fun _ _=>by omega)
         clear bad bad0'
         simp -implicitDefEqProofs [g,r,x1,x2,x3i,l1']
         refine fin _ ?_
         apply weak_mk<;>simp
       ·have x3':((x.toNat:Int)==48)=false:=by rw [beq_eq_false_iff_ne];omega
        have fin:=fin (fun _ h=>absurd (by rw [h];rfl) x3)
        simp -implicitDefEqProofs [g,r,x1,x2,x3']
        refine fin _ ?_
        apply weak_mk<;>simp
      ·have i0':((i:Int)==0)=false:=by rw [beq_eq_false_iff_ne];omega
       have fin:=fin (fun h=>absurd h i0)
       simp -implicitDefEqProofs [g,r,x1,x2,i0']
       refine fin _ ?_
       apply weak_mk<;>simp
   ·have h128:=rhi hx
    have:=bad (by simp only [isDig,decide_eq_false_iff_not];omega)
    subst this
    obtain ⟨rr,hrr⟩: ∃rr,(runeAt s i).1=rr:=⟨_,rfl⟩
    rw [hrr] at h128
    have x1: ¬rr<48:=by omega
    have x2:(57:Int)<rr:=by omega
    simp -implicitDefEqProofs [g,hrr,x1,x2]
  ·obtain rfl:i=s.length:=by omega
   rw [List.take_length] at h3
   clear hK bad bad0
   by_cases hs:s=[]
   ·have:=hnil hs
    subst this;subst hs
    simp -implicitDefEqProofs
   ·have:=good hs h3 (h4 (List.length_pos_iff.2 hs))
    subst this
    simp -implicitDefEqProofs [hs]
 ·simp
 ·apply weak_mk<;>simp
open Go.Proofs
theorem wrap_i32 {n:Int} (h1: -2147483648≤n) (h2:n<2147483648):IntKind.i32.wrap n=n:=by
 have e1:(2:Int)^32=4294967296:=by decide
 have e2:(2:Int)^(32 - 1)=2147483648:=by decide
 have:IntKind.i32.wrap n=if (true&&decide (n%2^32≥2^(32 - 1)))=true then n%2^32 - 2^32 else n%2^32:=rfl
 rw [this]
 simp only [e1,e2,Bool.true_and,decide_eq_true_eq]
 split<;>omega
theorem foldl_mono10 (r:List UInt8) (a:Nat):a≤r.foldl (fun a b=>10*a+(b.toNat - 48)) a:=by
 induction r generalizing a with
 |nil=>exact Nat.le_refl _
 |cons x r ih=>simp only [List.foldl_cons];exact Nat.le_trans (by omega) (ih _)
theorem undec_take_le (s:List UInt8) (i:Nat):undec (s.take i)≤undec s:=by
 have h:=foldl_mono10 (s.drop i) (undec (s.take i))
 have:undec s=(s.drop i).foldl (fun a b=>10*a+(b.toNat - 48)) (undec (s.take i)):=by
  unfold undec
  rw [←List.foldl_append,List.take_append_drop]
 omega
theorem xread_spec (s:List UInt8) (hl:s.length≤1000000):Sp Tryz.prog gl 185 [.str s] (.tup [wide (readN s).1,i6 (readN s).2]):=by
 refine s185 rfl rfl ?_
 have e0:wide 0= .agg [u 0,u 0]:=rfl
 have D:=xdigits_spec s hl
 cases hok:okDec s with
 |false=>
  rw [hok] at D
  rw [readN_bad hok,e0]
  simp -implicitDefEqProofs [c185]
  refine onC_mk _ D ?_
  simp -implicitDefEqProofs
 |true=>
  rw [hok] at D
  have hall:s.all isDig=true:=by
   unfold okDec at hok
   simp only [Bool.and_eq_true] at hok
   exact hok.1.2
  have res:readN s=if undec s<340282366920938463463374607431768211456 then (undec s,0) else (0,3):=by unfold readN;rw [if_pos hok]
  have rbad: ¬undec s<340282366920938463463374607431768211456→AV.tup [wide (readN s).1,i6 (readN s).2]= .tup [.agg [u 0,u 0],i6 3]:=fun h=>by rw [res,if_neg h,e0];rfl
  have rgood:undec s<340282366920938463463374607431768211456→AV.tup [wide (readN s).1,i6 (readN s).2]= .tup [wide (undec s),i6 0]:=fun h=>by rw [res,if_pos h];rfl
  clear res
  generalize AV.tup [wide (readN s).1,i6 (readN s).2]=R at *
  simp -implicitDefEqProofs [c185]
  refine onC_mk _ D ?_
  simp -implicitDefEqProofs
  refine wp_lpk (α:=Nat) (fun i=>⟨[(0,.str s),(2,.ptr (.n 2) 0),(4,.ptr (.n 4) 0),(14,.itp 14)],[(.n 2,[u 0,u 0]),(.n 4,[u (undec (s.take i) / 18446744073709551616),u (undec (s.take i)%18446744073709551616)]),(.it 14,[.itr s i])],[]⟩)
   (fun i=>i≤s.length∧undec (s.take i)<340282366920938463463374607431768211456) (fun i=>s.length - i) ?_ 0 ?_ ?_
  ·rintro K i hK ⟨h1,h3⟩
   by_cases g:i<s.length
   ·have hd:isDig s[i]=true:=List.all_eq_true.1 hall _ (List.getElem_mem g)
    simp only [isDig,decide_eq_true_eq] at hd
    have ut:=undec_take s i g
    have ul:=undec_take_le s (i+1)
    have r:=rune_lo g (by omega)
    have fin:undec (s.take (i+1))<340282366920938463463374607431768211456→ ∀σ',Weak σ' ⟨[(0,.str s),(2,.ptr (.n 2) 0),(4,.ptr (.n 4) 0),(14,.itp 14)],[(.n 2,[u 0,u 0]),(.n 4,[u (undec (s.take (i+1)) / 18446744073709551616),u (undec (s.take (i+1))%18446744073709551616)]),(.it 14,[.itr s (i+1)])],[]⟩→K σ':=
     fun h σ' hσ=>hK (i+1) σ' ⟨by omega,h⟩ (by omega) hσ
    generalize undec (s.take (i+1))=n2 at *
    generalize undec (s.take i)=n1 at *
    obtain ⟨x,hsx⟩: ∃x,s[i]=x:=⟨_,rfl⟩
    simp only [hsx] at hd ut r
    obtain ⟨dg,hdg⟩: ∃dg,dg=x.toNat - 48:=⟨_,rfl⟩
    rw [←hdg] at ut
    have w1:IntKind.i32.wrap ((x.toNat:Int) - 48)=dg:=by rw [wrap_i32]<;>omega
    have w2:IntKind.u64.wrap (dg:Int)=dg:=by rw [wrap_u64]<;>omega
    have M:=xmore_spec n1 10 h3 (by omega)
    clear hK rgood
    by_cases o1:n1*10<340282366920938463463374607431768211456
    ·rw [if_pos o1] at M
     have A:=xadd_spec (n1*10) dg o1 (by omega)
     have wd:wide dg= .agg [u 0,u dg]:=by unfold wide;rw [Nat.div_eq_of_lt (by omega),Nat.mod_eq_of_lt (by omega)]
     rw [wd] at A
     have en:n1*10+dg=n2:=by omega
     rw [en] at A
     by_cases o2:n2<340282366920938463463374607431768211456
     ·rw [if_pos o2] at A
      have fin:=fin o2
      unfold wide at M A
      clear ut en ul rbad h3 o1 o2 hdg
      generalize n1*10 / 18446744073709551616=a1 at *
      generalize n1*10%18446744073709551616=a2 at *
      generalize n1 / 18446744073709551616=b1 at *
      generalize n1%18446744073709551616=b2 at *
      generalize n2 / 18446744073709551616=d1 at *
      generalize n2%18446744073709551616=d2 at *
      simp -implicitDefEqProofs [g,r]
      refine onC_mk _ M ?_
      simp -implicitDefEqProofs
      rw [w1,w2]
      refine onC_mk _ A ?_
      simp -implicitDefEqProofs
      refine fin _ ?_
      apply weak_mk<;>simp
     ·rw [if_neg o2] at A
      have:=rbad (by omega)
      subst this
      unfold wide at M A
      clear ut en ul rbad h3 o1 o2 hdg fin
      generalize n1*10 / 18446744073709551616=a1 at *
      generalize n1*10%18446744073709551616=a2 at *
      generalize n1 / 18446744073709551616=b1 at *
      generalize n1%18446744073709551616=b2 at *
      simp -implicitDefEqProofs [g,r]
      refine onC_mk _ M ?_
      simp -implicitDefEqProofs
      rw [w1,w2]
      refine onC_mk _ A ?_
      simp -implicitDefEqProofs
    ·rw [if_neg o1] at M
     have:=rbad (by omega)
     subst this
     unfold wide at M
     clear ut ul rbad h3 o1 hdg fin
     generalize n1 / 18446744073709551616=b1 at *
     generalize n1%18446744073709551616=b2 at *
     simp -implicitDefEqProofs [g,r]
     refine onC_mk _ M ?_
     simp -implicitDefEqProofs
   ·obtain rfl:i=s.length:=by omega
    rw [List.take_length] at h3 ⊢
    have:=rgood h3
    subst this
    unfold wide
    clear hK rbad rgood
    generalize undec s / 18446744073709551616=a1 at *
    generalize undec s%18446744073709551616=a2 at *
    simp -implicitDefEqProofs
  ·simp [undec]
  ·apply weak_mk<;>simp [undec]
open Go.Proofs
def numF (s:List UInt8):Nat×Int:=if okDec s=true then (if undec s<18446744073709551616 then (undec s,0) else (0,8)) else (0,5)
theorem readN_num (s:List UInt8):(okDec s=false∧readN s=(0,5)∧numF s=(0,5))∨(okDec s=true∧undec s<18446744073709551616∧readN s=(undec s,0)∧numF s=(undec s,0))∨
  (okDec s=true∧18446744073709551616≤undec s∧undec s<340282366920938463463374607431768211456∧readN s=(undec s,0)∧numF s=(0,8))∨(readN s=(0,3)∧numF s=(0,8)):=by
 unfold readN numF
 by_cases c:okDec s=true
 ·by_cases c1:undec s<18446744073709551616
  ·right;left
   refine ⟨c,c1,?_,?_⟩
   ·rw [if_pos c,if_pos (by omega)]
   ·rw [if_pos c,if_pos c1]
  ·by_cases c2:undec s<340282366920938463463374607431768211456
   ·right;right;left
    refine ⟨c,by omega,c2,?_,?_⟩
    ·rw [if_pos c,if_pos c2]
    ·rw [if_pos c,if_neg c1]
   ·right;right;right
    refine ⟨?_,?_⟩
    ·rw [if_pos c,if_neg c2]
    ·rw [if_pos c,if_neg c1]
 ·left
  have c':okDec s=false:=by simpa using c
  refine ⟨c',?_,?_⟩
  ·rw [if_neg c]
  ·rw [if_neg c]
def numA (q:Nat×Int):AV:=if q.2=0 then .ifc 44 (u q.1) else .ifc 28 (i6 q.2)
theorem snumber_spec (s:List UInt8) (hl:s.length≤1000000):Sp Tryz.prog gl 143 [.str s] (numA (numF s)):=by
 refine s143 rfl rfl ?_
 have R:=xread_spec s hl
 unfold numA
 rcases readN_num s with ⟨_,h1,h2⟩|⟨_,h0,h1,h2⟩|⟨_,h0,h3,h1,h2⟩|⟨h1,h2⟩
 ·rw [h1] at R
  rw [h2,if_neg (by decide)]
  unfold wide at R
  simp -implicitDefEqProofs [c143]
  refine onC_mk _ (R) ?_
  simp -implicitDefEqProofs
 ·rw [h1] at R
  rw [h2,if_pos rfl]
  unfold wide at R
  have e1:undec s / 18446744073709551616=0:=Nat.div_eq_of_lt h0
  have e2:undec s%18446744073709551616=undec s:=Nat.mod_eq_of_lt h0
  simp only [e1,e2] at R
  generalize undec s=n at *
  simp -implicitDefEqProofs [c143]
  refine onC_mk _ (R) ?_
  simp -implicitDefEqProofs
 ·rw [h1] at R
  rw [h2,if_neg (by decide)]
  unfold wide at R
  obtain ⟨hi,e1⟩: ∃hi,hi=undec s / 18446744073709551616:=⟨_,rfl⟩
  have e2:0<hi:=by omega
  have e2':(0:Int)<hi:=by omega
  dsimp only at R
  rw [←e1] at R
  generalize undec s%18446744073709551616=lo at *
  clear e1 h0 h3 h1 h2
  simp -implicitDefEqProofs [c143]
  refine onC_mk _ (R) ?_
  simp -implicitDefEqProofs [e2,e2']
 ·rw [h1] at R
  rw [h2,if_neg (by decide)]
  unfold wide at R
  simp -implicitDefEqProofs [c143]
  refine onC_mk _ (R) ?_
  simp -implicitDefEqProofs
def toldV (k:Int) (q:Nat×Int):TV:=if q.2=0 then .t k [] q.1 else .e q.2
theorem stold_spec (k:Int) (n:Nat) (e:Int):Sp Tryz.prog gl 144 [i6 k,u n,i6 e] (toldV k (n,e)).av:=by
 refine s144 rfl rfl ?_
 unfold toldV
 by_cases c:e=0
 ·subst c
  rw [if_pos rfl]
  unfold TV.av
  simp -implicitDefEqProofs [c144]
 ·have c1:(e !=0)=true:=bne_iff_ne.2 c
  have c2:(e==0)=false:=beq_eq_false_iff_ne.2 c
  rw [if_neg c]
  unfold TV.av
  simp -implicitDefEqProofs [c144,c1,c2,c]
def dgsF (s:List UInt8):Bool:=s.all isDig&&decide (0<s.length)
open Go.Proofs
def unitZ (r:Int):Nat:=if r=119 then 604800 else if r=100 then 86400 else if r=104 then 3600 else if r=109 then 60 else if r=115 then 1 else 0
theorem unitZ_le (r:Int):unitZ r≤604800:=by
 unfold unitZ
 repeat' split
 all_goals omega
theorem sunit_spec (r:Int):Sp Tryz.prog gl 131 [i3 r] (i6 (unitZ r)):=by
 refine s131 rfl rfl ?_
 unfold unitZ
 have ne: ∀z:Int,¬r=z→(r==z)=false:=fun z h=>beq_eq_false_iff_ne.2 h
 by_cases c1:r=119
 ·subst c1
  simp -implicitDefEqProofs [c131]
 rw [if_neg c1]
 by_cases c2:r=100
 ·subst c2
  simp -implicitDefEqProofs [c131]
 rw [if_neg c2]
 by_cases c3:r=104
 ·subst c3
  simp -implicitDefEqProofs [c131]
 rw [if_neg c3]
 by_cases c4:r=109
 ·subst c4
  simp -implicitDefEqProofs [c131]
 rw [if_neg c4]
 by_cases c5:r=115
 ·subst c5
  simp -implicitDefEqProofs [c131]
 rw [if_neg c5]
 simp -implicitDefEqProofs [c131,c1,c2,c3,c4,c5,ne _ c1,ne _ c2,ne _ c3,ne _ c4,ne _ c5]
def spR:List UInt8→Bool→Nat→Nat→Nat→Bool→Nat×Int
 |[],dg,n,la,sm,fr=>if dg=true then (0,5) else if fr=true then (0,8) else (sm,0)
 |c::l,dg,n,la,sm,fr=>
  if isDig c=true then spR l true (if n≤253402300799 then 10*n+(c.toNat - 48) else n) la sm fr
  else if dg=false∨unitZ c.toNat=0∨la≤unitZ c.toNat then (0,5)
  else if 253402300799 / unitZ c.toNat<n then spR l false 0 (unitZ c.toNat) sm true
  else if 253402300799<sm+n*unitZ c.toNat then spR l false 0 (unitZ c.toNat) 0 true
  else spR l false 0 (unitZ c.toNat) (sm+n*unitZ c.toNat) fr
def spanR (s:List UInt8):Nat×Int:=if s=[] then (0,5) else spR s false 0 1000000 0 false
open Go.Proofs
end Go.Ai
