/- P6: a part of the proof: the rules, or what functions compute. Conditions: as each theorem says. -/
import Derived.Test.YthonkjadcpdphaaGreatDoorP5
import Derived.Test.YthonkjadcpdphaaGreatDoorAiExt
import Derived.Laws.Externs
import Derived.Test.YthonkjadcpdphaaGreatDoorP4
set_option linter.unusedSimpArgs false
set_option linter.unusedVariables false
set_option maxRecDepth 20000
set_option linter.unusedSectionVars false
namespace Go.Ai
open Go.Proofs
section
variable {rq rr:Nat}
end
end Go.Ai
namespace Go.Ai
open Go.Proofs Go.RowKit
theorem add64_spec (x y c:Nat) (hc:c≤1):Sp Tryz.prog gl 225 [u x,u y,u c] (.tup [u ((x+y+c)%18446744073709551616),u ((x+y+c) / 18446744073709551616)]):=by
 refine ext_spec (fn:=Tryz.f225) (e:=add64Entry) Tryz.func225 (by kernel_rfl) (by kernel_rfl) (by kernel_rfl) (by kernel_rfl) ?_
 intro S gb w vs h
 simp only [PRlist,PR] at h
 obtain ⟨_,_,rfl,rfl,_,_,rfl,rfl,_,_,rfl,rfl,rfl⟩:=h
 refine ⟨_,run_add64 x y c (by omega) (by omega) (by omega) (by omega) w,?_⟩
 simp only [PR]
 refine ⟨_,rfl,?_⟩
 simp only [PRlist,PR]
 exact ⟨_,_,rfl,by congr 1,_,_,rfl,by congr 1,rfl⟩
theorem xadd_spec (a b:Nat) (ha:a<340282366920938463463374607431768211456) (hb:b<340282366920938463463374607431768211456):
  Sp Tryz.prog gl 180 [wide a,wide b] (if a+b<340282366920938463463374607431768211456 then .tup [wide (a+b),i6 0] else .tup [wide 0,i6 3]):=by
 have A1:=add64_spec (a%18446744073709551616) (b%18446744073709551616) 0 (by omega)
 have A2:=add64_spec (a / 18446744073709551616) (b / 18446744073709551616) ((a%18446744073709551616+b%18446744073709551616) / 18446744073709551616) (by omega)
 simp only [Nat.add_zero] at A1
 obtain ⟨up,hup⟩: ∃up,up=(a%18446744073709551616+b%18446744073709551616) / 18446744073709551616:=⟨_,rfl⟩
 obtain ⟨lo,hlo⟩: ∃lo,lo=(a%18446744073709551616+b%18446744073709551616)%18446744073709551616:=⟨_,rfl⟩
 rw [←hup,←hlo] at A1
 rw [←hup] at A2
 obtain ⟨ov,hov⟩: ∃ov,ov=(a / 18446744073709551616+b / 18446744073709551616+up) / 18446744073709551616:=⟨_,rfl⟩
 obtain ⟨hi,hhi⟩: ∃hi,hi=(a / 18446744073709551616+b / 18446744073709551616+up)%18446744073709551616:=⟨_,rfl⟩
 rw [←hov,←hhi] at A2
 refine s180 rfl rfl ?_
 simp -implicitDefEqProofs [c180,wide]
 refine onC_mk _ A1 ?_
 simp -implicitDefEqProofs
 refine onC_mk _ A2 ?_
 by_cases h:a+b<340282366920938463463374607431768211456
 ·have e1:ov=0:=by omega
  have e2:(a+b) / 18446744073709551616=hi:=by omega
  have e3:(a+b)%18446744073709551616=lo:=by omega
  rw [if_pos h,e2,e3,e1]
  clear hup hlo hov hhi e2 e3
  simp -implicitDefEqProofs
 ·have e1:ov=1:=by omega
  rw [if_neg h,e1]
  clear hup hlo hov hhi
  simp -implicitDefEqProofs
theorem xmore_spec (a n:Nat) (ha:a<340282366920938463463374607431768211456) (hn:n<18446744073709551616):
  Sp Tryz.prog gl 218 [wide a,u n] (if a*n<340282366920938463463374607431768211456 then .tup [wide (a*n),i6 0] else .tup [wide 0,i6 3]):=by
 obtain ⟨H,hH⟩: ∃H,H=a / 18446744073709551616:=⟨_,rfl⟩
 obtain ⟨L,hL⟩: ∃L,L=a%18446744073709551616:=⟨_,rfl⟩
 have hH2:H<18446744073709551616:=by omega
 have hL2:L<18446744073709551616:=by omega
 have T1:=times_spec L n hL2 hn
 have T2:=times_spec H n hH2 hn
 have e1:a*n=H*n*18446744073709551616+L*n:=by
  have:=Nat.div_add_mod a 18446744073709551616
  rw [←hH,←hL] at this
  rw [←this,Nat.add_mul,Nat.mul_comm 18446744073709551616 H,Nat.mul_right_comm]
 have b1:L*n≤18446744073709551615*18446744073709551615:=Nat.mul_le_mul (by omega) (by omega)
 have b2:H*n≤18446744073709551615*18446744073709551615:=Nat.mul_le_mul (by omega) (by omega)
 rw [e1]
 clear e1
 generalize H*n=X at *
 generalize L*n=Y at *
 have A:=xadd_spec Y (X%18446744073709551616*18446744073709551616) (by omega) (by omega)
 obtain ⟨X1,hX1⟩: ∃X1,X1=X / 18446744073709551616:=⟨_,rfl⟩
 obtain ⟨X0,hX0⟩: ∃X0,X0=X%18446744073709551616:=⟨_,rfl⟩
 simp only [wide,←hX1,←hX0] at T2
 rw [←hX0] at A
 have w0:wide (X0*18446744073709551616)= .agg [u X0,u 0]:=by unfold wide;rw [Nat.mul_div_cancel _ (by decide),Nat.mul_mod_left]
 rw [w0] at A
 simp only [wide] at T1 A
 rw [show Y+X0*18446744073709551616=X0*18446744073709551616+Y by omega] at A
 refine s218 rfl rfl ?_
 simp -implicitDefEqProofs [c218,wide]
 rw [←hH,←hL]
 refine onC_mk _ T1 ?_
 simp -implicitDefEqProofs
 refine onC_mk _ T2 ?_
 by_cases h:X1=0
 ·have e2:X0=X:=by omega
  rw [e2] at A ⊢
  rw [h]
  clear hX1 hX0 e2 w0 hH hL
  simp -implicitDefEqProofs
  refine onC_mk _ A ?_
  by_cases h2:X*18446744073709551616+Y<340282366920938463463374607431768211456
  ·rw [if_pos h2,if_pos h2];simp -implicitDefEqProofs
  ·rw [if_neg h2,if_neg h2];simp -implicitDefEqProofs
 ·have h2: ¬(X*18446744073709551616+Y<340282366920938463463374607431768211456):=by omega
  have h3:((X1:Int)!=0)=true:=by simp [h]
  rw [if_neg h2]
  clear hX1 hX0 w0 hH hL h2 A T2 T1
  simp -implicitDefEqProofs [h3]
open Go.Proofs
abbrev u32 (n:Nat):AV:= .int .u32 n
open Go.Proofs
end Go.Ai
namespace Go.Ai
open Go.Proofs
open Go.Proofs
theorem digits_spec (l:List Bool) (hl:l.length≤100000):Sp Tryz.prog gl 112 [bl l] (.str (dec (val l))):=by
 refine s112 rfl rfl ?_
 have B:=bits_spec 10 (by omega)
 have e10:wide 10= .agg [u 0,u 10]:=rfl
 rw [e10] at B
 have v10:val (bitsOf 10 128)=10:=bitsOf_val128 10 (by omega)
 have l10:(bitsOf 10 128).length=128:=bitsOf_len _ _
 have hlen:(dec (val l)).length≤l.length+1:=dec_len _ _ (Nat.lt_of_lt_of_le (val_lt l) (Nat.le_trans (Nat.pow_le_pow_left (by omega) _) (Nat.pow_le_pow_right (by omega) (Nat.le_succ _))))
 obtain ⟨ten,ht⟩: ∃ten,ten=bitsOf 10 128:=⟨_,rfl⟩
 rw [←ht] at B v10 l10
 clear ht
 obtain ⟨R,hR⟩: ∃R,R=dec (val l):=⟨_,rfl⟩
 rw [←hR] at hlen ⊢
 simp -implicitDefEqProofs [c112]
 refine onC_mk _ B ?_
 simp -implicitDefEqProofs
 refine wp_lpk (α:=List Bool×List UInt8) (fun x=>⟨[(0,bl x.1),(3,bl ten),(4,.str x.2)],[],[]⟩) (fun x=>x.1.length=l.length∧R=dec (val x.1)++x.2) (fun x=>val x.1) ?_ (l,[]) ?_ ?_
 ·rintro K ⟨l',s⟩ hK ⟨h1,h2⟩
  simp only at h1 h2
  have hlt:=val_lt l'
  have D:=divide_spec l' ten (by omega) (by omega) (by omega)
  rw [v10] at D
  have q1:val l' / 10≤val l':=Nat.div_le_self _ _
  have r1:val l'%10≤val l':=Nat.mod_le _ _
  have r2:val l'%10<10:=Nat.mod_lt _ (by omega)
  have qv:val (bitsOf (val l' / 10) l'.length)=val l' / 10:=by rw [bitsOf_val,Nat.mod_eq_of_lt (by omega)]
  have rv:val (bitsOf (val l'%10) l'.length)=val l'%10:=by rw [bitsOf_val,Nat.mod_eq_of_lt (by omega)]
  have ql:=bitsOf_len (val l' / 10) l'.length
  have rl:=bitsOf_len (val l'%10) l'.length
  obtain ⟨q,hq⟩: ∃q,q=bitsOf (val l' / 10) l'.length:=⟨_,rfl⟩
  obtain ⟨r,hr⟩: ∃r,r=bitsOf (val l'%10) l'.length:=⟨_,rfl⟩
  rw [←hq] at D qv ql
  rw [←hr] at D rv rl
  have O:=of_spec r (by omega)
  rw [rv,if_pos (by omega)] at O
  obtain ⟨d,hd⟩: ∃d,d=val l'%10:=⟨_,rfl⟩
  rw [←hd] at O r2
  have wd:wide d= .agg [u 0,u d]:=by unfold wide;rw [Nat.div_eq_of_lt (by omega),Nat.mod_eq_of_lt (by omega)]
  rw [wd] at O
  have C:=compare_spec q [] (by omega) (by simp)
  rw [show val []=0 from rfl] at C
  have sl:s.length≤100001:=by rw [h2] at hlen;simp at hlen;omega
  have w1:IntKind.u8.wrap (d:Int)=d:=wrap_u8 (by omega) (by omega)
  have w2:IntKind.u8.wrap (48+(d:Int))=(48+d:Nat):=by rw [wrap_u8]<;>omega
  have tn:(48+(d:Int)).toNat=48+d:=by omega
  have hs1:1+s.length≤9223372036854775807:=by omega
  by_cases g:val l'<10
  ·have q0:val q=0:=by rw [qv];omega
   have c0:cmpN 0 0=0:=rfl
   rw [q0,c0] at C
   have eR:R=UInt8.ofNat (48+d)::s:=by rw [h2,dec_lt g,hd,Nat.mod_eq_of_lt g];rfl
   clear hq hr hd h2 qv rv wd q1 r1 hlt q0 hR hK hlen
   subst eR
   simp -implicitDefEqProofs [bl]
   refine onC_mk _ D ?_
   simp -implicitDefEqProofs [bl]
   refine onC_mk _ O ?_
   simp -implicitDefEqProofs [bytesA,rowBytes,w1,w2,hs1]
   refine onC_mk _ C ?_
   simp -implicitDefEqProofs [tn]
  ·have q0:val q≠0:=by rw [qv];omega
   have c0:cmpN (val q) 0=1:=by unfold cmpN;rw [if_neg (by omega),if_neg q0]
   rw [c0] at C
   have eR:R=dec (val q)++(UInt8.ofNat (48+d)::s):=by rw [h2,dec_ge g,hd,qv];simp
   have fin: ∀σ',Weak σ' ⟨[(0,bl q),(3,bl ten),(4,.str (UInt8.ofNat (48+d)::s))],[],[]⟩→K σ':=
    fun σ' hσ=>hK (q,UInt8.ofNat (48+d)::s) σ' ⟨by simp only;omega,eR⟩ (by simp only;omega) hσ
   clear hq hr hd h2 qv rv wd q1 r1 hlt q0 hR hK hlen eR
   simp -implicitDefEqProofs [bl]
   refine onC_mk _ D ?_
   simp -implicitDefEqProofs [bl]
   refine onC_mk _ O ?_
   simp -implicitDefEqProofs [bytesA,rowBytes,w1,w2,hs1]
   refine onC_mk _ C ?_
   simp -implicitDefEqProofs
   refine fin _ ?_
   apply weak_mk<;>simp [bl,tn]
 ·simp [hR]
 ·apply weak_mk<;>simp [bl]
end Go.Ai
