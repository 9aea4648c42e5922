/- P5: a part of the proof: the rules, or what functions compute. Conditions: as each theorem says. -/
import Derived.Test.YtggemlhclppciaaGreatDoorP4
import Derived.Test.YtggemlhclppciaaGreatDoorLib9
import Derived.Test.YtggemlhclppciaaGreatDoorP1
import Derived.Laws.Externs
set_option linter.unusedSimpArgs false
set_option linter.unusedVariables false
set_option maxRecDepth 20000
namespace Go.Ai
open Go.Proofs
theorem val_lt (l:List Bool):val l<2^l.length:=by
 induction l with
 |nil=>simp [val]
 |cons x r ih=>simp only [val,List.length_cons,Nat.pow_succ];cases x<;>simp<;>omega
theorem val_take_succ (l:List Bool) (i:Nat) (h:i<l.length):val (l.take (i+1))=val (l.take i)+2^i*(l[i]).toNat:=by
 rw [List.take_succ_eq_append_getElem h,val_append,List.length_take,Nat.min_eq_left (by omega)]
 cases l[i]<;>simp [val]
theorem val_take_lt (l:List Bool) (i:Nat):val (l.take i)<2^i:=
 Nat.lt_of_lt_of_le (val_lt _) (Nat.pow_le_pow_right (by omega) (by rw [List.length_take];omega))
theorem val_take_le (l:List Bool) (i:Nat):val (l.take i)≤val l:=by
 have:l=l.take i++l.drop i:=(List.take_append_drop i l).symm
 rw [this,val_append,List.take_append_drop]
 exact Nat.le_add_right _ _
theorem shl1_u64 (i:Nat) (h:i<64):IntKind.u64.wrap (1*2^(min i IntKind.u64.bits))=((2^i:Nat):Int):=by
 rw [show min i IntKind.u64.bits=i by show min i 64=i;omega]
 have h1:(2:Nat)^i≤2^63:=Nat.pow_le_pow_right (by omega) (by omega)
 have h2:(2:Nat)^63=9223372036854775808:=rfl
 rw [Int.one_mul,show ((2:Int)^i)=((2^i:Nat):Int) by simp]
 generalize 2^i=x at *
 rw [wrap_u64]<;>omega
theorem of_hi (v i:Nat) (h:64≤i):(v+2^i) / 18446744073709551616=v / 18446744073709551616+2^(i - 64)∧(v+2^i)%18446744073709551616=v%18446744073709551616:=by
 have e:(2:Nat)^i=2^(i - 64)*18446744073709551616:=by
  rw [show (18446744073709551616:Nat)=2^64 from rfl,←Nat.pow_add];congr 1;omega
 rw [e];omega
theorem of_lo (v i:Nat) (h:i<64) (hv:v<2^i):(v+2^i) / 18446744073709551616=v / 18446744073709551616∧(v+2^i)%18446744073709551616=v%18446744073709551616+2^i:=by
 have h1:(2:Nat)^i≤2^63:=Nat.pow_le_pow_right (by omega) (by omega)
 have h2:(2:Nat)^63=9223372036854775808:=rfl
 omega
theorem of_spec (l:List Bool) (hl:l.length≤1000000):
  Sp Tryz.prog gl 139 [bl l] (if val l<340282366920938463463374607431768211456 then .tup [wide (val l),.bool true] else .tup [wide 0,.bool false]):=by
 refine s139 rfl rfl ?_
 obtain ⟨R,hR⟩: ∃R,R=(if val l<340282366920938463463374607431768211456 then AV.tup [wide (val l),.bool true] else .tup [wide 0,.bool false]):=⟨_,rfl⟩
 rw [←hR]
 simp -implicitDefEqProofs [c139]
 refine wp_lpk (α:=Nat) (fun i=>⟨[(0,bl l),(2,.ptr (.n 2) 0),(4,.ptr (.n 4) 0),(5,i6 i)],[(.n 4,[u (val (l.take i) / 18446744073709551616),u (val (l.take i)%18446744073709551616)]),(.n 2,[u 0,u 0])],[]⟩)
  (fun i=>i≤l.length∧val (l.take i)<340282366920938463463374607431768211456) (fun i=>l.length - i) ?_ 0 ?_ ?_
 ·rintro K i hK ⟨h1,h2⟩
  have t1:IntKind.i64.wrap ((i:Int)+1)=i+1:=by rw [wrap_i64]<;>omega
  have hv:=val_take_lt l i
  by_cases g:i<l.length
  ·have e:=val_take_succ l i g
   have e':=val_take_le l (i+1)
   obtain ⟨v,hv'⟩: ∃v,v=val (l.take i):=⟨_,rfl⟩
   rw [←hv'] at hv h2 e ⊢
   cases hb:l[i]
   ·rw [hb] at e
    simp at e
    simp -implicitDefEqProofs [bl,g,hb]
    refine hK (i+1) _ ⟨by omega,by rw [e];exact h2⟩ (by omega) ?_
    apply weak_mk<;>simp [bl,t1,e]
   ·rw [hb] at e
    simp at e
    by_cases g2:128≤i
    ·have: ¬val l<340282366920938463463374607431768211456:=by
      have h3:(2:Nat)^128≤2^i:=Nat.pow_le_pow_right (by omega) g2
      have h4:(2:Nat)^128=340282366920938463463374607431768211456:=rfl
      omega
     rw [if_neg this] at hR
     subst hR
     have g3:(128:Int)≤i:=by omega
     simp -implicitDefEqProofs [bl,g,hb,g3,wide]
    ·have hlt:val (l.take (i+1))<340282366920938463463374607431768211456:=by
      have h3:=val_take_lt l (i+1)
      have h4:(2:Nat)^(i+1)≤2^128:=Nat.pow_le_pow_right (by omega) (by omega)
      have h5:(2:Nat)^128=340282366920938463463374607431768211456:=rfl
      omega
     have g3: ¬(128:Int)≤i:=by omega
     by_cases g4:64≤i
     ·have g5:(64:Int)≤i:=by omega
      have t2:IntKind.i64.wrap ((i:Int) - 64)=((i - 64:Nat):Int):=by rw [wrap_i64]<;>omega
      have t3:IntKind.u64.wrap ((i - 64:Nat):Int)=((i - 64:Nat):Int):=by rw [wrap_u64]<;>omega
      have t4:=shl1_u64 (i - 64) (by omega)
      obtain ⟨q1,q2⟩:=of_hi v i g4
      have t5:IntKind.u64.wrap ((v / 18446744073709551616:Nat)+(2^(i - 64):Nat):Int)=((v+2^i) / 18446744073709551616:Nat):=by
       rw [q1];rw [wrap_u64]<;>omega
      rw [←e] at t5 q2
      obtain ⟨V,hV⟩: ∃V,V=val (l.take (i+1)):=⟨_,rfl⟩
      have fin: ∀(σ':St),Weak σ' ⟨[(0,bl l),(2,.ptr (.n 2) 0),(4,.ptr (.n 4) 0),(5,i6 (i+1:Nat))],[(.n 4,[u (V / 18446744073709551616),u (V%18446744073709551616)]),(.n 2,[u 0,u 0])],[]⟩→K σ':=
       fun σ' hσ=>hK (i+1) σ' ⟨by omega,hlt⟩ (by omega) (hV▸hσ)
      rw [←hV] at t5 q2
      rw [q2] at fin
      obtain ⟨A,hA⟩: ∃A,A=v / 18446744073709551616:=⟨_,rfl⟩
      obtain ⟨B,hB⟩: ∃B,B=v%18446744073709551616:=⟨_,rfl⟩
      obtain ⟨C,hC⟩: ∃C,C=V / 18446744073709551616:=⟨_,rfl⟩
      obtain ⟨D,hD⟩: ∃D,D=2^(i - 64):=⟨_,rfl⟩
      rw [←hA,←hC,←hD] at t5
      rw [←hA,←hB]
      rw [←hB,←hC] at fin
      rw [←hD] at t4
      clear hA hB hC hD q1 q2 hV hv' e e' hK h2 hv hR hlt
      simp -implicitDefEqProofs [bl,g,hb,g3,g5]
      rw [Int.one_mul] at t4
      simp only [t2,t3,Int.toNat_natCast]
      simp -implicitDefEqProofs
      rw [t4,t5]
      refine fin _ ?_
      apply weak_mk<;>simp [bl,t1]
     ·have g5: ¬(64:Int)≤i:=by omega
      have t3:IntKind.u64.wrap (i:Int)=(i:Int):=by rw [wrap_u64]<;>omega
      have t4:=shl1_u64 i (by omega)
      obtain ⟨q1,q2⟩:=of_lo v i (by omega) hv
      have t5:IntKind.u64.wrap ((v%18446744073709551616:Nat)+(2^i:Nat):Int)=((v+2^i)%18446744073709551616:Nat):=by
       rw [q2];rw [wrap_u64]<;>omega
      rw [←e] at t5 q1
      obtain ⟨V,hV⟩: ∃V,V=val (l.take (i+1)):=⟨_,rfl⟩
      have fin: ∀(σ':St),Weak σ' ⟨[(0,bl l),(2,.ptr (.n 2) 0),(4,.ptr (.n 4) 0),(5,i6 (i+1:Nat))],[(.n 4,[u (V / 18446744073709551616),u (V%18446744073709551616)]),(.n 2,[u 0,u 0])],[]⟩→K σ':=
       fun σ' hσ=>hK (i+1) σ' ⟨by omega,hlt⟩ (by omega) (hV▸hσ)
      rw [←hV] at t5 q1
      rw [q1] at fin
      obtain ⟨A,hA⟩: ∃A,A=v / 18446744073709551616:=⟨_,rfl⟩
      obtain ⟨B,hB⟩: ∃B,B=v%18446744073709551616:=⟨_,rfl⟩
      obtain ⟨C,hC⟩: ∃C,C=V%18446744073709551616:=⟨_,rfl⟩
      obtain ⟨D,hD⟩: ∃D,D=2^i:=⟨_,rfl⟩
      rw [←hB,←hC,←hD] at t5
      rw [←hA,←hB]
      rw [←hA,←hC] at fin
      rw [←hD] at t4
      clear hA hB hC hD q1 q2 hV hv' e e' hK h2 hv hR hlt
      simp -implicitDefEqProofs [bl,g,hb,g3,g5]
      rw [Int.one_mul] at t4
      simp only [t3,Int.toNat_natCast]
      simp -implicitDefEqProofs
      rw [t4,t5]
      refine fin _ ?_
      apply weak_mk<;>simp [bl,t1]
  ·obtain rfl:i=l.length:=by omega
   rw [List.take_length] at h2 ⊢
   rw [if_pos h2] at hR
   subst hR
   simp -implicitDefEqProofs [bl,wide]
 ·simp [val]
 ·apply weak_mk<;>simp [bl,val]
open Go.Proofs
def qc (j:Nat) (B:List Bool):List AV:=(List.replicate j false++B).map AV.bool
open Go.Proofs

open Go.Proofs

section
variable {x:Nat} (hx:x<18446744073709551616)
include hx
set_option linter.unusedSectionVars false
end
end Go.Ai
set_option linter.unusedSectionVars false
namespace Go.Ai
open Go.Proofs
section
variable {Q:AE→St→Prop} {Y s y1 y0 un v v0:Nat}
end

end Go.Ai
set_option linter.unusedSectionVars false
namespace Go.Ai
open Go.Proofs
section
variable {rq rr:Nat}
end
end Go.Ai
namespace Go.Ai
open Go.Proofs Go.RowKit
theorem add64_spec (x y c:Nat) (hc:c≤1):Sp Tryz.prog gl 217 [u x,u y,u c] (.tup [u ((x+y+c)%18446744073709551616),u ((x+y+c) / 18446744073709551616)]):=by
 refine ext_spec (fn:=Tryz.f217) (e:=add64Entry) Tryz.func217 (by kernel_rfl) (by kernel_rfl) (by kernel_rfl) (by kernel_rfl) ?_
 intro S gb w vs h
 simp only [PRlist,PR] at h
 obtain ⟨_,_,rfl,rfl,_,_,rfl,rfl,_,_,rfl,rfl,rfl⟩:=h
 refine ⟨_,run_add64 x y c (by omega) (by omega) (by omega) (by omega) w,?_⟩
 simp only [PR]
 refine ⟨_,rfl,?_⟩
 simp only [PRlist,PR]
 exact ⟨_,_,rfl,by congr 1,_,_,rfl,by congr 1,rfl⟩
theorem xadd_spec (a b:Nat) (ha:a<340282366920938463463374607431768211456) (hb:b<340282366920938463463374607431768211456):
  Sp Tryz.prog gl 193 [wide a,wide b] (if a+b<340282366920938463463374607431768211456 then .tup [wide (a+b),i6 0] else .tup [wide 0,i6 3]):=by
 have A1:=add64_spec (a%18446744073709551616) (b%18446744073709551616) 0 (by omega)
 have A2:=add64_spec (a / 18446744073709551616) (b / 18446744073709551616) ((a%18446744073709551616+b%18446744073709551616) / 18446744073709551616) (by omega)
 simp only [Nat.add_zero] at A1
 obtain ⟨up,hup⟩: ∃up,up=(a%18446744073709551616+b%18446744073709551616) / 18446744073709551616:=⟨_,rfl⟩
 obtain ⟨lo,hlo⟩: ∃lo,lo=(a%18446744073709551616+b%18446744073709551616)%18446744073709551616:=⟨_,rfl⟩
 rw [←hup,←hlo] at A1
 rw [←hup] at A2
 obtain ⟨ov,hov⟩: ∃ov,ov=(a / 18446744073709551616+b / 18446744073709551616+up) / 18446744073709551616:=⟨_,rfl⟩
 obtain ⟨hi,hhi⟩: ∃hi,hi=(a / 18446744073709551616+b / 18446744073709551616+up)%18446744073709551616:=⟨_,rfl⟩
 rw [←hov,←hhi] at A2
 refine s193 rfl rfl ?_
 simp -implicitDefEqProofs [c193,wide]
 refine onC_mk _ A1 ?_
 simp -implicitDefEqProofs
 refine onC_mk _ A2 ?_
 by_cases h:a+b<340282366920938463463374607431768211456
 ·have e1:ov=0:=by omega
  have e2:(a+b) / 18446744073709551616=hi:=by omega
  have e3:(a+b)%18446744073709551616=lo:=by omega
  rw [if_pos h,e2,e3,e1]
  clear hup hlo hov hhi e2 e3
  simp -implicitDefEqProofs
 ·have e1:ov=1:=by omega
  rw [if_neg h,e1]
  clear hup hlo hov hhi
  simp -implicitDefEqProofs
theorem xmore_spec (a n:Nat) (ha:a<340282366920938463463374607431768211456) (hn:n<18446744073709551616):
  Sp Tryz.prog gl 210 [wide a,u n] (if a*n<340282366920938463463374607431768211456 then .tup [wide (a*n),i6 0] else .tup [wide 0,i6 3]):=by
 obtain ⟨H,hH⟩: ∃H,H=a / 18446744073709551616:=⟨_,rfl⟩
 obtain ⟨L,hL⟩: ∃L,L=a%18446744073709551616:=⟨_,rfl⟩
 have hH2:H<18446744073709551616:=by omega
 have hL2:L<18446744073709551616:=by omega
 have T1:=times_spec L n hL2 hn
 have T2:=times_spec H n hH2 hn
 have e1:a*n=H*n*18446744073709551616+L*n:=by
  have:=Nat.div_add_mod a 18446744073709551616
  rw [←hH,←hL] at this
  rw [←this,Nat.add_mul,Nat.mul_comm 18446744073709551616 H,Nat.mul_right_comm]
 have b1:L*n≤18446744073709551615*18446744073709551615:=Nat.mul_le_mul (by omega) (by omega)
 have b2:H*n≤18446744073709551615*18446744073709551615:=Nat.mul_le_mul (by omega) (by omega)
 rw [e1]
 clear e1
 generalize H*n=X at *
 generalize L*n=Y at *
 have A:=xadd_spec Y (X%18446744073709551616*18446744073709551616) (by omega) (by omega)
 obtain ⟨X1,hX1⟩: ∃X1,X1=X / 18446744073709551616:=⟨_,rfl⟩
 obtain ⟨X0,hX0⟩: ∃X0,X0=X%18446744073709551616:=⟨_,rfl⟩
 simp only [wide,←hX1,←hX0] at T2
 rw [←hX0] at A
 have w0:wide (X0*18446744073709551616)= .agg [u X0,u 0]:=by unfold wide;rw [Nat.mul_div_cancel _ (by decide),Nat.mul_mod_left]
 rw [w0] at A
 simp only [wide] at T1 A
 rw [show Y+X0*18446744073709551616=X0*18446744073709551616+Y by omega] at A
 refine s210 rfl rfl ?_
 simp -implicitDefEqProofs [c210,wide]
 rw [←hH,←hL]
 refine onC_mk _ T1 ?_
 simp -implicitDefEqProofs
 refine onC_mk _ T2 ?_
 by_cases h:X1=0
 ·have e2:X0=X:=by omega
  rw [e2] at A ⊢
  rw [h]
  clear hX1 hX0 e2 w0 hH hL
  simp -implicitDefEqProofs
  refine onC_mk _ A ?_
  by_cases h2:X*18446744073709551616+Y<340282366920938463463374607431768211456
  ·rw [if_pos h2,if_pos h2];simp -implicitDefEqProofs
  ·rw [if_neg h2,if_neg h2];simp -implicitDefEqProofs
 ·have h2: ¬(X*18446744073709551616+Y<340282366920938463463374607431768211456):=by omega
  have h3:((X1:Int)!=0)=true:=by simp [h]
  rw [if_neg h2]
  clear hX1 hX0 w0 hH hL h2 A T2 T1
  simp -implicitDefEqProofs [h3]
open Go.Proofs
abbrev u32 (n:Nat):AV:= .int .u32 n
abbrev cnt (g n:Nat):AV:= .agg [u g,u n]

open Go.Proofs
end Go.Ai
namespace Go.Ai
open Go.Proofs
open Go.Proofs
end Go.Ai
namespace Go.Ai
open Go.Proofs
end Go.Ai
