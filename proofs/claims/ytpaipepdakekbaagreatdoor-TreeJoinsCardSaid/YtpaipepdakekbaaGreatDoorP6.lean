/- P6: a part of the proof: the rules, or what functions compute. Conditions: as each theorem says. -/
import Derived.Test.YtpaipepdakekbaaGreatDoorP5
import Derived.Test.YtpaipepdakekbaaGreatDoorAiExt
import Derived.Test.YtpaipepdakekbaaGreatDoorP1
import Derived.Laws.Externs
set_option linter.unusedSimpArgs false
set_option linter.unusedVariables false
set_option maxRecDepth 20000
namespace Go.Ai
open Go.Proofs
def qc (j:Nat) (B:List Bool):List AV:=(List.replicate j false++B).map AV.bool
open Go.Proofs

open Go.Proofs

section
variable {x:Nat} (hx:x<18446744073709551616)
include hx
set_option linter.unusedSectionVars false
end
end Go.Ai
set_option linter.unusedSectionVars false
namespace Go.Ai
open Go.Proofs
section
variable {Q:AE→St→Prop} {Y s y1 y0 un v v0:Nat}
end

end Go.Ai
set_option linter.unusedSectionVars false
namespace Go.Ai
open Go.Proofs
section
variable {rq rr:Nat}
end
end Go.Ai
namespace Go.Ai
open Go.Proofs Go.RowKit
theorem add64_spec (x y c:Nat) (hc:c≤1):Sp Tryz.prog gl 101 [u x,u y,u c] (.tup [u ((x+y+c)%18446744073709551616),u ((x+y+c) / 18446744073709551616)]):=by
 refine ext_spec (fn:=Tryz.f101) (e:=add64Entry) Tryz.func101 (by kernel_rfl) (by kernel_rfl) (by kernel_rfl) (by kernel_rfl) ?_
 intro S gb w vs h
 simp only [PRlist,PR] at h
 obtain ⟨_,_,rfl,rfl,_,_,rfl,rfl,_,_,rfl,rfl,rfl⟩:=h
 refine ⟨_,run_add64 x y c (by omega) (by omega) (by omega) (by omega) w,?_⟩
 simp only [PR]
 refine ⟨_,rfl,?_⟩
 simp only [PRlist,PR]
 exact ⟨_,_,rfl,by congr 1,_,_,rfl,by congr 1,rfl⟩
theorem xadd_spec (a b:Nat) (ha:a<340282366920938463463374607431768211456) (hb:b<340282366920938463463374607431768211456):
  Sp Tryz.prog gl 81 [wide a,wide b] (if a+b<340282366920938463463374607431768211456 then .tup [wide (a+b),i6 0] else .tup [wide 0,i6 3]):=by
 have A1:=add64_spec (a%18446744073709551616) (b%18446744073709551616) 0 (by omega)
 have A2:=add64_spec (a / 18446744073709551616) (b / 18446744073709551616) ((a%18446744073709551616+b%18446744073709551616) / 18446744073709551616) (by omega)
 simp only [Nat.add_zero] at A1
 obtain ⟨up,hup⟩: ∃up,up=(a%18446744073709551616+b%18446744073709551616) / 18446744073709551616:=⟨_,rfl⟩
 obtain ⟨lo,hlo⟩: ∃lo,lo=(a%18446744073709551616+b%18446744073709551616)%18446744073709551616:=⟨_,rfl⟩
 rw [←hup,←hlo] at A1
 rw [←hup] at A2
 obtain ⟨ov,hov⟩: ∃ov,ov=(a / 18446744073709551616+b / 18446744073709551616+up) / 18446744073709551616:=⟨_,rfl⟩
 obtain ⟨hi,hhi⟩: ∃hi,hi=(a / 18446744073709551616+b / 18446744073709551616+up)%18446744073709551616:=⟨_,rfl⟩
 rw [←hov,←hhi] at A2
 refine s81 rfl rfl ?_
 simp -implicitDefEqProofs [c81,wide]
 refine onC_mk _ A1 ?_
 simp -implicitDefEqProofs
 refine onC_mk _ A2 ?_
 by_cases h:a+b<340282366920938463463374607431768211456
 ·have e1:ov=0:=by omega
  have e2:(a+b) / 18446744073709551616=hi:=by omega
  have e3:(a+b)%18446744073709551616=lo:=by omega
  rw [if_pos h,e2,e3,e1]
  clear hup hlo hov hhi e2 e3
  simp -implicitDefEqProofs
 ·have e1:ov=1:=by omega
  rw [if_neg h,e1]
  clear hup hlo hov hhi
  simp -implicitDefEqProofs
theorem xmore_spec (a n:Nat) (ha:a<340282366920938463463374607431768211456) (hn:n<18446744073709551616):
  Sp Tryz.prog gl 94 [wide a,u n] (if a*n<340282366920938463463374607431768211456 then .tup [wide (a*n),i6 0] else .tup [wide 0,i6 3]):=by
 obtain ⟨H,hH⟩: ∃H,H=a / 18446744073709551616:=⟨_,rfl⟩
 obtain ⟨L,hL⟩: ∃L,L=a%18446744073709551616:=⟨_,rfl⟩
 have hH2:H<18446744073709551616:=by omega
 have hL2:L<18446744073709551616:=by omega
 have T1:=times_spec L n hL2 hn
 have T2:=times_spec H n hH2 hn
 have e1:a*n=H*n*18446744073709551616+L*n:=by
  have:=Nat.div_add_mod a 18446744073709551616
  rw [←hH,←hL] at this
  rw [←this,Nat.add_mul,Nat.mul_comm 18446744073709551616 H,Nat.mul_right_comm]
 have b1:L*n≤18446744073709551615*18446744073709551615:=Nat.mul_le_mul (by omega) (by omega)
 have b2:H*n≤18446744073709551615*18446744073709551615:=Nat.mul_le_mul (by omega) (by omega)
 rw [e1]
 clear e1
 generalize H*n=X at *
 generalize L*n=Y at *
 have A:=xadd_spec Y (X%18446744073709551616*18446744073709551616) (by omega) (by omega)
 obtain ⟨X1,hX1⟩: ∃X1,X1=X / 18446744073709551616:=⟨_,rfl⟩
 obtain ⟨X0,hX0⟩: ∃X0,X0=X%18446744073709551616:=⟨_,rfl⟩
 simp only [wide,←hX1,←hX0] at T2
 rw [←hX0] at A
 have w0:wide (X0*18446744073709551616)= .agg [u X0,u 0]:=by unfold wide;rw [Nat.mul_div_cancel _ (by decide),Nat.mul_mod_left]
 rw [w0] at A
 simp only [wide] at T1 A
 rw [show Y+X0*18446744073709551616=X0*18446744073709551616+Y by omega] at A
 refine s94 rfl rfl ?_
 simp -implicitDefEqProofs [c94,wide]
 rw [←hH,←hL]
 refine onC_mk _ T1 ?_
 simp -implicitDefEqProofs
 refine onC_mk _ T2 ?_
 by_cases h:X1=0
 ·have e2:X0=X:=by omega
  rw [e2] at A ⊢
  rw [h]
  clear hX1 hX0 e2 w0 hH hL
  simp -implicitDefEqProofs
  refine onC_mk _ A ?_
  by_cases h2:X*18446744073709551616+Y<340282366920938463463374607431768211456
  ·rw [if_pos h2,if_pos h2];simp -implicitDefEqProofs
  ·rw [if_neg h2,if_neg h2];simp -implicitDefEqProofs
 ·have h2: ¬(X*18446744073709551616+Y<340282366920938463463374607431768211456):=by omega
  have h3:((X1:Int)!=0)=true:=by simp [h]
  rw [if_neg h2]
  clear hX1 hX0 w0 hH hL h2 A T2 T1
  simp -implicitDefEqProofs [h3]
end Go.Ai
