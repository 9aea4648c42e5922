/- P2: a part of the proof: the rules, or what functions compute. Conditions: as each theorem says. -/
import Derived.Test.YthonkjadcpdphaaGreatDoorP1
import Derived.Test.YthonkjadcpdphaaGreatDoorAiExt
import Derived.Laws.Externs
set_option linter.unusedSimpArgs false
set_option linter.unusedVariables false
set_option maxRecDepth 20000
namespace Go.Ai
open Go.Proofs
theorem dm_of {x N q r:Nat} (h:x=N*q+r) (hr:r<N):x / N=q∧x%N=r:=by
 subst h
 rw [Nat.mul_add_div (by omega),Nat.mul_add_mod,Nat.div_eq_of_lt hr,Nat.mod_eq_of_lt hr]
 exact ⟨rfl,rfl⟩
def qc (j:Nat) (B:List Bool):List AV:=(List.replicate j false++B).map AV.bool
theorem qc_succ (j:Nat) (B:List Bool):qc (j+1) B=qc j (false::B):=by
 unfold qc;rw [List.replicate_succ',List.append_assoc];rfl
theorem qc_set (j:Nat) (B:List Bool):List.take j (qc (j+1) B)++AV.bool true::List.drop (j+1) (qc (j+1) B)=qc j (true::B):=by
 have h1:List.take j (qc (j+1) B)=(List.replicate j false).map AV.bool:=by
  rw [qc_succ];unfold qc;rw [List.map_append,List.take_left' (by simp)]
 have h2:List.drop (j+1) (qc (j+1) B)=B.map AV.bool:=by
  unfold qc;rw [List.map_append,List.drop_left' (by simp)]
 rw [h1,h2];unfold qc;simp
theorem qc_len (j:Nat) (B:List Bool):(qc j B).length=j+B.length:=by simp [qc]
theorem idsL_bools (q:List Bool):idsL (q.map AV.bool)=[]:=by
 induction q with
 |nil=>rfl
 |cons x r ih=>simp [idsL,AV.ids,ih]
theorem qc_ids (j:Nat) (B:List Bool):idsL (qc j B)=[]:=idsL_bools _
theorem cmpN_ge (a b:Nat):0≤cmpN a b↔b≤a:=by
 unfold cmpN;split
 ·omega
 ·split<;>omega
theorem divide_spec (a n:List Bool) (ha:a.length≤1000000) (hn:n.length≤1000000) (h0:0<val n):
  Sp Tryz.prog gl 162 [bl a,bl n] (.tup [bl (bitsOf (val a / val n) a.length),bl (bitsOf (val a%val n) a.length)]):=by
 refine s162 rfl rfl ?_
 have hlim:a.length≤lim:=by unfold lim;omega
 have t0:IntKind.i64.wrap ((a.length:Int) - 1)=a.length - 1:=by rw [wrap_i64]<;>omega
 simp -implicitDefEqProofs [c162,bl,hlim]
 refine wp_lpk (α:=Nat) (fun k=>⟨[(0,bl a),(1,bl n),(6,.ms (.n 11) 0 a.length 1),(7,bl (bitsOf (val (a.drop k)%val n) (a.length - k))),(8,i6 ((k:Int) - 1))],
  [(.n 11,qc k (bitsOf (val (a.drop k) / val n) (a.length - k)))],[]⟩) (fun k=>k≤a.length) (fun k=>k) ?_ a.length ?_ ?_
 ·rintro K k hK hk
  cases k with
  |zero=>
   have e1:val (a.drop 0)=val a:=by rw [List.drop_zero]
   rw [e1,Nat.sub_zero]
   obtain ⟨q,hq⟩: ∃q,q=bitsOf (val a / val n) a.length:=⟨_,rfl⟩
   have hql:q.length=a.length:=by rw [hq,bitsOf_len]
   rw [←hq]
   obtain ⟨l,hl⟩: ∃l,l=bitsOf (val a%val n) a.length:=⟨_,rfl⟩
   rw [←hl]
   have hqc:qc 0 q=(q.map fun b=>[AV.bool b]).flatten:=by
    have: ∀q:List Bool,q.map AV.bool=(q.map fun b=>[AV.bool b]).flatten:=by
     intro q;induction q with
     |nil=>rfl
     |cons x r ih=>rw [List.map_cons,List.map_cons,List.flatten_cons,←ih];rfl
    unfold qc;rw [List.replicate_zero,List.nil_append];exact this q
   obtain ⟨X,hX⟩: ∃X,X=qc 0 q:=⟨_,rfl⟩
   rw [←hX] at hqc ⊢
   clear hX hq hl hK e1
   simp -implicitDefEqProofs [bl]
   refine .inr (.inl ⟨4,.n 11,a.length,1,q.map (fun b=>[AV.bool b]),⟨?_,?_,?_,?_,?_,?_,?_⟩,?_⟩)
   ·simp [lk]
   ·simp [lkB,hqc]
   ·rfl
   ·simp [hql]
   ·intro r hr;simp at hr;rcases hr with ⟨-,h⟩|⟨-,h⟩<;>simp [←h]
   ·have: ∀q:List Bool,idsL (q.map fun b=>[AV.bool b]).flatten=[]:=by
     intro q;induction q with
     |nil=>rfl
     |cons x r ih=>simp [idsL,AV.ids,ih]
    exact this q
   ·simp [rmB]
   ·simp [frzSt,postA,resA,oneA,purE,lk,AV.ids,shut,shutL]
  |succ j=>
   have hj:j<a.length:=by omega
   have ed:=drop_cons hj
   have eV:val (a.drop j)=(a[j]).toNat+2*val (a.drop (j+1)):=by rw [ed,val_cons]
   have hVl:val (a.drop (j+1))<2^(a.length - (j+1)):=by have:=val_lt (a.drop (j+1));rwa [List.length_drop] at this
   have el:a.length - j=a.length - (j+1)+1:=by omega
   obtain ⟨V,hV⟩: ∃V,V=val (a.drop (j+1)):=⟨_,rfl⟩
   obtain ⟨V',hV'⟩: ∃V',V'=val (a.drop j):=⟨_,rfl⟩
   rw [←hV] at eV hVl ⊢
   rw [←hV'] at eV
   have hKj:=fun σ' h=>hK j σ' (by omega) (by omega) h
   simp only [←hV'] at hKj
   obtain ⟨N,hN⟩: ∃N,N=val n:=⟨_,rfl⟩
   rw [←hN] at h0 hKj ⊢
   have dmV:=Nat.div_add_mod V N
   have hm:=Nat.mod_lt V h0
   obtain ⟨q,hq⟩: ∃q,q=V / N:=⟨_,rfl⟩
   obtain ⟨r,hr⟩: ∃r,r=V%N:=⟨_,rfl⟩
   have hrV:r≤V:=by rw [hr];exact Nat.mod_le _ _
   rw [←hq,←hr] at dmV
   rw [←hr] at hm
   rw [←hq,←hr]
   obtain ⟨m,hm'⟩: ∃m,m=a.length - (j+1):=⟨_,rfl⟩
   rw [←hm'] at el hVl ⊢
   simp only [el] at hKj
   obtain ⟨b,hb⟩: ∃b,b=a[j]:=⟨_,rfl⟩
   rw [←hb] at eV
   have eL:val (bitsOf r m)=r:=by rw [bitsOf_val,Nat.mod_eq_of_lt (by omega)]
   have hLl:=bitsOf_len r m
   have hL0:b::bitsOf r m=bitsOf (b.toNat+2*r) (m+1):=(bitsOf_cons b r m).symm
   have hB1:true::bitsOf q m=bitsOf (1+2*q) (m+1):=(bitsOf_cons true q m).symm
   have hB0:false::bitsOf q m=bitsOf (2*q) (m+1):=by have:=(bitsOf_cons false q m).symm;simpa using this
   obtain ⟨L,hL⟩: ∃L,L=bitsOf r m:=⟨_,rfl⟩
   rw [←hL] at eL hLl hL0 ⊢
   have eW:val (b::L)=b.toNat+2*r:=by rw [val_cons,eL]
   have hb1:b.toNat≤1:=by cases b<;>simp
   have C:=compare_spec (b::L) n (by simp;omega) hn
   have M:=fun h=>minus_le (b::L) n (by simp;omega) hn h
   rw [←hN,eW] at C M
   have hcc:=cmpN_ge (b.toNat+2*r) N
   obtain ⟨cc,hc⟩: ∃cc,cc=cmpN (b.toNat+2*r) N:=⟨_,rfl⟩
   rw [←hc] at C hcc
   have Bs:=qc_set j (bitsOf q m)
   have Bn:=qc_succ j (bitsOf q m)
   have Bl:=qc_len (j+1) (bitsOf q m)
   rw [bitsOf_len] at Bl
   have Bi:=qc_ids (j+1) (bitsOf q m)
   have Bi2:=qc_ids j (true::bitsOf q m)
   rw [←Bs] at Bi2
   rw [hB1] at Bs
   rw [hB0] at Bn
   obtain ⟨X,hX⟩: ∃X,X=qc (j+1) (bitsOf q m):=⟨_,rfl⟩
   rw [←hX] at Bs Bn Bl Bi Bi2 ⊢
   have e8:((j+1:Nat):Int) - 1=j:=by omega
   have t1:IntKind.i64.wrap ((j:Int) - 1)=j - 1:=by rw [wrap_i64]<;>omega
   have hlimL:1+L.length≤lim:=by unfold lim;omega
   have hXl:j+1≤X.length:=by omega
   rw [e8]
   by_cases g:N≤b.toNat+2*r
   ·have M:=M g
    have gc:=hcc.2 g
    have key:V' / N=1+2*q∧V'%N=b.toNat+2*r - N:=by
     apply dm_of
     ·rw [eV,←dmV,Nat.mul_add,Nat.mul_add,Nat.mul_one,Nat.mul_left_comm N 2 q];omega
     ·omega
    rw [key.1,key.2] at hKj
    have eM:(b::L).length=m+1:=by simp [hLl]
    rw [eM] at M
    rw [←Bs] at hKj
    obtain ⟨L2,hL2⟩: ∃L2,L2=bitsOf (b.toNat+2*r - N) (m+1):=⟨_,rfl⟩
    rw [←hL2] at M hKj
    clear Bs Bn hcc hX key hL2 hL hq hr hN hV hV' hc hL0 hB1 hB0 eV dmV ed Bl
    subst hb
    simp -implicitDefEqProofs [bl,hj]
    refine ⟨hlimL,by rintro r (⟨-,h⟩|⟨-,h⟩)<;>simp [←h],?_⟩
    refine onC_mk _ C ?_
    simp -implicitDefEqProofs [gc]
    refine onC_mk _ M ?_
    simp -implicitDefEqProofs [hj,hXl]
    refine hKj _ ?_
    apply weak_mk<;>simp [bl,t1,wkL_refl,Bi,Bi2]
   ·have gc: ¬0≤cc:=fun h=>g (hcc.1 h)
    have key:V' / N=2*q∧V'%N=b.toNat+2*r:=by
     apply dm_of
     ·rw [eV,←dmV,Nat.mul_add,Nat.mul_left_comm N 2 q];omega
     ·omega
    rw [key.1,key.2,←Bn,←hL0] at hKj
    clear Bs Bn hcc hX key hL hq hr hN hV hV' hc hL0 hB1 hB0 eV dmV ed Bl M
    subst hb
    simp -implicitDefEqProofs [bl,hj]
    refine ⟨hlimL,by rintro r (⟨-,h⟩|⟨-,h⟩)<;>simp [←h],?_⟩
    refine onC_mk _ C ?_
    simp -implicitDefEqProofs [gc]
    refine hKj _ ?_
    apply weak_mk<;>simp [bl,t1,wkL_refl,Bi,Bi2]
 ·exact Nat.le_refl _
 ·rw [List.drop_eq_nil_of_le (Nat.le_refl _),Nat.sub_self]
  have e1:bitsOf (val [] / val n) 0=[]:=rfl
  have e2:bitsOf (val []%val n) 0=[]:=rfl
  rw [e1,e2]
  have:qc a.length []=List.replicate a.length (AV.bool false):=by unfold qc;simp
  have hi:=qc_ids a.length []
  rw [this] at hi ⊢
  apply weak_mk<;>simp [bl,t0,hi]
open Go.Proofs

open Go.Proofs

section
variable {x:Nat} (hx:x<18446744073709551616)
include hx
set_option linter.unusedSectionVars false
end
end Go.Ai
set_option linter.unusedSectionVars false
namespace Go.Ai
open Go.Proofs
section
variable {Q:AE→St→Prop} {Y s y1 y0 un v v0:Nat}
end

end Go.Ai
set_option linter.unusedSectionVars false
namespace Go.Ai
open Go.Proofs
section
variable {rq rr:Nat}
end
end Go.Ai
namespace Go.Ai
open Go.Proofs Go.RowKit
theorem add64_spec (x y c:Nat) (hc:c≤1):Sp Tryz.prog gl 225 [u x,u y,u c] (.tup [u ((x+y+c)%18446744073709551616),u ((x+y+c) / 18446744073709551616)]):=by
 refine ext_spec (fn:=Tryz.f225) (e:=add64Entry) Tryz.func225 (by kernel_rfl) (by kernel_rfl) (by kernel_rfl) (by kernel_rfl) ?_
 intro S gb w vs h
 simp only [PRlist,PR] at h
 obtain ⟨_,_,rfl,rfl,_,_,rfl,rfl,_,_,rfl,rfl,rfl⟩:=h
 refine ⟨_,run_add64 x y c (by omega) (by omega) (by omega) (by omega) w,?_⟩
 simp only [PR]
 refine ⟨_,rfl,?_⟩
 simp only [PRlist,PR]
 exact ⟨_,_,rfl,by congr 1,_,_,rfl,by congr 1,rfl⟩
theorem xadd_spec (a b:Nat) (ha:a<340282366920938463463374607431768211456) (hb:b<340282366920938463463374607431768211456):
  Sp Tryz.prog gl 180 [wide a,wide b] (if a+b<340282366920938463463374607431768211456 then .tup [wide (a+b),i6 0] else .tup [wide 0,i6 3]):=by
 have A1:=add64_spec (a%18446744073709551616) (b%18446744073709551616) 0 (by omega)
 have A2:=add64_spec (a / 18446744073709551616) (b / 18446744073709551616) ((a%18446744073709551616+b%18446744073709551616) / 18446744073709551616) (by omega)
 simp only [Nat.add_zero] at A1
 obtain ⟨up,hup⟩: ∃up,up=(a%18446744073709551616+b%18446744073709551616) / 18446744073709551616:=⟨_,rfl⟩
 obtain ⟨lo,hlo⟩: ∃lo,lo=(a%18446744073709551616+b%18446744073709551616)%18446744073709551616:=⟨_,rfl⟩
 rw [←hup,←hlo] at A1
 rw [←hup] at A2
 obtain ⟨ov,hov⟩: ∃ov,ov=(a / 18446744073709551616+b / 18446744073709551616+up) / 18446744073709551616:=⟨_,rfl⟩
 obtain ⟨hi,hhi⟩: ∃hi,hi=(a / 18446744073709551616+b / 18446744073709551616+up)%18446744073709551616:=⟨_,rfl⟩
 rw [←hov,←hhi] at A2
 refine s180 rfl rfl ?_
 simp -implicitDefEqProofs [c180,wide]
 refine onC_mk _ A1 ?_
 simp -implicitDefEqProofs
 refine onC_mk _ A2 ?_
 by_cases h:a+b<340282366920938463463374607431768211456
 ·have e1:ov=0:=by omega
  have e2:(a+b) / 18446744073709551616=hi:=by omega
  have e3:(a+b)%18446744073709551616=lo:=by omega
  rw [if_pos h,e2,e3,e1]
  clear hup hlo hov hhi e2 e3
  simp -implicitDefEqProofs
 ·have e1:ov=1:=by omega
  rw [if_neg h,e1]
  clear hup hlo hov hhi
  simp -implicitDefEqProofs
theorem xmore_spec (a n:Nat) (ha:a<340282366920938463463374607431768211456) (hn:n<18446744073709551616):
  Sp Tryz.prog gl 218 [wide a,u n] (if a*n<340282366920938463463374607431768211456 then .tup [wide (a*n),i6 0] else .tup [wide 0,i6 3]):=by
 obtain ⟨H,hH⟩: ∃H,H=a / 18446744073709551616:=⟨_,rfl⟩
 obtain ⟨L,hL⟩: ∃L,L=a%18446744073709551616:=⟨_,rfl⟩
 have hH2:H<18446744073709551616:=by omega
 have hL2:L<18446744073709551616:=by omega
 have T1:=times_spec L n hL2 hn
 have T2:=times_spec H n hH2 hn
 have e1:a*n=H*n*18446744073709551616+L*n:=by
  have:=Nat.div_add_mod a 18446744073709551616
  rw [←hH,←hL] at this
  rw [←this,Nat.add_mul,Nat.mul_comm 18446744073709551616 H,Nat.mul_right_comm]
 have b1:L*n≤18446744073709551615*18446744073709551615:=Nat.mul_le_mul (by omega) (by omega)
 have b2:H*n≤18446744073709551615*18446744073709551615:=Nat.mul_le_mul (by omega) (by omega)
 rw [e1]
 clear e1
 generalize H*n=X at *
 generalize L*n=Y at *
 have A:=xadd_spec Y (X%18446744073709551616*18446744073709551616) (by omega) (by omega)
 obtain ⟨X1,hX1⟩: ∃X1,X1=X / 18446744073709551616:=⟨_,rfl⟩
 obtain ⟨X0,hX0⟩: ∃X0,X0=X%18446744073709551616:=⟨_,rfl⟩
 simp only [wide,←hX1,←hX0] at T2
 rw [←hX0] at A
 have w0:wide (X0*18446744073709551616)= .agg [u X0,u 0]:=by unfold wide;rw [Nat.mul_div_cancel _ (by decide),Nat.mul_mod_left]
 rw [w0] at A
 simp only [wide] at T1 A
 rw [show Y+X0*18446744073709551616=X0*18446744073709551616+Y by omega] at A
 refine s218 rfl rfl ?_
 simp -implicitDefEqProofs [c218,wide]
 rw [←hH,←hL]
 refine onC_mk _ T1 ?_
 simp -implicitDefEqProofs
 refine onC_mk _ T2 ?_
 by_cases h:X1=0
 ·have e2:X0=X:=by omega
  rw [e2] at A ⊢
  rw [h]
  clear hX1 hX0 e2 w0 hH hL
  simp -implicitDefEqProofs
  refine onC_mk _ A ?_
  by_cases h2:X*18446744073709551616+Y<340282366920938463463374607431768211456
  ·rw [if_pos h2,if_pos h2];simp -implicitDefEqProofs
  ·rw [if_neg h2,if_neg h2];simp -implicitDefEqProofs
 ·have h2: ¬(X*18446744073709551616+Y<340282366920938463463374607431768211456):=by omega
  have h3:((X1:Int)!=0)=true:=by simp [h]
  rw [if_neg h2]
  clear hX1 hX0 w0 hH hL h2 A T2 T1
  simp -implicitDefEqProofs [h3]
end Go.Ai
