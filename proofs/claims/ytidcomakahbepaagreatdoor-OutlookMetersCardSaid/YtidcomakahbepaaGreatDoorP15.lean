/- P15: a part of the proof: the rules, or what functions compute. Conditions: as each theorem says. -/
import Derived.Test.YtidcomakahbepaaGreatDoorP14
import Derived.Test.YtidcomakahbepaaGreatDoorAiExt
import Derived.Laws.Externs
set_option linter.unusedSimpArgs false
set_option linter.unusedVariables false
set_option maxRecDepth 20000
set_option linter.unusedSectionVars false
namespace Go.Ai
open Go.Proofs
theorem step_eq {q r y1 un:Nat} (h:1≤q) (he:q*y1+r=un):(q - 1)*y1+(r+y1)=un:=by
 obtain ⟨k,rfl⟩: ∃k,q=k+1:=⟨q - 1,by omega⟩
 rw [←he,Nat.add_mul,Nat.add_sub_cancel];omega
theorem bl_x {i j:Nat} {Q:AE→St→Prop} {σ:St}:AE.bl i Q (.x j) σ=if j=i then Q .n σ else Q (.x j) σ:=(rfl)
theorem sq_x {B:St→Prop} {Q:AE→St→Prop} {i:Nat} {σ:St}:AE.sq B Q (.x i) σ=Q (.x i) σ:=(rfl)
theorem sq_n {B:St→Prop} {Q:AE→St→Prop} {σ:St}:AE.sq B Q .n σ=B σ:=(rfl)
section
variable {Q:AE→St→Prop} {Y s y1 y0 un v v0:Nat}
theorem div_loop1 (hY:Y=y1*4294967296+y0) (hy1:2147483648≤y1) (hy1':y1<4294967296) (hy0:y0<4294967296) (hun:un<Y) (hv:v<4294967296)
  (tail: ∀e pm,lk e 2=u Y→lk e 8=u s→lk e 9=u y1→lk e 10=u y0→lk e 11=u un→lk e 13=u v→lk e 14=u v0→lk e 15=u ((un*4294967296+v) / Y)→wpA (SpH Tryz.prog gl) (AC.tl 15 c177) Q ⟨e,[],pm⟩)
  (e:List (Nat×AV)) (pm:List (Pl×Nat)) (h2:lk e 2=u Y) (h8:lk e 8=u s) (h9:lk e 9=u y1) (h10:lk e 10=u y0) (h11:lk e 11=u un) (h13:lk e 13=u v) (h14:lk e 14=u v0) (h15:lk e 15=u (un / y1)) (h16:lk e 16=u (un%y1)):
  wpA (SpH Tryz.prog gl) (AC.tl 14 c177) Q ⟨e,[],pm⟩:=by
 have ec:AC.tl 14 c177=AC.cutAt 1 (AC.tl 15 c177) (AC.tl 14 c177):=rfl
 rw [ec]
 generalize AC.tl 15 c177=t at tail ⊢
 simp only [c177,AC.tl,AC.cutAt]
 simp
 have g1:=guess_lo (un:=un) hy0 hy1 hv
 have hun':un<y1*4294967296+y0:=by omega
 have g2:=guess_hi hun' hy0 hy1
 rw [←hY] at g1
 generalize hD:(un*4294967296+v) / Y=D at tail g1
 have hD':D=(un*4294967296+v) / (y1*4294967296+y0):=by rw [←hY,hD]
 have more: ∀q r,D≤q→q*y1+r=un→(4294967296≤q∨r*4294967296+v<q*y0)→1≤q∧D≤q - 1:=fun q r i1 i2=>digit_step (D:=D) hun' hy0 hy1 hv hD' i1 i2
 have done: ∀q r,D≤q→q*y1+r=un→q*y0≤r*4294967296+v→q=D:=fun q r i1 i2=>digit_end hy1 hD' i1 i2
 clear hD hD'
 refine wp_lp (α:=Nat×Nat) (fun x=>⟨[(2,u Y),(8,u s),(9,u y1),(10,u y0),(11,u un),(13,u v),(14,u v0),(15,u x.1),(16,u x.2)],[],[]⟩)
  (fun x=>D≤x.1∧x.1*y1+x.2=un∧x.1≤4294967297∧x.2<4294967296) (fun x=>x.1) ?_ (un / y1,un%y1) ?_ ?_
 ·rintro ⟨q,r⟩ ⟨i1,i2,i3,i4⟩
  simp only at i1 i2 i3 i4
  have more:=more q r i1 i2
  have over:1≤q→D≤q - 1→4294967296≤r+y1→q - 1=D:=fun a b c=>done (q - 1) (r+y1) b (step_eq a i2) (digit_over hy0 (by omega) c)
  have done:=done q r i1 i2
  have t1:1≤q→IntKind.u64.wrap ((q:Int) - 1)=(q - 1:Nat):=fun h=>by rw [wrap_u64]<;>omega
  have t2:IntKind.u64.wrap ((r:Int)+y1)=(r+y1:Nat):=by rw [wrap_u64]<;>omega
  by_cases hA:4294967296≤q
  ·obtain ⟨m1,m2⟩:=more (.inl hA)
   have hA':(4294967296:Int)≤q:=by omega
   simp [hA']
   rw [t2]
   refine onB_dec (fun h=>?_) (fun h=>?_)
   ·rw [wpA_ex,bl_x,if_neg (by decide),sq_x,bl_x,if_pos rfl,sq_n]
    refine tail _ _ ?_ ?_ ?_ ?_ ?_ ?_ ?_ ?_<;>simp
    rw [t1 m1,over m1 m2 (by omega)]
   ·simp
    refine lpQ_mk (q - 1,r+y1) ⟨m2,step_eq m1 i2,by simp only;omega,by simp only;omega⟩ (by simp only;omega) ?_
    apply weak_mk<;>simp
    exact t1 m1
  ·have hA': ¬(4294967296:Int)≤q:=by omega
   have e1:q*y0≤4294967295*4294967295:=Nat.mul_le_mul (by omega) (by omega)
   have t3:IntKind.u64.wrap ((q:Int)*y0)=(q*y0:Nat):=by rw [←Int.natCast_mul,wrap_u64]<;>omega
   have t4:IntKind.u64.wrap (4294967296*(r:Int))=(4294967296*r:Nat):=by rw [wrap_u64]<;>omega
   have t5:IntKind.u64.wrap (((4294967296*r:Nat):Int)+v)=(4294967296*r+v:Nat):=by rw [wrap_u64]<;>omega
   simp [hA']
   rw [t4,t5,t3]
   refine onB_dec (fun hB=>?_) (fun hB=>?_)
   ·have hB:4294967296*r+v<q*y0:=by omega
    obtain ⟨m1,m2⟩:=more (.inr (by omega))
    simp
    rw [t2]
    refine onB_dec (fun h=>?_) (fun h=>?_)
    ·rw [wpA_ex,bl_x,if_neg (by decide),sq_x,bl_x,if_pos rfl,sq_n]
     refine tail _ _ ?_ ?_ ?_ ?_ ?_ ?_ ?_ ?_<;>simp
     rw [t1 m1,over m1 m2 (by omega)]
    ·simp
     refine lpQ_mk (q - 1,r+y1) ⟨m2,step_eq m1 i2,by simp only;omega,by simp only;omega⟩ (by simp only;omega) ?_
     apply weak_mk<;>simp
     exact t1 m1
   ·have hB:q*y0≤4294967296*r+v:=by omega
    rw [wpA_ex,sq_x,sq_x,bl_x,if_pos rfl,sq_n]
    refine tail _ _ ?_ ?_ ?_ ?_ ?_ ?_ ?_ ?_<;>simp
    rw [done (by omega)]
 ·refine ⟨g1,?_,g2,?_⟩
  ·simp only;rw [Nat.mul_comm];exact Nat.div_add_mod un y1
  ·simp only;have:=Nat.mod_lt un (show 0<y1 by omega);omega
 ·apply weak_mk<;>simp [h2,h8,h9,h10,h11,h13,h14,h15,h16]
theorem div_loop2 (hY:Y=y1*4294967296+y0) (hy1:2147483648≤y1) (hy1':y1<4294967296) (hy0:y0<4294967296) (hun:un<Y) (hv:v<4294967296)
  (tail: ∀e pm,lk e 2=u Y→lk e 8=u s→lk e 9=u y1→lk e 10=u y0→lk e 17=u un→lk e 14=u v→lk e 15=u v0→lk e 18=u ((un*4294967296+v) / Y)→wpA (SpH Tryz.prog gl) (AC.tl 19 c177) Q ⟨e,[],pm⟩)
  (e:List (Nat×AV)) (pm:List (Pl×Nat)) (h2:lk e 2=u Y) (h8:lk e 8=u s) (h9:lk e 9=u y1) (h10:lk e 10=u y0) (h11:lk e 17=u un) (h13:lk e 14=u v) (h14:lk e 15=u v0) (h15:lk e 18=u (un / y1)) (h16:lk e 16=u (un%y1)):
  wpA (SpH Tryz.prog gl) (AC.tl 18 c177) Q ⟨e,[],pm⟩:=by
 have ec:AC.tl 18 c177=AC.cutAt 1 (AC.tl 19 c177) (AC.tl 18 c177):=rfl
 rw [ec]
 generalize AC.tl 19 c177=t at tail ⊢
 simp only [c177,AC.tl,AC.cutAt]
 simp
 have g1:=guess_lo (un:=un) hy0 hy1 hv
 have hun':un<y1*4294967296+y0:=by omega
 have g2:=guess_hi hun' hy0 hy1
 rw [←hY] at g1
 generalize hD:(un*4294967296+v) / Y=D at tail g1
 have hD':D=(un*4294967296+v) / (y1*4294967296+y0):=by rw [←hY,hD]
 have more: ∀q r,D≤q→q*y1+r=un→(4294967296≤q∨r*4294967296+v<q*y0)→1≤q∧D≤q - 1:=fun q r i1 i2=>digit_step (D:=D) hun' hy0 hy1 hv hD' i1 i2
 have done: ∀q r,D≤q→q*y1+r=un→q*y0≤r*4294967296+v→q=D:=fun q r i1 i2=>digit_end hy1 hD' i1 i2
 clear hD hD'
 refine wp_lp (α:=Nat×Nat) (fun x=>⟨[(2,u Y),(8,u s),(9,u y1),(10,u y0),(17,u un),(14,u v),(15,u v0),(18,u x.1),(16,u x.2)],[],[]⟩)
  (fun x=>D≤x.1∧x.1*y1+x.2=un∧x.1≤4294967297∧x.2<4294967296) (fun x=>x.1) ?_ (un / y1,un%y1) ?_ ?_
 ·rintro ⟨q,r⟩ ⟨i1,i2,i3,i4⟩
  simp only at i1 i2 i3 i4
  have more:=more q r i1 i2
  have over:1≤q→D≤q - 1→4294967296≤r+y1→q - 1=D:=fun a b c=>done (q - 1) (r+y1) b (step_eq a i2) (digit_over hy0 (by omega) c)
  have done:=done q r i1 i2
  have t1:1≤q→IntKind.u64.wrap ((q:Int) - 1)=(q - 1:Nat):=fun h=>by rw [wrap_u64]<;>omega
  have t2:IntKind.u64.wrap ((r:Int)+y1)=(r+y1:Nat):=by rw [wrap_u64]<;>omega
  by_cases hA:4294967296≤q
  ·obtain ⟨m1,m2⟩:=more (.inl hA)
   have hA':(4294967296:Int)≤q:=by omega
   simp [hA']
   rw [t2]
   refine onB_dec (fun h=>?_) (fun h=>?_)
   ·rw [wpA_ex,bl_x,if_neg (by decide),sq_x,bl_x,if_pos rfl,sq_n]
    refine tail _ _ ?_ ?_ ?_ ?_ ?_ ?_ ?_ ?_<;>simp
    rw [t1 m1,over m1 m2 (by omega)]
   ·simp
    refine lpQ_mk (q - 1,r+y1) ⟨m2,step_eq m1 i2,by simp only;omega,by simp only;omega⟩ (by simp only;omega) ?_
    apply weak_mk<;>simp
    exact t1 m1
  ·have hA': ¬(4294967296:Int)≤q:=by omega
   have e1:q*y0≤4294967295*4294967295:=Nat.mul_le_mul (by omega) (by omega)
   have t3:IntKind.u64.wrap ((q:Int)*y0)=(q*y0:Nat):=by rw [←Int.natCast_mul,wrap_u64]<;>omega
   have t4:IntKind.u64.wrap (4294967296*(r:Int))=(4294967296*r:Nat):=by rw [wrap_u64]<;>omega
   have t5:IntKind.u64.wrap (((4294967296*r:Nat):Int)+v)=(4294967296*r+v:Nat):=by rw [wrap_u64]<;>omega
   simp [hA']
   rw [t4,t5,t3]
   refine onB_dec (fun hB=>?_) (fun hB=>?_)
   ·have hB:4294967296*r+v<q*y0:=by omega
    obtain ⟨m1,m2⟩:=more (.inr (by omega))
    simp
    rw [t2]
    refine onB_dec (fun h=>?_) (fun h=>?_)
    ·rw [wpA_ex,bl_x,if_neg (by decide),sq_x,bl_x,if_pos rfl,sq_n]
     refine tail _ _ ?_ ?_ ?_ ?_ ?_ ?_ ?_ ?_<;>simp
     rw [t1 m1,over m1 m2 (by omega)]
    ·simp
     refine lpQ_mk (q - 1,r+y1) ⟨m2,step_eq m1 i2,by simp only;omega,by simp only;omega⟩ (by simp only;omega) ?_
     apply weak_mk<;>simp
     exact t1 m1
   ·have hB:q*y0≤4294967296*r+v:=by omega
    rw [wpA_ex,sq_x,sq_x,bl_x,if_pos rfl,sq_n]
    refine tail _ _ ?_ ?_ ?_ ?_ ?_ ?_ ?_ ?_<;>simp
    rw [done (by omega)]
 ·refine ⟨g1,?_,g2,?_⟩
  ·simp only;rw [Nat.mul_comm];exact Nat.div_add_mod un y1
  ·simp only;have:=Nat.mod_lt un (show 0<y1 by omega);omega
 ·apply weak_mk<;>simp [h2,h8,h9,h10,h11,h13,h14,h15,h16]
end

theorem shift_fits {y:Nat} (h0:0<y) (hy:y<18446744073709551616):9223372036854775808≤y*2^(64 - lenN y)∧y*2^(64 - lenN y)<18446744073709551616:=by
 have h:=lenN_le (x:=y) (k:=64) (by omega)
 have hl:lenN y=Nat.log2 y+1:=by unfold lenN;rw [if_neg (by omega)]
 have h1:=Nat.log2_self_le (n:=y) (by omega)
 have h2:=Nat.lt_log2_self (n:=y)
 rw [hl] at h ⊢
 have e1:2^Nat.log2 y*2^(64 - (Nat.log2 y+1))=9223372036854775808:=by
  rw [←Nat.pow_add,show Nat.log2 y+(64 - (Nat.log2 y+1))=63 by omega]
 have e2:2^(Nat.log2 y+1)*2^(64 - (Nat.log2 y+1))=18446744073709551616:=by
  rw [←Nat.pow_add,show Nat.log2 y+1+(64 - (Nat.log2 y+1))=64 by omega]
 have p:0<2^(64 - (Nat.log2 y+1)):=Nat.two_pow_pos _
 constructor
 ·rw [←e1];exact Nat.mul_le_mul_right _ h1
 ·rw [←e2];exact Nat.mul_lt_mul_of_pos_right h2 p
theorem two_digits {un v v0 Y D1 D0 R1 R0:Nat} (h1:D1*Y+R1=un*4294967296+v) (h2:D0*Y+R0=R1*4294967296+v0) (hR:R0<Y):
  (un*18446744073709551616+(v*4294967296+v0)) / Y=D1*4294967296+D0∧(un*18446744073709551616+(v*4294967296+v0))%Y=R0:=by
 have e:R0+Y*(D1*4294967296+D0)=un*18446744073709551616+(v*4294967296+v0):=by
  rw [Nat.mul_comm Y,Nat.add_mul,Nat.mul_right_comm]
  omega
 exact (Nat.div_mod_unique (by omega)).2 ⟨e,hR⟩
theorem shifted {hi lo y s:Nat} (hs:s≤64) (hlo:lo<18446744073709551616):
  (hi*2^s+lo / 2^(64 - s))*18446744073709551616+lo*2^s%18446744073709551616=(hi*18446744073709551616+lo)*2^s:=by
 have e:(18446744073709551616:Nat)=2^(64 - s)*2^s:=by rw [←Nat.pow_add,show 64 - s+s=64 by omega]
 have h1:lo*2^s / 18446744073709551616=lo / 2^(64 - s):=by rw [e];exact Nat.mul_div_mul_right _ _ (Nat.two_pow_pos s)
 have h2:=Nat.div_add_mod (lo*2^s) 18446744073709551616
 rw [h1] at h2
 rw [Nat.add_mul,Nat.add_mul,Nat.mul_right_comm hi]
 omega
theorem sub_mod {a v P R:Nat} (h:P+R=a*4294967296+v) (hR:R<18446744073709551616):
  IntKind.u64.wrap (IntKind.u64.wrap (IntKind.u64.wrap ((a:Int)*4294967296)+v) - IntKind.u64.wrap (P:Int))=(R:Nat):=by
 simp only [wrap_u64m]
 omega
end Go.Ai
set_option linter.unusedSectionVars false
namespace Go.Ai
open Go.Proofs
theorem shl_u64 (x s:Nat) (h:s≤64):(x:Int)*2^min s IntKind.u64.bits=((x*2^s:Nat):Int):=by
 rw [show min s IntKind.u64.bits=s by show min s 64=s;omega];simp
theorem shr_u64' (x i:Nat) (h:i≤64):(x:Int).fdiv (2^min i IntKind.u64.bits)=((x / 2^i:Nat):Int):=by
 rw [show min i IntKind.u64.bits=i by show min i 64=i;omega,Int.fdiv_eq_ediv_of_nonneg _ (Int.pow_nonneg (by decide))]
 simp
section
variable {rq rr:Nat}
theorem div_19 {Y s D1 D0 R1 v0 R0:Nat} (h1:D1<4294967296) (h0:D0<4294967296) (hs:s≤64) (hR:D0*Y+R0=R1*4294967296+v0) (hRY:R0<18446744073709551616)
  (hq:rq=D1*4294967296+D0) (hr:rr=R0 / 2^s)
  (e:List (Nat×AV)) (pm:List (Pl×Nat)) (h2:lk e 2=u Y) (h8:lk e 8=u s) (h14:lk e 14=u v0) (h15:lk e 15=u D1) (h17:lk e 17=u R1) (h18:lk e 18=u D0):
  wpA (SpH Tryz.prog gl) (AC.tl 19 c177) (postA [.t 6,.t 7] (.tup [u rq,u rr])) ⟨e,[],pm⟩:=by
 simp only [c177,AC.tl]
 simp -implicitDefEqProofs [h2,h8,h14,h15,h17,h18]
 have t1:IntKind.u64.wrap ((D1:Int)*4294967296)=(D1*4294967296:Nat):=by rw [wrap_u64]<;>omega
 have t2:IntKind.u64.wrap (((D1*4294967296:Nat):Int)+D0)=(D1*4294967296+D0:Nat):=by rw [wrap_u64]<;>omega
 have t3:=sub_mod hR hRY
 rw [Int.natCast_mul] at t3
 rw [t1,t2,t3,hq,hr]
 exact ⟨rfl,shr_u64' R0 s hs⟩
theorem div_15 {Y s y1 y0 un v v0 D1 R1 D0 R0:Nat} (hY:Y=y1*4294967296+y0) (hy1:2147483648≤y1) (hy1':y1<4294967296) (hy0:y0<4294967296)
  (hD1:D1<4294967296) (hs:s≤64) (hR1:D1*Y+R1=un*4294967296+v) (hR1Y:R1<Y) (hv0:v0<4294967296) (hR0:D0*Y+R0=R1*4294967296+v0) (hR0Y:R0<Y) (hD0:D0=(R1*4294967296+v0) / Y) (hD0':D0<4294967296)
  (hq:rq=D1*4294967296+D0) (hr:rr=R0 / 2^s)
  (e:List (Nat×AV)) (pm:List (Pl×Nat)) (h2:lk e 2=u Y) (h8:lk e 8=u s) (h9:lk e 9=u y1) (h10:lk e 10=u y0) (h11:lk e 11=u un) (h13:lk e 13=u v) (h14:lk e 14=u v0) (h15:lk e 15=u D1):
  wpA (SpH Tryz.prog gl) (AC.tl 15 c177) (postA [.t 6,.t 7] (.tup [u rq,u rr])) ⟨e,[],pm⟩:=by
 have ec:AC.tl 15 c177=AC.cutAt 3 (AC.tl 18 c177) (AC.tl 15 c177):=rfl
 rw [ec]
 have T:= @div_loop2 (postA [.t 6,.t 7] (.tup [u rq,u rr])) Y s y1 y0 R1 v0 D1 hY hy1 hy1' hy0 hR1Y hv0 (by
  intro e pm h2 h8 h9 h10 h17 h14 h15 h18
  exact div_19 hD1 hD0' hs hR0 (by clear hD0;omega) hq hr e pm h2 h8 h14 h15 h17 (by rw [h18,←hD0]))
 clear hD0
 generalize AC.tl 18 c177=t at T ⊢
 simp only [c177,AC.tl,AC.cutAt]
 have b0:((y1:Int)==0)=false:=by simp;omega
 have b1: ¬(y1:Int)=0:=by omega
 have b2: ¬y1=0:=by omega
 simp -implicitDefEqProofs [h2,h8,h9,h10,h11,h13,h14,h15,b0,b1,b2]
 have t3:=sub_mod hR1 (by omega)
 rw [Int.natCast_mul] at t3
 have q0:=Nat.div_add_mod R1 y1
 have q1:R1 / y1≤R1:=Nat.div_le_self _ _
 refine T _ _ ?_ ?_ ?_ ?_ ?_ ?_ ?_ ?_ ?_<;>simp -implicitDefEqProofs [h2,h8,h9,h10,h14,h15]
 ·exact t3
 ·rw [t3,Int.tdiv_eq_ediv_of_nonneg (by omega),←Int.natCast_ediv]
  generalize R1 / y1=q at *
  exact wrap_u64 (by omega) (by omega)
 ·rw [t3,Int.tdiv_eq_ediv_of_nonneg (by omega),←Int.natCast_ediv,←Int.natCast_emod]
  generalize R1 / y1=q at *
  generalize R1%y1=r at *
  have e1:IntKind.u64.wrap (q:Int)=q:=wrap_u64 (by omega) (by omega)
  rw [e1,Int.mul_comm,←Int.natCast_mul]
  generalize y1*q=z at *
  have e2:IntKind.u64.wrap (z:Int)=z:=wrap_u64 (by omega) (by omega)
  rw [e2,wrap_u64]<;>omega
end
theorem div0 (y n:Nat) (hn:0<n) (hy:y<18446744073709551616):Sp Tryz.prog gl 177 [u 0,u y,u n] (.tup [u (y / n),u (y%n)]):=by
 refine s177 rfl rfl ?_
 have h1:((n:Int)==0)=false:=by simp;omega
 have h2: ¬(n:Int)≤0:=by omega
 have h3: ¬(n:Int)=0:=by omega
 have h4: ¬n=0:=by omega
 simp [c177,h1]
 simp [h2,h3,h4]
 refine ⟨?_,Int.tmod_eq_emod_of_nonneg (Int.natCast_nonneg _)⟩
 have:=Nat.div_le_self y n
 rw [←Int.natCast_ediv]
 generalize y / n=q at *
 exact wrap_u64 (by omega) (by omega)
theorem digit_ex (A Y:Nat) (hY:0<Y) (hA:A<4294967296*Y): ∃D R,D=A / Y∧D<4294967296∧D*Y+R=A∧R<Y:=
 ⟨_,_,rfl,div_lt_of hY hA,Nat.div_add_mod' A Y,Nat.mod_lt _ hY⟩
theorem lin_fits {a v Y:Nat} (h:a<Y) (hv:v<4294967296):a*4294967296+v<4294967296*Y:=by omega
theorem halves {Y y1 y0:Nat} (ey:y1*4294967296+y0=Y) (h0:y0<4294967296) (g1:9223372036854775808≤Y) (g2:Y<18446744073709551616):2147483648≤y1∧y1<4294967296:=by omega
theorem div64_spec (hi lo y:Nat) (hlo:lo<18446744073709551616) (hy:y<18446744073709551616) (h:hi<y):
  Sp Tryz.prog gl 177 [u hi,u lo,u y] (.tup [u ((hi*18446744073709551616+lo) / y),u ((hi*18446744073709551616+lo)%y)]):=by
 by_cases h00:hi=0
 ·subst h00
  have:=div0 lo y (by omega) hlo
  simpa using this
 obtain ⟨g1,g2⟩:=shift_fits (y:=y) (by omega) hy
 have hs:=lenN_le (x:=y) (k:=64) (by omega)
 obtain ⟨s,hsd⟩: ∃s,s=64 - lenN y:=⟨_,rfl⟩
 rw [←hsd] at g1 g2
 have hs:s≤64:=by omega
 have hp:0<2^s:=Nat.two_pow_pos s
 have k1:(hi+1)*2^s≤y*2^s:=Nat.mul_le_mul_right _ h
 rw [Nat.add_mul,Nat.one_mul] at k1
 have k2:lo / 2^(64 - s)<2^s:=by
  apply (Nat.div_lt_iff_lt_mul (Nat.two_pow_pos _)).2
  rw [←Nat.pow_add,show s+(64 - s)=64 by omega]
  omega
 have sh:=shifted (hi:=hi) (y:=y) hs hlo
 have dq:(hi*18446744073709551616+lo) / y=(hi*18446744073709551616+lo)*2^s / (y*2^s):=(Nat.mul_div_mul_right _ _ hp).symm
 have dr:(hi*18446744073709551616+lo)%y=(hi*18446744073709551616+lo)*2^s%(y*2^s) / 2^s:=by rw [Nat.mul_mod_mul_right,Nat.mul_div_cancel _ hp]
 rw [←sh] at dq dr
 have hor:=or_shift hi (lo / 2^(64 - s)) s k2
 generalize hY:y*2^s=Y at *
 generalize hH:hi*2^s=H at *
 generalize hL:lo / 2^(64 - s)=L at *
 generalize hun10:lo*2^s%18446744073709551616=un10 at *
 have hun10':un10<18446744073709551616:=by rw [←hun10];exact Nat.mod_lt _ (by decide)
 have hunY:H+L<Y:=by clear dq dr;omega
 have two:=fun D1 R1 D0 R0=> @two_digits (H+L) (un10 / 4294967296) (un10%4294967296) Y D1 D0 R1 R0
 have eu:=Nat.div_add_mod' un10 4294967296
 rw [eu] at two
 have hYpos:0<Y:=by clear dq dr two;omega
 obtain ⟨un1,un0,hun1,hun0,eun⟩: ∃un1 un0,un1=un10 / 4294967296∧un0=un10%4294967296∧un1*4294967296+un0=un10:=⟨_,_,rfl,rfl,eu⟩
 rw [←hun1,←hun0] at two
 have l1:un1<4294967296:=by clear dq dr two hun1;omega
 have l0:un0<4294967296:=by rw [hun0];exact Nat.mod_lt _ (by decide)
 obtain ⟨D1,R1,eD1,hD1,m1,m1'⟩:=digit_ex ((H+L)*4294967296+un1) Y hYpos (lin_fits hunY l1)
 obtain ⟨D0,R0,eD0,hD0,m2,m2'⟩:=digit_ex (R1*4294967296+un0) Y hYpos (lin_fits m1' l0)
 obtain ⟨z1,z2⟩:=two D1 R1 D0 R0 m1 m2 m2'
 rw [z1] at dq
 rw [z2] at dr
 clear two z1 z2
 rw [dq,dr]
 clear dq dr
 obtain ⟨y1,y0,hy1,hy0,ey⟩: ∃y1 y0,y1=Y / 4294967296∧y0=Y%4294967296∧y1*4294967296+y0=Y:=⟨_,_,rfl,rfl,Nat.div_add_mod' Y 4294967296⟩
 have ly0:y0<4294967296:=by rw [hy0];exact Nat.mod_lt _ (by decide)
 obtain ⟨ly1,ly1'⟩:=halves ey ly0 g1 g2
 have T:= @div_loop1 (postA [.t 6,.t 7] (.tup [u (D1*4294967296+D0),u (R0 / 2^s)])) Y s y1 y0 (H+L) un1 un0 ey.symm ly1 ly1' ly0 hunY l1 (by
  intro e pm h2 h8 h9 h10 h11 h13 h14 h15
  rw [←eD1] at h15
  exact div_15 ey.symm ly1 ly1' ly0 hD1 hs m1 m1' l0 m2 m2' eD0 hD0 rfl rfl e pm h2 h8 h9 h10 h11 h13 h14 h15)
 clear eD1 eD0
 have T6: ∀e pm,lk e 0=u hi→lk e 1=u lo→lk e 2=u Y→lk e 8=u s→wpA (SpH Tryz.prog gl) (AC.tl 6 c177) (postA [.t 6,.t 7] (.tup [u (D1*4294967296+D0),u (R0 / 2^s)])) ⟨e,[],pm⟩:=by
  intro e pm h0 h1 h2 h8
  have ec:AC.tl 6 c177=AC.cutAt 8 (AC.tl 14 c177) (AC.tl 6 c177):=rfl
  rw [ec]
  generalize AC.tl 14 c177=t at T ⊢
  simp only [c177,AC.tl,AC.cutAt]
  have w1:IntKind.u64.wrap ((64:Int) - s)=(64 - s:Nat):=by rw [wrap_u64]<;>omega
  have w1':0≤IntKind.u64.wrap ((64:Int) - s):=by rw [w1];omega
  have w2:(Y:Int) / 4294967296=y1:=by omega
  have w3: ¬(Y:Int) / 4294967296=0:=by omega
  simp -implicitDefEqProofs [h0,h1,h2,h8,w1',shr32]
  have e12:IntKind.u64.wrap ((lo:Int)*2^min s IntKind.u64.bits)=(un10:Nat):=by
   rw [shl_u64 _ _ hs,wrap_u64m,←hun10]
   generalize lo*2^s=z
   omega
  have e11:bits BinOp.or IntKind.u64 (IntKind.u64.wrap ((hi:Int)*2^min s IntKind.u64.bits)) ((lo:Int).fdiv (2^min (IntKind.u64.wrap (64 - (s:Int))).toNat IntKind.u64.bits))=(H+L:Nat):=by
   rw [shl_u64 _ _ hs,hH,w1,Int.toNat_natCast,shr_u64' lo (64 - s) (by omega),hL,wrap_u64 (n:=(H:Int)) (by omega) (by omega),bits_or_u64_nat H L (by omega) (by omega),hor]
  have e10:bits BinOp.and IntKind.u64 (Y:Int) 4294967295=(y0:Nat):=by rw [mask32 _ (by omega) (by omega)];omega
  have e14:bits BinOp.and IntKind.u64 (un10:Int) 4294967295=(un0:Nat):=by rw [mask32 _ (by omega) (by omega)];omega
  have e13:(un10:Int).fdiv (2^min 32 IntKind.u64.bits)=(un1:Nat):=by rw [shr32];omega
  rw [e11,e12,w2,e10,e14,e13]
  have w4: ¬(y1:Int)=0:=by omega
  have w5: ¬y1=0:=by omega
  simp -implicitDefEqProofs [w4,w5]
  have q0:=Nat.div_add_mod (H+L) y1
  have q1:(H+L) / y1≤(H+L):=Nat.div_le_self _ _
  have e15:IntKind.u64.wrap (((H+L:Nat):Int).tdiv y1)=((H+L) / y1:Nat):=by
   rw [Int.tdiv_eq_ediv_of_nonneg (by omega),←Int.natCast_ediv]
   generalize (H+L) / y1=q at *
   exact wrap_u64 (by omega) (by omega)
  simp only [Int.natCast_add] at e15
  rw [e15]
  refine T _ _ ?_ ?_ ?_ ?_ ?_ ?_ ?_ ?_ ?_<;>simp -implicitDefEqProofs [h2,h8]
  rw [←Int.natCast_add,←Int.natCast_ediv,←Int.natCast_emod]
  generalize (H+L) / y1=q at *
  generalize (H+L)%y1=r at *
  rw [←Int.natCast_mul,Nat.mul_comm]
  generalize y1*q=z at *
  have e2:IntKind.u64.wrap (z:Int)=z:=wrap_u64 (by omega) (by omega)
  rw [e2,wrap_u64]<;>omega
 refine s177 rfl rfl ?_
 have ec:c177=AC.cutAt 6 (AC.tl 6 c177) c177:=rfl
 rw [ec]
 clear T
 generalize AC.tl 6 c177=t at T6 ⊢
 simp only [c177,AC.tl,AC.cutAt]
 have b0:((y:Int)==0)=false:=by simp;omega
 have b1: ¬(y:Int)≤hi:=by omega
 have b2:((hi:Int)==0)=false:=by simp;omega
 simp -implicitDefEqProofs [b0,b1,b2]
 refine onC_mk _ (lz64_spec hy) ?_
 rw [←hsd]
 have w1:IntKind.u64.wrap (s:Int)=s:=by rw [wrap_u64]<;>omega
 simp -implicitDefEqProofs [w1]
 refine T6 _ _ ?_ ?_ ?_ ?_<;>simp -implicitDefEqProofs
 rw [shl_u64 _ _ hs,hY,wrap_u64]<;>omega
end Go.Ai
namespace Go.Ai
open Go.Proofs Go.RowKit
def sub64Entry:Array Value→Sem Value:=fun args=>do
 let (x,y,b) ←Extern.MathBitsCarry.three "Sub64" args
 pure (Extern.MathBitsCarry.pair ((x+Extern.MathBitsCarry.m64 - y - b)%Extern.MathBitsCarry.m64) (if x<y+b then 1 else 0))
theorem run_sub64 {P:Program} (X Y k:Nat) (hk:k≤1) (w:World):
  (sub64Entry #[.int .u64 X,.int .u64 Y,.int .u64 k]).run P w= .ok (.tuple #[.int .u64 ((X+18446744073709551616 - Y - k)%18446744073709551616:Nat),.int .u64 (if X<Y+k then 1 else 0:Nat)]) w:=by
 have key:(sub64Entry #[.int .u64 (X:Int),.int .u64 (Y:Int),.int .u64 (k:Int)]).run P w=
   .ok (Extern.MathBitsCarry.pair (((X:Int).toNat+Extern.MathBitsCarry.m64 - (Y:Int).toNat - k)%Extern.MathBitsCarry.m64) (if (X:Int).toNat<(Y:Int).toNat+k then 1 else 0)) w:=by
  have:k=0∨k=1:=by omega
  rcases this with rfl|rfl<;>rfl
 rw [key]
 simp only [Extern.MathBitsCarry.pair,Int.toNat_natCast]
 rfl
theorem add64_spec (x y c:Nat) (hc:c≤1):Sp Tryz.prog gl 211 [u x,u y,u c] (.tup [u ((x+y+c)%18446744073709551616),u ((x+y+c) / 18446744073709551616)]):=by
 refine ext_spec (fn:=Tryz.f211) (e:=add64Entry) Tryz.func211 (by kernel_rfl) (by kernel_rfl) (by kernel_rfl) (by kernel_rfl) ?_
 intro S gb w vs h
 simp only [PRlist,PR] at h
 obtain ⟨_,_,rfl,rfl,_,_,rfl,rfl,_,_,rfl,rfl,rfl⟩:=h
 refine ⟨_,run_add64 x y c (by omega) (by omega) (by omega) (by omega) w,?_⟩
 simp only [PR]
 refine ⟨_,rfl,?_⟩
 simp only [PRlist,PR]
 exact ⟨_,_,rfl,by congr 1,_,_,rfl,by congr 1,rfl⟩
theorem sub64_spec (x y c:Nat) (hc:c≤1):Sp Tryz.prog gl 210 [u x,u y,u c] (.tup [u ((x+18446744073709551616 - y - c)%18446744073709551616),u (if x<y+c then 1 else 0)]):=by
 refine ext_spec (fn:=Tryz.f210) (e:=sub64Entry) Tryz.func210 (by kernel_rfl) (by kernel_rfl) (by kernel_rfl) (by kernel_rfl) ?_
 intro S gb w vs h
 simp only [PRlist,PR] at h
 obtain ⟨_,_,rfl,rfl,_,_,rfl,rfl,_,_,rfl,rfl,rfl⟩:=h
 refine ⟨_,run_sub64 x y c hc w,?_⟩
 simp only [PR]
 refine ⟨_,rfl,?_⟩
 simp only [PRlist,PR]
 exact ⟨_,_,rfl,rfl,_,_,rfl,rfl,rfl⟩
theorem xadd_spec (a b:Nat) (ha:a<340282366920938463463374607431768211456) (hb:b<340282366920938463463374607431768211456):
  Sp Tryz.prog gl 187 [wide a,wide b] (if a+b<340282366920938463463374607431768211456 then .tup [wide (a+b),i6 0] else .tup [wide 0,i6 3]):=by
 have A1:=add64_spec (a%18446744073709551616) (b%18446744073709551616) 0 (by omega)
 have A2:=add64_spec (a / 18446744073709551616) (b / 18446744073709551616) ((a%18446744073709551616+b%18446744073709551616) / 18446744073709551616) (by omega)
 simp only [Nat.add_zero] at A1
 obtain ⟨up,hup⟩: ∃up,up=(a%18446744073709551616+b%18446744073709551616) / 18446744073709551616:=⟨_,rfl⟩
 obtain ⟨lo,hlo⟩: ∃lo,lo=(a%18446744073709551616+b%18446744073709551616)%18446744073709551616:=⟨_,rfl⟩
 rw [←hup,←hlo] at A1
 rw [←hup] at A2
 obtain ⟨ov,hov⟩: ∃ov,ov=(a / 18446744073709551616+b / 18446744073709551616+up) / 18446744073709551616:=⟨_,rfl⟩
 obtain ⟨hi,hhi⟩: ∃hi,hi=(a / 18446744073709551616+b / 18446744073709551616+up)%18446744073709551616:=⟨_,rfl⟩
 rw [←hov,←hhi] at A2
 refine s187 rfl rfl ?_
 simp -implicitDefEqProofs [c187,wide]
 refine onC_mk _ A1 ?_
 simp -implicitDefEqProofs
 refine onC_mk _ A2 ?_
 by_cases h:a+b<340282366920938463463374607431768211456
 ·have e1:ov=0:=by omega
  have e2:(a+b) / 18446744073709551616=hi:=by omega
  have e3:(a+b)%18446744073709551616=lo:=by omega
  rw [if_pos h,e2,e3,e1]
  clear hup hlo hov hhi e2 e3
  simp -implicitDefEqProofs
 ·have e1:ov=1:=by omega
  rw [if_neg h,e1]
  clear hup hlo hov hhi
  simp -implicitDefEqProofs
theorem xless_spec (a b:Nat) (ha:a<340282366920938463463374607431768211456) (hb:b<340282366920938463463374607431768211456):
  Sp Tryz.prog gl 185 [wide a,wide b] (if b≤a then .tup [wide (a - b),i6 0] else .tup [wide 0,i6 3]):=by
 have A1:=sub64_spec (a%18446744073709551616) (b%18446744073709551616) 0 (by omega)
 simp only [Nat.add_zero,Nat.sub_zero] at A1
 obtain ⟨dn,hdn⟩: ∃dn,dn=(if a%18446744073709551616<b%18446744073709551616 then 1 else 0):=⟨_,rfl⟩
 have hdn1:dn≤1:=by rw [hdn];split<;>omega
 have A2:=sub64_spec (a / 18446744073709551616) (b / 18446744073709551616) dn hdn1
 obtain ⟨lo,hlo⟩: ∃lo,lo=(a%18446744073709551616+18446744073709551616 - b%18446744073709551616)%18446744073709551616:=⟨_,rfl⟩
 rw [←hdn,←hlo] at A1
 obtain ⟨ov,hov⟩: ∃ov,ov=(if a / 18446744073709551616<b / 18446744073709551616+dn then 1 else 0):=⟨_,rfl⟩
 obtain ⟨hi,hhi⟩: ∃hi,hi=(a / 18446744073709551616+18446744073709551616 - b / 18446744073709551616 - dn)%18446744073709551616:=⟨_,rfl⟩
 rw [←hov,←hhi] at A2
 refine s185 rfl rfl ?_
 simp -implicitDefEqProofs [c185,wide]
 refine onC_mk _ A1 ?_
 simp -implicitDefEqProofs
 refine onC_mk _ A2 ?_
 by_cases h:b≤a
 ·have e1:ov=0:=by rw [hov];split at hdn<;>rw [if_neg (by omega)]
  have e2:(a - b) / 18446744073709551616=hi:=by split at hdn<;>omega
  have e3:(a - b)%18446744073709551616=lo:=by split at hdn<;>omega
  rw [if_pos h,e2,e3,e1]
  clear hdn hlo hov hhi e2 e3 hdn1
  simp -implicitDefEqProofs
 ·have e1:ov=1:=by rw [hov];split at hdn<;>rw [if_pos (by omega)]
  rw [if_neg h,e1]
  clear hdn hlo hov hhi hdn1
  simp -implicitDefEqProofs
theorem floor_parts (a n:Nat) (h0:0<n):
  (a / 18446744073709551616%n*18446744073709551616+a%18446744073709551616) / n=a / n%18446744073709551616+0∧a / 18446744073709551616 / n=a / n / 18446744073709551616∧
  (a / 18446744073709551616%n*18446744073709551616+a%18446744073709551616)%n=a%n:=by
 have e1:=Nat.div_add_mod a 18446744073709551616
 have e2:=Nat.div_add_mod (a / 18446744073709551616) n
 have e3:a / 18446744073709551616 / n=a / n / 18446744073709551616:=by rw [Nat.div_div_eq_div_mul,Nat.div_div_eq_div_mul,Nat.mul_comm]
 have hr:=Nat.mod_lt (a / 18446744073709551616) h0
 obtain ⟨H,hH⟩: ∃H,H=a / 18446744073709551616:=⟨_,rfl⟩
 obtain ⟨l,hl⟩: ∃l,l=a%18446744073709551616:=⟨_,rfl⟩
 have hl2:l<18446744073709551616:=by rw [hl];exact Nat.mod_lt _ (by decide)
 rw [←hH,←hl] at e1 ⊢
 rw [←hH] at e2 e3 hr
 obtain ⟨Q,hQ⟩: ∃Q,Q=H / n:=⟨_,rfl⟩
 obtain ⟨R,hR⟩: ∃R,R=H%n:=⟨_,rfl⟩
 rw [←hQ,←hR] at e2
 rw [←hR] at hr ⊢
 rw [←hQ]
 rw [←hQ] at e3
 have e4:a=n*(Q*18446744073709551616)+(R*18446744073709551616+l):=by
  rw [←e1,←e2,←Nat.mul_assoc];generalize n*Q=z;omega
 have e5:(R*18446744073709551616+l) / n<18446744073709551616:=by
  refine div_lt_of h0 ?_
  clear e1 e2 e3 e4 hH hQ hR
  omega
 have e6:a / n=Q*18446744073709551616+(R*18446744073709551616+l) / n:=by
  conv=>lhs;rw [e4]
  rw [Nat.mul_add_div h0]
 refine ⟨?_,e3,?_⟩
 ·rw [e6]
  generalize (R*18446744073709551616+l) / n=z at *
  clear e1 e2 e3 e4 hH hQ hR e6 hl hr
  omega
 ·conv=>rhs;rw [e4]
  rw [Nat.mul_add_mod]
theorem floor_spec (a n:Nat) (h0:0<n) (ha:a<340282366920938463463374607431768211456) (hn:n<18446744073709551616):
  Sp Tryz.prog gl 134 [wide a,u n] (.tup [wide (a / n),u (a%n),i6 0]):=by
 obtain ⟨p1,p2,p3⟩:=floor_parts a n h0
 have D1:=div64_spec 0 (a / 18446744073709551616) n (by omega) hn h0
 rw [Nat.zero_mul,Nat.zero_add] at D1
 have D2:=div64_spec (a / 18446744073709551616%n) (a%18446744073709551616) n (Nat.mod_lt _ (by decide)) hn (Nat.mod_lt _ h0)
 rw [p1,p3,Nat.add_zero] at D2
 rw [p2] at D1
 refine s134 rfl rfl ?_
 have b0:((n:Int)==0)=false:=by simp;omega
 simp -implicitDefEqProofs [c134,wide,b0]
 generalize a / 18446744073709551616=H at *
 generalize a%18446744073709551616=L at *
 generalize a / n / 18446744073709551616=QH at *
 generalize a / n%18446744073709551616=QL at *
 generalize H%n=R at *
 generalize a%n=RR at *
 refine onC_mk _ D1 ?_
 simp -implicitDefEqProofs
 refine onC_mk _ D2 ?_
 simp -implicitDefEqProofs
theorem xmore_spec (a n:Nat) (ha:a<340282366920938463463374607431768211456) (hn:n<18446744073709551616):
  Sp Tryz.prog gl 148 [wide a,u n] (if a*n<340282366920938463463374607431768211456 then .tup [wide (a*n),i6 0] else .tup [wide 0,i6 3]):=by
 obtain ⟨H,hH⟩: ∃H,H=a / 18446744073709551616:=⟨_,rfl⟩
 obtain ⟨L,hL⟩: ∃L,L=a%18446744073709551616:=⟨_,rfl⟩
 have hH2:H<18446744073709551616:=by omega
 have hL2:L<18446744073709551616:=by omega
 have T1:=times_spec L n hL2 hn
 have T2:=times_spec H n hH2 hn
 have e1:a*n=H*n*18446744073709551616+L*n:=by
  have:=Nat.div_add_mod a 18446744073709551616
  rw [←hH,←hL] at this
  rw [←this,Nat.add_mul,Nat.mul_comm 18446744073709551616 H,Nat.mul_right_comm]
 have b1:L*n≤18446744073709551615*18446744073709551615:=Nat.mul_le_mul (by omega) (by omega)
 have b2:H*n≤18446744073709551615*18446744073709551615:=Nat.mul_le_mul (by omega) (by omega)
 rw [e1]
 clear e1
 generalize H*n=X at *
 generalize L*n=Y at *
 have A:=xadd_spec Y (X%18446744073709551616*18446744073709551616) (by omega) (by omega)
 obtain ⟨X1,hX1⟩: ∃X1,X1=X / 18446744073709551616:=⟨_,rfl⟩
 obtain ⟨X0,hX0⟩: ∃X0,X0=X%18446744073709551616:=⟨_,rfl⟩
 simp only [wide,←hX1,←hX0] at T2
 rw [←hX0] at A
 have w0:wide (X0*18446744073709551616)= .agg [u X0,u 0]:=by unfold wide;rw [Nat.mul_div_cancel _ (by decide),Nat.mul_mod_left]
 rw [w0] at A
 simp only [wide] at T1 A
 rw [show Y+X0*18446744073709551616=X0*18446744073709551616+Y by omega] at A
 refine s148 rfl rfl ?_
 simp -implicitDefEqProofs [c148,wide]
 rw [←hH,←hL]
 refine onC_mk _ T1 ?_
 simp -implicitDefEqProofs
 refine onC_mk _ T2 ?_
 by_cases h:X1=0
 ·have e2:X0=X:=by omega
  rw [e2] at A ⊢
  rw [h]
  clear hX1 hX0 e2 w0 hH hL
  simp -implicitDefEqProofs
  refine onC_mk _ A ?_
  by_cases h2:X*18446744073709551616+Y<340282366920938463463374607431768211456
  ·rw [if_pos h2,if_pos h2];simp -implicitDefEqProofs
  ·rw [if_neg h2,if_neg h2];simp -implicitDefEqProofs
 ·have h2: ¬(X*18446744073709551616+Y<340282366920938463463374607431768211456):=by omega
  have h3:((X1:Int)!=0)=true:=by simp [h]
  rw [if_neg h2]
  clear hX1 hX0 w0 hH hL h2 A T2 T1
  simp -implicitDefEqProofs [h3]
theorem xceil_spec (a n:Nat) (h0:0<n) (ha:a<340282366920938463463374607431768211456) (hn:n<18446744073709551616):
  Sp Tryz.prog gl 153 [wide a,u n] (.tup [wide ((a+n - 1) / n),i6 0]):=by
 have F:=floor_spec a n h0 ha hn
 obtain ⟨R,hR⟩: ∃R,R=a%n:=⟨_,rfl⟩
 obtain ⟨Q,hQ⟩: ∃Q,Q=a / n:=⟨_,rfl⟩
 rw [←hR,←hQ] at F
 have e:=Nat.div_add_mod a n
 have hr:=Nat.mod_lt a h0
 rw [←hR,←hQ] at e
 rw [←hR] at hr
 have hc:(a+n - 1) / n=if R=0 then Q else Q+1:=by
  split
  ·apply Nat.div_eq_of_lt_le
   ·rw [Nat.mul_comm];omega
   ·rw [Nat.add_mul,Nat.mul_comm];omega
  ·apply Nat.div_eq_of_lt_le
   ·rw [Nat.add_mul,Nat.mul_comm];omega
   ·rw [Nat.add_mul,Nat.add_mul,Nat.mul_comm];omega
 have hQa:Q+R≤a:=by
  rw [←e]
  have:=Nat.mul_le_mul_right Q (show 1≤n from h0)
  omega
 have A:=xadd_spec Q 1 (by omega) (by omega)
 have w1:wide 1= .agg [u 0,u 1]:=by simp [wide]
 rw [w1] at A
 refine s153 rfl rfl ?_
 simp -implicitDefEqProofs [c153,wide]
 refine onC_mk _ F ?_
 rw [hc]
 clear hc hR hQ
 simp only [wide] at F A ⊢
 by_cases h:R=0
 ·rw [if_pos h,h]
  simp -implicitDefEqProofs
 ·have h3:((R:Int)==0)=false:=by simp [h]
  rw [if_neg h]
  rw [if_pos (by omega)] at A
  simp -implicitDefEqProofs [h3]
  refine onC_mk _ A ?_
  simp -implicitDefEqProofs
open Go.Proofs
abbrev u32 (n:Nat):AV:= .int .u32 n
abbrev cnt (g n:Nat):AV:= .agg [u g,u n]

theorem isNaN_spec (x:Nat):Sp Tryz.prog gl 207 [u x] (.bool false):=by
 refine s207 rfl rfl ?_
 simp [c207]
theorem cmpU_spec (x y:Nat):Sp Tryz.prog gl 180 [u x,u y] (i6 (cmpN x y)):=by
 refine s180 rfl rfl ?_
 simp [c180]
 refine onC_mk _ (isNaN_spec x) ?_
 simp
 refine onC_mk _ (isNaN_spec y) ?_
 simp
 refine onB_dec (fun h=>?_) (fun h=>?_)
 ·simp [cmpN,h]
 ·simp
  refine onB_dec (fun h2=>?_) (fun h2=>?_)
  ·simp [cmpN,h,show x≠y by omega]
  ·simp [cmpN,h,show x=y by omega]
theorem or2_spec (a b:Int):Sp Tryz.prog gl 179 [.sl [[i6 a],[i6 b]]] (i6 (if a=0 then b else a)):=by
 refine s179 rfl rfl ?_
 simp [c179]
 refine wp_lp (α:=Nat) (fun k=>⟨[(3,i6 0),(6,.sl [[i6 a],[i6 b]]),(7,i6 2),(8,i6 k)],[],[]⟩)
  (fun k=>k≤2∧(1≤k→a=0)∧(2≤k→b=0)) (fun k=>2 - k) ?_ 0 ⟨by omega,by omega,by omega⟩ ?_
 ·rintro k ⟨h1,h2,h3⟩
  rcases (by omega:k=0∨k=1∨k=2) with rfl|rfl|rfl
  ·simp
   by_cases ha:a=0
   ·simp [ha]
    refine lpQ_mk 1 (by simp [ha]) (by omega) ?_
    apply weak_mk<;>simp
    exact wrap_i64 (by omega) (by omega)
   ·have:(a !=0)=true:=by simp [ha]
    simp [this,ha]
  ·have ha:=h2 (by omega)
   simp
   by_cases hb:b=0
   ·simp [hb]
    refine lpQ_mk 2 (by simp [ha,hb]) (by omega) ?_
    apply weak_mk<;>simp
    exact wrap_i64 (by omega) (by omega)
   ·have:(b !=0)=true:=by simp [hb]
    simp [this,ha]
  ·have ha:=h2 (by omega)
   have hb:=h3 (by omega)
   simp [ha,hb]
 ·apply weak_mk<;>simp
theorem cmp_split (a b:Nat):(if cmpN (a / 18446744073709551616) (b / 18446744073709551616)=0 then cmpN (a%18446744073709551616) (b%18446744073709551616) else cmpN (a / 18446744073709551616) (b / 18446744073709551616))=cmpN a b:=by
 unfold cmpN
 repeat' split
 all_goals omega
theorem xcompare_spec (a b:Nat):Sp Tryz.prog gl 137 [wide a,wide b] (i6 (cmpN a b)):=by
 refine s137 rfl rfl ?_
 simp [c137,wide]
 refine onC_mk _ (cmpU_spec _ _) ?_
 simp
 refine onC_mk _ (cmpU_spec _ _) ?_
 simp
 refine onC_mk _ (or2_spec _ _) ?_
 simp [cmp_split]

theorem burnRight_spec (t:Nat):Sp Tryz.prog gl 176 [u32 t] (.bool (decide (t≤1000000))):=by
 refine s176 rfl rfl ?_
 simp [c176]
 omega
theorem rest_spec (t:Nat) (ht:t≤1000000):Sp Tryz.prog gl 133 [u32 t] (u32 (1000000 - t)):=by
 refine s133 rfl rfl ?_
 simp [c133]
 refine onC_mk _ (burnRight_spec t) ?_
 simp [ht]
 rw [wrap_u32]<;>omega
def mayN (t g n:Nat):Nat:=if 1000000<t then 8 else if n<g then 16 else 0
open Go.Proofs
abbrev sg2 (b:Bool) (m l:Nat):AV:= .agg [.bool b,u m,u l]
def sgn (b:Bool) (n:Nat):AV:=sg2 b (n / 18446744073709551616) (n%18446744073709551616)
def sgi (z:Int):AV:=sgn (decide (z<0)) z.natAbs
theorem sright0 (b:Bool) (m l:Nat):Sp Tryz.prog gl 212 [sg2 b m l] (.bool (!b||!(decide (m=0∧l=0)))):=by
 refine s212 rfl rfl ?_
 cases b
 ·simp [c212]
 ·by_cases h1:m=0
  ·by_cases h2:l=0
   ·subst h1;subst h2;simp -implicitDefEqProofs [c212]
   ·have h3:((l:Int)==0)=false:=by simpa using h2
    subst h1
    simp -implicitDefEqProofs [c212,h3,h2]
  ·have h3:((m:Int)==0)=false:=by simpa using h1
   simp -implicitDefEqProofs [c212,h3,h1]
theorem srt0 (b:Bool) (m l:Nat):Sp Tryz.prog gl 190 [sg2 b m l] (sg2 (b&&!decide (m=0∧l=0)) m l):=by
 refine s190 rfl rfl ?_
 have R:=sright0 b m l
 simp -implicitDefEqProofs [c190]
 refine onC_mk _ R ?_
 by_cases h:m=0∧l=0
 ·obtain ⟨rfl,rfl⟩:=h
  cases b
  ·simp
  ·simp
 ·simp [h]
  intro _;omega
theorem nz_iff (n:Nat):(n / 18446744073709551616=0∧n%18446744073709551616=0)↔n=0:=by omega
theorem srt1 (b:Bool) (n:Nat):Sp Tryz.prog gl 190 [sgn b n] (sgi (if b=true then -n else n)):=by
 have R:=srt0 b (n / 18446744073709551616) (n%18446744073709551616)
 have e:sgi (if b=true then -(n:Int) else n)=sgn (b&&!decide (n / 18446744073709551616=0∧n%18446744073709551616=0)) n:=by
  simp only [nz_iff]
  cases b
  ·have:decide ((n:Int)<0)=false:=by simp
   simp [sgi,this]
  ·have:decide (-(n:Int)<0)=!decide (n=0):=by rw [Bool.eq_iff_iff];simp;omega
   simp only [sgi,if_true,this,Int.natAbs_neg,Int.natAbs_natCast,Bool.true_and]
 rw [e];exact R
theorem sized_spec (b:Bool) (n:Nat):Sp Tryz.prog gl 186 [.bool b,wide n] (sgi (if b=true then -n else n)):=by
 refine s186 rfl rfl ?_
 have key:=srt1 b n
 obtain ⟨b',m',l',e⟩: ∃b' m' l',sgi (if b=true then -n else n)=sg2 b' m' l':=⟨_,_,_,rfl⟩
 rw [e] at key ⊢
 unfold sgn at key
 unfold wide
 generalize n%18446744073709551616=l at *
 generalize n / 18446744073709551616=m at *
 simp -implicitDefEqProofs [c186]
 refine onC_mk _ key ?_
 simp -implicitDefEqProofs
theorem between_spec (a b:Nat) (ha:a<340282366920938463463374607431768211456) (hb:b<340282366920938463463374607431768211456):Sp Tryz.prog gl 146 [wide a,wide b] (sgi ((a:Int) - b)):=by
 refine s146 rfl rfl ?_
 have L1:=xless_spec a b ha hb
 have L2:=xless_spec b a hb ha
 have e0:sgi ((a:Int) - b)=if b≤a then sgi (if false=true then -((a - b:Nat):Int) else (a - b:Nat)) else sgi (if true=true then -((b - a:Nat):Int) else (b - a:Nat)):=by
  split<;>congr 1<;>simp<;>omega
 obtain ⟨b',m',l',e⟩: ∃b' m' l',sgi ((a:Int) - b)=sg2 b' m' l':=⟨_,_,_,rfl⟩
 rw [e] at e0 ⊢
 by_cases h:b≤a
 ·have Z:=sized_spec false (a - b)
  rw [if_pos h] at L1 e0
  rw [←e0] at Z
  clear e0 L2 e
  unfold wide at *
  generalize (a - b)%18446744073709551616=l at *
  generalize (a - b) / 18446744073709551616=m at *
  simp -implicitDefEqProofs [c146]
  refine onC_mk _ L1 ?_
  simp -implicitDefEqProofs
  refine onC_mk _ Z ?_
  simp -implicitDefEqProofs
 ·have Z:=sized_spec true (b - a)
  rw [if_neg h] at L1 e0
  rw [if_pos (by omega)] at L2
  rw [←e0] at Z
  clear e0 e
  unfold wide at *
  generalize (b - a)%18446744073709551616=l at *
  generalize (b - a) / 18446744073709551616=m at *
  simp -implicitDefEqProofs [c146]
  refine onC_mk _ L1 ?_
  simp -implicitDefEqProofs
  refine onC_mk _ L2 ?_
  simp -implicitDefEqProofs
  refine onC_mk _ Z ?_
  simp -implicitDefEqProofs
theorem lmay_spec (t g n:Nat):Sp Tryz.prog gl 145 [u32 t,cnt g n] (i6 (mayN t g n)):=by
 refine s145 rfl rfl ?_
 simp -implicitDefEqProofs [c145]
 refine onC_mk _ (burnRight_spec t) ?_
 by_cases h:t≤1000000
 ·by_cases h2:n<g
  ·simp [h,h2,mayN,show ¬1000000<t by omega]
  ·simp [h,h2,mayN,show ¬1000000<t by omega]
 ·simp [h,mayN,show 1000000<t by omega]
theorem budget_spec (t g n:Nat) (ht:t≤1000000) (hg:g≤n) (hn:n<18446744073709551616):Sp Tryz.prog gl 147 [u32 t,cnt g n] (.tup [wide (n*(1000000 - t)),wide ((n - g)*1000000)]):=by
 refine s147 rfl rfl ?_
 have R:=rest_spec t ht
 have T1:=times_spec n (1000000 - t) hn (by omega)
 have T2:=times_spec (n - g) 1000000 (by omega) (by omega)
 have w1:IntKind.u64.wrap ((1000000 - t:Nat):Int)=(1000000 - t:Nat):=by rw [wrap_u64]<;>omega
 have w2:IntKind.u64.wrap ((n:Int) - g)=(n - g:Nat):=by rw [wrap_u64]<;>omega
 unfold wide at *
 generalize n*(1000000 - t)%18446744073709551616=l1 at *
 generalize n*(1000000 - t) / 18446744073709551616=m1 at *
 generalize (n - g)*1000000%18446744073709551616=l2 at *
 generalize (n - g)*1000000 / 18446744073709551616=m2 at *
 simp -implicitDefEqProofs [c147]
 refine onC_mk _ R ?_
 simp -implicitDefEqProofs
 rw [w1]
 refine onC_mk _ T1 ?_
 simp -implicitDefEqProofs
 rw [w2]
 refine onC_mk _ T2 ?_
 simp -implicitDefEqProofs
def leftZ (t g n:Nat):Int:=if mayN t g n=0 then ((n*(1000000 - t):Nat):Int) - ((n - g)*1000000:Nat) else 0
theorem left_spec (t g n:Nat) (ht:t<4294967296) (hn:n<18446744073709551616):Sp Tryz.prog gl 94 [u32 t,cnt g n] (.tup [sgi (leftZ t g n),i6 (mayN t g n)]):=by
 refine s94 rfl rfl ?_
 have M:=lmay_spec t g n
 by_cases h:mayN t g n=0
 ·have ht2:t≤1000000:=by unfold mayN at h;split at h<;>omega
  have hg:g≤n:=by unfold mayN at h;(repeat' split at h)<;>omega
  have B:=budget_spec t g n ht2 hg hn
  have k1:n*(1000000 - t)≤18446744073709551616*1000000:=Nat.mul_le_mul (by omega) (by omega)
  have k2:(n - g)*1000000≤18446744073709551616*1000000:=Nat.mul_le_mul (by omega) (by omega)
  have S:=between_spec (n*(1000000 - t)) ((n - g)*1000000) (by omega) (by omega)
  have e:leftZ t g n=((n*(1000000 - t):Nat):Int) - ((n - g)*1000000:Nat):=by unfold leftZ;rw [if_pos h]
  rw [←e] at S
  obtain ⟨b',m',l',e2⟩: ∃b' m' l',sgi (leftZ t g n)=sg2 b' m' l':=⟨_,_,_,rfl⟩
  rw [e2] at S ⊢
  rw [h] at M ⊢
  clear e e2 k1 k2
  unfold wide at *
  generalize n*(1000000 - t)%18446744073709551616=l1 at *
  generalize n*(1000000 - t) / 18446744073709551616=m1 at *
  generalize (n - g)*1000000%18446744073709551616=l2 at *
  generalize (n - g)*1000000 / 18446744073709551616=m2 at *
  simp -implicitDefEqProofs [c94]
  refine onC_mk _ M ?_
  simp -implicitDefEqProofs
  refine onC_mk _ B ?_
  simp -implicitDefEqProofs
  refine onC_mk _ S ?_
  simp -implicitDefEqProofs
 ·have e:leftZ t g n=0:=by unfold leftZ;rw [if_neg h]
  have e2:sgi 0=sg2 false 0 0:=rfl
  rw [e,e2]
  have b1:((mayN t g n:Int)!=0)=true:=by simp [h]
  simp -implicitDefEqProofs [c94]
  refine onC_mk _ M ?_
  simp -implicitDefEqProofs [b1]
open Go.Proofs
theorem to_spec (a b:List Bool) (ha:a.length≤1000) (hb:b.length≤1000) (h:((val a:Int) - val b).natAbs<340282366920938463463374607431768211456):
  Sp Tryz.prog gl 150 [.agg [bl a,bl b]] (.tup [sgi ((val a:Int) - val b),.bool true]):=by
 refine s150 rfl rfl ?_
 have C:=compare_spec a b (by omega) (by omega)
 have hcc:cmpN (val a) (val b)<0↔val a<val b:=by
  unfold cmpN;split
  ·omega
  ·split<;>omega
 obtain ⟨cc,hc⟩: ∃cc,cc=cmpN (val a) (val b):=⟨_,rfl⟩
 rw [←hc] at C hcc
 by_cases g:val a<val b
 ·have P:=pad_spec b a.length (by omega) (by omega)
  obtain ⟨p,hp⟩: ∃p,p=bitsOf (val b) (max b.length a.length):=⟨_,rfl⟩
  have pl:p.length≤1000:=by rw [hp,bitsOf_len];omega
  have pv:val p=val b:=by rw [hp,bitsOf_val,Nat.mod_eq_of_lt (Nat.lt_of_lt_of_le (val_lt b) (Nat.pow_le_pow_right (by omega) (by omega)))]
  rw [←hp] at P
  have M:=minus_le p a (by omega) (by omega) (by omega)
  rw [pv] at M
  obtain ⟨q,hq⟩: ∃q,q=bitsOf (val b - val a) p.length:=⟨_,rfl⟩
  have ql:q.length≤1000:=by rw [hq,bitsOf_len];omega
  have qv:val q=val b - val a:=by rw [hq,bitsOf_val,Nat.mod_eq_of_lt];have:=val_lt p;omega
  rw [←hq] at M
  have O:=of_spec q (by omega)
  rw [qv,if_pos (by omega)] at O
  have e:sgi ((val a:Int) - val b)=sgn true (val b - val a):=by
   unfold sgi;rw [decide_eq_true (by omega),show ((val a:Int) - val b).natAbs=val b - val a by omega]
  rw [e]
  have gc:=hcc.2 g
  unfold sgn wide at *
  generalize (val b - val a) / 18446744073709551616=d1 at *
  generalize (val b - val a)%18446744073709551616=d2 at *
  clear e hq hp hc hcc pv qv h
  simp -implicitDefEqProofs [c150,bl]
  refine onC_mk _ C ?_
  simp -implicitDefEqProofs [gc]
  refine onC_mk _ P ?_
  simp -implicitDefEqProofs [bl]
  refine onC_mk _ M ?_
  simp -implicitDefEqProofs [bl]
  refine onC_mk _ O ?_
  simp -implicitDefEqProofs [gc]
 ·have P:=pad_spec a b.length (by omega) (by omega)
  obtain ⟨p,hp⟩: ∃p,p=bitsOf (val a) (max a.length b.length):=⟨_,rfl⟩
  have pl:p.length≤1000:=by rw [hp,bitsOf_len];omega
  have pv:val p=val a:=by rw [hp,bitsOf_val,Nat.mod_eq_of_lt (Nat.lt_of_lt_of_le (val_lt a) (Nat.pow_le_pow_right (by omega) (by omega)))]
  rw [←hp] at P
  have M:=minus_le p b (by omega) (by omega) (by omega)
  rw [pv] at M
  obtain ⟨q,hq⟩: ∃q,q=bitsOf (val a - val b) p.length:=⟨_,rfl⟩
  have ql:q.length≤1000:=by rw [hq,bitsOf_len];omega
  have qv:val q=val a - val b:=by rw [hq,bitsOf_val,Nat.mod_eq_of_lt];have:=val_lt p;omega
  rw [←hq] at M
  have O:=of_spec q (by omega)
  rw [qv,if_pos (by omega)] at O
  have e:sgi ((val a:Int) - val b)=sgn false (val a - val b):=by
   unfold sgi;rw [decide_eq_false (by omega),show ((val a:Int) - val b).natAbs=val a - val b by omega]
  rw [e]
  have gc: ¬cc<0:=fun h=>g (hcc.1 h)
  unfold sgn wide at *
  generalize (val a - val b) / 18446744073709551616=d1 at *
  generalize (val a - val b)%18446744073709551616=d2 at *
  clear e hq hp hc hcc pv qv h
  simp -implicitDefEqProofs [c150,bl]
  refine onC_mk _ C ?_
  simp -implicitDefEqProofs [gc]
  refine onC_mk _ P ?_
  simp -implicitDefEqProofs [bl]
  refine onC_mk _ M ?_
  simp -implicitDefEqProofs [bl]
  refine onC_mk _ O ?_
  simp -implicitDefEqProofs [gc]
end Go.Ai
